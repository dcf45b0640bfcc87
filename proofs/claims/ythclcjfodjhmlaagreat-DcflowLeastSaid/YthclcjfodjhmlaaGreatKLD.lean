/- Part. -/
import Derived.Test.YthclcjfodjhmlaaGreatKLC
set_option linter.all false
namespace Go.Vc
open Go Go.RowKit Go.Gw
open Go.IntKind (i64 u64 u32)
section
variable {za:Zn} {w0 w:World} {Z:Nat->Prop} {B:Nat->Value} {st st0 st2:St} {E:H0}
def C2.setSame (h:C2 za w0 st E w Z B) (s:Nat) {x:DV} (hx:RD w Z B E x (E s)) (hr:KX st.nx x):C2 za w0 (st.setS s x) E w Z B:=by
 have e:upd E s (E s)=E:=by
  funext t;by_cases u:t=s
  . subst u;exact C5 _ _ _
  . exact C6 _ _ _ _ u
 have:=h.setS s (x:=x) (v:=E s) (by rw[e];exact hx) hr;rwa[e]at this
def B9w {A:GE} (u:C2 za w0 st2 E w Z B) (pk:B5s za.n st0) (hS:∀s∈A.keepS,st2.eS s=st0.eS s) (hL:∀k∈A.keepL,st2.eL k=st0.eL k) (hF:st2.fr=st0.fr):Mb za w0 st2 E w Z B A.keepL (kept A st0) B:=by
 have eS:∀s,(kept A st0).S s=if s∈A.keepS then st2.S s else .dead:=fun s=>by
  show((kept A st0).eS s).2= _;rw[iN];split
  . rename_i hs;rw[<-hS s hs];rfl
  . rfl
 have eL:∀k,(kept A st0).L k=if k∈A.keepL then st2.L k else .none:=fun k=>by
  show((kept A st0).eL k).2= _;rw[iM];split
  . rename_i hs;rw[<-hL k hs];rfl
  . rfl
 have a1:∀s,(kept A st0).S s=if s∈A.keepS then st0.S s else .dead:=fun s=>by
  show((kept A st0).eS s).2= _;rw[iN];split<;>rfl
 have a0:∀k,(kept A st0).L k=if k∈A.keepL then st0.L k else .none:=fun s=>by
  show((kept A st0).eL s).2= _;rw[iM];split<;>rfl
 have lv:∀k b,A9 w (B k) ((kept A st0).L k) b->k∈A.keepL/\A9 w (B k) (st2.L k) b:=fun k b hk=>by
  rw[eL]at hk;split at hk
  . rename_i hm;exact⟨hm,hk⟩
  . exact hk.elim
 refine⟨⟨u.ext,u.zlt,fun s=> ?_,fun k=> ?_,fun k k' b a2 l1 l2=>u.disj k k' b a2 (lv k b l1).2 (lv k' b l2).2,fun s=> ?_,fun k=> ?_,fun k hk=> ?_,u.bone,u.zin,⟨pk.nms.1,rA pk.nms.2 (Pf _ _)⟩,u.bfix,⟨u.mrk.1,fun k b hk hl=>u.mrk.2 k b hk (lv k b hl).2⟩,(by have:=u.frs;rw[hF]at this;exact this),pk.frf.le (Pf _ _)⟩,fun j b hj=>⟨j,(lv j b hj).1,(lv j b hj).2⟩⟩
 . rw[eS];split
   . exact u.slots s
   . trivial
 . rw[eL];split
   . exact u.locs k
   . trivial
 . rw[a1];split
   . exact(pk.refs s).le (Pf _ _)
   . trivial
 . rw[a0];split
   . exact(pk.refl k).le (Pf _ _)
   . trivial
 . rw[a0];split
   . exact pk.fresh k (rA (Pf _ _) hk)
   . rfl
def OR (h2:C2 za w0 st2 E w Z B) {t:Ty} {e:TypeId} {c:C} {l:List t.den} {v:Value} (hc:RC w Z B c v) (u:OQ st2 t e c=some l):
 ∃xs,w.ownsRow w0.heap.size e t.size v l.length xs/\G5 (C7 t w Z) xs l/\(∀b,v.ownBlock=some b->¬Z b)/\((∃q,c= .row q/\live (st2.L q)/\v=B q)\/(root v=none/\∀q,c≠ .row q)):=by
 unfold OQ at u;split at u
 . rename_i q;split at u
   . rename_i t' e' l' hq;split at u
     . rename_i a1;subst a1;obtain⟨he,u⟩:=E2 u;cases u;simp only[qC]at he;have a3:=qT he.2;have a0:=qE he.1;subst a0;have hL:=h2.locs q;rw[hq]at hL;obtain⟨xs,h1,h3,h4⟩:=hL;have hv:v=B q:=hc;subst hv;have a2:∀b,(B q).ownBlock=some b->w0.heap.size<=b:=fun b hb=>by
        rcases(h4 b hb).1 with g|g
        . exact g.2
        . have:=h2.nms.1;omega
       exact⟨xs,A2p h1 a2,h3,fun b hb=>(h4 b hb).2, .inl ⟨q,rfl,by rw[hq];trivial,rfl⟩⟩
     . cases u
   . cases u
 . obtain⟨hn,u⟩:=E2 u;cases u;have hv:v= .slice none 0 0:=by rw[hc.1];exact Un hn
   subst hv;exact⟨[],World.ownsRow_nil _ _ _ _,rfl,fun b hb=>(by cases hb), .inr ⟨rfl,fun q hq=>(by cases hq)⟩⟩
 . cases u
def B7h {t:Ty} {v:Value} {x:t.den} (h:C7 t w Z [v] x):RC w Z B (C1a t x) v:=by
 cases t with
 |ptr t=>
  obtain⟨b,o,u,e,r⟩:=h;simp only[sM,vK]at e;exact⟨b,o,u,by rw[e];rfl,r⟩
 | _=>exact h
def B3p {n:Nat} {t:Ty} {x:t.den} :Di n (C1a t x):=by cases t<;>trivial
def AD (a5:za.b0=0) (h2:C2 za w0 st2 E w Z B):∀ {shs:List Wd} {T:Type} {tl:T} {cs:List C} {vs:List Value} {p:shD shs T} {st:St} {BX:Nat->Value} {used:List Nat},Mb za w0 st2 E w Z B used st BX->Ee w Z B cs vs->Dh st2 shs tl cs=some p->(∀q∈Af shs cs,q∉used)->(Af shs cs).Nodup->(∀c∈shs,∀k,c.pin=some k->k<st.nx/\BX k=B k)->
 ∃BX',Mb za w0 st2 E w Z B (Af shs cs++used) (placeSh shs p st).2.1 BX'/\Ee w Z BX' (placeSh shs p st).1 vs/\(∀c∈(placeSh shs p st).1,Di (placeSh shs p st).2.1.nx c)/\(∀k,k<st.nx->BX' k=BX k)/\st.nx<=(placeSh shs p st).2.1.nx/\(placeSh shs p st).2.2=tl
 | [],_,tl,[],vs,p,st,BX,used,c,hv,hp,_,_,_=>by
  simp only[Dh,rE]at hp;exact⟨BX,c,hv,by simp[placeSh],fun _ _=>rfl,rC _,hp.symm⟩
 | [],_,_,_:: _,_,_,_,_,_,_,_,hp,_,_,_=>by cases hp
 | .val t::r,_,_,[],_,_,_,_,_,_,_,hp,_,_,_=>by cases hp
 | .own t e::r,_,_,[],_,_,_,_,_,_,_,hp,_,_,_=>by cases hp
 | .fix k::r,_,_,[],_,_,_,_,_,_,_,hp,_,_,_=>by cases hp
 | .fixB k::r,_,_,[],_,_,_,_,_,_,_,hp,_,_,_=>by cases hp
 | .fix k::r,T,tl,c0::cs,vs,p,st,BX,used,c,⟨v,a4,e,a2,a3⟩,hp,hu,hn,hf=>by
  simp only[Dh]at hp;obtain⟨hk,hp⟩:=E2 hp;have a0:Af (.fix k::r) (c0::cs)=Af r cs:=by cases c0<;>rfl
  rw[a0]at hu hn⊢;obtain⟨BX',g1,g2,g3,g4,g5,g6⟩:=AD a5 h2 c a3 hp hu hn (fun j hj=>hf j (qL _ hj));subst e;have a1:=hf _ rF k rfl;cases c0 with
  |row j=>
   have:=qE hk;subst this;refine⟨BX',g1,⟨v,a4,rfl, ?_,g2⟩,fun q hq=> ?_,g4,g5,g6⟩
   . show v=BX' j;rw[g4 j a1.1,a1.2];exact a2
   . rcases qR.1 hq with rfl|hq
     . exact rK a1.1 g5
     . exact g3 q hq
  | _=>cases hk
 | .fixB k::r,T,tl,c0::cs,vs,p,st,BX,used,c,⟨v,a4,e,a2,a3⟩,hp,hu,hn,hf=>by
  simp only[Dh]at hp;obtain⟨hk,hp⟩:=E2 hp;have a0:Af (.fixB k::r) (c0::cs)=Af r cs:=by cases c0<;>rfl
  rw[a0]at hu hn⊢;obtain⟨BX',g1,g2,g3,g4,g5,g6⟩:=AD a5 h2 c a3 hp hu hn (fun j hj=>hf j (qL _ hj));subst e;have a1:=hf _ rF k rfl;cases c0 with
  |box j o=>
   cases o with
   |succ o=>cases hk
   |zero=>
   have:=qE hk;subst this;refine⟨BX',g1,⟨v,a4,rfl, ?_,g2⟩,fun q hq=> ?_,g4,g5,g6⟩
   . obtain⟨b,hb,hv⟩:=a2;exact⟨b,by rw[g4 j a1.1,a1.2];exact hb,hv⟩
   . rcases qR.1 hq with rfl|hq
     . exact rK a1.1 g5
     . exact g3 q hq
  | _=>cases hk
 | .val t::r,T,tl,c0::cs,vs,p,st,BX,used,c,⟨v,a4,e,a2,a3⟩,hp,hu,hn,hf=>by
  simp only[Dh,bind_some,qN]at hp;obtain⟨y,hy,z,hz,rfl⟩:=hp;have a0:Af (.val t::r) (c0::cs)=Af r cs:=by cases c0<;>rfl
  rw[a0]at hu hn⊢;obtain⟨BX',g1,g2,g3,g4,g5,g6⟩:=AD a5 h2 c a3 hz hu hn (fun j hj=>hf j (qL _ hj));subst e;refine⟨BX',g1,⟨v,a4,rfl,B7h (gB a2 hy),g2⟩,fun q hq=> ?_,g4,g5,g6⟩;rcases qR.1 hq with rfl|hq
  . exact B3p
  . exact g3 q hq
 | .own t e0::r,T,tl,c0::cs,vs,p,st,BX,used,c,⟨v,a4,e,a2,a3⟩,hp,hu,hn,hf=>by
  simp only[Dh,bind_some,qN]at hp;obtain⟨l,hl,z,hz,rfl⟩:=hp;subst e;obtain⟨xs,o1,o2,o3,o4⟩:=OR h2 a2 hl;have ad:v.oneCell'=true:=by rcases o1.2 with⟨hv,_⟩ | ⟨_,_,_,hv,_⟩<;>rw[hv]<;>rfl
  have ai:=F6 o1;have key:∃u,Mb za w0 st2 E w Z B u (st.newL (.row t e0 l)) (upd BX st.nx v)/\(∀q∈Af r cs,q∉u)/\(Af r cs).Nodup/\(∀q,q∈Af (.own t e0::r) (c0::cs)++used↔q∈Af r cs++u):=by
   have mk:∀u,(∀q∈used,q∈u)->(∀b,root v=some b->∃q,q∈u/\A9 w (B q) (st2.L q) b)->(∀k b,root v=some b->¬A9 w (BX k) (st.L k) b)->Mb za w0 st2 E w Z B u (st.newL (.row t e0 l)) (upd BX st.nx v):=by
    intro u ac hq hd;refine⟨c.rel.new (v:=v) (lc:= .row t e0 l) ⟨xs,by rw[C5];exact AB o1 (rP _),o2,fun b hb=>by rw[C5]at hb;exact⟨.inl ⟨c.rel.nms.2,(World.ownsRow.lt o1 b hb).1⟩,o3 b hb⟩⟩ hd trivial ad (fun b _ _=>by rw[a5];exact rP _),fun j b hj=> ?_⟩;rw[St.L_newL]at hj;by_cases a7:j=st.nx
    . subst a7;rw[C5,qY rfl]at hj;exact hq b hj
    . rw[qO a7,C6 _ _ _ _ a7]at hj;obtain⟨q,h1,h3⟩:=c.own j b hj;exact⟨q,ac q h1,h3⟩
   rcases o4 with⟨q,rfl,aa,ae⟩ | ⟨ab,ag⟩
   . have a0:Af (.own t e0::r) (.row q::cs)=q::Af r cs:=rfl;rw[a0]at hu hn⊢;have a6:=sC.1 hn;refine⟨q::used,mk _ (fun x hx=>qL _ hx) (fun b hb=>⟨q,by simp,A9.of aa (by rw[<-ae];exact hb)⟩) (fun k b hb=> ?_),fun x hx=> ?_,a6.2,fun x=>by grind⟩
     . rw[ae]at hb;exact c.disj h2 (hu q (by simp)) k b (A9.of aa hb)
     . intro a8;rcases qR.1 a8 with rfl|a8
       . exact a6.1 hx
       . exact hu x (qL _ hx) a8
   . have a0:Af (.own t e0::r) (c0::cs)=Af r cs:=by cases c0<;>first|rfl|exact absurd rfl (ag _)
     rw[a0]at hu hn⊢;exact⟨used,mk _ (fun x hx=>hx) (fun b hb=>by rw[ab]at hb;cases hb) (fun k b hb=>by rw[ab]at hb;cases hb),hu,hn,fun x=>yH⟩
  obtain⟨u,c',ah,a6,a9⟩:=key;obtain⟨BX',g1,g2,g3,g4,g5,g6⟩:=AD a5 h2 c' a3 hz ah a6 (fun j hj k hk=>by
   obtain⟨a,b⟩:=hf j (qL _ hj) k hk;exact⟨vM a,(C6 _ _ _ _ (uH a)).trans b⟩)
  have af:BX' st.nx=v:=by rw[g4 st.nx (rX _),C5]
  refine⟨BX',⟨g1.rel,fun j b hj=> ?_⟩,⟨v,a4,rfl,af.symm,g2⟩,fun q hq=> ?_,fun k hk=> ?_,rA (uT _) g5,g6⟩
  . obtain⟨q,h1,h3⟩:=g1.own j b hj;exact⟨q,(a9 q).2 h1,h3⟩
  . rcases qR.1 hq with rfl|hq
    . exact rK (rX _) g5
    . exact g3 q hq
  . rw[g4 k (vM hk),C6 _ _ _ _ (uH hk)]
end
section
variable {za:Zn} {w0 w:World} {Z:Nat->Prop} {B:Nat->Value} {st st0 st2:St} {E:H0}
def TY (E:H0):List (Nat×Bool×List Wd)->List Value->List Value->Prop
 | [],vs,u=>vs=u
 | (s,agg,shs)::l,vs,u=>∃v1 v2,vs=v1++v2/\v1.length=shs.length/\(agg=true->E s= .agg v1.toArray)/\(agg=false->v1= [E s])/\TY E l v2 u
def fS (za:Zn) (w0:World) (w:World) (Z:Nat->Prop) (B:Nat->Value) (st2:St):List (Nat×TypeId×List Wd)->List Value->Prop
 | [],vs=>vs= []
 | (k,T,shs)::l,vs=>∃v1 v2,vs=v1++v2/\v1.length=shs.length/\live (st2.L k)/\(∃b,B k= .pointer (some ⟨b,0,none⟩)/\up za w0 k b/\¬Z b/\MO w b v1.toArray T)/\fS za w0 w Z B st2 l v2
def cQ (h2:C2 za w0 st2 E w Z B):∀ {l:List (Nat×Bool×List Wd)} {r cs:List C} {vr:List Value},Ee w Z B r vr->gM st2 l r=some cs->∃vs,Ee w Z B cs vs/\TY E l vs vr
 | [],r,cs,vr,hr,h=>by cases h;exact⟨vr,hr,rfl⟩
 | (s,agg,shs)::l,r,cs,vr,hr,h=>by
  simp only[gM]at h;split at h
  . rename_i a a1 hs;obtain⟨hb,h⟩:=E2 h;simp only[qN]at h;obtain⟨a2,h3,rfl⟩:=h;simp only[qC,g1k]at hb;obtain⟨ha,hb⟩:=hb;subst ha;have a0:=qE hb;obtain⟨v2,h4,h5⟩:=cQ h2 hr h3;have u:=h2.slots s;rw[hs]at u;cases a with
    |true=>
     obtain⟨v1,e,u⟩:=u;exact⟨v1++v2,u.append h4,v1,v2,rfl,by rw[<-a0,u.len],fun _=>e,fun hh=>(by cases hh),h5⟩
    |false=>
     have u:Ee w Z B a1 [E s]:=u;exact⟨[E s]++v2,u.append h4,[E s],v2,rfl,by rw[<-a0,u.len],fun hh=>(by cases hh),fun _=>rfl,h5⟩
  . cases h
def cP (h2:C2 za w0 st2 E w Z B):∀ {l:List (Nat×TypeId×List Wd)} {cs:List C},gL st2 l=some cs->∃vs,Ee w Z B cs vs/\fS za w0 w Z B st2 l vs
 | [],cs,h=>by cases h;exact⟨[],rfl,rfl⟩
 | (k,T,shs)::l,cs,h=>by
  simp only[gL]at h;split at h
  . rename_i T' a0 hk;obtain⟨hb,h⟩:=E2 h;simp only[qN]at h;obtain⟨a1,h3,rfl⟩:=h;simp only[qC]at hb;have hT:=qE hb.1;subst hT;have u:=qE hb.2;obtain⟨v2,h4,h5⟩:=cP h2 h3;have hL:=h2.locs k;rw[hk]at hL;obtain⟨b,vs,e,h6,h7,h8,h9⟩:=hL;exact⟨vs.toList++v2,h9.append h4,vs.toList,v2,rfl,by rw[<-u,h9.len],by rw[hk];trivial,⟨b,e,h6,h7,by simpa using h8⟩,h5⟩
  . cases h
def eG {k:Nat} {t:Ty} {e e':TypeId} {x:List t.den×List Nat} (hl:A2c st2 t e e' k=some x):st2.L k= .nest t e e' x.1 [] x.2:=by
 unfold A2c at hl;split at hl
 . rename_i t' d d' ls dd u;split at hl
   . rename_i hh;subst hh;obtain⟨hb,hl⟩:=E2 hl;cases hl;simp only[qC]at hb;rw[u,qE hb.1,qE hb.2]
   . cases hl
 . cases hl
def WJ {k q:Nat} {ka va:Bool} {kt vt:Ty} {x:(LT.itM ka kt va vt q).den} (hl:A1v st2 k (.itM ka kt va vt q)=some x):∃cur,st2.L k= .itM ka kt va vt x.1 x.2 cur q/\q<k:=by
 simp only[A1v]at hl;split at hl
 . rename_i a0 a1 a2 a3 es left cur q' u;obtain⟨hb,hl⟩:=E2 hl;simp only[qC]at hb;split at hl
   . rename_i hh;cases hh;cases hl;have:=qE hb.1;subst this;exact⟨cur,u,qT hb.2⟩
   . cases hl
 . cases hl
def dS {k q:Nat} {t:LT} {x:t.den} (hl:A1v st2 k t=some x) (u:t.need=some q):q<k:=by
 cases t with
 |itM ka kt va vt q'=>cases u;exact(WJ hl).choose_spec.2
 | _=>cases u
def KC (h2:C2 za w0 st2 E w Z B) {k:Nat} {t:LT} {x:t.den} (hl:A1v st2 k t=some x):live (st2.L k)/\RL (up za w0 k) w Z B k (t.lc x)/\t.wf x:=by
 cases t with
 |row t e=>
  have hk:=Ms hl;have u:=h2.locs k;rw[hk]at u;refine⟨by rw[hk];trivial,u, ?_⟩;obtain⟨xs,o1,o2,_⟩:=u;exact C7.wf (Cq (Z:=fun _=>True) o1 (o2.mono fun _ _=>C7.mono (fun _ _=>trivial) (fun _ _=>rfl)) (fun _ _=>trivial))
 |map ka kt va vt=>
  have hk:=TL hl;have u:=h2.locs k;rw[hk]at u;refine⟨by rw[hk];trivial,u, ?_⟩;obtain⟨b,ents,cl,e,_,_,hb,hm,he⟩:=u;exact C7.wf (iX (Z:=fun _=>True) hb hm (he.mono (fun _ _=>trivial) (fun _ _=>rfl)) trivial)
 |rows t e e'=>
  obtain⟨al,hk⟩:=Jh hl;have u:=h2.locs k;have hR:=u;rw[hk]at hR;have hR:=hR.rowsR;refine⟨by rw[hk];trivial,hR.rl fun b hb=> ?_,hR.wf⟩;have a0:A9 w (B k) (st2.L k) b:=by rw[hk];exact(Ad fun _ _=>rfl).1 hb
  obtain⟨a1,a2,a3⟩:=u.root a0;exact⟨a1,a3,a2⟩
 |iter ka kt va vt=>
  simp only[A1v]at hl;cases hk:st2.L k with
  |iter a4 a5 a6 a7 es cur=>
   rw[hk]at hl;simp only at hl;split at hl
   . rename_i hh;cases hh;cases hl;have u:=h2.locs k;rw[hk]at u;obtain⟨r,e,h1,h3,h4⟩:=u;refine⟨trivial,⟨r,e,h1,h3,h4.imp (fun h=>⟨h.1,h.2.1,rfl⟩) fun⟨m,seen,ents,cl,i1,i2,i3,i4,i5,i6⟩=>⟨m,seen,ents,cl,i1,i2,i3,i4,i5,fun x hx=>by cases hx⟩⟩, ?_⟩;rcases h4 with⟨_,h,_⟩ | ⟨m,seen,ents,cl,i1,i2,i3,i4,i5,i6⟩
     . rw[h];intro x hx;cases hx
     . intro x hx;obtain⟨m,_,g1,g2⟩:=S4.mem i5 hx;exact⟨T7.wf' (fun _ _=>C7.wf) g1,T7.wf' (fun _ _=>C7.wf) g2⟩
   . cases hl
  | _=>rw[hk]at hl;cases hl
 |nest t e e'=>
  have hk:=eG hl;have u:=h2.locs k;rw[hk]at u;refine⟨by rw[hk];trivial,u, ?_⟩;obtain⟨xs,hN,_⟩:=u;rcases hN.own.2 with⟨_,hn⟩ | ⟨_,_,_,_,_,_,h3,h4,_⟩
  . show x.1.length<= _;omega
  . show x.1.length<= _;simp only[maxLen]at h4;omega
 |itM ka kt va vt q=>
  obtain⟨cur,hk,_⟩:=WJ hl;have u:=h2.locs k;rw[hk]at u;obtain⟨r,m,seen,ents,cl,e1,e2,hi,h1,h3,h4,h5⟩:=u;refine⟨by rw[hk];trivial,⟨r,m,seen,ents,cl,e1,e2,⟨hi.it,hi.mp,hi.ok,hi.all,hi.rest,fun x hx=>(by cases hx)⟩,h1,h3,h4,h5⟩,fun y hy=> ?_⟩;obtain⟨m,_,g1,g2⟩:=S4.mem hi.rest hy;exact⟨T7.wf' (fun _ _=>C7.wf) g1,T7.wf' (fun _ _=>C7.wf) g2⟩
def RL.setB {U:Nat->Prop} {B':Nat->Value} {k:Nat} {t:LT} {x:t.den} (h:RL U w Z B k (t.lc x)) (e:B' k=B k) (en:∀q,t.need=some q->B' q=B q):RL U w Z B' k (t.lc x):=by
 cases t with
 |nest t e0 e1=>
  obtain⟨xs,u,h6⟩:=h;exact⟨xs,⟨by rw[e];exact u.own,fun p hp=>(by cases hp),u.elt,u.dis,by rw[e];exact u.top⟩,by rw[e];exact h6⟩
 |itM ka kt va vt q=>
  obtain⟨r,m,seen,ents,cl,e1,e2,hr⟩:=h;exact⟨r,m,seen,ents,cl,e.trans e1,(en q rfl).trans e2,hr⟩
 |row t e0=>obtain⟨xs,a,b,c⟩:=h;exact⟨xs,by rw[e];exact a,b,by rw[e];exact c⟩
 |map ka kt va vt=>obtain⟨b,ents,cl,a,r⟩:=h;exact⟨b,ents,cl,e.trans a,r⟩
 |iter ka kt va vt=>obtain⟨r,a,b⟩:=h;exact⟨r,e.trans a,b⟩
 |rows t e0 e1=>
  obtain⟨xs,h1,⟨h2,h3,h4⟩,h5,h6⟩:=h;exact⟨xs,by rw[e];exact h1,⟨fun p hp=>(by cases hp),h3,h4⟩,by rw[e];exact h5,by rw[e];exact h6⟩
def B6v (u:C2 za w0 st2 E w Z B) {k b:Nat} {t:LT} {x:t.den} (hl:A1v st2 k t=some x) (h:A9 w (B k) (t.lc x) b):A9 w (B k) (st2.L k) b:=by
 cases t with
 |row t e=>exact A9.of (KC u hl).1 h
 |map ka kt va vt=>exact A9.of (KC u hl).1 h
 |iter ka kt va vt=>exact A9.of (KC u hl).1 h
 |rows t e e'=>
  obtain⟨al,hk⟩:=Jh hl;rw[hk];exact(Ad fun _ _=>rfl).1 h
 |nest t e e'=>rw[eG hl];exact h
 |itM ka kt va vt q=>obtain⟨cur,hk,_⟩:=WJ hl;rw[hk];exact h
def XZ (h2:C2 za w0 st2 E w Z B) {BX:Nat->Value} {n0:Nat} (hB:∀k,k<n0->BX k=B k):∀ {l:List (Nat×LT)} {x:oU l} {st:St} {used:List Nat},Mb za w0 st2 E w Z B used st BX->n0<=st.nx->A8l st2 l=some x->(∀y∈l,y.1<n0)->(∀y∈l,y.1∉used)->(l.map fun y=>y.1).Nodup->
 Mb za w0 st2 E w Z B ((l.map fun y=>y.1)++used) (putRows l x st) BX/\(putRows l x st).nx=st.nx
 | [],_,st,used,c,_,_,_,_,_=>⟨c,rfl⟩
 | (k,t)::r,x,st,used,c,hn,hp,a6,hu,a2=>by
  simp only[A8l,bind_some,qN]at hp;obtain⟨l,hl,z,hz,rfl⟩:=hp;have a0:=a6 (k,t) (by simp);have a5:=hu (k,t) (by simp);simp only at a0 a5;obtain⟨a8,a7,_⟩:=KC h2 hl;have a3:BX k=B k:=hB k a0;simp only[rU,sC]at a2;have a1:∀b,A9 w (BX k) (t.lc l) b->A9 w (B k) (st2.L k) b:=fun b hb=>B6v h2 hl (by rw[<-a3];exact hb)
  have c1:Mb za w0 st2 E w Z B (k::used) (st.setL k (t.lc l)) BX:=by
   refine⟨c.rel.addL (by omega) (a7.setB a3 fun q hq=>hB q (Nat.lt_trans (dS hl hq) a0)) (fun j b _ hb u=> ?_) (by cases t<;>first|trivial|exact fun p hp=>(by cases hp) |exact rK (Nat.lt_trans (dS hl rfl) a0) hn) (fun b hk hb=>h2.mrk.2 k b hk (a1 b hb)),fun j b u=> ?_⟩
   . exact c.disj h2 a5 j b (a1 b hb) u
   . rw[St.L_setL]at u;by_cases a4:j=k
     . subst a4;rw[qY rfl]at u;exact⟨j,by simp,a1 b u⟩
     . rw[qO a4]at u;obtain⟨q,h1,h3⟩:=c.own j b u;exact⟨q,qL _ h1,h3⟩
  obtain⟨c2,a9⟩:=XZ h2 hB c1 hn hz (fun y hy=>a6 y (qL _ hy)) (fun y hy=>by
   intro hh;rcases qR.1 hh with hh|hh
   . exact a2.1 (hh▸uK hy)
   . exact hu y (qL _ hy) hh) a2.2
  refine⟨⟨c2.rel,fun j b u=> ?_⟩,a9⟩;obtain⟨q,h1,h3⟩:=c2.own j b u;refine⟨q, ?_,h3⟩;simp only[rU];grind
def A5m {BX:Nat->Value} :∀ {l:List (Nat×Bool×List Wd)} {cs:List C} {vs vr:List Value} {st:St} {used:List Nat},Mb za w0 st2 E w Z B used st BX->Ee w Z BX cs vs->TY E l vs vr->(∀c∈cs,Di st.nx c)->
 Mb za w0 st2 E w Z B used (putS l cs st).2 BX/\Ee w Z BX (putS l cs st).1 vr/\(∀c∈(putS l cs st).1,Di st.nx c)/\(putS l cs st).2.nx=st.nx
 | [],cs,vs,vr,st,used,c,u,hv,hf=>by rw[show vs=vr from hv]at u;exact⟨c,u,hf,rfl⟩
 | (s,agg,shs)::l,cs,vs,vr,st,used,c,u,⟨v1,v2,e,hl,ha,a1,hv⟩,hf=>by
  subst e;have h1:=u.take shs.length;have h2:=u.drop shs.length;rw[<-hl,g3g]at h1;rw[<-hl,g3e]at h2;rw[hl]at h1 h2;have a0:RS w Z BX ⟨agg,cs.take shs.length⟩ (E s):=by
   cases agg with
   |true=>exact⟨v1,ha rfl,h1⟩
   |false=>rw[a1 rfl]at h1;exact h1
  have c1:Mb za w0 st2 E w Z B used (st.setS s (.one ⟨agg,cs.take shs.length⟩)) BX:=⟨c.rel.setSame s a0 (fun x hx=>hf x (rV hx)),c.own⟩;have:=A5m (l:=l) (cs:=cs.drop shs.length) c1 h2 hv (fun x hx=>hf x (vE hx));exact this
def A5l (h2:C2 za w0 st2 E w Z B) {BX:Nat->Value} {n0:Nat} (hB:∀k,k<n0->BX k=B k):∀ {l:List (Nat×TypeId×List Wd)} {cs:List C} {vs:List Value} {st:St} {used:List Nat},Mb za w0 st2 E w Z B used st BX->n0<=st.nx->Ee w Z BX cs vs->fS za w0 w Z B st2 l vs->(∀c∈cs,Di st.nx c)->(∀y∈l,y.1<n0)->(∀y∈l,y.1∉used)->(l.map fun y=>y.1).Nodup->
 C2 za w0 (putB l cs st) E w Z BX
 | [],_,_,st,used,c,_,_,_,_,_,_,_=>c.rel
 | (k,T,shs)::l,cs,vs,st,used,c,hn,hr,⟨v1,v2,e,hl,a9,⟨b,a7,a8,aa,a2⟩,hv⟩,hf,a6,hu,a0=>by
  subst e;have h1:=hr.take shs.length;have h3:=hr.drop shs.length;rw[<-hl,g3g]at h1;rw[<-hl,g3e]at h3;rw[hl]at h1 h3;have a4:=a6 (k,T,shs) (by simp);have a5:=hu (k,T,shs) (by simp);simp only at a4 a5;have a1:BX k=B k:=hB k a4;simp only[rU,sC]at a0;have u:∀q,A9 w (BX k) (.box T (cs.take shs.length)) q->A9 w (B k) (st2.L k) q:=fun q hq=>A9.of a9 (by rw[<-a1];exact hq)
  have c1:Mb za w0 st2 E w Z B (k::used) (st.setL k (.box T (cs.take shs.length))) BX:=by
   refine⟨c.rel.addL (by omega) ⟨b,v1.toArray,a1.trans a7,a8,aa,a2,by simpa using h1⟩ (fun j q _ hq hj=> ?_) (fun x hx=>hf x (rV hx)) (fun q hk hb=>h2.mrk.2 k q hk (u q hb)),fun j q hj=> ?_⟩
   . exact c.disj h2 a5 j q (u q hq) hj
   . rw[St.L_setL]at hj;by_cases a3:j=k
     . subst a3;rw[qY rfl]at hj;exact⟨j,by simp,u q hj⟩
     . rw[qO a3]at hj;obtain⟨q',h1,h3⟩:=c.own j q hj;exact⟨q',qL _ h1,h3⟩
  have:=A5l (l:=l) (cs:=cs.drop shs.length) h2 hB c1 hn h3 hv (fun x hx=>hf x (vE hx)) (fun y hy=>a6 y (qL _ hy)) (fun y hy=>by
   intro hh;rcases qR.1 hh with hh|hh
   . exact a0.1 (hh▸uK hy)
   . exact hu y (qL _ hy) hh) a0.2
  exact this
def Se (h2:C2 za w0 st2 E w Z B):∀ {shs:List Wd} {T:Type} {tl:T} {q:T->Prop} {cs:List C} {vs:List Value} {p:shD shs T},q tl->Ee w Z B cs vs->Dh st2 shs tl cs=some p->shW shs q p
 | [],_,tl,q,[],vs,p,hq,_,u=>by simp only[Dh,rE]at u;subst u;exact hq
 | [],_,_,_,_:: _,_,_,_,_,u=>by cases u
 | .val t::r,_,_,_,[],_,_,_,_,u=>by cases u
 | .own t e::r,_,_,_,[],_,_,_,_,u=>by cases u
 | .fix k::r,_,_,_,[],_,_,_,_,u=>by cases u
 | .fixB k::r,_,_,_,[],_,_,_,_,u=>by cases u
 | .fixB k::r,_,tl,q,c::cs,vs,p,hq,⟨v,a0,_,h1,h3⟩,u=>by
  simp only[Dh]at u;exact Se (shs:=r) h2 hq h3 (E2 u).2
 | .fix k::r,_,tl,q,c::cs,vs,p,hq,⟨v,a0,_,h1,h3⟩,u=>by
  simp only[Dh]at u;exact Se (shs:=r) h2 hq h3 (E2 u).2
 | .val t::r,_,tl,q,c::cs,vs,p,hq,⟨v,a0,e,h1,h3⟩,u=>by
  simp only[Dh,bind_some,qN]at u;obtain⟨y,hy,z,hz,rfl⟩:=u;exact⟨C7.wf (gB h1 hy),Se h2 hq h3 hz⟩
 | .own t e::r,_,tl,q,c::cs,vs,p,hq,⟨v,a0,_,h1,h3⟩,u=>by
  simp only[Dh,bind_some,qN]at u;obtain⟨l,hl,z,hz,rfl⟩:=u;obtain⟨xs,o1,o2,_⟩:=OR h2 h1 hl;exact⟨C7.wf (Cq (Z:=fun _=>True) o1 (o2.mono fun _ _=>C7.mono (fun _ _=>trivial) (fun _ _=>rfl)) (fun _ _=>trivial)),Se h2 hq h3 hz⟩
def A5u (u:C2 za w0 st2 E w Z B):∀ {l:List (Nat×LT)} {x:oU l},A8l st2 l=some x->C1k l x
 | [],_,_=>trivial
 | (k,t)::r,x,hp=>by
  simp only[A8l,bind_some,qN]at hp;obtain⟨l,hl,z,hz,rfl⟩:=hp;exact⟨(KC u hl).2.2,A5u u hz⟩
def A4n {A:GE} {p:A.den} {a1:St} (a4:za.b0=0) (h:C2 za w0 st E w Z B) (hg:gath A st=some (a1,p)) (pk:B5s za.n st0) (hS:∀s∈A.keepS,a1.eS s=st0.eS s) (hL:∀k∈A.keepL,a1.eL k=st0.eL k) (hR:∀y∈A.rowL,y.1<st0.nx) (hF:a1.fr=st0.fr):
 A.wf p/\∃Z' B',C2 za w0 (reflect A st0 p) E w Z' B':=by
 simp only[gath,qI,bind_some]at hg;obtain⟨a2,_,cs,a0,tl,a6,p',hp,hg⟩:=hg;obtain⟨u,hg⟩:=E2 hg;cases hg;simp only[qC,tS]at u;obtain⟨u,aa⟩:=u;obtain⟨Z0,h0⟩:=h.plugL a4 (l:=A.rowL);obtain⟨Z1,h2⟩:=C2.settleSh (shs:=A.shs) (cs:=a2) h0;generalize settleSh (plugL A.rowL st) A.shs a2=st2 at*;have u:=Ju u;simp only[GE.cells,bind_some]at a0;obtain⟨cb,a9,a0⟩:=a0;obtain⟨vb,a7,a8⟩:=cP h2 a9;obtain⟨vs,a5,ab⟩:=cQ h2 a7 a0;refine⟨Se h2 (A5u h2 a6) a5 hp, ?_⟩;have c0:=B9w h2 pk hS hL hF;have a3:∀y∈A.rowL,y.1<A9b A.boxL st0.nx:=fun y hy=>rK (hR y hy) (Pf _ _)
 rw[sQ]at u;obtain⟨n1,n2,n3⟩:=u;rw[sQ]at n2;obtain⟨n4,n5,n6⟩:=n2;rw[sQ]at n5;obtain⟨n7,n8,n9⟩:=n5;obtain⟨BX,g1,g2,g3,g4,g5,g6⟩:=AD a4 h2 c0 a5 hp (fun q hq hk=>n3 q hk q (by simp[hq]) rfl) n4 (fun c hc k hk=>by
  have:=aa _ hc;cases c with
  |fix k'=>
   cases hk;simp only[B1j,xS]at this;obtain⟨y,hy,hb⟩:=this;have:=qE hb;subst this;exact⟨a3 y hy,rfl⟩
  |fixB k'=>
   cases hk;simp only[B1j,xS]at this;obtain⟨y,hy,hb⟩:=this;have:=qE hb;subst this;exact⟨YS y hy,rfl⟩
  | _=>cases hk)
 have hB:∀k,k<A9b A.boxL st0.nx->BX k=B k:=g4;have q1:=XZ h2 hB (x:=(placeSh A.shs p (kept A st0)).2.2) g1 g5 (by rw[g6];exact a6) a3 (fun y hy hh=>by
  rcases qU.1 hh with hh|hh
  . exact n6 y.1 hh y.1 (by simp only[qU,rZ];exact .inl ⟨y,hy,rfl⟩) rfl
  . exact n3 y.1 hh y.1 (by simp only[qU,rZ];exact .inr (.inl ⟨y,hy,rfl⟩)) rfl) n7
 have q2:=A5m (l:=A.modS) q1.1 g2 ab (by rw[q1.2];exact g3);refine⟨Z1,BX, ?_⟩;exact A5l h2 hB q2.1 (by rw[q2.2.2.2,q1.2];exact g5) q2.2.1 a8 (by rw[q2.2.2.2];exact q2.2.2.1) (fun y hy=>YS y hy) (fun y hy hh=>by
  rcases qU.1 hh with hh|hh
  . exact n9 y.1 hh y.1 (uK hy) rfl
  . rcases qU.1 hh with hh|hh
    . exact n6 y.1 hh y.1 (by simp only[qU,rZ];exact .inr ⟨y,hy,rfl⟩) rfl
    . exact n3 y.1 hh y.1 (by simp only[qU,rZ];exact .inr (.inr ⟨y,hy,rfl⟩)) rfl) n8
end
def addA (st:St) (d:Tmp) (lc:LC) (mk:Nat->C):St:=(st.newL lc).setS d (one1 (mk st.nx))
def MS (cx:Cx) (st:St) (d:Tmp):Op->Option (Option Prop×LC×(Nat->C))
 | .alloc T=>do
  let ti<-cx.ti T
  some (none, .box T (CG ti.ty),fun k=> .box k 0)
 | .makeSlice T lo u=>do
  let ti<-cx.ti T
  let t<-slT ti.ty
  let l<-iI st lo
  let c<-iI st u
  bif ti.nest.any (Nat.beq d)then do
   let t2<-cx.ti ti.elem
   bif KU t then some (some (0<=l/\l<=c/\(ti.bytes:Int)*c<=281474976710656/\c<=9223372036854775807), .nest t ti.elem t2.elem (List.replicate l.toNat t.dflt) [] (Ql t l.toNat), .row)else none
  else bif !ti.rows&&Rq t then some (some (0<=l/\l<=c/\(ti.bytes:Int)*c<=281474976710656/\c<=9223372036854775807), .row t ti.elem (List.replicate l.toNat t.dflt), .row)else none
 | _=>none
def B0b (lc:LC) (mk:Nat->C) (X:Obj) (f:Nat->Value):Prop:=
 ∀(za:Zn) (w0 w:World) (st:St) (E:H0) (Z:Nat->Prop) (B:Nat->Value) (d b:Nat),C2 za w0 st E w Z B->w.heap[b]? =some X->w0.heap.size<=b->¬Z b->(∀k,¬A9 w (B k) (st.L k) b)->za.b0<=b->
  C2 za w0 (addA st d lc mk) (upd E d (f b)) w Z (upd B st.nx (f b))/\∀c,A9 w (f b) lc c->c=b
section
variable {za:Zn} {w0 w w':World} {st:St} {E:H0} {Z:Nat->Prop} {B:Nat->Value} {cx:Cx} {d:Tmp} {φ:Option Prop}
def C3.addA (st:St) (d:Tmp) (lc:LC) (mk:Nat->C):C3 st (addA st d lc mk):=(C3.newL _ _).trans (C3.setS _ _ _)
def B3w {base b e sz n c:Nat} {cs:Array Value} (hb:w.heap[b]? =some (.cells cs e (0,0))) (h0:base<=b) (u:cs.size=c*sz) (a0:n<=c) (hm:c<=maxLen):w.ownsRow base e sz (.slice (some ⟨b,0,none⟩) n c) n (cs.toList.take (n*sz)):=by
 refine⟨?_, .inr ⟨b,c,cs,rfl,h0,hb,a0,hm,u,rfl⟩⟩;rw[qW,sV,u];exact sY (rN _ a0)
def A6g {op:Op} {lc:LC} {mk:Nat->C} (h:C2 za w0 st E w Z B) (hty:H6 cx.P cx.tys=true) (ha:MS cx st d op=some (φ,lc,mk)) (ah:QH φ):
 ∃(X:Obj) (f:Nat->Value),(∀ty w',Gw.E7 cx.P E ty op w' (f w'.heap.size) (w'.alloc X))/\B0b lc mk X f:=by
 unfold MS at ha;split at ha
 . simp only[qI,bind_some]at ha;obtain⟨ti,ac,ha⟩:=ha;cases ha;obtain⟨z,hz,a1⟩:=Gr (O5 (C0 hty ac)).2.2;rename_i T;refine⟨.cells z.cells T,fun b=> .pointer (some ⟨b,0,none⟩),fun ty w'=>A6a hz,fun za w0 w st E Z B d b h hb h0 a6 hf a3=> ?_⟩;have h3:=Cw (w:=w) (Z:=Z) (B:=B) (n:=st.nx) (Es ti.ty);have ab:∀c,A9 w (.pointer (some ⟨b,0,none⟩)) (.box T (CG ti.ty)) c->c=b:=fun c hc=>by
    simp only[A9,root,rE]at hc;exact hc.symm
   have h2:=h.new (v:= .pointer (some ⟨b,0,none⟩)) (lc:= .box T (CG ti.ty)) ⟨b,z.cells,C5 _ _ _, .inl ⟨h.nms.2,h0⟩,a6,hb,
    Ee.mono (n:=st.nx) (fun _=>id) (fun _ _=>rfl) (fun k hk=>C6 _ _ _ _ (uH hk)) h3.2 (by rw[a1];exact h3.1)⟩
    (fun k c hc hc'=>hf k (ab c hc▸hc')) (fun c hc=>(h3.2 c hc).le (uT _)) rfl (fun c _ hc=>by rw[ab c hc];exact a3)
   refine⟨h2.setS d (x:=one1 (.box st.nx 0)) ⟨_,[],rfl,⟨b,C5 _ _ _,rfl⟩,rfl⟩ (fun c hc=> ?_),ab⟩;simp at hc;subst hc;exact rX _
 . rename_i T lo co;simp only[qI,bind_some]at ha;obtain⟨ti,ac,t,ht,l,hl,c,hc,ha⟩:=ha;have ht:=Ke ht;have key:∀ {φ':Option Prop},QH (some (0<=l/\l<=c/\(ti.bytes:Int)*c<=281474976710656/\c<=9223372036854775807))->∃z:Value,z.cells.toList=Es t/\z.cells.size=t.size/\l.toNat<=c.toNat/\c.toNat<=maxLen/\∀ty w',Gw.E7 cx.P E ty (.makeSlice T lo co) w' (.slice (some ⟨w'.heap.size,0,none⟩) l.toNat c.toNat) (w'.alloc (.cells (madeCells z.cells (c.toNat*t.size)) ti.elem)):=by
    intro _ ⟨f1,f2,f3,f4⟩;obtain⟨i,z,hu,hi,hz,ai,a1,a8,hb,am⟩:=Lp (C0 hty ac) ht;obtain⟨k1,e1,_⟩:=h.int (G2 E) hl;obtain⟨k2,e2,_⟩:=h.int (G2 E) hc;refine⟨z,a1,a8,by omega,by simp only[maxLen];omega,fun ty w'=> ?_⟩;have ae:=run_make (P:=cx.P) w' T ti.elem i z hu hi hz k1 k2 l c f1 f2 (by rw[hb];exact f3) f4;rw[<-ai];exact fun _ _ _ _=>by simp[execOp,e1,e2,ae]
   cases hn:ti.nest.any (Nat.beq d)with
   |true=>
    simp only[hn,qV,qI,bind_some]at ha;obtain⟨t2,_,ha⟩:=ha;cases a2:KU t with
    |false=>simp only[a2,rG]at ha;cases ha
    |true=>
     simp only[a2,qV]at ha;cases ha;obtain⟨z,a1,a8,aa,hm,hy⟩:=key (φ':=none) ah;obtain⟨af,u,ag⟩:=eT a2;rw[af]at a8 hy;refine⟨_,fun b=> .slice (some ⟨b,0,none⟩) l.toNat c.toNat,hy,fun za w0 w st E Z B d b h hb h0 a6 hf a3=> ?_⟩;generalize a9:madeCells z.cells (c.toNat*1)=cs at hb;have a4:cs.size=c.toNat*1:=by rw[<-a9];simp[madeCells]
     have a7:=B3w (sz:=1) hb h0 a4 aa hm;have ad:∀x∈cs.toList.take (l.toNat*1),x=u:=fun x hx=>by
      have hx:=rV hx;rw[<-a9]at hx;simp only[madeCells,g1s,rZ]at hx;obtain⟨j,_,rfl⟩:=hx;have aj:z.cells.toList= [u]:=a1.trans ag;have ak:z.cells= #[u]:=by rw[<-uX (xs:=z.cells),aj]
      rw[ak];simp[g5d]
     obtain⟨z1,z2⟩:=eU a2 ag.symm;obtain⟨g1,g2⟩:=h.newNestE d (t:=t) (e':=t2.elem) (dd:=Ql t l.toNat) a7 (fun j x hx=>by
      have:=ad x (sO hx);subst this;have hj:j<l.toNat:=by have:=(sG.1 hx).1;rw[qW]at this;omega
      exact⟨z1,z2 _ _ _ j _ hj⟩) (fun b' a0=>by
      simp only[Value.ownBlock,rE]at a0;subst a0;exact⟨a6,hf⟩) (fun b' _ a0=>by simp only[Value.ownBlock,rE]at a0;subst a0;exact a3)
     exact⟨g1,fun c' hc'=>by have:=g2 c' hc';simp only[Value.ownBlock,rE]at this;exact this.symm⟩
   |false=>
    simp only[hn,rG]at ha;cases hd: !ti.rows&&Rq t with
    |false=>simp only[hd,rG]at ha;cases ha
    |true=>
     simp only[hd,qV]at ha;cases ha;simp only[qC]at hd;obtain⟨z,a1,a8,aa,hm,hy⟩:=key (φ':=none) ah;refine⟨_,fun b=> .slice (some ⟨b,0,none⟩) l.toNat c.toNat,hy,fun za w0 w st E Z B d b h hb h0 a6 hf a3=> ?_⟩;have a5:G5 (C7 t w Z) ((madeCells z.cells (c.toNat*t.size)).toList.take (l.toNat*t.size)) (List.replicate l.toNat t.dflt):=NY a1 hd.2 a8 _ _ aa;generalize a9:madeCells z.cells (c.toNat*t.size)=cs at hb a5;have a4:cs.size=c.toNat*t.size:=by rw[<-a9];simp[madeCells]
     have a7:=B3w hb h0 a4 aa hm;refine⟨h.newRowE d (t:=t) (e:=ti.elem) (l:=List.replicate l.toNat t.dflt) (by rw[rJ];exact a7) a5 (fun b' a0=>by
      simp only[Value.ownBlock,rE]at a0;subst a0;exact⟨a6,hf⟩) (fun b' _ a0=>by simp only[Value.ownBlock,rE]at a0;subst a0;exact a3),fun c' hc'=> ?_⟩
     have:=hc';simp only[A9,root,rE]at this;exact this.symm
 . cases ha
end
def FP (cx:Cx) (all:List Oper) (st0:St):List Nat->(St->Prop)->St->Prop
 | [],k=>k
 |i::r,k=>fun st=>match all[i]? with
  |some o=>match MS cx st0 (Gt all i) o.op with
   |some (φ,lc,mk)=>aX φ (FP cx all st0 r k (addA st (Gt all i) lc mk))
   |none=>False
  |none=>False
def A3n (all:List Oper) (f:Nat->Nat->Value) (bl:Nat->Nat):List Nat->H0->H0
 | [],E=>E
 |i::r,E=>A3n all f bl r (upd E (Gt all i) (f i (bl i)))
section
variable {za:Zn} {w0 w w':World} {Z:Nat->Prop} {cx:Cx} {all:List Oper} {st0:St} {k k':St->Prop} {f:Nat->Nat->Value} {X:Nat->Obj} {bl:Nat->Nat}
def fE:∀ {ls:List Nat} {st:St},FP cx all st0 ls k st->∀i∈ls,∃o φ lc mk,all[i]? =some o/\MS cx st0 (Gt all i) o.op=some (φ,lc,mk)/\QH φ
 | [],_,_,_,h=>by cases h
 |i::r,st,u,j,hj=>by
  simp only[FP]at u;split at u
  . rename_i o ho;split at u
    . rename_i φ lc mk ha;obtain⟨h1,h2⟩:=E1.1 u;rcases qR.1 hj with rfl|hj
      . exact⟨o,φ,lc,mk,ho,ha,h1⟩
      . exact fE h2 j hj
    . exact u.elim
  . exact u.elim
def YJ:∀ {ls:List Nat} {st:St},FP cx all st0 ls k st->(∀st',C3 st st'->k st'->k' st')->FP cx all st0 ls k' st
 | [],st,h,u=>u st (C3.refl st) h
 |i::r,st,h,u=>by
  simp only[FP]at h⊢;split at h
  . split at h
    . exact E1.2 ⟨(E1.1 h).1,YJ (E1.1 h).2 fun st' e hh=>u st' ((C3.addA _ _ _ _).trans e) hh⟩
    . exact h
  . exact h
def IE {x:Nat} :∀ {l:List Nat} {E:H0},x∉Bn all l->A3n all f bl l E x=E x
 | [],_,_=>rfl
 |i::l,E,h=>by
  simp only[Bn,rU,qR,g5f]at h;simp only[A3n];rw[IE h.2,C6 _ _ _ _ h.1]
def pQ {i:Nat} :∀ {l:List Nat} {E:H0},(Bn all l).Nodup->i∈l->A3n all f bl l E (Gt all i)=f i (bl i)
 | [],_,_,h=>by cases h
 |j::l,E,u,h=>by
  simp only[Bn,rU]at u;obtain⟨h1,h2⟩:=sC.1 u;simp only[A3n];by_cases hi:i∈l
  . exact pQ h2 hi
  . rcases qR.1 h with rfl|h
    . rw[IE h1,C5]
    . exact absurd h hi
def oZ:∀ {ls:List Nat} {st:St} {E:H0} {B:Nat->Value},C2 za w0 st E w Z B->(∀i∈ls,∀o φ lc mk,all[i]? =some o->MS cx st0 (Gt all i) o.op=some (φ,lc,mk)->B0b lc mk (X i) (f i))->
 (∀i∈ls,w.heap[bl i]? =some (X i)/\w0.heap.size<=bl i/\¬Z (bl i)/\za.b0<=bl i/\∀k,¬A9 w (B k) (st.L k) (bl i))->(∀i∈ls,∀j∈ls,i≠j->bl i≠bl j)->ls.Nodup->FP cx all st0 ls k st->∃st' B',C2 za w0 st' (A3n all f bl ls E) w Z B'/\k st'
 | [],st,E,B,h,_,_,_,_,u=>⟨st,B,h,u⟩
 |i::r,st,E,B,h,ht,hb,a1,hn,u=>by
  simp only[FP]at u;obtain⟨n1,n2⟩:=sC.1 hn;split at u
  . rename_i o ho;split at u
    . rename_i φ lc mk ha;obtain⟨_,u⟩:=E1.1 u;obtain⟨b1,b2,b3,b4,b5⟩:=hb i (rF);obtain⟨g1,g2⟩:=ht i rF o φ lc mk ho ha za w0 w st E Z B (Gt all i) (bl i) h b1 b2 b3 b5 b4;refine oZ (ls:=r) (E:=upd E (Gt all i) (f i (bl i))) g1 (fun j hj=>ht j (qL _ hj)) (fun j hj=> ?_) (fun a ha b hb=>a1 a (qL _ ha) b (qL _ hb)) n2 u;obtain⟨c1,c2,c3,c4,c5⟩:=hb j (qL _ hj);refine⟨c1,c2,c3,c4,fun q hq=> ?_⟩;have hL:(addA st (Gt all i) lc mk).L q=(st.newL lc).L q:=rfl;rw[hL,St.L_newL]at hq;by_cases a0:q=st.nx
      . subst a0;rw[qY rfl,C5]at hq;exact a1 i rF j (qL _ hj) (fun e=>n1 (e▸hj)) (g2 _ hq).symm
      . rw[qO a0,C6 _ _ _ _ a0]at hq;exact c5 q hq
    . exact u.elim
  . exact u.elim
def fC:∀(l:List Nat) (E:H0) (w:World),l.Nodup->(Bn all l).Nodup->S7 w (Gv all f X l E w).2/\∃bl:Nat->Nat,(∀i∈l,w.heap.size<=bl i/\(Gv all f X l E w).2.heap[bl i]? =some (X i)/\(Gv all f X l E w).1 (Gt all i)=f i (bl i))/\∀i∈l,∀j∈l,i≠j->bl i≠bl j
 | [],_,w,_,_=>⟨S7.refl w,fun _=>0,by simp,by simp⟩
 |i::r,E,w,hn,hd=>by
  obtain⟨n1,n2⟩:=sC.1 hn;simp only[Bn,rU]at hd;obtain⟨d1,d2⟩:=sC.1 hd;obtain⟨h1,bl,h2,h3⟩:=fC r (upd E (Gt all i) (f i w.heap.size)) (w.alloc (X i)) n2 d2;have hx:S7 w (w.alloc (X i)):=S7.alloc w _;have a1:(w.alloc (X i)).heap.size=w.heap.size+1:=Array.size_push ..;simp only[Gv];refine⟨hx.trans h1,fun j=>if j=i then w.heap.size else bl j,fun j hj=> ?_,fun a ha b hb hab=> ?_⟩
  . rcases qR.1 hj with rfl|hj
    . have he:(if j=j then w.heap.size else bl j)=w.heap.size:=qY rfl;show w.heap.size<=(if j=j then w.heap.size else bl j)/\(Gv all f X r _ _).2.heap[if j=j then w.heap.size else bl j]? = _ /\ _=f j (if j=j then w.heap.size else bl j);rw[he];refine⟨rC _, ?_,by rw[Ji _ _ _ d1,C5]⟩;rw[h1.block _ (by rw[a1];exact rX _)];exact heap_alloc_new w _
    . have:j≠i:=fun e=>n1 (e▸hj)
      simp only[qO this];obtain⟨g1,g2,g3⟩:=h2 j hj;exact⟨by omega,g2,g3⟩
  . simp only;have hr:∀q,q∈i::r->q≠i->q∈r:=fun q hq hqi=>(qR.1 hq).resolve_left hqi
    by_cases u:a=i
    . rw[qY u,qO (fun e=>hab (u.trans e.symm))];have:=(h2 b (hr b hb (fun e=>hab (u.trans e.symm)))).1;omega
    . rw[qO u];by_cases a0:b=i
      . rw[qY a0];have:=(h2 a (hr a ha u)).1;omega
      . rw[qO a0];exact h3 a (hr a ha u) b (hr b hb a0) hab
end
structure K where
 n:St->Prop
 x:Nat->St->Prop
 r:St->Prop
def K.at (k:K):Exit->St->Prop
 | .normal=>k.n
 | .exit i=>k.x i
 | .ret=>k.r
 | _=>fun _=>False
structure An where
 join:List (Nat×GE):= []
 loop:List (Nat×GE):= []
 plan:List (Nat×List Nat×List Nat×Bool×Pl):= []
def nT:Code->Option Nat
 | .region id _ _=>some id
 | .seq a b=>match nT a with
  |some i=>some i
  |none=>nT b
 | .cond _ a b=>match nT a with
  |some i=>some i
  |none=>nT b
 | .block _ c=>nT c
 | .loop c=>nT c
 | _=>none
def B9a (l:List (Nat×GE)):Option Nat->Option GE
 |some i=>Ha i l
 |none=>none
def C6c (A:GE) (st:St) (u:(St->Prop)->Prop) (rest:St->Prop):Prop:=
 ∃J:A.den->Prop,u (NE A st J)/\∀p,A.wf p->J p->rest (reflect A st p)
def B9m (A:GE) (st:St) (a0:(St->Prop)->St->Prop):Prop:=
 match gath A st with
 |some (u,p0)=>bif(A.rowL.all fun x=>Nat.blt x.1 u.nx)&&(A.boxL.all fun x=>Nat.blt x.1 u.nx)then
  (∃(I:A.den->Prop) (μ:A.den->Nat),I p0/\∀p,A.wf p->I p->a0 (NE A u fun p'=>I p'/\μ p'<μ p) (reflect A u p))else False
 |none=>False
def Pc (cx:Cx) (all:List Oper) (o:Oper) (k:St->Prop) (st:St):Prop:=
 match o.guard with
 |none=>match AF cx st [] o.op with
  |some (φ,v)=>match o.dst with
   |some d=>aX φ (k (st.setS d v))
   |none=>False
  |none=>match o.op with
   | .load T x=>match o.dst with
    |some d=>(match dV cx st d T x with
     |some st'=>k st'
     |none=>False)
    |none=>False
   | _=>False
 |some (j,b)=>match(all[j]?).bind (·.dst)with
  |some t=>bif Oo st 20 t then(match o.dst with
   |some d=>bif !(Nat.beq t d)then(match AF cx st (gctx st 20 t b) o.op with
    |some (φ, .one s)=>bif s.cs.all (B4k st.nx)then aX (B6r (ctxP st (gctx st 20 t b)) φ) (k (st.setS d (.cnd t b s)))else False
    | _=>False)else False
   |none=>False)else False
  |none=>False
def QP (cx:Cx) (all:List Oper):List Nat->(St->Prop)->St->Prop
 | [],k=>k
 |j::r,k=>fun st=>match all[j]? with
  |some o=>bif !(B3c o.op)&&B8d (eP all j) (Bn all (j::r))then Pc cx all o (QP cx all r k) st else False
  |none=>False
def Q6 (cx:Cx) (sp:I5) (all:List Oper) (tails:List Nat) (n0:Nat) (nw:Bool):Pl->Bool->Bool->(St->Prop)->St->Prop
 | .done,_,_,k=>k
 | .q i p,pre,t,k=>fun st=>match all[i]? with
  |some o=>bif pre|| !nw then Pc cx all o (Q6 cx sp all tails n0 nw p pre t k) st else False
  |none=>False
 | .p i p,pre,t,k=>fun st=>match all[i]? with
  |some o=>bif !(B3c o.op)then Pc cx all o (Q6 cx sp all tails n0 nw p pre t k) st else False
  |none=>False
 | .e i p,_,t,k=>fun st=>match all[i]? with
  |some o=>bif((t||tails.contains i) || !(aN sp st o) || (nw&&frO n0 st o.op))&&(!nw||jG sp n0 st o.op)then FQ cx sp all o (Q6 cx sp all tails n0 nw p false (t||tails.contains i) k) st else False
  |none=>False
 | .or i p q,pre,t,k=>fun st=>
  (match all[i]? with
  |some o=>bif((t||tails.contains i) || !(aN sp st o) || (nw&&frO n0 st o.op))&&(!nw||jG sp n0 st o.op)then FQ cx sp all o (Q6 cx sp all tails n0 nw p false (t||tails.contains i) k) st else False
  |none=>False)/\Q6 cx sp all tails n0 nw q pre t k st
 | .al is js p,_,t,k=>fun st=>bif A6f all is js then FP cx all st is (QP cx all js (Q6 cx sp all tails n0 nw p false t k)) st else False
def Oh (cx:Cx) (sp:I5) (an:An):Code->K->St->Prop
 | .skip,k=>k.n
 | .label _,k=>k.n
 | .region id ops u,k=>fun st=>bif u then(match Ha id an.plan with
  |some (heads,tails,nw,p)=>bif B9g ops.toList heads tails p&&cx.P.follows .mixedOrders then Q6 cx sp ops.toList tails st.nx nw p true false k.n st else False
  |none=>False)else YL cx sp ops.toList ops.toList k.n st
 | .seq a b,k=>fun st=>match B9a an.join (nT b)with
  |some A=>C6c A st (fun j=>Oh cx sp an a {k with n:=j} st) (Oh cx sp an b k)
  |none=>Oh cx sp an a {k with n:=Oh cx sp an b k} st
 | .cond c a b,k=>fun st=>match(st.ev [] c).bind PQ with
  |some e=>(e=true->Oh cx sp an a k st)/\(e=false->Oh cx sp an b k st)
  |none=>False
 | .block id c,k=>Oh cx sp an c {k with x:=fun i st=>bif Nat.beq i id then k.n st else k.x i st}
 | .loop c,k=>fun st=>match B9a an.loop (nT c)with
  |some A=>B9m A st fun j=>Oh cx sp an c {k with n:=j}
  |none=>False
 | .exit i,k=>k.x i
 | .ret,k=>k.r
 | _,_=>fun _=>False
section
variable {za:Zn} {w0:World} {cx:Cx} {sp:I5} {an:An} {all:List Oper}
def Vk {o:Oper} {k k':St->Prop} {st:St} (h:Pc cx all o k st) (u:∀st',C3 st st'->k st'->k' st'):Pc cx all o k' st:=by
 unfold Pc at h⊢;split at h
 . split at h
   . split at h
     . exact E1.2 ⟨(E1.1 h).1,u _ (C3.setS _ _ _) (E1.1 h).2⟩
     . exact h
   . split at h
     . split at h
       . split at h
         . rename_i hl;exact u _ (dW hl) h
         . exact h
       . exact h
     . exact h
 . split at h
   . obtain⟨hf,h⟩:=B6 h;simp only[hf,qV];split at h
     . obtain⟨a1,h⟩:=B6 h;simp only[a1,qV];split at h
       . obtain⟨a0,h⟩:=B6 h;simp only[a0,qV];exact E1.2 ⟨(E1.1 h).1,u _ (C3.setS _ _ _) (E1.1 h).2⟩
       . exact h
     . exact h
   . exact h
def YM:∀ {ls:List Nat} {k k':St->Prop} {st:St},QP cx all ls k st->(∀st',C3 st st'->k st'->k' st')->QP cx all ls k' st
 | [],_,_,st,h,u=>u st (C3.refl st) h
 |j::r,_,_,st,h,u=>by
  simp only[QP]at h⊢;split at h
  . obtain⟨hp,h⟩:=B6 h;simp only[hp,qV];exact Vk h fun a0 e1 h1=>YM h1 fun st2 e2 h2=>u st2 (e1.trans e2) h2
  . exact h
def Bl {tails:List Nat} {n0:Nat} {nw:Bool} :∀ {p:Pl} {pre t:Bool} {k k':St->Prop} {st:St},Q6 cx sp all tails n0 nw p pre t k st->(∀st',C3 st st'->k st'->k' st')->Q6 cx sp all tails n0 nw p pre t k' st
 | .done,_,_,_,_,st,h,u=>u st (C3.refl st) h
 | .q i p,pre,t,_,_,st,h,u=>by
  simp only[Q6]at h⊢;split at h
  . obtain⟨hp,h⟩:=B6 h;simp only[hp,qV]at h⊢;exact Vk h fun a0 e1 h1=>Bl h1 fun st2 e2 h2=>u st2 (e1.trans e2) h2
  . exact h
 | .p i p,pre,t,_,_,st,h,u=>by
  simp only[Q6]at h⊢;split at h
  . obtain⟨hp,h⟩:=B6 h;simp only[hp,qV];exact Vk h fun a0 e1 h1=>Bl h1 fun st2 e2 h2=>u st2 (e1.trans e2) h2
  . exact h
 | .e i p,pre,t,_,_,st,h,u=>by
  simp only[Q6]at h⊢;split at h
  . obtain⟨hp,h⟩:=B6 h;simp only[hp,qV];exact HY h fun a0 e1 h1=>Bl h1 fun st2 e2 h2=>u st2 (e1.trans e2) h2
  . exact h
 | .or i p q,pre,t,_,_,st,h,u=>by
  simp only[Q6]at h⊢;refine⟨?_,Bl h.2 u⟩;have h:=h.1;split at h
  . obtain⟨hp,h⟩:=B6 h;simp only[hp,qV];exact HY h fun a0 e1 h1=>Bl h1 fun st2 e2 h2=>u st2 (e1.trans e2) h2
  . exact h
 | .al is js p,pre,t,_,_,st,h,u=>by
  simp only[Q6]at h⊢;obtain⟨hp,h⟩:=B6 h;simp only[hp,qV];exact YJ h fun a0 e1 h1=>YM h1 fun st2 e2 h2=>Bl h2 fun a1 e3 h3=>u a1 (e1.trans (e2.trans e3)) h3
def C3.told (A:GE) (st0:St) (p:A.den):C3 st0 (Vc.reflect A st0 p):=
 ⟨rA (uT _) (C3.reflect A st0 p).ct,fun _ u h1=>oT u h1,fun _ u h1=>jO u h1,(C3.reflect A st0 p).f.le (uT _)⟩
def C3.gath {A:GE} {st u:St} {p:A.den} (h:gath A st=some (u,p)):C3 st u:=by
 simp only[Vc.gath,qI,bind_some]at h;obtain⟨a0,_,cs,_,tl,_,p',_,h⟩:=h;obtain⟨_,h⟩:=E2 h;cases h;exact(C3.plugL _ _).trans (C3.settleSh _ _ _)
def OV:∀ {c:Code} {k k':K} {st:St},Oh cx sp an c k st->(∀e st',C3 st st'->k.at e st'->k'.at e st')->Oh cx sp an c k' st:=by
 intro c
 induction c with
 |skip=>intro k k' st h u;exact u .normal st (C3.refl st) h
 |label l=>intro k k' st h u;exact u .normal st (C3.refl st) h
 |region id ops a3=>
  intro k k' st h u;simp only[Oh]at h⊢;cases a3 with
  |true=>
   simp only[qV]at h⊢;split at h
   . obtain⟨hp,h⟩:=B6 h;simp only[hp,qV];exact Bl h fun st' e=>u .normal st' e
   . exact h
  |false=>
   simp only[rG]at h⊢;exact QO h fun st' e=>u .normal st' e
 |seq a b a1 a2=>
  intro k k' st h u;simp only[Oh]at h⊢;split at h
  . rename_i A _;obtain⟨J,h1,h2⟩:=h;refine⟨J,a1 h1 fun e st' ev hh=> ?_,fun p hw hJ=>a2 (h2 p hw hJ) fun e st' ev hh=> ?_⟩
    . cases e with
      |normal=>exact hh
      |exit i=>exact u (.exit i) st' ev hh
      |ret=>exact u .ret st' ev hh
      | _=>exact hh
    . exact u e st' ((C3.told A st p).trans ev) hh
  . refine a1 h fun e a0 e1 hh=> ?_
    cases e with
    |normal=>exact a2 hh fun e st2 e2 h2=>u e st2 (e1.trans e2) h2
    |exit i=>exact u (.exit i) a0 e1 hh
    |ret=>exact u .ret a0 e1 hh
    | _=>exact hh
 |cond c a b a1 a2=>
  intro k k' st h u;simp only[Oh]at h⊢;split at h
  . exact⟨fun e=>a1 (h.1 e) u,fun e=>a2 (h.2 e) u⟩
  . exact h
 |block id c ih=>
  intro k k' st h u;simp only[Oh]at h⊢;refine ih h fun e st' ev hh=> ?_
  cases e with
  |exit i=>
   simp only[K.at]at hh⊢;cases hb:Nat.beq i id with
   |true=>simp only[hb,qV]at hh⊢;exact u .normal st' ev hh
   |false=>simp only[hb,rG]at hh⊢;exact u (.exit i) st' ev hh
  |normal=>exact u .normal st' ev hh
  |ret=>exact u .ret st' ev hh
  | _=>exact hh
 |loop c ih=>
  intro k k' st h u;simp only[Oh]at h⊢;split at h
  . rename_i A _;unfold B9m at h⊢;split at h
    . rename_i a0 p0 hg;obtain⟨hb,h⟩:=B6 h;simp only[hb,qV];obtain⟨I,μ,h0,h1⟩:=h;refine⟨I,μ,h0,fun p hw hI=>ih (h1 p hw hI) fun e st' ev hh=> ?_⟩;cases e with
      |normal=>exact hh
      |exit i=>exact u (.exit i) st' ((C3.gath hg).trans ((C3.told A a0 p).trans ev)) hh
      |ret=>exact u .ret st' ((C3.gath hg).trans ((C3.told A a0 p).trans ev)) hh
      | _=>exact hh
    . exact h
  . exact h
 |exit i=>intro k k' st h u;exact u (.exit i) st (C3.refl st) h
 |ret=>intro k k' st h u;exact u .ret st (C3.refl st) h
 | _=>intro k k' st h u;exact h
def cI {A:GE} (a0:za.b0=0) {st0 st:St} {J:A.den->Prop} {E:H0} {w:World} {Z:Nat->Prop} {B:Nat->Value} (h:C2 za w0 st E w Z B) (u:NE A st0 J st) (pk:B5s za.n st0) (ev:C3 st0 st):∃p,A.wf p/\J p/\∃Z' B',C2 za w0 (reflect A st0 p) E w Z' B':=by
 unfold NE at u;split at u
 . rename_i a1 p hg;obtain⟨hk,u⟩:=B6 u;simp only[B2l,qC,tS]at hk;obtain⟨⟨⟨k1,k2⟩,k3⟩,k5⟩:=hk;have e1:=ev.trans (C3.gath hg);have tm:∀ {n g:Nat},iF n g=true->g≠0/\g<=n:=fun hh=>by
    simp only[iF,qC]at hh;have a:=qT hh.1;have b:=qT hh.2;omega
   obtain⟨hw,Z',B',hr⟩:=A4n a0 h hg pk (fun s hs=>e1.s s (tm (k1 s hs)).1 (tm (k1 s hs)).2) (fun q hq=>e1.l q (tm (k2 q hq)).1 (tm (k2 q hq)).2) (fun y hy=>Yo (k3 y hy)) (e1.f.old k5);exact⟨p,hw,u,Z',B',hr⟩
 . exact u.elim
variable (hty:H6 cx.P cx.tys=true) (hsp:Rb cx.P sp)
include hty in
theorem HZ {S:World->Prop} {o:Oper} {k:St->Prop} {st:St} {E:H0} {w:World} {Z:Nat->Prop} {B:Nat->Value} (hS:∀w',S w'->(B3c o.op=true->S7 w w')) (h:C2 za w0 st E w Z B) (hs:Pc cx all o k st):HW cx.P S all o (Nx za w0 k) E w:=by
 obtain⟨a8,op,ty,pos,aft,gd⟩:=o;unfold Pc at hs;simp only at hs hS;split at hs
 . split at hs
   . rename_i φ v hp;split at hs
     . rename_i d;replace hs:=E1.1 hs;obtain⟨u,h1,h2,h3⟩:=DI (ty:=ty) h hty (G2 E) hp hs.1;exact .inl ⟨rfl,u,fun w' a0=>h1 w' (hS w' a0) _ _ _ _,_,_,_,h.setS d (h2 _) h3,hs.2⟩
     . exact hs.elim
   . split at hs
     . rename_i T x _;split at hs
       . rename_i d;split at hs
         . rename_i st' hl;obtain⟨u,B',h1,h2⟩:=nU (ty:=ty) h hty hl;exact .inl ⟨rfl,u,fun w' a0=>h1 w' (hS w' a0 rfl) _ _ _ _,_,_,_,h2,hs⟩
         . exact hs.elim
       . exact hs.elim
     . exact hs.elim
 . rename_i j b;split at hs
   . rename_i t hj;have a6:=(B6 hs).1;replace hs:=(B6 hs).2;split at hs
     . rename_i d;have a4:=(B6 hs).1;replace hs:=(B6 hs).2;have a3:t≠d:=vH (by simpa using a4);split at hs
       . rename_i φ s hp;obtain⟨a7,hs⟩:=B6 hs;replace hs:=E1.1 hs;rw[nG]at hs;by_cases hw:E t= .bool b
         . have a1:=h.gctx (n:=20) hw;obtain⟨u,h1,h2,h3⟩:=DI (ty:=ty) h hty a1 hp (hs.1 (h.ctxP a1));refine .inl ⟨XR hj hw,u,fun w' a0=>h1 w' (hS w' a0) _ _ _ _,_,_,_,h.setS d (x:= .cnd t b s) (.inl ⟨?_,h2 E⟩) h3,hs.2⟩;rw[C6 _ _ _ _ a3];exact hw
         . have a2:E6 all ⟨some d,op,ty,pos,aft,some (j,b)⟩ E=false:=by
            unfold E6 Ed;simp only[hj];cases a5:E t with
            |bool b'=>simp only[wF,g4r,rE];intro hh;exact hw (by rw[a5,hh])
            | _=>rfl
           refine .inr ⟨a2,_,_,_,h.setS d (x:= .cnd t b s) (.inr ⟨?_,rfl⟩) (fun c hc=>jN (tS.1 a7 c hc)),hs.2⟩;rw[C6 _ _ _ _ a3];exact hw
       . exact hs.elim
     . exact hs.elim
   . exact hs.elim
theorem YD {P:Program} {S:World->Prop} {o:Oper} {n n':H0->World->Prop} {E:H0} {w:World} (h:HW P S all o n E w) (hn:∀E',n E' w->n' E' w):HW P S all o n' E w:=by
 rcases h with⟨h1,v,u,h3⟩ | ⟨h1,u⟩
 . exact .inl ⟨h1,v,u,hn _ h3⟩
 . exact .inr ⟨h1,hn _ u⟩
def RW (nw:Bool) (b0:Nat) (w w':World):Prop:=bif nw then(Below b0 w w'/\True)else S7 w w'
theorem RW.of {nw:Bool} {b0:Nat} {w w':World} (hb:b0<=w.heap.size) (h:S7 w w'):RW nw b0 w w':=by
 cases nw with
 |true=>exact⟨⟨h.os,h.tape,h.output,h.size,fun k u=>h.block k (rK u hb)⟩,h.drw⟩
 |false=>exact h
theorem RW.refl (nw:Bool) (b0:Nat) (w:World):RW nw b0 w w:=by
 cases nw with
 |true=>exact⟨Below.refl _ _,trivial⟩
 |false=>exact S7.refl _
theorem RW.trans {nw:Bool} {b0:Nat} {a b c:World} (h:RW nw b0 a b) (u:RW nw b0 b c):RW nw b0 a c:=by
 cases nw with
 |true=>exact⟨Below.trans h.1 u.1,trivial⟩
 |false=>exact S7.trans h u
include hty hsp in
theorem A5x {nw tl:Bool} {n0:Nat} {k:St->Prop} {o:Oper} {st:St} {E:H0} {w:World} {Z:Nat->Prop} {B:Nat->Value} (a2:nw=true->za.k0=n0) (a5:nw=false->za.b0=0) (h:C2 za w0 st E w Z B)
 (hm:((tl|| !(aN sp st o) || (nw&&frO n0 st o.op))&&(!nw||jG sp n0 st o.op))=true) (u:FQ cx sp all o k st):N4 cx.P all o (fun E' w'=>(tl=true\/RW nw za.b0 w w')/\Nx za w0 k E' w') E w:=by
 simp only[qC,uO,rR]at hm;obtain⟨hm,a0⟩:=hm;have a3:za.b0=0\/jG sp za.k0 st o.op=true:=by
  cases hn:nw with
  |false=>exact .inl (a5 hn)
  |true=>rw[hn]at a0;exact .inr (by rw[a2 hn];simpa using a0)
 rcases hm with(hm|hm) |hm
 . refine N5 ?_ (YK h a3 hty hsp u);rintro E' w' ⟨_,n⟩;exact⟨.inl hm,n⟩
 . refine N5 ?_ (YK h a3 hty hsp u);rintro E' w' ⟨hx,n⟩;exact⟨.inr (RW.of h.mrk.1 (hx hm)),n⟩
 . obtain⟨a8,hm⟩:=hm;subst a8;obtain⟨a4,op,ty,pos,aft,gd⟩:=o;have a6:=hm;unfold frO at hm;split at hm
   . rename_i T p v a1;simp only at a1;subst a1;unfold FQ at u;simp only at u;cases gd with
     |none=>
      simp only[AF]at u;cases a4 with
      |none=>
       simp only at u;have a7:Zl st (.store T p v)=false:=by
        rcases a0 with a0|a0
        . cases a0
        . simp only[jG,qC,rR]at a0;exact a0.2
       rw[oB a7]at u;simp only at u;split at u
       . rename_i φ st' a9;refine N5 ?_ (fJ h hty a9 (E1.1 u).1 (E1.1 u).2 rfl);rintro E' w' ⟨hb,n⟩;exact⟨.inr (hb (by rw[a2 rfl];exact a6)),n⟩
       . exact u.elim
      |some d=>exact u.elim
     |some jb=>
      obtain⟨j,b⟩:=jb;simp only[AF]at u;split at u
      . obtain⟨_,u⟩:=B6 u;split at u
        . obtain⟨_,u⟩:=B6 u;exact u.elim
        . exact u.elim
      . exact u.elim
   . cases hm
include hty in
theorem pA {k:St->Prop} :∀ {js:List Nat},(∀j∈js,jJ all j=true)->(Bn all js).Nodup->∀ {st:St} {E:H0} {w:World} {Z:Nat->Prop} {B:Nat->Value},C2 za w0 st E w Z B->QP cx all js k st->∃F,(∀x,x∉Bn all js->F x=E x)/\AlV cx.P all js F/\Nx za w0 k F w
 | [],_,_,st,E,w,Z,B,h,hs=>⟨E,fun _ _=>rfl,fun _ hj=>(by cases hj),st,Z,B,h,hs⟩
 |j::r,a3,a2,st,E,w,Z,B,h,hs=>by
  simp only[QP]at hs;simp only[Bn,rU]at a2;obtain⟨n1,n2⟩:=sC.1 a2;split at hs
  . rename_i o ho;obtain⟨hm,hs⟩:=B6 hs;simp only[qC,rR]at hm;obtain⟨a1,hg,a6⟩:=AE (a3 j rF) ho;have a4:=OY hm.2;have hq:=HZ (S:=fun _=>True) (all:=all) hty (fun w' _ hh=>by rw[hh]at hm;cases hm.1) h hs;have a0:E6 all o E=true:=by simp[E6,hg]
    rcases hq with⟨_,v,hv,a8,Z1,B1,h1,a7⟩ | ⟨hw,_⟩
    . rw[a1]at h1;obtain⟨F,g1,g2,g3⟩:=pA (fun i hi=>a3 i (qL _ hi)) n2 h1 a7;have a5:F (Gt all j)=v:=by rw[g1 _ n1];exact C5 _ _ _
      refine⟨F,fun x hx=> ?_,fun i hi=> ?_,g3⟩
      . simp only[Bn,rU,qR,g5f]at hx;rw[g1 x hx.2];exact C6 _ _ _ _ hx.1
      . rcases qR.1 hi with rfl|hi
        . refine⟨o,ho,fun w'=> ?_⟩;rw[a5,NP (E:=F) (E':=E) ho a6 fun u hu=> ?_]
          . exact hv w' trivial
          . have hx:=a4 u hu;simp only[Bn,rU,qR,g5f]at hx;rw[g1 u hx.2];exact C6 _ _ _ _ hx.1
        . exact g2 i hi
    . rw[a0]at hw;cases hw
  . exact hs.elim
theorem RW.size {nw:Bool} {b0:Nat} {a b:World} (h:RW nw b0 a b):a.heap.size<=b.heap.size:=by
 cases nw with
 |true=>exact h.1.size
 |false=>exact(show S7 a b from h).size
include hty in
theorem A8r {nw:Bool} {is js:List Nat} {k:St->Prop} {st:St} {E:H0} {w:World} {Z:Nat->Prop} {B:Nat->Value} (a3:A6f all is js=true) (h:C2 za w0 st E w Z B) (hs:FP cx all st is (QP cx all js k) st):∃f X,A9t cx.P (RW nw za.b0) all is js f X (Nx za w0 k) E w:=by
 simp only[A6f,qC,tS]at a3;obtain⟨⟨⟨s1,s2⟩,s3⟩,s4⟩:=a3;have s2:=(sQ.1 (Mh s2)).1;have s3:=Mh s3;have s3:(Bn all is++Bn all js).Nodup:=by simpa[Bn]using s3
 obtain⟨d1,d2,d3⟩:=sQ.1 s3;have u:=fE hs;have a5:∀i,∃x:Obj×(Nat->Value),i∈is->∀o φ lc mk,all[i]? =some o->MS cx st (Gt all i) o.op=some (φ,lc,mk)->(∀w',(execOp (ev E) o).run cx.P w'= .ok (.value (x.2 w'.heap.size)) (w'.alloc x.1))/\B0b lc mk x.1 x.2:=fun i=>by
  by_cases hi:i∈is
  . obtain⟨o,φ,lc,mk,ho,ha,a4⟩:=u i hi;obtain⟨X,f,g1,g2⟩:=A6g h hty ha a4;refine⟨(X,f),fun _ o' φ' aa ab a2 a1=> ?_⟩;rw[ho]at a2;cases a2;rw[ha]at a1;cases a1;obtain⟨a9,op,ty,pos,aft,gd⟩:=o;exact⟨fun w'=>g1 ty w' _ _ _ _,g2⟩
  . exact⟨(.cells #[] 0 (0,0),fun _=>undef),fun hh=>absurd hh hi⟩
 obtain⟨g,hg⟩:=Classical.axiomOfChoice a5;refine⟨fun i=>(g i).2,fun i=>(g i).1,⟨fun i hi=> ?_,fun i hi w' hr=>RW.of (rA h.mrk.1 hr.size) (S7.alloc w' _),fun l hl=> ?_⟩⟩
 . obtain⟨o,φ,lc,mk,ho,ha,a4⟩:=u i hi;exact⟨o,ho,(hg i hi o φ lc mk ho ha).1⟩
 . have a7:l.Nodup:=hl.nodup_iff.2 s2;have a6:(Bn all l).Nodup:=(hl.map _).nodup_iff.2 d1;obtain⟨hx,bl,b1,b2⟩:=fC (f:=fun i=>(g i).2) (X:=fun i=>(g i).1) l E w a7 a6;have h1:=h.more (Z':=Z) hx (fun _=>id) (fun _=> .inl);obtain⟨ac,B1,h2,h3⟩:=oZ (f:=fun i=>(g i).2) (X:=fun i=>(g i).1) (bl:=bl) h1 (fun i hi o φ lc mk ho ha=>(hg i hi o φ lc mk ho ha).2) (fun i hi=>by
    obtain⟨c1,c2,c3⟩:=b1 i (hl.symm.subset hi);refine⟨c2,rA h.ext.size c1,fun hz=> ?_,rA h.mrk.1 c1,fun q hq=> ?_⟩
    . have:=h.zlt _ hz;omega
    . have:=((h.locs q).root (h.ft hx hq)).2.1;omega) (fun i hi j hj a8=>b2 i (hl.symm.subset hi) j (hl.symm.subset hj) a8) s2 hs
   have hE:A3n all (fun i=>(g i).2) bl is E=(Gv all (fun i=>(g i).2) (fun i=>(g i).1) l E w).1:=funext fun x=>by
    by_cases a0:x∈Bn all is
    . obtain⟨i,hi,e⟩:=J0.1 a0;subst e;rw[pQ d1 hi,(b1 i (hl.symm.subset hi)).2.2]
    . rw[IE a0,Ji _ _ _ fun hm=>a0 ((hl.map _).subset hm)]
   rw[hE]at h2;exact pA hty (fun j hj=>s1 j (tJ _ hj)) d2 h2 h3
include hty hsp in
theorem Ea {za0:Zn} {tails:List Nat} {n0:Nat} {nw:Bool} {k:St->Prop} (a1:nw=true->za.k0=n0) (a0:nw=false->za.b0=0) (a2:∀ {st:St} {E:H0} {w:World} {Z:Nat->Prop} {B:Nat->Value},C2 za w0 st E w Z B->C2 za0 w0 st E w Z B):∀ {p:Pl} {pre t:Bool} {st:St} {E:H0} {w:World} {Z:Nat->Prop} {B:Nat->Value},(nw=true->pre=true->za.b0=w.heap.size)->C2 za w0 st E w Z B->Q6 cx sp all tails n0 nw p pre t k st->VP cx.P (RW nw za.b0) all tails (Nx za0 w0 k) p t E w
 | .done,_,_,_,_,_,_,_,_,h,u=>⟨_,_,_,a2 h,u⟩
 | .q i p,pre,t,st,E,w,Z,B,hp,h,u=>by
  simp only[Q6]at u;split at u
  . rename_i o ho;obtain⟨a6,u⟩:=B6 u;refine⟨o,ho,YD (HZ hty (fun w' a3 _=> ?_) h u) ?_⟩
    . cases nw with
      |false=>exact a3
      |true=>
       have a3:Below za.b0 w w'/\True:=a3;rw[hp rfl (by simpa using a6)]at a3;exact⟨a3.1,a3.2⟩
    . rintro E' ⟨st',Z',B',h',hk⟩;exact Ea a1 a0 a2 hp h' hk
  . exact u.elim
 | .p i p,pre,t,st,E,w,Z,B,hp,h,u=>by
  simp only[Q6]at u;split at u
  . rename_i o ho;obtain⟨hm,u⟩:=B6 u;refine⟨o,ho,YD (HZ hty (fun w' _ hh=>by rw[hh]at hm;cases hm) h u) ?_⟩;rintro E' ⟨st',Z',B',h',hk⟩;exact Ea a1 a0 a2 hp h' hk
  . exact u.elim
 | .e i p,pre,t,st,E,w,Z,B,hp,h,u=>by
  simp only[Q6]at u;split at u
  . rename_i o ho;obtain⟨hm,u⟩:=B6 u;refine⟨o,ho,N5 ?_ (A5x hty hsp a1 a0 (tl:=t||tails.contains i) h hm u)⟩;rintro E' w' ⟨a5,st',Z',B',h',hk⟩;exact⟨a5,Ea a1 a0 a2 (fun _ hh=>by cases hh) h' hk⟩
  . exact u.elim
 | .or i p q,pre,t,st,E,w,Z,B,hp,h,u=>by
  simp only[Q6]at u;refine⟨?_,Ea a1 a0 a2 hp h u.2⟩;have u:=u.1;split at u
  . rename_i o ho;obtain⟨hm,u⟩:=B6 u;refine⟨o,ho,N5 ?_ (A5x hty hsp a1 a0 (tl:=t||tails.contains i) h hm u)⟩;rintro E' w' ⟨a5,st',Z',B',h',hk⟩;exact⟨a5,Ea a1 a0 a2 (fun _ hh=>by cases hh) h' hk⟩
  . exact u.elim
 | .al is js p,pre,t,st,E,w,Z,B,hp,h,u=>by
  simp only[Q6]at u;obtain⟨a8,u⟩:=B6 u;obtain⟨f,X,a4⟩:=A8r (nw:=nw) hty a8 h u;refine⟨f,X,a4.one,a4.rel,fun l hl=> ?_⟩;obtain⟨F,f1,f2,st',Z',B',h',a7⟩:=a4.fin l hl;exact⟨F,f1,f2,Ea a1 a0 a2 (fun _ hh=>by cases hh) h' a7⟩
theorem C2.marked {st:St} {E:H0} {w:World} {Z:Nat->Prop} {B:Nat->Value} (h:C2 za w0 st E w Z B):C2 {za with k0:=st.nx,b0:=w.heap.size} w0 st E w Z B:=
 ⟨h.ext,h.zlt,h.slots,h.locs,h.disj,h.refs,h.refl,h.fresh,h.bone,h.zin,h.nms,h.bfix,⟨rC _,fun k b u hl=>by
  have:st.L k= .none:=h.fresh k u;rw[this]at hl;exact hl.elim⟩,h.frs,h.frf⟩
theorem C2.unmark {k0 b0:Nat} (u:za.b0=0) {st:St} {E:H0} {w:World} {Z:Nat->Prop} {B:Nat->Value} (h:C2 {za with k0:=k0,b0:=b0} w0 st E w Z B):C2 za w0 st E w Z B:=
 ⟨h.ext,h.zlt,h.slots,h.locs,h.disj,h.refs,h.refl,h.fresh,h.bone,h.zin,h.nms,h.bfix,⟨by rw[u];exact rP _,fun k b _ _=>by rw[u];exact rP _⟩,h.frs,h.frf⟩
end
section
variable {za:Zn} {w0:World} {cx:Cx} {sp:I5} {an:An}
def B1q {A:GE} {st a0:St} {p:A.den} {E:H0} {w:World} {Z:Nat->Prop} {B:Nat->Value} (a1:za.b0=0) (h:C2 za w0 st E w Z B) (u:gath A st=some (a0,p)):∃Z',C2 za w0 a0 E w Z' B:=by
 simp only[Vc.gath,qI,bind_some]at u;obtain⟨a2,_,cs,_,tl,_,p',_,u⟩:=u;obtain⟨_,u⟩:=E2 u;cases u;obtain⟨Z0,h0⟩:=h.plugL a1 (l:=A.rowL);exact C2.settleSh h0
def post (za:Zn) (w0:World) (k:K):Exit->H0->World->Prop:=fun e E w=>Nx za w0 (k.at e) E w
variable (hty:H6 cx.P cx.tys=true) (hsp:Rb cx.P sp)
include hty hsp in
theorem A5w (a2:za.b0=0) {n:Nat} :∀ {c:Code} {k:K} {st:St} {E:H0} {w:World} {Z:Nat->Prop} {B:Nat->Value},C2 za w0 st E w Z B->Oh cx sp an c k st->Gw.Wp cx.P n c (post za w0 k) E w:=by
 intro c
 induction c with
 |skip=>intro k st E w Z B h u _ a hr;exact wp_skip ⟨E,hr,st,Z,B,h,u⟩
 |label l=>intro k st E w Z B h u _ a hr;exact wp_label ⟨E,hr,st,Z,B,h,u⟩
 |exit i=>intro k st E w Z B h u _ a hr;exact wp_exit ⟨E,hr,st,Z,B,h,u⟩
 |ret=>intro k st E w Z B h u _ a hr;exact wp_ret ⟨E,hr,st,Z,B,h,u⟩
 |region id ops a6=>
  intro k st E w Z B h u a0 a hr;simp only[Cl]at a0;simp only[Oh]at u;have a5:ops=ops.toList.toArray:=by simp
  cases a6 with
  |false=>
   simp only[rG]at u;rw[a5];refine wp_region ?_;have:=XS (P:=cx.P) (Q:=post za w0 k) a0 ops.toList 0 (by simp) a E w hr (fF a2 hty hsp h u);simpa[g3f]using this
  |true=>
   simp only[qV]at u;split at u
   . rename_i heads tails nw p _;obtain⟨hp,u⟩:=B6 u;simp only[qC]at hp;obtain⟨hp,hm⟩:=hp;simp only[B9g,qC]at hp;rw[a5];refine wp_region_any hm (aK (S:=fun _=>True) (tails:=tails) _ _ _ _ ?_);have a3:G7 tails (Array.replicate ops.toList.length false)=false:=by
      unfold G7;rw[zZ];intro x _;simp only[yG,zF];split<;>simp
     have h1:=h.more (Z':=Z) (w':=w.drew) (S7.refl w).drew (fun _ h=>h) (fun _=> .inl);have fin:∀b0,VP cx.P (RW nw b0) ops.toList tails (Nx za w0 k.n) p false E w.drew->Z4 cx.P ops.toList.toArray (HF n (post za w0 k)) (RW nw b0 w.drew) tails ops.toList.length (Array.replicate ops.toList.length false) a w.drew:=fun b0 hd=>
      B1a (P:=cx.P) (R:=RW nw b0) (RW.refl nw _) (fun a b=>a.trans b) (Q:=post za w0 k) a0 hp.1.1 hp.1.2 (fun c E w hh=>by obtain⟨_,_,_,_,hh⟩:=hh;exact hh) p ops.toList.length _ none hp.2 ⟨lO _ _,fun ht=>by rw[a3]at ht;cases ht⟩ false a3.symm a E w.drew hr (fun _ hh=>by cases hh) hd
     cases nw with
     |true=>
      have:=fin _ (Ea (za0:=za) (nw:=true) hty hsp (n0:=st.nx) (fun _=>rfl) (fun hh=>by cases hh) (fun h=>h.unmark a2) (fun _ _=>rfl) h1.marked u);simpa using Kn (S':=fun _=>True) (fun _ _=>trivial) _ _ _ _ this
     |false=>
      have:=fin _ (Ea (za0:=za) (nw:=false) hty hsp (n0:=st.nx) (fun hh=>by cases hh) (fun _=>a2) (fun h=>h) (fun hh=>by cases hh) h1 u);simpa using Kn (S':=fun _=>True) (fun _ _=>trivial) _ _ _ _ this
   . exact u.elim
 |seq a b a9 aa=>
  intro k st E w Z B h u a0 a1 hr;simp only[Cl,qC]at a0;simp only[Oh]at u;split at u
  . rename_i A _;obtain⟨J,h1,h2⟩:=u;have ab:=OV (k':= {n:=fun st'=>C3 st st'/\NE A st J st',x:=k.x,r:=k.r}) h1 (fun e st' ev hh=>by
     cases e with
     |normal=>exact⟨ev,hh⟩
     |exit i=>exact hh
     |ret=>exact hh
     | _=>exact hh)
    refine wp_seq (wp_mono (a9 h ab a0.1 a1 hr) ?_);rintro e a' w' ⟨E',hr',st',Z',B',h',hq⟩;cases e with
    |normal=>
     obtain⟨p,hw,hJ,Z2,B2,h3⟩:=cI a2 h' hq.2 h.pure hq.1;exact aa h3 (h2 p hw hJ) a0.2 a' hr'
    |exit i=>exact⟨E',hr',st',Z',B',h',hq⟩
    |ret=>exact⟨E',hr',st',Z',B',h',hq⟩
    | _=>exact hq.elim
  . refine wp_seq (wp_mono (a9 h u a0.1 a1 hr) ?_);rintro e a' w' ⟨E',hr',st',Z',B',h',hq⟩;cases e with
    |normal=>exact aa h' hq a0.2 a' hr'
    |exit i=>exact⟨E',hr',st',Z',B',h',hq⟩
    |ret=>exact⟨E',hr',st',Z',B',h',hq⟩
    | _=>exact hq.elim
 |cond c x y ag ah=>
  intro k st E w Z B h u a0 a1 hr;simp only[Cl,qC]at a0;simp only[Oh]at u;split at u
  . rename_i e he;obtain⟨s,ac,ad⟩:=bind_some.1 he;have hv:=Rh (h.ev (G2 E) ac).1 ad;refine wp_cond (t:=e) (by rw[hr.ev];exact hv) ?_;cases e with
    |true=>exact ag h (u.1 rfl) a0.1 a1 hr
    |false=>exact ah h (u.2 rfl) a0.2 a1 hr
  . exact u.elim
 |block id c ih=>
  intro k st E w Z B h u a0 a1 hr;refine wp_block (wp_mono (ih h u a0 a1 hr) ?_);rintro e a' w' ⟨E',hr',st',Z',B',h',hq⟩;cases e with
  |normal=>exact⟨E',hr',st',Z',B',h',hq⟩
  |ret=>exact⟨E',hr',st',Z',B',h',hq⟩
  |exit j=>
   simp only[Exit.inBlock];simp only[K.at]at hq;by_cases hj:j=id
   . subst hj;simp only[xO];simp at hq;exact⟨E',hr',st',Z',B',h',hq⟩
   . simp only[hj,yU];rw[E4 hj]at hq;exact⟨E',hr',st',Z',B',h',hq⟩
  | _=>exact hq.elim
 |loop c ih=>
  intro k st E w Z B h u a0 a1 hr;simp only[Cl]at a0;simp only[Oh]at u;split at u
  . rename_i A _;unfold B9m at u;split at u
    . rename_i a4 p0 hg;obtain⟨hb,u⟩:=B6 u;simp only[qC,tS]at hb;obtain⟨I,μ,h0,h1⟩:=u;obtain⟨Z1,a7⟩:=B1q a2 h hg;obtain⟨af,Z2,B2,h2⟩:=A4n a2 h hg a7.pure (fun _ _=>rfl) (fun _ _=>rfl) (fun y hy=>Yo (hb.1 y hy)) rfl;refine wp_loop_ghost (fun m a w=>∃p E',μ p=m/\Gw.C7 n a E'/\A.wf p/\I p/\∃Z B,C2 za w0 (reflect A a4 p) E' w Z B) (μ p0) ⟨p0,E,rfl,hr,af,h0,Z2,B2,h2⟩ ?_;rintro m a w ⟨p,E',ai,a8,hw,hI,Z3,B3,h3⟩;have h4:=OV (k':= {n:=fun st'=>C3 (reflect A a4 p) st'/\NE A a4 (fun p'=>I p'/\μ p'<μ p) st',x:=k.x,r:=k.r}) (h1 p hw hI) (fun e st' ev hh=>by
       cases e with
       |normal=>exact⟨ev,hh⟩
       |exit i=>exact hh
       |ret=>exact hh
       | _=>exact hh)
      refine wp_mono (ih h3 h4 a0 a a8) ?_;rintro e a' w' ⟨E'',hr',st',Z',B',h',hq⟩;cases e with
      |normal=>
       obtain⟨p',ae,hJ,Z5,B5,h5⟩:=cI a2 h' hq.2 a7.pure ((C3.told A a4 p).trans hq.1);exact⟨μ p',by have:=hJ.2;omega,p',E'',rfl,hr',ae,hJ.1,Z5,B5,h5⟩
      |exit j=>exact⟨E'',hr',st',Z',B',h',hq⟩
      |ret=>exact⟨E'',hr',st',Z',B',h',hq⟩
      | _=>exact hq.elim
    . exact u.elim
  . exact u.elim
 | _=>intro k st E w Z B h u;exact u.elim
end
abbrev Bb (α:Type):List α:= []
def AG (cx:Cx) (st:St):List ResultVar->Option (List SV)
 | []=>some []
 | .tmp t::r=>match st.S t with
  | .one s=>(AG cx st r).map (s:: ·)
  | _=>none
 | .cell a T::r=>do
  let ti<-cx.ti T
  match st.S a with
  | .one ⟨false,[.box k 0]⟩=>match st.L k with
   | .box _ cs=>bif Nat.beq cs.length ti.ty.size then(AG cx st r).map (⟨ti.agg,cs⟩:: ·)else none
   | _=>none
  | _=>none
def settleR:St->List RT->List SV->St
 |st, .val _ _::rs,s::ss=>settleR (settle st s.cs) rs ss
 |st, .own _ _::rs,_::ss=>settleR st rs ss
 |st, .obox _ _::rs,s::ss=>settleR (match c1 s with
  |some (.box k 0)=>(match st.L k with
   | .box _ cs=>settle st cs
   | _=>st)
  | _=>st) rs ss
 |st, .rows _ _ _::rs,_::ss=>settleR st rs ss
 |st,_,_=>st
def FM (st:St):(rs:List RT)->List SV->Option (Br rs)
 | [],[]=>some ()
 | .val a t::rs,s::ss=>(Sd a t s).bind fun x=>(FM st rs ss).map fun y=>(x,y)
 | .own t e::rs,s::ss=>((c1 s).bind (OQ st t e)).bind fun x=>(FM st rs ss).map fun y=>(x,y)
 | .obox T t::rs,s::ss=>((cK s).bind fun k=>bif Nat.ble st.nm k then lH st T t k else none).bind fun x=>(FM st rs ss).map fun y=>(x,y)
 | .rows t e e'::rs,s::ss=>((QL s).bind fun k=>bif Nat.ble st.nm k then OT st t e e' k else none).bind fun x=>(FM st rs ss).map fun y=>(x,y)
 | _,_=>none
def Cm:List RT->List SV->List Nat
 | .own _ _::rs,⟨false,[.row k]⟩::ss=>k::Cm rs ss
 | .obox _ _::rs,⟨false,[.box k 0]⟩::ss=>k::Cm rs ss
 | .rows _ _ _::rs,⟨false,[.row k]⟩::ss=>k::Cm rs ss
 | _::rs,_::ss=>Cm rs ss
 | _,_=> []
def settleM:St->List AM->Nat->St
 |st, .box _ _::r,j=>settleM (match st.L j with| .box _ cs=>settle st cs| _=>st) r (j+1)
 |st, .row _ _::r,j=>settleM st r (j+1)
 |st, .val _ _::r,j=>settleM st r j
 |st, .fn _ _ _::r,j=>settleM st r j
 |st, .rows _ _ _::r,j=>settleM st r (j+1)
 |st,[],_=>st
def bA (st:St):(as:List AM)->Nat->Option (Og as)
 | [],_=>some ()
 | .row t e::r,j=>(AH st t e j).bind fun x=>(bA st r (j+1)).map fun y=>(x,y)
 | .box T t::r,j=>(lH st T t j).bind fun x=>(bA st r (j+1)).map fun y=>(x,y)
 | .val _ _::r,j=>bA st r j
 | .fn _ _ _::r,j=>bA st r j
 | .rows t e e'::r,j=>(OT st t e e' j).bind fun x=>(bA st r (j+1)).map fun y=>(x,y)
def B9d:AM->Bool
 | .row t _=>Me t
 | .rows t _ _=>Me t
 | .box _ t=>Me t
 | _=>true
def C2v (s:A5) (x:A2 s.args) (r:Br s.res) (o:Og s.args):Prop:=bif O9 s.args then s.post x r/\s.mpost x r o else s.post x r
def fin (cx:Cx) (s:A5) (u:List ResultVar) (x:A2 s.args) (st:St):Prop:=
 match AG cx st u with
 |some ss=>match AG cx (settleM (settleR st s.res ss) s.args 0) u with
  |some a0=>match FM (settleM (settleR st s.res ss) s.args 0) s.res a0,bA (settleM (settleR st s.res ss) s.args 0) s.args 0 with
   |some r,some o=>bif(HI (Cm s.res a0)&&Mt s.res)&&(s.shared|| (s.res.all A4k&&s.args.all B9d))then C2v s x r o else False
   | _,_=>False
  |none=>False
 |none=>False
def Il (P:Program):(as:List AM)->A2 as->Nat->Nat->List (Nat×Nat×DV)
 | [],_,_,_=> []
 | .val a t::r,x,i,j=>(i,1, .one ⟨a,explode t x.1⟩)::Il P r x.2 (i+1) j
 | .row _ _::r,x,i,j=>(i,1, .one ⟨false,[.row j]⟩)::Il P r x.2 (i+1) (j+1)
 | .box _ _::r,x,i,j=>(i,1, .one ⟨false,[.box j 0]⟩)::Il P r x.2 (i+1) (j+1)
 | .rows _ _ _::r,x,i,j=>(i,1, .one ⟨false,[.row j]⟩)::Il P r x.2 (i+1) (j+1)
 | .fn u a0 r'::r,x,i,j=>(i,1, .one ⟨false,[.fv P u a0 r' x.1.1 x.1.2]⟩)::Il P r x.2 (i+1) j
def Er:(as:List AM)->A2 as->Nat->List (Nat×Nat×LC)
 | [],_,_=> []
 | .val _ _::r,x,j=>Er r x.2 j
 | .fn _ _ _::r,x,j=>Er r x.2 j
 | .row t e::r,x,j=>(j,1, .row t e x.1)::Er r x.2 (j+1)
 | .box T t::r,x,j=>(j,1, .box T (explode t x.1))::Er r x.2 (j+1)
 | .rows t e e'::r,x,j=>(j,1, .rows t e e' x.1 [] none)::Er r x.2 (j+1)
def Lr:List AM->Nat
 | []=>0
 | .row _ _::r=>Lr r+1
 | .box _ _::r=>Lr r+1
 | .rows _ _ _::r=>Lr r+1
 | .val _ _::r=>Lr r
 | .fn _ _ _::r=>Lr r
def A1p (P:Program) (as:List AM) (x:A2 as):St:=⟨Il P as x 0 0,Er as x 0,Lr as,1,Lr as,[]⟩
def B7z (cx:Cx) (sp:I5) (an:An) (s:A5) (u:List ResultVar) (c:Code) (x:A2 s.args):Prop:=
 Oh cx sp an c ⟨fin cx s u x,fun _ _=>False,fin cx s u x⟩ (A1p cx.P s.args x)
section
variable {za:Zn} {w0 w:World} {Z:Nat->Prop} {B:Nat->Value} {st:St} {E:H0} {cx:Cx} {sp:I5} {an:An}
def nA (tmps:Array Value):ResultVar->Sem Value
 | .tmp t=>pure (tmps.getD t undef)
 | .cell a t=>do loadVar t (<-asAddr (tmps.getD a undef))
def KY (hty:H6 cx.P cx.tys=true) (h:C2 za w0 st E w Z B) {tmps:Array Value} (ht:∀t,tmps.getD t undef=E t):∀ {a3:List ResultVar} {ss:List SV},AG cx st a3=some ss->∃vs,(a3.mapM (nA tmps)).run cx.P w= .ok vs w/\Qy w Z B ss vs
 | [],ss,hs=>by cases hs;exact⟨[],rfl,rfl⟩
 | .tmp t::r,ss,hs=>by
  simp only[AG]at hs;split at hs
  . rename_i s hd;simp only[qN]at hs;obtain⟨ss',a5,rfl⟩:=hs;obtain⟨vs,h1,h2⟩:=KY hty h ht a5;have a0:=h.slots t;rw[hd]at a0;refine⟨E t::vs, ?_,E t,vs,rfl,a0,h2⟩;rw[wT];simp only[nA,ht,Sem.run_bind,Sem.run_pure,Result.andThen_ok,h1]
  . cases hs
 | .cell a T::r,ss,hs=>by
  simp only[AG,qI,bind_some]at hs;obtain⟨ti,ac,hs⟩:=hs;split at hs
  . rename_i k hd;split at hs
    . rename_i T' cs hk;obtain⟨hb,hs⟩:=E2 hs;simp only[qN]at hs;obtain⟨ss',a5,rfl⟩:=hs;obtain⟨vs,h1,h2⟩:=KY hty h ht a5;have a7:=qE hb;have a0:=h.slots a;rw[hd]at a0;obtain⟨_,_,e1,⟨b,e2,e3⟩,_⟩:=a0;cases e1;have hL:=h.locs k;rw[hk]at hL;obtain⟨b',us,e4,_,_,a2,a1⟩:=hL;rw[e2]at e4;cases e4;have a6:us.toList.length=ti.ty.size:=by rw[<-a7,a1.len]
      rcases(O5 (C0 hty ac)).2.1 with⟨ha,a9⟩ | ⟨ha,ab,aa⟩
      . refine⟨.agg us.toList.toArray::vs, ?_,_,vs,rfl,by rw[ha];exact⟨us.toList,rfl,a1⟩,h2⟩;obtain⟨g1,g2⟩:=Qn (P:=cx.P) (w:=w) a9;have g3:=run_loadCells_list (P:=cx.P) (w:=w) ⟨b,0,none⟩ us.toList a2.cellsAt;rw[a6]at g3;unfold loadCells at g3;rw[wT];simp[nA,ht,e3,asAddr,loadVar,g1,g2,g3,h1,go_sem]
      . rw[aa]at a6
        match a8:us.toList,a6 with
        | [u],_=>
         rw[a8]at a1;have a4:w.cell? ⟨b,0,none⟩=some u:=by
          have:=a2.cellsAt 0 u (by rw[a8];rfl);rwa[K7]at this
         refine⟨u::vs, ?_,u,vs,rfl,by rw[ha];exact a1,h2⟩;have g1:=Jj (P:=cx.P) (w:=w) ab;rw[wT];simp[nA,ht,e3,asAddr,loadVar,g1,a4,h1,go_sem]
    . cases hs
  . cases hs
def C2.settleR:∀ {rs:List RT} {ss:List SV} {st:St} {Z:Nat->Prop},C2 za w0 st E w Z B->∃Z',C2 za w0 (settleR st rs ss) E w Z' B
 | .val _ _::rs,s::ss,st,Z,h=>by
  obtain⟨Z1,h1⟩:=h.settle s.cs;exact C2.settleR (rs:=rs) (ss:=ss) h1
 | .own _ _::rs,_::ss,st,Z,h=>C2.settleR (rs:=rs) (ss:=ss) h
 | .obox _ _::rs,s::ss,st,Z,h=>by
  simp only[Vc.settleR];split
  . split
    . obtain⟨Z1,h1⟩:=h.settle _;exact C2.settleR (rs:=rs) (ss:=ss) h1
    . exact C2.settleR (rs:=rs) (ss:=ss) h
  . exact C2.settleR (rs:=rs) (ss:=ss) h
 | [],_,st,Z,h=>⟨Z,h⟩
 | .val _ _:: _,[],st,Z,h=>⟨Z,h⟩
 | .own _ _:: _,[],st,Z,h=>⟨Z,h⟩
 | .obox _ _:: _,[],st,Z,h=>⟨Z,h⟩
 | .rows _ _ _::rs,_::ss,st,Z,h=>C2.settleR (rs:=rs) (ss:=ss) h
 | .rows _ _ _:: _,[],st,Z,h=>⟨Z,h⟩
def Sc (h:C2 za w0 st E w Z B) {Zn:Nat->Prop} (a6:∀b,Zn b->Z b):∀ {rs:List RT} {ss:List SV} {vs:List Value} {r:Br rs},((∀b,Z b->Zn b)\/rs.all A4k=true)->Qy w Z B ss vs->FM st rs ss=some r->(Cm rs ss).Nodup->Mt rs=true->
 Om w0.heap.size w Zn rs vs r/\∀u∈W9 rs vs,∀b,root u=some b->∃k∈Cm rs ss,A9 w (B k) (st.L k) b
 | [],[],vs,_,_,hr,_,_,_=>⟨hr,fun u hu=>by simp[W9]at hu⟩
 | [],_:: _,_,_,_,_,hp,_,_=>by cases hp
 | .val _ _:: _,[],_,_,_,_,hp,_,_=>by cases hp
 | .own _ _:: _,[],_,_,_,_,hp,_,_=>by cases hp
 | .obox _ _:: _,[],_,_,_,_,hp,_,_=>by cases hp
 | .rows _ _ _:: _,[],_,_,_,_,hp,_,_=>by cases hp
 | .rows t e0 e1::rs,s::ss,_,r,hf,⟨v,a7,e,h1,h2⟩,hp,hn,a4=>by
  simp only[FM,bind_some,qN]at hp;obtain⟨l,⟨q,hq,hl⟩,y,hy,rfl⟩:=hp;subst e;obtain⟨ai,hl⟩:=E2 hl;have ay:=qT ai;have ac:s=⟨false,[.row q]⟩:=by
   unfold QL at hq;split at hq
   . cases hq;rfl
   . cases hq
  subst ac;obtain⟨_,_,e2,aa,_⟩:=h1;cases e2;have aa:v=B q:=aa;subst aa;obtain⟨al,ae⟩:=Jh hl;have hL:=h.locs q;rw[ae]at hL;have hR:=hL.rowsR;have ad:∀b,A9 w (B q) (.rows t e0 e1 l [] none) b->A9 w (B q) (st.L q) b:=fun b hb=>by rw[ae];exact(Ad fun _ _=>rfl).1 hb
  simp only[Mt,Bo,Qg,qC,zH,wO,rR]at a4;obtain⟨⟨r1,r2⟩,r3⟩:=a4;have a5:Cm (.rows t e0 e1::rs) (⟨false,[.row q]⟩::ss)=q::Cm rs ss:=rfl;rw[a5]at hn⊢;have a8:=sC.1 hn;obtain⟨g1,g2⟩:=Sc h a6 (hf.imp id fun hh=>by simp only[tG,qC]at hh;exact hh.2) h2 hy a8.2 r3;have ap:Kz w Zn t e0 e1 (B q) l:=by
   obtain⟨xs,o1,o2,o3,o4⟩:=hR;refine⟨xs,o1,fun i a x ha hx=>(o2 i a x ha hx).imp fun ys hy=>⟨hy.1, ?_⟩,o3,o4⟩;rcases hf with hf|hf
   . exact hy.2.mono fun _ _=>C7.mono hf (fun _ _=>rfl)
   . simp only[tG,qC]at hf;exact hy.2.mono fun _ _ hh=>C7.flat hf.1 hh
  refine⟨⟨B q,a7,rfl,⟨ap,fun b hb=> ?_⟩,fun _=>⟨⟨r1,fun _=>r2⟩,fun b hb u hu=>by rw[Vd r2]at hu;cases hu⟩,g1⟩,fun u hu b hb=> ?_⟩
  . obtain⟨a1,a2,a3⟩:=(h.locs q).root (ad b hb);refine⟨?_,fun hz=>a3 (a6 b hz),a2⟩;rcases a1 with a1|a1
    . exact a1.2
    . have:=h.nms.1;omega
  . simp only[W9,qR]at hu;rcases hu with rfl|hu
    . exact⟨q,by simp,ad b (.inl hb)⟩
    . obtain⟨k,hk,r⟩:=g2 u hu b hb;exact⟨k,qL _ hk,r⟩
 | .val a t::rs,s::ss,_,r,hf,⟨v,a7,e,h1,h2⟩,hp,hn,a4=>by
  simp only[Mt,qC]at a4;obtain⟨af,a9⟩:=a4;simp only[FM,bind_some,qN]at hp;obtain⟨x,hx,y,hy,rfl⟩:=hp;have a5:Cm (.val a t::rs) (s::ss)=Cm rs ss:=by
   obtain⟨sa,sc⟩:=s;simp only[Cm]
  rw[a5]at hn⊢;obtain⟨g1,g2⟩:=Sc h a6 (hf.imp id fun hh=>by simp only[tG,qC]at hh;exact hh.2) h2 hy hn a9;subst e;refine⟨⟨v,a7,rfl, ?_,fun hh=>(by cases hh),g1⟩,g2⟩;have a0:=Ey h1 hx;rcases hf with hf|hf
  . exact a0.mono hf (fun _ _=>rfl)
  . simp only[tG,qC]at hf;cases a with
    |true=>obtain⟨cs,e,a0⟩:=a0;exact⟨cs,e,C7.flat hf.1 a0⟩
    |false=>exact C7.flat (cs:= [v]) hf.1 a0
 | .own t e0::rs,s::ss,_,r,hf,⟨v,a7,e,h1,h2⟩,hp,hn,a4=>by
  simp only[Mt,Bo,Qg,qC,zH,wO,g1c,g0x,Bool.and_true,rR]at a4;obtain⟨af,a9⟩:=a4;simp only[FM,bind_some,qN]at hp;obtain⟨l,⟨c,hc,hl⟩,y,hy,rfl⟩:=hp;subst e;have ac:s=⟨false,[c]⟩:=by
   unfold c1 at hc;split at hc
   . cases hc;rfl
   . cases hc
  subst ac;obtain⟨_,_,e1,aw,_⟩:=h1;cases e1;obtain⟨xs,o1,o2,o3,o4⟩:=OR h aw hl;have ax:=F6 o1;have ab:G5 (C7 t w Zn) xs l:=by
   rcases hf with hf|hf
   . exact o2.mono fun _ _=>C7.mono hf (fun _ _=>rfl)
   . simp only[tG,qC]at hf;exact o2.mono fun _ _ hh=>C7.flat hf.1 hh
  have ag:(∀b,Z b->Zn b)\/rs.all A4k=true:=hf.imp id fun hh=>by simp only[tG,qC]at hh;exact hh.2
  rcases o4 with⟨q,rfl,ao,aa⟩ | ⟨ar,aq⟩
  . have a5:Cm (.own t e0::rs) (⟨false,[.row q]⟩::ss)=q::Cm rs ss:=rfl;rw[a5]at hn⊢;have a8:=sC.1 hn;obtain⟨g1,g2⟩:=Sc h a6 ag h2 hy a8.2 a9;refine⟨⟨v,a7,rfl,⟨xs,o1,ab,fun b hb hz=>o3 b hb (a6 b hz)⟩,fun _=>⟨⟨af,fun hh=>(by cases hh)⟩,fun b hb u hu hub=> ?_⟩,g1⟩,fun u hu b hb=> ?_⟩
    . obtain⟨k,hk,am⟩:=g2 u hu b hub;have av:root (B q)=some b:=by rw[<-aa];exact hb
      exact h.disj q k b (fun hh=>a8.1 (hh▸hk)) (A9.of ao av) am
    . simp only[W9,qR]at hu;rcases hu with rfl|hu
      . exact⟨q,by simp,A9.of ao (by rw[<-aa];exact hb)⟩
      . obtain⟨k,hk,r⟩:=g2 u hu b hb;exact⟨k,qL _ hk,r⟩
  . have a5:Cm (.own t e0::rs) (⟨false,[c]⟩::ss)=Cm rs ss:=by cases c<;>first|rfl|exact absurd rfl (aq _)
    rw[a5]at hn⊢;obtain⟨g1,g2⟩:=Sc h a6 ag h2 hy hn a9;have aj:∀b,root v≠some b:=fun b hb=>by rw[ar]at hb;cases hb
    refine⟨⟨v,a7,rfl,⟨xs,o1,ab,fun b hb=>absurd (ax.trans hb) (aj b)⟩,fun _=>⟨⟨af,fun hh=>(by cases hh)⟩,fun b hb=>absurd hb (aj b)⟩,g1⟩,fun u hu b hb=> ?_⟩;simp only[W9,qR]at hu;rcases hu with rfl|hu
    . exact absurd hb (aj b)
    . exact g2 u hu b hb
 | .obox T t::rs,s::ss,_,r,hf,⟨v,a7,e,h1,h2⟩,hp,hn,a4=>by
  simp only[Mt,Bo,Qg,qC,zH,wO,g1c,g0x,Bool.and_true,rR]at a4;obtain⟨af,a9⟩:=a4;simp only[FM,bind_some,qN]at hp;obtain⟨x,⟨q,hq,hx⟩,y,hy,rfl⟩:=hp;subst e;obtain⟨ai,hx⟩:=E2 hx;have ac:s=⟨false,[.box q 0]⟩:=by
   unfold cK at hq;split at hq
   . cases hq;rfl
   . cases hq
  subst ac;obtain⟨_,_,e1,⟨b',e2,e3⟩,_⟩:=h1;cases e1;obtain⟨cs,ae,au⟩:=Yp hx;have hL:=h.locs q;rw[ae]at hL;obtain⟨g,us,d1,d2,d3,d4,d5⟩:=hL;rw[d1]at e2;cases e2;have a0:=Hl d5 au;have ak:C7 t w Zn us.toList x:=by
   rcases hf with hf|hf
   . exact C7.mono hf (fun _ _=>rfl) a0
   . simp only[tG,qC]at hf;exact C7.flat hf.1 a0
  have ag:(∀b,Z b->Zn b)\/rs.all A4k=true:=hf.imp id fun hh=>by simp only[tG,qC]at hh;exact hh.2
  have a5:Cm (.obox T t::rs) (⟨false,[.box q 0]⟩::ss)=q::Cm rs ss:=rfl;rw[a5]at hn⊢;have a8:=sC.1 hn;obtain⟨g1,g2⟩:=Sc h a6 ag h2 hy a8.2 a9;have ah:w0.heap.size<=b':=by
   rcases d2 with d2|d2
   . exact d2.2
   . have:=h.nms.1;have:=qT ai;omega
  have ad:∀c,root (Value.pointer (some ⟨b',0,none⟩))=some c->A9 w (B q) (st.L q) c:=fun c hc=>by rw[ae,d1];exact hc
  refine⟨⟨v,a7,rfl,⟨b',us,e3,ah,fun hz=>d3 (a6 b' hz),d4,ak⟩,fun _=>⟨⟨af,fun hh=>(by cases hh)⟩,fun b hb u hu hub=> ?_⟩,g1⟩,fun u hu b hb=> ?_⟩
  . obtain⟨k,hk,am⟩:=g2 u hu b hub;rw[e3]at hb;exact h.disj q k b (fun hh=>a8.1 (hh▸hk)) (ad b hb) am
  . simp only[W9,qR]at hu;rcases hu with rfl|hu
    . rw[e3]at hb;exact⟨q,by simp,ad b hb⟩
    . obtain⟨k,hk,r⟩:=g2 u hu b hb;exact⟨k,qL _ hk,r⟩
def C2.settleM:∀ {as:List AM} {st:St} {j:Nat} {Z:Nat->Prop},C2 za w0 st E w Z B->∃Z',C2 za w0 (settleM st as j) E w Z' B
 | [],st,_,Z,h=>⟨Z,h⟩
 | .row _ _::r,st,j,Z,h=>C2.settleM (as:=r) h
 | .val _ _::r,st,j,Z,h=>C2.settleM (as:=r) h
 | .fn _ _ _::r,st,j,Z,h=>C2.settleM (as:=r) h
 | .rows _ _ _::r,st,j,Z,h=>C2.settleM (as:=r) h
 | .box _ _::r,st,j,Z,h=>by
  simp only[Vc.settleM];split
  . obtain⟨Z1,h1⟩:=h.settle _;exact C2.settleM (as:=r) h1
  . exact C2.settleM (as:=r) h
def CV (h:C2 za w0 st E w Z B) {Zn:Nat->Prop} :∀ {as:List AM} {vs:List Value} {o:Og as} {j:Nat},((∀b,Z b->Zn b)\/as.all B9d=true)->(∀m u,(D6 as vs)[m]? =some u->B (j+m)=u)->(∀m p,(P4 as vs)[m]? =some p->∀b,up za w0 (j+m) b->A9 w0 p.2 (lcA p.1) b)->vs.length=as.length->bA st as j=some o->Xd w0 w Zn as vs o
 | [],_,_,_,_,_,_,_,_=>trivial
 |a::r,[],_,_,_,_,_,hl,_=>by simp at hl
 | .val _ _::r,v::vs,o,j,hf,hB,hU,hl,ho=>CV (as:=r) h (hf.imp id fun hh=>by simp only[tG,qC]at hh;exact hh.2) hB hU (by simpa using hl) ho
 | .fn _ _ _::r,v::vs,o,j,hf,hB,hU,hl,ho=>CV (as:=r) h (hf.imp id fun hh=>by simp only[tG,qC]at hh;exact hh.2) hB hU (by simpa using hl) ho
 | .row t e::r,v::vs,o,j,hf,hB,hU,hl,ho=>by
  simp only[bA,bind_some,qN]at ho;obtain⟨x,hx,y,hy,rfl⟩:=ho;have a0:B j=v:=hB 0 v (by simp[D6,K9]);have hL:=h.locs j;rw[Ms hx]at hL;obtain⟨xs,g1,g2,_⟩:=hL;rw[a0]at g1;refine⟨⟨xs,g1, ?_⟩,CV (as:=r) h (hf.imp id fun hh=>by simp only[tG,qC]at hh;exact hh.2) (fun m u hm=>by rw[show j+1+m=j+(m+1)from by omega];exact hB (m+1) u (by simpa[D6,K9]using hm)) (fun m p hm=>by rw[show j+1+m=j+(m+1)from by omega];exact hU (m+1) p (by simpa[P4,K9]using hm)) (by simpa using hl) hy⟩;rcases hf with hf|hf
  . exact g2.mono fun _ _=>C7.mono hf (fun _ _=>rfl)
  . simp only[tG,qC]at hf;exact g2.mono fun _ _ hh=>C7.flat hf.1 hh
 | .box T t::r,v::vs,o,j,hf,hB,hU,hl,ho=>by
  simp only[bA,bind_some,qN]at ho;obtain⟨x,hx,y,hy,rfl⟩:=ho;have a0:B j=v:=hB 0 v (by simp[D6,K9]);obtain⟨cs,hc,hp⟩:=Yp hx;have hL:=h.locs j;rw[hc]at hL;obtain⟨b,us,g1,_,_,g4,g5⟩:=hL;rw[a0]at g1;refine⟨⟨b,us,g1,g4, ?_⟩,CV (as:=r) h (hf.imp id fun hh=>by simp only[tG,qC]at hh;exact hh.2) (fun m u hm=>by rw[show j+1+m=j+(m+1)from by omega];exact hB (m+1) u (by simpa[D6,K9]using hm)) (fun m p hm=>by rw[show j+1+m=j+(m+1)from by omega];exact hU (m+1) p (by simpa[P4,K9]using hm)) (by simpa using hl) hy⟩;have:=Hl g5 hp;rcases hf with hf|hf
  . exact C7.mono hf (fun _ _=>rfl) this
  . simp only[tG,qC]at hf;exact C7.flat hf.1 this
 | .rows t e e'::r,v::vs,o,j,hf,hB,hU,hl,ho=>by
  simp only[bA,bind_some,qN]at ho;obtain⟨x,hx,y,hy,rfl⟩:=ho;have a0:B j=v:=hB 0 v (by simp[D6,K9]);have hL:=h.locs j;obtain⟨al,ha⟩:=Jh hx;rw[ha]at hL;have hR:=hL.rowsR;rw[a0]at hR;refine⟨⟨?_,fun b hb=> ?_⟩,CV (as:=r) h (hf.imp id fun hh=>by simp only[tG,qC]at hh;exact hh.2) (fun m u hm=>by rw[show j+1+m=j+(m+1)from by omega];exact hB (m+1) u (by simpa[D6,K9]using hm)) (fun m p hm=>by rw[show j+1+m=j+(m+1)from by omega];exact hU (m+1) p (by simpa[P4,K9]using hm)) (by simpa using hl) hy⟩
  . rcases hf with hf|hf
    . exact hR.mono hf
    . simp only[tG,qC]at hf;obtain⟨xs,h1,h3,h4,h5⟩:=hR;exact⟨xs,h1,fun i l x hl hx=>(h3 i l x hl hx).imp fun ys hy=>⟨hy.1,hy.2.mono fun _ _ hh=>C7.flat hf.1 hh⟩,h4,h5⟩
  . have a1:A9 w (B j) (st.L j) b:=by rw[ha,a0];exact(Ad fun _ _=>rfl).1 hb
    exact hU 0 (.rows t e e',v) (by simp[P4,K9]) b ((h.locs j).root a1).1
variable {P:Program}
def Iz {n:Nat} :∀ {as:List AM} {vs:List Value} {x:A2 as} {i j s:Nat},Ac P w Z as vs x->i<=s->(∀m u,(D6 as vs)[m]? =some u->B (j+m)=u)->j+Lr as<=n->RD w Z B E (find (0, .dead) s (Il P as x i j)).2 ((vs[s-i]?).getD undef)/\KX n (find (0, .dead) s (Il P as x i j)).2
 | [],_,_,_,_,_,_,_,_,_=>⟨trivial,trivial⟩
 |a::r,_,x,i,j,s,⟨v,a3,e,h1,h2⟩,hi,hB,hn=>by
  subst e;by_cases a0:i=s
  . subst a0;cases a with
    |val a t=>
     simp only[Il,find,xY,qV,xZ];exact⟨Bm.explode h1,E3⟩
    |row t e=>
     simp only[Il,find,xY,qV,xZ];have a1:B j=v:=hB 0 v (by simp[D6,K9]);exact⟨⟨v,[],rfl,a1.symm,rfl⟩,fun c hc=>by simp at hc;subst hc;simp only[Lr]at hn;show j<n;omega⟩
    |box T t=>
     simp only[Il,find,xY,qV,xZ];have a1:B j=v:=hB 0 v (by simp[D6,K9]);obtain⟨b,us,g1,_⟩:=h1;exact⟨⟨v,[],rfl,⟨b,a1.trans g1,g1⟩,rfl⟩,fun c hc=>by simp at hc;subst hc;simp only[Lr]at hn;show j<n;omega⟩
    |rows t e e'=>
     simp only[Il,find,xY,qV,xZ];have a1:B j=v:=hB 0 v (by simp[D6,K9]);exact⟨⟨v,[],rfl,a1.symm,rfl⟩,fun c hc=>by simp at hc;subst hc;simp only[Lr]at hn;show j<n;omega⟩
    |fn a2 r'=>
     simp only[Il,find,xY,qV,xZ];exact⟨⟨v,[],rfl,h1,rfl⟩,fun c hc=>by simp at hc;subst hc;trivial⟩
  . have he:s-i=(s-(i+1))+1:=by omega
    rw[he];cases a with
    |val a t=>
     simp only[Il,find,E4 a0,rG,uJ];exact Iz (i:=i+1) (s:=s) h2 (by omega) hB hn
    |fn a2 r'=>
     simp only[Il,find,E4 a0,rG,uJ];exact Iz (i:=i+1) (s:=s) h2 (by omega) hB hn
    |row t e=>
     simp only[Il,find,E4 a0,rG,uJ];exact Iz (i:=i+1) (s:=s) h2 (by omega) (fun m u hm=>by rw[show j+1+m=j+(m+1)from by omega];exact hB (m+1) u (by simpa[D6,K9]using hm)) (by simp only[Lr]at hn;omega)
    |box t e=>
     simp only[Il,find,E4 a0,rG,uJ];exact Iz (i:=i+1) (s:=s) h2 (by omega) (fun m u hm=>by rw[show j+1+m=j+(m+1)from by omega];exact hB (m+1) u (by simpa[D6,K9]using hm)) (by simp only[Lr]at hn;omega)
    |rows t e e'=>
     simp only[Il,find,E4 a0,rG,uJ];exact Iz (i:=i+1) (s:=s) h2 (by omega) (fun m u hm=>by rw[show j+1+m=j+(m+1)from by omega];exact hB (m+1) u (by simpa[D6,K9]using hm)) (by simp only[Lr]at hn;omega)
def A1q {n:Nat} {U:Nat->Nat->Prop} :∀ {as:List AM} {vs:List Value} {x:A2 as} {j k:Nat},Ac P w Z as vs x->(∀m p,(P4 as vs)[m]? =some p->B (j+m)=p.2/\∀b,A9 w p.2 (lcA p.1) b->U (j+m) b)->
 RL (U k) w Z B k (find (0, .none) k (Er as x j)).2/\EP n (find (0, .none) k (Er as x j)).2/\(live (find (0, .none) k (Er as x j)).2->j<=k/\∃p,(P4 as vs)[k-j]? =some p/\∀b,A9 w (B k) (find (0, .none) k (Er as x j)).2 b->A9 w p.2 (lcA p.1) b):=by
 intro as
 induction as with
 |nil=>intro _ _ _ _ _ _;exact⟨trivial,trivial,fun h=>h.elim⟩
 |cons a r ih=>
  intro vs x j k h hB;obtain⟨v,a3,e,h1,h2⟩:=h;subst e;have a1:K9 a=true->j≠k->RL (U k) w Z B k (find (0, .none) k (Er r x.2 (j+1))).2/\EP n (find (0, .none) k (Er r x.2 (j+1))).2/\(live (find (0, .none) k (Er r x.2 (j+1))).2->j<=k/\∃p,(P4 (a::r) (v::a3))[k-j]? =some p/\∀b,A9 w (B k) (find (0, .none) k (Er r x.2 (j+1))).2 b->A9 w p.2 (lcA p.1) b):=fun hm a0=>by
   obtain⟨q1,q2,q3⟩:=ih (vs:=a3) (x:=x.2) (j:=j+1) (k:=k) h2 (fun m p hp=>by rw[show j+1+m=j+(m+1)from by omega];exact hB (m+1) p (by simpa[P4,hm]using hp));refine⟨q1,q2,fun hl=>⟨by have:=(q3 hl).1;omega, ?_⟩⟩;obtain⟨q4,p,q5,q6⟩:=q3 hl;refine⟨p, ?_,q6⟩;rw[show k-j=(k-(j+1))+1 from by omega];simpa[P4,hm]using q5
  cases a with
  |val a t=>exact ih (x:=x.2) h2 hB
  |fn a t=>exact ih (x:=x.2) h2 hB
  |row t e0=>
   simp only[Er,find];by_cases a0:j=k
   . subst a0;simp only[xY,qV];obtain⟨u,a2⟩:=hB 0 (.row t e0,v) (by simp[P4,K9]);obtain⟨xs,g1,g2,g3⟩:=h1;have u:B j=v:=u;refine⟨⟨xs,by rw[u];exact g1,g2,fun b hb=> ?_⟩,trivial,fun _=>⟨rC _,(.row t e0,v),by simp[P4,K9],fun b hb=>by rw[u]at hb;exact hb⟩⟩;rw[u]at hb;exact⟨a2 b ((F6 g1).trans hb),g3 b hb⟩
   . simp only[E4 a0,rG];exact a1 rfl a0
  |box T t=>
   simp only[Er,find];by_cases a0:j=k
   . subst a0;simp only[xY,qV];obtain⟨u,a2⟩:=hB 0 (.box T t,v) (by simp[P4,K9]);obtain⟨b,us,g1,g2,g3,g4⟩:=h1;have u:B j=v:=u;exact⟨⟨b,us,u.trans g1,a2 b (by rw[g1];rfl),g2,g3,U3 g4⟩,E3,fun _=>⟨rC _,(.box T t,v),by simp[P4,K9],fun b hb=>by rw[u]at hb;exact hb⟩⟩
   . simp only[E4 a0,rG];exact a1 rfl a0
  |rows t e0 e1=>
   simp only[Er,find];by_cases a0:j=k
   . subst a0;simp only[xY,qV];obtain⟨u,a2⟩:=hB 0 (.rows t e0 e1,v) (by simp[P4,K9]);obtain⟨g1,g2⟩:=h1;have u:B j=v:=u;refine⟨Kz.rl (by rw[u];exact g1) fun b hb=> ?_,fun p hp=>(by cases hp),fun _=>⟨rC _,(.rows t e0 e1,v),by simp[P4,K9],fun b hb=>by rw[u]at hb;exact(Ad fun _ _=>rfl).1 hb⟩⟩;rw[u]at hb;exact⟨a2 b ((Ad fun _ _=>rfl).1 hb),g2 b hb⟩
   . simp only[E4 a0,rG];exact a1 rfl a0
def Ac.len:∀ {as:List AM} {vs:List Value} {x:A2 as},Ac P w Z as vs x->vs.length=as.length
 | [],_,_,h=>by rw[show _= _ from h];rfl
 | _:: _,_,_,⟨v,a0,e,_,u⟩=>by rw[e,rH,rH,Ac.len u]
def Be:∀ {as:List AM} {vs:List Value},vs.length=as.length->(D6 as vs).length=Lr as
 | [],vs,_=>by cases vs<;>rfl
 |a::r,[],h=>by simp at h
 | .val _ _::r,v::vs,h=>Be (as:=r) (by simpa using h)
 | .fn _ _ _::r,v::vs,h=>Be (as:=r) (by simpa using h)
 | .row _ _::r,v::vs,h=>by simp only[D6,K9,qV,rH,Lr];rw[Be (as:=r) (by simpa using h)]
 | .box _ _::r,v::vs,h=>by simp only[D6,K9,qV,rH,Lr];rw[Be (as:=r) (by simpa using h)]
 | .rows _ _ _::r,v::vs,h=>by simp only[D6,K9,qV,rH,Lr];rw[Be (as:=r) (by simpa using h)]
def Ut:∀(as:List AM) (vs:List Value),D6 as vs=(P4 as vs).map (·.2)
 | [],vs=>by cases vs<;>rfl
 | _:: _,[]=>rfl
 |a::r,v::vs=>by
  simp only[D6,P4];cases K9 a
  . exact Ut r vs
  . simp only[qV,rU,Ut r vs]
def Dis.get:∀ {l:List (AM×Value)} {m m' b:Nat} {u u':AM×Value},Dis w l->m<m'->l[m]? =some u->l[m']? =some u'->A9 w u.2 (lcA u.1) b->¬A9 w u'.2 (lcA u'.1) b
 | [],_,_,_,_,_,_,_,h,_,_=>by simp at h
 |v::l,0,m'+1,b,u,u',hd,hm,h,h',hb=>by
  simp at h h';subst h;exact hd.1 b hb u' (sO h')
 |v::l,m+1,m'+1,b,u,u',hd,hm,h,h',hb=>by
  simp at h h';exact Dis.get hd.2 (by omega) h h' hb
 |v::l,_,0,_,_,_,_,hm,_,_,_=>by omega
def iZ (as:List AM) (vs:List Value):Nat->Value:=fun j=>((D6 as vs)[j]?).getD (.bool false)
def DD:∀ {as:List AM} {vs:List Value} {x:A2 as},Ac P w Z as vs x->∀u∈D6 as vs,u.oneCell'=true
 | [],vs,_,_,u,hu=>by cases vs<;>cases hu
 | .val _ _::r,_,_,⟨v,a0,e,_,h2⟩,u,hu=>by subst e;exact DD (as:=r) h2 u hu
 | .fn _ _ _::r,_,_,⟨v,a0,e,_,h2⟩,u,hu=>by subst e;exact DD (as:=r) h2 u hu
 | .row t e0::r,_,_,⟨v,a0,e,⟨xs,g,_⟩,h2⟩,u,hu=>by
  subst e;simp only[D6,K9,qV,qR]at hu;rcases hu with rfl|hu
  . rcases g.2 with⟨hv,_⟩ | ⟨_,_,_,hv,_⟩<;>rw[hv]<;>rfl
  . exact DD (as:=r) h2 u hu
 | .rows t e0 e1::r,_,_,⟨v,a0,e,⟨⟨xs,g,_⟩,_⟩,h2⟩,u,hu=>by
  subst e;simp only[D6,K9,qV,qR]at hu;rcases hu with rfl|hu
  . rcases g.2 with⟨hv,_⟩ | ⟨_,_,_,hv,_⟩<;>rw[hv]<;>rfl
  . exact DD (as:=r) h2 u hu
 | .box t e0::r,_,_,⟨v,a0,e,⟨b,us,g,_⟩,h2⟩,u,hu=>by
  subst e;simp only[D6,K9,qV,qR]at hu;rcases hu with rfl|hu
  . rw[g];rfl
  . exact DD (as:=r) h2 u hu
def Ja:∀ {as:List AM} {x:A2 as} {j k:Nat},¬live (find (0, .none) k (Er as x j)).2->(find (0, .none) k (Er as x j)).2= .none
 | [],_,_,_,_=>rfl
 | .val _ _::r,x,j,k,h=>Ja (as:=r) (x:=x.2) (j:=j) h
 | .fn _ _ _::r,x,j,k,h=>Ja (as:=r) (x:=x.2) (j:=j) h
 | .row t u::r,x,j,k,h=>by
  simp only[Er,find]at h⊢;cases hb:Nat.beq j k with
  |true=>rw[hb]at h;exact absurd trivial h
  |false=>rw[hb]at h;exact Ja (as:=r) h
 | .rows t u e1::r,x,j,k,h=>by
  simp only[Er,find]at h⊢;cases hb:Nat.beq j k with
  |true=>rw[hb]at h;exact absurd trivial h
  |false=>rw[hb]at h;exact Ja (as:=r) h
 | .box T t::r,x,j,k,h=>by
  simp only[Er,find]at h⊢;cases hb:Nat.beq j k with
  |true=>rw[hb]at h;exact absurd trivial h
  |false=>rw[hb]at h;exact Ja (as:=r) h
def C2y (w:World) (as:List AM) (vs:List Value):Nat->Nat->Prop:=fun k b=>∃p:AM×Value,(P4 as vs)[k]? =some p/\A9 w p.2 (lcA p.1) b
def zn0 (w:World) (Z:Nat->Prop) (as:List AM) (vs:List Value):Zn:=⟨Z,oA w as vs,Lr as,iZ as vs,0,0,C2y w as vs,fun _ _ ⟨p,hp,hb⟩=>⟨p,sO hp,hb⟩,[]⟩
def B6s {as:List AM} {vs:List Value} {x:A2 as} (hz:∀b,Z b->b<w.heap.size) (h:Ac P w Z as vs x) (hd:Dis w (P4 as vs)):C2 (zn0 w Z as vs) w (A1p P as x) (PY vs) w Z (iZ as vs):=by
 have a4:=Be (Ac.len h);have hB:∀m u,(D6 as vs)[m]? =some u->iZ as vs (0+m)=u:=fun m u hm=>by simp only[iZ,sP,hm,vX]
 have a0:∀(m:Nat) (p:AM×Value),(P4 as vs)[m]? =some p->(D6 as vs)[m]? =some p.2:=fun m p hm=>by rw[Ut,vC,hm];rfl
 have hT:=fun k=>A1q (P:=P) (w:=w) (Z:=Z) (B:=iZ as vs) (n:=Lr as) (U:=fun k b=>up (zn0 w Z as vs) w k b) (j:=0) (k:=k) h (fun m p hm=>⟨hB m p.2 (a0 m p hm),fun b hb=> .inr ⟨by have:=PT (a0 m p hm);simp only[sP];show m<Lr as;omega,p,by simpa using hm,hb⟩⟩)
 have hS:=fun s=>Iz (P:=P) (w:=w) (Z:=Z) (B:=iZ as vs) (E:=PY vs) (n:=Lr as) (i:=0) (j:=0) (s:=s) h (rP _) hB (by omega)
 refine⟨Ix.of (S7.refl w),hz,fun s=>(hS s).1,fun k=>(hT k).1,fun k k' b a6 l1 l2=> ?_,fun s=>(hS s).2,fun k=>(hT k).2.1,fun k hk=> ?_,fun k=> ?_,fun b hb=> .inl hb,⟨rfl,rC _⟩,fun _ _=>rfl,⟨rP _,fun _ _ _ _=>rP _⟩,trivial,fun f hf=>(by cases hf)⟩
 . obtain⟨_,p,a1,f1⟩:=(hT k).2.2 l1.live;obtain⟨_,p',a2,f2⟩:=(hT k').2.2 l2.live;simp only[g2k]at a1 a2;rcases sI k k' with a3|a5
   . exact hd.get a3 a1 a2 (f1 b l1) (f2 b l2)
   . exact hd.get (by omega:k'<k) a2 a1 (f2 b l2) (f1 b l1)
 . by_cases hl:live ((A1p P as x).L k)
   . obtain⟨_,p,a1,_⟩:=(hT k).2.2 hl;simp only[g2k]at a1;have:=PT (a0 k p a1);have hk:Lr as<=k:=hk;omega
   . exact Ja hl
 . simp only[iZ];cases hm:(D6 as vs)[k]? with
   |none=>rfl
   |some u=>exact DD h u (sO hm)
def B3a {f:FuncId} {fn:Func} {c:Code} {s:A5} (hf:cx.P.funcs[f]? =some fn) (hb:fn.body=some c) (hn:s.args.length<=fn.ntmps) (ah:Cl fn.ntmps c=true) (hty:H6 cx.P cx.tys=true) (hsp:Rb cx.P sp)
 (hv:∀x,awf s.args x->s.pre x->B7z cx sp an s fn.results.toList c x):A7 cx.P f s:=by
 intro w Z vs x hz a8 aa ad;have a4:vs.length=s.args.length:=a8.len;have af:=hv x a8.awf ad;generalize a3:zn0 w Z s.args vs=za;have a6:=B6s hz a8 aa;rw[a3]at a6;refine PS hf hb (by rw[a4];exact hn) ah (fun E w'=>Nx za w (fin cx s fn.results.toList x) E w') ?_ ⟨fun ab a hr=> ?_⟩
 . rintro E w' tmps ht ⟨st,Z',B',h,a1⟩;unfold fin at a1;split at a1
   . rename_i ss ai;split at a1
     . rename_i aj ag;split at a1
       . rename_i r o hr ho;obtain⟨a2,a0⟩:=B6 a1;simp only[qC]at a2;obtain⟨Z0,h0⟩:=C2.settleR (rs:=s.res) (ss:=ss) h;obtain⟨Z1,h1⟩:=C2.settleM (as:=s.args) (j:=0) h0;obtain⟨us,g1,g2⟩:=KY hty h1 ht ag;have ae:(results fn tmps).run cx.P w'= .ok (AS us) w':=by
          have hm:(fn.results.mapM (nA tmps)).run cx.P w'= .ok us.toArray w':=by
           rw[yV];simp[g1]
          have e:results fn tmps=(do let vs<-fn.results.mapM (nA tmps);pure (if h:vs.size=1 then vs[0]else .tuple vs)):=by
           unfold results;congr 1
          rw[e];simp only[Sem.run_bind,hm,Result.andThen_ok,Sem.run_pure]
          match us with
          | []=>rfl
          | [u]=>rfl
          |u::u'::r=>rfl
         have a5:s.post x r/\(O9 s.args=true->s.mpost x r o):=by
          unfold C2v at a0;cases hm:O9 s.args with
          |true=>simp only[hm,qV]at a0;exact⟨a0.1,fun _=>a0.2⟩
          |false=>simp only[hm,rG]at a0;exact⟨a0,fun hh=>by cases hh⟩
         refine⟨_,ae, ?_,r,o,us,(fun b=>s.shared=true/\Z1 b),a5.1,a5.2,rfl,fun b hb=> ?_, ?_, ?_⟩
         . have:=h.ext;rw[<-a3]at this;exact this
         . rcases h1.zin b hb.2 with hh|hh
           . rw[<-a3]at hh;exact .inr ⟨hb.1,hh⟩
           . exact .inl ⟨hh,h1.zlt b hb.2⟩
         . refine(Sc h1 (Zn:=fun b=>s.shared=true/\Z1 b) (fun b hb=>hb.2) ?_ g2 hr (Ju a2.1.1) a2.1.2).1;cases a9:s.shared with
           |true=>exact .inl fun b hb=>⟨rfl,hb⟩
           |false=>rw[a9]at a2;simp only[wO,qC]at a2;exact .inr a2.2.1
         . refine CV (Zn:=fun b=>s.shared=true/\Z1 b) h1 (j:=0) ?_ (fun m u hm=> ?_) (fun m p hm b hu=> ?_) a4 ho
           . cases a9:s.shared with
             |true=>exact .inl fun b hb=>⟨rfl,hb⟩
             |false=>rw[a9]at a2;simp only[wO,qC]at a2;exact .inr a2.2.2
           . have a7:=PT hm;rw[Be a4]at a7;have:=h1.bfix m (by rw[<-a3];exact a7);rw[sP,this, <-a3];show iZ s.args vs m=u;simp only[iZ,hm,vX]
           . rw[<-a3,sP]at hu;rcases hu with⟨hu,_⟩ | ⟨_,p',ac,hb⟩
             . have a7:=PT (show(D6 s.args vs)[m]? =some p.2 by rw[Ut,vC,hm];rfl);rw[Be a4]at a7;have hu:Lr s.args<=m:=hu;omega
             . rw[hm]at ac;cases ac;exact hb
       . exact a1.elim
     . exact a1.elim
   . exact a1.elim
 . refine wp_mono (A5w hty hsp (by rw[<-a3];rfl) a6 af ab a hr) ?_;rintro e a' w' ⟨E',hr',st',Z',B',h',hq⟩;refine⟨E',hr', ?_⟩;cases e with
   |normal=>exact⟨st',Z',B',h',hq⟩
   |ret=>exact⟨st',Z',B',h',hq⟩
   | _=>exact hq.elim
def nY {f:FuncId} {fn:Func} {c:Code} {s:A5} {vc:A2 s.args->Prop} (hf:cx.P.funcs[f]? =some fn) (hb:fn.body=some c) (hn:s.args.length<=fn.ntmps) (u:Cl fn.ntmps c=true) (hty:H6 cx.P cx.tys=true) (hsp:Rb cx.P sp)
 (he:∀x,B7z cx sp an s fn.results.toList c x=vc x) (hv:∀x,awf s.args x->s.pre x->vc x):A7 cx.P f s:=
 B3a hf hb hn u hty hsp fun x hw hp=>by rw[he];exact hv x hw hp
def C1m (P:Program) (tys:List (Nat×TI)) (sp:I5) (an:An) (s:A5) (fn:Func) (x:A2 s.args):Prop:=B7z ⟨P,tys⟩ sp an s fn.results.toList (fn.body.getD .skip) x
def B3b {P:Program} {tys:List (Nat×TI)} {sp:I5} {an:An} {f:FuncId} {fn:Func} {s:A5} {vc:A2 s.args->Prop} (hf:P.funcs[f]? =some fn) (hb:fn.body.isSome=true) (hn:Nat.ble s.args.length fn.ntmps=true) (a0:Cl fn.ntmps (fn.body.getD .skip)=true) (hty:H6 P tys=true) (hsp:Rb P sp)
 (he:∀x,C1m P tys sp an s fn x=vc x) (hv:∀x,awf s.args x->s.pre x->vc x):A7 P f s:=by
 cases u:fn.body with
 |none=>rw[u]at hb;cases hb
 |some c=>
  have hc:fn.body.getD .skip=c:=by rw[u];rfl
  refine nY (cx:=⟨P,tys⟩) (an:=an) (c:=c) hf u (qT hn) (by rw[<-hc];exact a0) hty hsp (fun x=> ?_) hv;rw[<-he x, <-hc];rfl
def DK (ct:Nat):Nat->List SV->List (Nat×Nat×DV)
 | _,[]=> []
 |i,s::ss=>(i,ct, .one s)::DK ct (i+1) ss
def jK (st:St) (ss:List SV):St:=⟨DK (st.ct+1) 0 ss,st.lc,st.nx,st.ct+1,st.nm,st.sl::st.fr⟩
def A2s (cx:Cx) (u:List ResultVar) (k:St->List SV->Prop) (st:St):Prop:=
 match st.fr with
 |f::fr=>(match AG cx st u with
  |some ss=>k ⟨f,st.lc,st.nx,st.ct,st.nm,fr⟩ ss
  |none=>False)
 | []=>False
def NV (cx:Cx) (a0:List (Nat×I5×An)) (u:List ResultVar) (c:Code) (n d:Nat) (st:St) (ss:List SV) (k:St->List SV->Prop):Prop:=
 match Ha d a0 with
 |some (sp,an)=>bif Nat.ble ss.length n then Oh cx sp an c ⟨A2s cx u k,fun _ _=>False,A2s cx u k⟩ (jK st ss)else False
 |none=>False
def eY {u:List ResultVar} {k k':St->List SV->Prop} {ss:List SV} {st':St} (ev:C3 (jK st ss) st') (h:A2s cx u k st') (hk:∀st' ss',C3 st st'->k st' ss'->k' st' ss'):A2s cx u k' st':=by
 unfold A2s at h⊢;cases hf:st'.fr with
 |nil=>rw[hf]at h;exact h
 |cons f fr=>
  rw[hf]at h;simp only at h⊢;split at h
  . have e:=ev.f;rw[hf]at e;have e:O2 (st.ct+1) st.sl f/\Bc (st.ct+1) st.fr fr:=e;refine hk _ _ ⟨rA (uT _) ev.ct,fun s h0 h1=> ?_,fun q h0 h1=>ev.l q h0 (yM h1),e.2.le (uT _)⟩ h;exact O2.find s e.1 (yM h1)
  . exact h
def B2b (a0:List (Nat×I5×An)) (u:List ResultVar) (c:Code) (n:Nat) {st:St} {d:Nat} {ss:List SV} {k k':St->List SV->Prop} (h:NV cx a0 u c n d st ss k) (hk:∀st' ss',C3 st st'->k st' ss'->k' st' ss'):NV cx a0 u c n d st ss k':=by
 unfold NV at h⊢;split at h
 . obtain⟨hb,h⟩:=B6 h;simp only[hb,qV];refine OV h fun e st' ev hh=> ?_
   cases e with
   |normal=>exact eY ev hh hk
   |ret=>exact eY ev hh hk
   | _=>exact hh
 . exact h
def QD (cx:Cx) (a0:List (Nat×I5×An)) (u:List ResultVar) (c:Code) (n:Nat):Inl:= {run:=NV cx a0 u c n,step:=B2b a0 u c n}
def LE {ct s:Nat} :∀ {ss:List SV} {i:Nat},(find (0, .dead) s (DK ct i ss)).2=if i<=s then(match ss[s-i]? with|some v=> .one v|none=> .dead)else .dead
 | [],i=>by simp[DK,find]
 |v::ss,i=>by
  simp only[DK,find];cases hb:Nat.beq i s with
  |true=>
   have:=qE hb;subst this;simp
  |false=>
   have u:i≠s:=vH hb;simp only[rG,LE (ss:=ss) (i:=i+1)];by_cases h1:i+1<=s
   . rw[qY h1,qY (by omega),show s-i=(s-(i+1))+1 from by omega,uJ]
   . rw[qO h1,qO (by omega)]
def Qy.len {w:World} {Z:Nat->Prop} {B:Nat->Value} :∀ {ss:List SV} {vs:List Value},Qy w Z B ss vs->vs.length=ss.length
 | [],_,h=>by rw[show _= _ from h];rfl
 | _:: _,_,⟨v,a0,e,_,u⟩=>by rw[e,rH,rH,Qy.len u]
def OP (h:C2 za w0 st E w Z B):∀ {a1:List ResultVar} {ss:List SV},AG cx st a1=some ss->∀s∈ss,Mr st.nx s
 | [],_,u=>by cases u;intro s u;cases u
 | .tmp t::r,ss,u=>by
  simp only[AG]at u;split at u
  . rename_i s1 a2;simp only[qN]at u;obtain⟨ss',a0,rfl⟩:=u;intro s hm;rcases qR.1 hm with rfl|hm
    . have:=h.refs t;rw[a2]at this;exact this
    . exact OP h a0 s hm
  . cases u
 | .cell a t::r,ss,u=>by
  simp only[AG,qI,bind_some]at u;obtain⟨ti,_,u⟩:=u;split at u
  . rename_i k _;split at u
    . rename_i T cs hk;obtain⟨_,u⟩:=E2 u;simp only[qN]at u;obtain⟨ss',a0,rfl⟩:=u;intro s hm;rcases qR.1 hm with rfl|hm
      . have:=h.refl k;rw[hk]at this;exact this
      . exact OP h a0 s hm
    . cases u
  . cases u
def A3s (P:Program) (u:List (Nat×I5×An)):Prop:=∀x∈u,Rb P x.2.1
def cW {α:Type} {d:Nat} {x:α} :∀ {l:List (Nat×α)},Ha d l=some x->(d,x)∈l
 | [],h=>by cases h
 | (t,y)::l,h=>by
  simp only[Ha]at h;cases hb:Nat.beq t d with
  |true=>
   rw[hb]at h;have:=qE hb;subst this;cases h;simp
  |false=>rw[hb]at h;exact qL _ (cW h)
def HA {f:FuncId} {fn:Func} {c:Code} {a0:List (Nat×I5×An)} (hf:cx.P.funcs[f]? =some fn) (hb:fn.body=some c) (af:Cl fn.ntmps c=true) (hty:H6 cx.P cx.tys=true) (hsp:A3s cx.P a0):PN cx.P f (QD cx a0 fn.results.toList c fn.ntmps):=by
 refine {go:= ?_};intro za w0 st E w Z B d ss vs k ab h a9 a7 hs;have hs:NV cx a0 fn.results.toList c fn.ntmps d st ss k:=hs;unfold NV at hs;split at hs
 . rename_i sp an ae;have hsp:=hsp _ (cW ae);simp only at hsp;obtain⟨a2,hs⟩:=B6 hs;have a2:=qT a2;have a5:=a9.len;have hS:∀s,(jK st ss).S s=match ss[s]? with|some v=> .one v|none=> .dead:=fun s=>by
    show(find (0, .dead) s (DK (st.ct+1) 0 ss)).2= _;rw[LE,qY (rP _)];rfl
   have h1:C2 {za with es:=E::za.es} w0 (jK st ss) (PY vs) w Z B:=by
    refine⟨h.ext,h.zlt,fun s=> ?_,h.locs,h.disj,fun s=> ?_,h.refl,h.fresh,h.bone,h.zin,h.nms,h.bfix,h.mrk,⟨h.slots,h.frs⟩,fun g hg s=> ?_⟩
    . rw[hS];cases hv:ss[s]? with
      |none=>trivial
      |some v=>
       obtain⟨u,h3,h4⟩:=a9.get hv;show RS w Z B v (PY vs s);simp only[PY,h3,vX];exact h4
    . rw[hS];cases hv:ss[s]? with
      |none=>trivial
      |some v=>exact a7 v (sO hv)
    . rcases qR.1 hg with rfl|hg
      . exact h.refs s
      . exact h.frf g hg s
   refine PS hf hb (by rw[a5];exact a2) af (fun E' w'=>Nx {za with es:=E::za.es} w0 (A2s cx fn.results.toList k) E' w') ?_ ⟨fun a6 a hr=> ?_⟩
   . rintro E' w' tmps ht ⟨st',Z',B',h',hp⟩;unfold A2s at hp;have a4:=h'.frs;have a1:=h'.frf;cases a3:st'.fr with
     |nil=>rw[a3]at hp;exact hp.elim
     |cons fl fr=>
      rw[a3]at hp a4 a1;simp only at hp;obtain⟨ac,ad⟩:=a4;split at hp
      . rename_i ss' aa;obtain⟨us,g1,g2⟩:=KY hty h' ht aa;have a8:(results fn tmps).run cx.P w'= .ok (AS us) w':=by
         have hm:(fn.results.mapM (nA tmps)).run cx.P w'= .ok us.toArray w':=by
          rw[yV];simp[g1]
         have e:results fn tmps=(do let vs<-fn.results.mapM (nA tmps);pure (if h:vs.size=1 then vs[0]else .tuple vs)):=by
          unfold results;congr 1
         rw[e];simp only[Sem.run_bind,hm,Result.andThen_ok,Sem.run_pure]
         match us with
         | []=>rfl
         | [u]=>rfl
         |u::u'::r=>rfl
        exact⟨_,a8,⟨fl,st'.lc,st'.nx,st'.ct,st'.nm,fr⟩,Z',B',ss',us,⟨h'.ext,h'.zlt,ac,h'.locs,h'.disj,fun s=>a1 fl (by simp) s,h'.refl,h'.fresh,h'.bone,h'.zin,h'.nms,h'.bfix,h'.mrk,ad,fun g hg s=>a1 g (by simp[hg]) s⟩,rfl,g2,OP h' aa,hp⟩
      . exact hp.elim
   . refine wp_mono (A5w hty hsp (by exact ab) h1 hs a6 a hr) ?_;rintro e a' w' ⟨E',hr',st',Z',B',h',hq⟩;refine⟨E',hr', ?_⟩;cases e with
     |normal=>exact⟨st',Z',B',h',hq⟩
     |ret=>exact⟨st',Z',B',h',hq⟩
     | _=>exact hq.elim
 . exact hs.elim
def Hc (run:Inl):A5:= {args:= [],res:= [],pre:=fun _=>False,post:=fun _ _=>True,inl:=some run}
end
end Go.Vc
namespace Go.Proofs.YthclcjfodjhmlaaGreat
open Go.IntKind (i64 u64 u32)
def nv:List Int->Nat
 | []=>0
 |a::l=>a.toNat+4294967296*nv l
def nc (n:Nat):List Int:=if h:n=0 then []else((n%4294967296:Nat):Int)::nc (n/4294967296)
termination_by n
decreasing_by omega
def iT (x:Int):Prop:=0<=x/\x<=4294967295
def A6 (l:List Int):Prop:=∀x∈l,iT x
def O7:nc 0= []:=by rw[nc];rfl
def OE {n:Nat} (h:n≠0):nc n=((n%4294967296:Nat):Int)::nc (n/4294967296):=by rw[nc];simp[h]
def F2 (n:Nat):nv (nc n)=n:=by
 induction n using Nat.strongRecOn with
 | _ n u=>
  by_cases h:n=0
  . subst h;rw[O7];rfl
  . rw[OE h];simp only[nv,u (n/4294967296) (by omega)];omega
def J1 (n:Nat):A6 (nc n):=by
 induction n using Nat.strongRecOn with
 | _ n u=>
  by_cases h:n=0
  . subst h;rw[O7];intro x hx;cases hx
  . rw[OE h];intro x hx;rcases qR.1 hx with rfl|hx
    . unfold iT;omega
    . exact u (n/4294967296) (by omega) x hx
def Zk {n:Nat} :nc n= []↔n=0:=by
 constructor
 . intro h;by_cases u:n=0
   . exact u
   . rw[OE u]at h;cases h
 . rintro rfl;exact O7
def A5d (a:Int) (m:Nat) (u:iT a) (h:a≠0\/m≠0):nc (a.toNat+4294967296*m)=a::nc m:=by
 unfold iT at u;rw[OE (by omega)];congr 1
 . omega
 . congr 1;omega
def Rt (a b:List Int):nv (a++b)=nv a+4294967296^a.length*nv b:=by
 induction a with
 |nil=>simp[nv]
 |cons x a u=>
  simp only[xT,nv,u,rH,sE];rw[tA, <-uL, <-sS,tI 4294967296 (4294967296^a.length)]
def Ru (n:Nat):nv (List.replicate n 0)=0:=by
 induction n with
 |zero=>rfl
 |succ n u=>simp[List.replicate_succ,nv,u]
def WL {a:Int} {l:List Int} :A6 (a::l)↔iT a/\A6 l:=by simp[A6]
def Hf {l:List Int} (h:A6 l):nv l<4294967296^l.length:=by
 induction l with
 |nil=>simp[nv]
 |cons a l u=>
  rw[WL]at h;have:=u h.2;have h1:=h.1;unfold iT at h1;simp only[nv,rH,sE];omega
def C3j {l:List Int} (h:A6 l) (hl:∀x,l.getLast? =some x->x≠0):nc (nv l)=l:=by
 induction l with
 |nil=>exact O7
 |cons a l u=>
  rw[WL]at h;simp only[nv];cases l with
  |nil=>
   have:=hl a rfl;rw[A5d a _ h.1 (.inl this)];simp only[nv,O7]
  |cons b l=>
   have u:=u h.2 (fun x hx=>hl x (by rw[List.getLast?_cons_cons];exact hx));have hn:nv (b::l)≠0:=by
    intro h0;rw[h0,O7]at u;cases u
   rw[A5d a _ h.1 (.inr hn),u]
def A5e {l:List Int} (h:A6 l) {n:Nat} (hn:n<=l.length) (hz:∀i x,n<=i->l[i]? =some x->x=0) (hl:n=0\/∃x,l[n-1]? =some x/\x≠0):l.take n=nc (nv l):=by
 have e:nv l=nv (l.take n):=by
  conv=>lhs;rw[<-uG n l]
  rw[Rt];have:l.drop n=List.replicate (l.length-n) 0:=by
   apply wA;intro i;rw[xF];by_cases hi:n+i<l.length
   . rw[qM hi,vD,qY (by omega)];rw[hz (n+i) l[n+i] (by omega) (qM hi)]
   . rw[rW (by omega),rW (by simp;omega)]
  rw[this,Ru];simp
 rw[e]
 symm
 apply C3j
 . intro x hx;exact h x (rV hx)
 . intro x hx;rw[List.getLast?_eq_getElem?,qW,sY hn]at hx;rcases hl with u| ⟨y,hy,a0⟩
   . subst u;simp at hx
   . rw[rY (by
      rcases vF n with u|u
      . subst u;simp at hx
      . omega),hy]at hx
     cases hx;exact a0
def He {n k:Nat} (h:n<4294967296^k):(nc n).length<=k:=by
 induction k generalizing n with
 |zero=>have:n=0:=by simpa using h
        subst this;rw[O7];exact rC _
 |succ k ih=>
  by_cases u:n=0
  . subst u;rw[O7];exact rP _
  . rw[OE u,rH];have:n/4294967296<4294967296^k:=by
     rw[tP (by decide)];rw[sE]at h;exact h
    have:=ih this;omega
def D0 {l:List Int} (h:A6 l):(nc (nv l)).length<=l.length:=He (Hf h)
def B3g {n k:Nat} (h:k<(nc n).length):4294967296^k<=n:=by
 rcases sI n (4294967296^k)with h1|h1
 . have:=He h1;omega
 . exact h1
def J8 {m n:Nat} (h:m<=n):(nc m).length<=(nc n).length:=by
 apply He;have:=Hf (J1 n);rw[F2]at this;omega
def Lx (n:Nat):n<4294967296^(nc n).length:=by
 have:=Hf (J1 n);rwa[F2]at this
def Qk (m n:Nat):(nc (m*n)).length<=(nc m).length+(nc n).length:=by
 apply He;rw[uY];have h1:=Lx m;have u:=Lx n;exact Nat.mul_lt_mul'' h1 u
def OD (m n:Nat):(nc (m+n)).length<=max (nc m).length (nc n).length+1:=by
 apply He;have h1:=Lx m;have u:=Lx n;have h3:4294967296^(nc m).length<=4294967296^(max (nc m).length (nc n).length):=sB (by decide) (Nat.le_max_left ..);have h4:4294967296^(nc n).length<=4294967296^(max (nc m).length (nc n).length):=sB (by decide) (g4y ..);rw[sE];omega
abbrev Li:=Bool×List Int
abbrev B7:=Li×List Int
def Db (a b:Nat):Int:=if a<b then -1 else if b<a then 1 else 0
def K8 (a b:Int):Int:=if a<b then -1 else if b<a then 1 else 0
def iv (x:Li):Int:=if x.1=true then -(nv x.2:Int)else(nv x.2:Int)
def ic (v:Int):Li:=(decide (v<0),nc v.natAbs)
def C1l (x:B7):Int:=if nv x.2=0 then 0 else(iv x.1).sign
def rv (x:B7):Rat:=mkRat (iv x.1) (nv x.2)
def rc (q:Rat):B7:=(ic q.num,nc q.den)
def I9 (x:B7):Prop:=nv x.1.2<2147483648/\nv x.2<2147483648
instance (x:B7):Decidable (I9 x):=by unfold I9;infer_instance
def Rs (x:B7):Int:=if nv x.2=0 then 0 else iv x.1
def Oe (x:B7):Int:=if nv x.2=0 then 1 else(nv x.2:Int)
def zi:Li:=(false,[])
def zr:B7:=((false,[]),[])
def ri (k:Int):B7:=(ic k,[1])
abbrev Ia (l:List Int):Prop:=l.length<=35184372088832
abbrev D9 (l:List Int):Prop:=l.length<=17592186044416
abbrev V8 (l:List Int):Prop:=l.length<=8796093022208
def D1 (x:B7):Prop:=x.1.2.length<=2199023255552/\x.2.length<=2199023255552
def Cy (a b:Li):Rat:=Rat.divInt (iv a) (iv b)
def K6 (n:Nat):Nat:=if n=0 then 0 else Nat.log2 n+1
def C0r (A B u0 u1 v0 v1:Int) (ev:Bool):Prop:=v0=0\/∃A' B':Int,A'=(if ev then u0*A-v0*B else v0*B-u0*A)/\B'=(if ev then v1*B-u1*A else u1*A-v1*B)/\0<=B'/\B'<=A'/\A=v1*A'+v0*B'/\B=u1*A'+u0*B'/\1<=v0/\1<=v1/\0<=u0/\0<=u1
def Nm (l:List Int):Prop:=l.getD (l.length-1) 0≠0
end Go.Proofs.YthclcjfodjhmlaaGreat
namespace Go.Proofs.YthclcjfodjhmlaaGreat
open Go.Vc Go.Gw
open Go.IntKind (i64 u64 u32)
def J5 (a b:Bool):L7 a true b=(a||b):=by cases a<;>rfl
def I3 (a b:Bool):L7 a b false=(a&&b):=by cases a<;>rfl
def wr {a:Int} (h1: -9223372036854775808<=a) (u:a<=9223372036854775807):i64.wrap a=a:=IntWalk.i64_in _ ⟨h1,u⟩
def wv {a:Int} (h: -9223372036854775808<=a/\a<=9223372036854775807):i64.wrap a=a:=wr h.1 h.2
def H1 {α:Type} {d:α} {l:List α} {i:Int} (u:0<=i) (h1:i<(l.length:Int)):gx d l i∈l:=sO (G9 u h1)
def E5 {α:Type} {d:α} {l:List α} {i:Int} (u:0<=i) (h1:i<(l.length:Int)):gx d l i=l.getD i.toNat d:=by
 have:=G9 (d:=d) u h1;rw[qF,this];rfl
def Ge {α:Type} {d:α} {l:List α} {q:α->Prop} {i:Int} (u:0<=i) (h1:i<(l.length:Int)) (hb:∀x∈l.take i.toNat,q x) (hq:q (gx d l i)):∀x∈l.take (i+1).toNat,q x:=by
 intro x hx;rw[show(i+1).toNat=i.toNat+1 from by omega,rS,G9 (d:=d) u h1]at hx;simp at hx;rcases hx with hx|rfl
 . exact hb x hx
 . exact hq
def D8 {α:Type} {l:List α} {i:Int} (h:(l.length:Int)<=i):l.take i.toNat=l:=qX (by omega)
def TV:u32.max=4294967295:=by decide
def TW:u32.min=0:=by decide
def DS:u64.max=18446744073709551615:=by decide
def kA:u64.min=0:=by decide
def CY:i64.max=9223372036854775807:=by decide
def Ul:i64.min= -9223372036854775808:=by decide
def A3 {l:List Int} (h:∀x∈l,u32.min<=x/\x<=u32.max):A6 l:=fun x hx=>by
 have:=h x hx;rw[TW,TV]at this;exact this
def Y5 {a:Int} (u:0<=a) (h1:a<=18446744073709551615):u64.wrap a=a:=IntWalk.u64_in _ ⟨u,h1⟩
def w32 {a:Int} (u:0<=a) (h1:a<=4294967295):u32.wrap a=a:=IntWalk.u32_in _ ⟨u,h1⟩
def Cr (a:Int):u32.wrap a=a%4294967296:=IntKind.wrap_u32 a
def Cs (a:Int):u64.wrap a=a%18446744073709551616:=IntKind.wrap_u64 a
def Ur {l:List Int} (h:A6 l) {i:Int} (u:0<=i) (h1:i<(l.length:Int)):0<=gx 0 l i/\gx 0 l i<=4294967295:=h _ (H1 u h1)
def QG {v:Int} (u:0<=v) (h1:v<18446744073709551616):(BitVec.ofInt 64 v).toNat=v.toNat:=by
 rw[xV];congr 1;omega
def XT {v b:Int} {k:Nat} (v0:0<=v) (v1:v<2^k) (b0:0<=b) (hb:b*2^k<18446744073709551616) (hv:v<18446744073709551616):(((BitVec.ofInt 64 v|||BitVec.ofInt 64 (b*2^k)).toNat:Nat):Int)=v+b*2^k:=by
 have u:0<=b*2^k:=tK b0 (Int.pow_nonneg (by decide));rw[BitVec.toNat_or,QG v0 hv,QG u hb];have e:(b*2^k).toNat=b.toNat<<<k:=by
  rw[g5a,g3w b0 (Int.pow_nonneg (by decide)),Int.toNat_pow_of_nonneg (by decide)];rfl
 have a0:v.toNat<2^k:=by
  have:(v.toNat:Int)<((2^k:Nat):Int):=by rw[sW v0,xL];exact v1
  exact sF.1 this
 rw[e,Nat.or_comm, <-g0p a0, <-e,wV,sW v0,sW u,Int.add_comm]
def KH {l:List Int} {i:Int} (u:0<=i) (h1:i<(l.length:Int)):nv (l.take (i+1).toNat)=nv (l.take i.toNat)+4294967296^i.toNat*(gx 0 l i).toNat:=by
 rw[show(i+1).toNat=i.toNat+1 from by omega,rS,G9 (d:=(0:Int)) u h1,zU,Rt,qW,sY (by omega)];simp[nv]
def W6 {l:List Int} {i:Int} (h0:0<=i) (h1:i<(l.length:Int)):l.drop i.toNat=gx 0 l i::l.drop (i+1).toNat:=by
 have h:=G9 (d:=(0:Int)) h0 h1;have u:i.toNat<l.length:=by omega
 rw[qM u]at h;rw[xJ u,show(i+1).toNat=i.toNat+1 from by omega];congr 1;exact wI h
def jE {a b:List Int} (ha:A6 a) (_:A6 b) (hl:a.length=b.length) {i:Int} (u:0<=i) (h1:i<(a.length:Int)) (he:a.drop (i+1).toNat=b.drop (i+1).toNat) (a1:gx 0 a i<gx 0 b i):nv a<nv b:=by
 have ea:nv a=nv (a.take i.toNat)+4294967296^i.toNat*nv (a.drop i.toNat):=by
  conv=>lhs;rw[<-uG i.toNat a,Rt,qW,sY (by omega)]
 have eb:nv b=nv (b.take i.toNat)+4294967296^i.toNat*nv (b.drop i.toNat):=by
  conv=>lhs;rw[<-uG i.toNat b,Rt,qW,sY (by omega)]
 have a0:=Ur ha u h1;have h2:nv (a.drop i.toNat)+1<=nv (b.drop i.toNat):=by
  rw[W6 u h1,W6 u (by omega),he];simp only[nv];omega
 have h3:nv (a.take i.toNat)<4294967296^i.toNat:=by
  have:=Hf (l:=a.take i.toNat) fun x hx=>ha x (rV hx)
  rwa[qW,sY (by omega)]at this
 have h4:=sU (4294967296^i.toNat) h2;rw[tA,yR]at h4;omega
def DE {m n:Nat} (h:(nc m).length<(nc n).length):m<n:=by
 rcases sI m n with h1|h1
 . exact h1
 . have:=J8 h1;omega
def Uu:nc 1= [1]:=by rw[OE (by decide)];simp[O7]
def C0y:nv [1]=1:=rfl
def jD:nv []=0:=rfl
def eD (n:Nat):Db n n=0:=by simp[Db]
def Ov {m n:Nat} (h:m<n):Db m n= -1:=by simp[Db,h]
def TN {m n:Nat} (h:n<m):Db m n=1:=by
 unfold Db;rw[qO (by omega),qY h]
def WZ {m n:Nat} :Db m n=0↔m=n:=by
 unfold Db;split
 . omega
 . split<;>omega
def J7 (v:Int):iv (ic v)=v:=by
 unfold iv ic;simp only[rT,F2];split<;>omega
def B1w {neg:Bool} {m:Nat} :ic (iv (neg,nc m))=(neg&&decide (m≠0),nc m):=by
 unfold ic iv;simp only[F2];cases neg
 . simp
 . simp only[g0l,xO,Prod.mk.injEq,uZ];constructor
   . omega
   . congr 1;omega
def C2z {x:Li} :ic (iv x)=(x.1&&decide (nv x.2≠0),nc (nv x.2)):=by
 have:iv x=iv (x.1,nc (nv x.2)):=by unfold iv;simp only[F2]
 rw[this,B1w]
def C1i (k:Int):nv (ri k).2=1:=rfl
def jL (k:Int):rc (k:Rat)=ri k:=by
 unfold rc ri;rw[g2t,g2r,Uu]
def fD (k:Int):rv (ri k)=(k:Rat):=by
 unfold rv;rw[C1i];show mkRat (iv (ic k)) 1= _;rw[J7];exact Rat.mkRat_one k
def F9 (q:Rat):rv (rc q)=q:=by
 unfold rv rc;simp only[J7,F2];exact g3m q
def B7u (x:B7):C1l x=(rv x).num.sign:=by
 unfold C1l rv;split
 . rename_i h;rw[h,yS];rfl
 . rename_i h;rw[Rat.num_mkRat,qO h];have hg:(0:Int)<(((nv x.2).gcd (iv x.1).natAbs:Nat):Int):=by
    have:=g1y (iv x.1).natAbs (sX h);omega
   have hd:(((nv x.2).gcd (iv x.1).natAbs:Nat):Int)∣iv x.1:=xW.2 (yL ..);obtain⟨c,u⟩:=hd;generalize (((nv x.2).gcd (iv x.1).natAbs:Nat):Int)=g at hg u;rw[u,xP _ (by omega),g4k,uA hg,Int.one_mul]
def Ou {x:Int} {d:Nat} (u:d≠0):(mkRat x d).num=x/((d.gcd x.natAbs:Nat):Int)/\(mkRat x d).den=d/d.gcd x.natAbs:=by
 rw[Rat.num_mkRat,Rat.den_mkRat,qO u,qO u];exact⟨rfl,rfl⟩
def dg (l:List Int) (i:Nat):Nat:=(l.getD i 0).toNat
def I7 (l:List Int) (i:Nat):nv (l.take (i+1))=nv (l.take i)+4294967296^i*dg l i:=by
 unfold dg;by_cases h:i<l.length
 . have:=KH (l:=l) (i:=(i:Int)) (by omega) (by omega);rw[show((i:Int)+1).toNat=i+1 from by omega,qK]at this;rw[this,E5 (by omega) (by omega),qK]
 . rw[qX (by omega),qX (by omega),qF,rW (by omega)];simp
def M5 {l:List Int} (h:A6 l) (i:Nat):dg l i<=4294967295:=by
 unfold dg;by_cases hi:i<l.length
 . rw[qF,qM hi];have:=h l[i] (vV hi);unfold iT at this;simp only[vX];omega
 . rw[qF,rW (by omega)];simp
def Gg {l:List Int} (h:A6 l) {i:Int} (u:0<=i) (h1:i<(l.length:Int)):gx 0 l i=(dg l i.toNat:Int):=by
 have:=Ur h u h1;unfold dg;rw[<-E5 (d:=(0:Int)) u h1];omega
def Aa {l:List Int} (h:A6 l) {i:Nat} :l.getD i 0=(dg l i:Int):=by
 unfold dg;by_cases hi:i<l.length
 . have:=h l[i] (vV hi);unfold iT at this;rw[qF,qM hi];simp only[vX];omega
 . rw[qF,rW (by omega)];rfl
def Qe {l:List Int} {i:Nat} (h:l.length<=i):dg l i=0:=by
 unfold dg;rw[qF,rW h];rfl
def S6 {l:List Int} {i:Nat} {v:Int} (h:i<l.length):nv ((l.set i v).take (i+1))=nv (l.take i)+4294967296^i*v.toNat:=by
 rw[I7,zC (rC _)];unfold dg;rw[qF,tC h];rfl
def Kt:∀ {l:List Int} {k:Nat} {v:Int},k<l.length->nv (l.set k v)+4294967296^k*dg l k=nv l+4294967296^k*v.toNat
 | [],_,_,h=>by simp at h
 |a::l,0,v,_=>by simp[nv,dg];omega
 |a::l,k+1,v,h=>by
  have u:=Kt (l:=l) (k:=k) (v:=v) (by simpa using h);have e:dg (a::l) (k+1)=dg l k:=by simp[dg]
  rw[e];simp only[g4e,nv,sE];generalize nv (l.set k v)=A at*;have e1:4294967296^k*4294967296*dg l k=4294967296*(4294967296^k*dg l k):=by rw[tI (4294967296^k) 4294967296,sS]
  have e2:4294967296^k*4294967296*v.toNat=4294967296*(4294967296^k*v.toNat):=by rw[tI (4294967296^k) 4294967296,sS]
  rw[e1,e2,uL,uL, <-tA, <-tA,u]
def dU {l:List Int} {k:Nat} {v:Int} (h:A6 l) (u:iT v):A6 (l.set k v):=fun x hx=>by
 rcases g1l hx with hx|hx
 . exact h x hx
 . rw[hx];exact u
def Yw {l:List Int} {k i:Nat} {v:Int} (u:k<l.length):dg (l.set k v) i=if i=k then v.toNat else dg l i:=by
 unfold dg;rw[qF,wB];by_cases h:k=i
 . subst h;rw[qY rfl,qY u,qY rfl];rfl
 . rw[qO h,qO (fun e=>h e.symm),qF]
def JX (n i:Nat):dg (List.replicate n 0) i=0:=by
 unfold dg;rw[qF,vD];split<;>rfl
def QF {l:List Int} {i:Nat} (h:∀j,i<=j->dg l j=0):nv (l.take i)=nv l:=by
 have key:∀k,nv (l.take (i+k))=nv (l.take i):=by
  intro k
  induction k with
  |zero=>rfl
  |succ k u=>rw[<-uL,I7,u,h (i+k) (by omega),wQ,tD]
 rw[<-key l.length,qX (by omega)]
def eK {P A B o c a b s c':Nat} (h:o+P*c=A+B) (u:s+4294967296*c'=c+a+b):(o+P*s)+(P*4294967296)*c'=(A+P*a)+(B+P*b):=by
 have:=tN (P* ·) u;simp only[tA, <-sS]at this;omega
def XA {P A B o c a b s c':Nat} (h:A+P*c=o+B) (u:a+4294967296*c'=s+b+c):(A+P*a)+(P*4294967296)*c'=(o+P*s)+(B+P*b):=by
 have:=tN (P* ·) u;simp only[tA, <-sS]at this;omega
def A8e {a b:List Int} (ha:A6 a) (hb:A6 b):nv a+nv b<4294967296^(max a.length b.length+1):=by
 have hA:=Hf ha;have hB:=Hf hb;have u:4294967296^a.length<=4294967296^(max a.length b.length):=sB (by decide) (Nat.le_max_left ..);have a0:4294967296^b.length<=4294967296^(max a.length b.length):=sB (by decide) (g4y ..);rw[sE];generalize 4294967296^(max a.length b.length)=P at*;omega
def GR {P c x:Nat} (h:P*c<=x) (hx:x<P):c=0:=by
 rcases vF c with h1|h1
 . exact h1
 . have:=sU P h1;omega
def Kr (l:List Int):iv (false,l)=(nv l:Int):=rfl
def WK (l:List Int):iv (true,l)= -(nv l:Int):=rfl
def B2i (b:Bool) (l:List Int):iv (!b,l)= -iv (b,l):=by
 cases b
 . rfl
 . show(nv l:Int)= - -(nv l:Int);omega
def Ae (v:Int):(ic v).2.length=(nc v.natAbs).length:=rfl
def A1n:ic 1=(false,[1]):=by unfold ic;rw[show(1:Int).natAbs=1 from rfl,Uu];rfl
def iE:ic 0=(false,[]):=by unfold ic;rw[show(0:Int).natAbs=0 from rfl,O7];rfl
def A5o:rc 0=((false,[]),[1]):=by
 unfold rc;rw[Rat.zero_num,Rat.zero_den,iE,Uu]
def lX {a:Li} {b:Li} (h:iv b=1):Cy a b=((iv a:Int):Rat):=by
 unfold Cy;rw[h];have:=g0j (iv a) 1;rw[show((1:Nat):Int)=1 from rfl]at this;rw[this];exact Rat.mkRat_one _
def A6x {a:Li} {b:Li} (h:iv b=0):Cy a b=0:=by
 unfold Cy;rw[h,Rat.divInt_zero]
def B7v (x:B7):Cy x.1 (false,x.2)=rv x:=by
 unfold Cy rv;rw[Kr,g0j]
end Go.Proofs.YthclcjfodjhmlaaGreat
namespace Go.Proofs.YthclcjfodjhmlaaGreat
open Go.IntKind (i64 u64 u32)
structure aO (U V v1 v2 t u2 P:Nat):Prop where
 pos:0<P
 v1p:0<v1
 v1b:v1<4294967296
 v2b:v2<4294967296
 u2b:u2<4294967296
 vlo:(v1*4294967296+v2)*P<=V
 vhi:V<(v1*4294967296+v2+1)*P
 ulo:(t*4294967296+u2)*P<=U
 uhi:U<(t*4294967296+u2+1)*P
 lt:U<V*4294967296
variable {U V v1 v2 t u2 P:Nat}
def aO.vpos (h:aO U V v1 v2 t u2 P):0<V:=by
 have h1:=h.vlo;have u:0<(v1*4294967296+v2)*P:=g5e (by have:=h.v1p;omega) h.pos;omega
def aO.quo (h:aO U V v1 v2 t u2 P):U/V<4294967296:=by
 rw[tP h.vpos,tI];exact h.lt
def A4v {a b c P Q:Nat} (hP:0<P) (h:a*P<=Q) (hq:Q<(b+1)*P) (hc:c<=a):c<=b:=by
 have h1:c*P<=a*P:=rN _ hc;have u:c*P<(b+1)*P:=by omega
 have:=xG u;omega
def aO.top (h:aO U V v1 v2 t u2 P):t*4294967296+u2<(v1*4294967296+v2+1)*4294967296:=by
 have h1:=h.ulo;have h2:=h.lt;have h3:=rN 4294967296 (wD h.vhi);have u:(t*4294967296+u2)*P<((v1*4294967296+v2+1)*4294967296)*P:=by
  have h5:V*4294967296<(v1*4294967296+v2+1)*P*4294967296:=xC h.vhi (by decide);rw[zT];omega
 exact xG u
def aO.t_le (h:aO U V v1 v2 t u2 P):t<=v1*4294967296+v2:=by
 have:=h.top;omega
def aO.est (h:aO U V v1 v2 t u2 P):U/V*v1<=t:=by
 have h1:U/V*V<=U:=zD U V;have u:U/V*(v1*4294967296+v2)*P<=U:=by
  rw[sS];exact rA (sU _ h.vlo) h1
 have h3:U/V*(v1*4294967296+v2)<=t*4294967296+u2:=A4v h.pos u h.uhi (rC _);rw[tA, <-sS]at h3;have:=h.u2b;omega
def aO.dec (h:aO U V v1 v2 t u2 P) {d r:Nat} (ht:t=d*v1+r) (hq:U/V<=d) (hb:4294967296<=d\/r*4294967296+u2<d*v2):U/V+1<=d:=by
 rcases sI (U/V) d with h1|h1
 . omega
 . exfalso;have he:U/V=d:=by omega
   rcases hb with hb|hb
   . have:=h.quo;omega
   . have h1:d*V<=U:=by rw[<-he];exact zD U V
     have u:d*(v1*4294967296+v2)*P<=U:=by
      rw[sS];exact rA (sU _ h.vlo) h1
     have h3:d*(v1*4294967296+v2)<=t*4294967296+u2:=A4v h.pos u h.uhi (rC _);rw[tA, <-sS,ht,uQ]at h3;omega
def aO.near (h:aO U V v1 v2 t u2 P) {d r:Nat} (ht:t=d*v1+r) (hd:d<4294967296) (a0:d*v2<=r*4294967296+u2):d<=U/V+1:=by
 have h1:=h.ulo;have h2:d*(v1*4294967296+v2)<=t*4294967296+u2:=by
  rw[ht,uQ,tA, <-sS];omega
 have h3:d*(v1*4294967296+v2)*P<=U:=rA (rN _ h2) h1;have h4:d*V<=d*((v1*4294967296+v2+1)*P):=sU _ (wD h.vhi);have h5:d*((v1*4294967296+v2+1)*P)=d*(v1*4294967296+v2)*P+d*P:=by
  rw[<-sS,tA d,yR,uQ]
 have h6:d*P<V:=by
  have h7:d*P<4294967296*P:=xC hd h.pos;have h8:4294967296*P<=(v1*4294967296+v2)*P:=rN _ (by have:=h.v1p;omega);have:=h.vlo;omega
 have h9:d*V<U+V:=zS (rA h4 (g4n h5)) (Nat.add_lt_add_of_le_of_lt h3 h6);rcases vF d with h0|h0
 . rw[h0];exact rP _
 . have u:(d-1)*V<U:=by
    have:d*V=(d-1)*V+V:=by
     conv=>lhs;rw[show d=d-1+1 from by omega,uQ,xD]
    omega
   have:=(vB h.vpos).2 (wD u);omega
def aO.out (h:aO U V v1 v2 t u2 P) {d r:Nat} (ht:t=d*v1+r) (hr:4294967296<=r) (hd:U/V<=d):d<4294967296/\d*v2<=r*4294967296+u2:=by
 have h1:=h.t_le;have h2:=h.v2b;have a0:d<4294967296:=by
  rcases sI d 4294967296 with u|u
  . exact u
  . have:=rN v1 u;rw[tI 4294967296]at this;omega
 refine⟨a0, ?_⟩;have u:d*v2<=4294967295*4294967295:=yQ (by omega) (by omega);omega
end Go.Proofs.YthclcjfodjhmlaaGreat
namespace Go.Proofs.YthclcjfodjhmlaaGreat
open Go.Vc Go.Gw
open Go.IntKind (i64 u64 u32)
def CL:K6 0=0:=rfl
def gC (n:Nat):n<2^K6 n:=by
 unfold K6;split
 . rename_i h;subst h;decide
 . exact Nat.lt_log2_self
def CK {n:Nat} (h:n≠0):2^(K6 n-1)<=n/\1<=K6 n:=by
 unfold K6;rw[qO h,Nat.add_sub_cancel];exact⟨Nat.log2_self_le h,by omega⟩
def B5y {n k:Nat} (u:2^k<=n) (h1:n<2^(k+1)):K6 n=k+1:=by
 have hp:0<2^k:=tR (by decide);unfold K6;rw[qO (by omega)];congr 1;exact(Nat.log2_eq_iff (by omega)).2 ⟨u,h1⟩
def JU {n k:Nat} (h:2^k<=n):K6 n=K6 (n/2^k)+k:=by
 have u:0<2^k:=tR (by decide);have hm:n/2^k≠0:=by
  have:1<=n/2^k:=(vB u).2 (by omega);omega
 obtain⟨h1,h2⟩:=CK hm;have h3:=gC (n/2^k);have e:K6 (n/2^k)+k=(K6 (n/2^k)-1+k)+1:=by omega
 rw[e];apply B5y
 . rw[uY];have:=(vB u).1 h1;exact this
 . rw[show K6 (n/2^k)-1+k+1=K6 (n/2^k)+k from by omega,uY];exact(tP u).1 h3
def Yu (p q:Rat):Int:=if p<q then -1 else if q<p then 1 else 0
def VA {a b:Int} {c d:Nat} (u:c≠0) (hd:d≠0):Yu (mkRat a c) (mkRat b d)=K8 (a*d) (b*c):=by
 have key:∀ {a b:Int} {c d:Nat},c≠0->d≠0->(mkRat a c<mkRat b d↔a*d<b*c):=fun {a b c d} u hd=>by
  have hc':(0:Rat)<(c:Rat):=g2s.2 (sX u);have a0:(0:Rat)<(d:Rat):=g2s.2 (sX hd);rw[g0k,g0k,Rat.div_lt_iff hc',tY,vP,g0z _ (c:Rat), <-vP, <-tY,Rat.lt_div_iff a0];have:(a:Rat)*(d:Rat)=((a*(d:Int):Int):Rat):=by rw[Rat.intCast_mul];rfl
  have h2:(b:Rat)*(c:Rat)=((b*(c:Int):Int):Rat):=by rw[Rat.intCast_mul];rfl
  rw[this,h2,Rat.intCast_lt_intCast]
 unfold Yu K8;simp only[key u hd,key hd u]
def A6o {p q:Rat} (h:p.num.sign≠q.num.sign):Yu p q=K8 p.num.sign q.num.sign:=by
 have hp:=g3l p;have hq:=g3l q;have e:Yu p q=K8 (p.num*q.den) (q.num*p.den):=by
  have:=VA (a:=p.num) (b:=q.num) p.den_nz q.den_nz;rwa[g3m,g3m]at this
 rw[e];have s1:(p.num*(q.den:Int)).sign=p.num.sign:=by rw[g4k,uA (show(0:Int)<q.den by omega),Int.mul_one]
 have s2:(q.num*(p.den:Int)).sign=q.num.sign:=by rw[g4k,uA (show(0:Int)<p.den by omega),Int.mul_one]
 rw[<-s1, <-s2]at h⊢;generalize p.num*(q.den:Int)=x at*;generalize q.num*(p.den:Int)=y at*;have key:∀z:Int,(z<0/\z.sign= -1)\/(z=0/\z.sign=0)\/(0<z/\z.sign=1):=fun z=>by
  rcases zY z 0 with h|h|h
  . exact .inl ⟨h,vZ h⟩
  . exact .inr (.inl ⟨h,by rw[h];rfl⟩)
  . exact .inr (.inr ⟨h,uA h⟩)
 unfold K8;rcases key x with⟨h1,u⟩ | ⟨h1,u⟩ | ⟨h1,u⟩<;>rcases key y with⟨h3,h4⟩ | ⟨h3,h4⟩ | ⟨h3,h4⟩<;>rw[u,h4]at h⊢ <;>first|exact absurd rfl h| (split<;>(try split)<;>(try split)<;>(try split)<;>omega)
end Go.Proofs.YthclcjfodjhmlaaGreat
namespace Go.Proofs.YthclcjfodjhmlaaGreat
open Go.IntKind (i64 u64 u32)
structure Leh (X Y w x y u0 u1 u2 v0 v1 v2:Int) (ev:Bool):Prop where
 yx:y<=x
 y0:0<=y
 x0:0<x
 u10:0<=u1
 u20:0<=u2
 v10:0<=v1
 v20:1<=v2
 uv2:u2<=v2
 ex:x=if ev then v1*Y-u1*X else u1*X-v1*Y
 ey:y=if ev then u2*X-v2*Y else v2*Y-u2*X
 idX:x*v2+y*v1=X
 idY:x*u2+y*u1=Y
 det:u1*v2-u2*v1=if ev then -1 else 1
 /--At the start,or with what the cofactors before need. -/
 back:(u0=0/\u1=1/\v0=0/\v1=0/\ev=false/\u2=0/\v2=1)\/(0<=u0/\0<=v0/\u1<=v1/\v1<=x/\u0<=w/\v0<=w/\w-x>=v0+v1/\(v0=0\/u0<=v0)/\1<=v1/\
  w=(if ev then u0*X-v0*Y else v0*Y-u0*X)/\(u0*v1-u1*v0=if ev then 1 else -1))
def Leh.start {X Y:Int} (hY:0<=Y) (h:Y<=X) (u:0<X):Leh X Y 0 X Y 0 1 0 0 0 1 false where
 yx:=h
 y0:=hY
 x0:=u
 u10:=by decide
 u20:=by decide
 v10:=by decide
 v20:=by decide
 uv2:=by decide
 ex:=by simp
 ey:=by simp
 idX:=by omega
 idY:=by omega
 det:=by simp
 back:= .inl ⟨rfl,rfl,rfl,rfl,rfl,rfl,rfl⟩
def Leh.step {X Y w x y u0 u1 u2 v0 v1 v2:Int} {ev:Bool} (h:Leh X Y w x y u0 u1 u2 v0 v1 v2 ev) (c1:v2<=y) (c2:v1+v2<=x-y):Leh X Y x y (x%y) u1 u2 (u1+x/y*u2) v1 v2 (v1+x/y*v2) (!ev):=by
 have hv:=h.v20;have hy:0<y:=by omega
 have a8:1<=x/y:=by
  rw[g2g hy];have:=h.yx;omega
 have aa:=g2n x (b:=y) (by omega);have ab:=zQ x hy;have ad:x=y*(x/y)+x%y:=(yD x y).symm;have he:x%y=x-x/y*y:=by rw[g2i (x/y)];omega
 have a5:=h.idX;have a6:=h.idY;have a1:=h.det;have u:=h.ex;have a0:=h.ey;have a3:=h.u20;have a2:=h.u10;have a7:=h.v10;have a4:=h.uv2;generalize x/y=q at*;have a9:0<=q*u2:=tK (by omega) a3;have ae:1*v2<=q*v2:=sL a8 (by omega);have ac:q*u2<=q*v2:=tV a4 (by omega);refine⟨xM ab,aa,hy,a3,Int.add_nonneg a2 a9,by omega,by omega, ?_, ?_, ?_, ?_, ?_, ?_, .inr ⟨a2,a7,a4,c1, ?_,by omega,by omega, ?_,hv, ?_, ?_⟩⟩
 . rcases h.back with⟨_,b1,_,b2,_,b3,b4⟩ | ⟨_,_,b1,_⟩
   . subst b3 b4;omega
   . omega
 . cases ev<;>simpa using a0
 . rw[he];cases ev
   . simp only[g1c,xO,vT,yU]at u a0⊢;rw[u,a0];grind
   . simp only[zH,xO,vT,yU]at u a0⊢;rw[u,a0];grind
 . rw[he, <-a5];grind
 . rw[he, <-a6];grind
 . have e1:u2*(v1+q*v2)-(u1+q*u2)*v2= -(u1*v2-u2*v1):=by
    grind
   rw[e1,a1];cases ev<;>simp
 . rcases h.back with⟨_,b1,_,b2,_⟩ | ⟨_,_,b1,_⟩<;>omega
 . rcases h.back with⟨_,b1,_,b2,_⟩ | ⟨_,_,b1,_⟩
   . exact .inl b2
   . exact .inr b1
 . cases ev<;>simpa using u
 . rw[a1];cases ev<;>simp
def Leh.apply {X Y w x y u0 u1 u2 v0 v1 v2:Int} {ev:Bool} (h:Leh X Y w x y u0 u1 u2 v0 v1 v2 ev) (a4:v0≠0) {P α β A B:Int} (hP:0<P) (a2:0<=α) (a9:α<P) (a3:0<=β) (aa:β<P) (hA:A=X*P+α) (hB:B=Y*P+β):
 ∃A' B':Int,A'=(if ev then u0*A-v0*B else v0*B-u0*A)/\B'=(if ev then v1*B-u1*A else u1*A-v1*B)/\0<=B'/\B'<=A'/\A=v1*A'+v0*B'/\B=u1*A'+u0*B'/\1<=v0/\1<=v1/\0<=u0/\0<=u1:=by
 rcases h.back with⟨_,_,b2,_⟩ | ⟨a0,b0,a6,vx,uw,vw,a8,a5,v1p,ew,det⟩
 . exact absurd b2 a4
 have a7:u0<=v0:=a5.resolve_left a4;have a1:=h.u10;refine⟨_,_,rfl,rfl, ?_, ?_, ?_, ?_,by omega,v1p,a0,a1⟩
 . --the second combination is not negative
   have u:=h.ex;have h1:0<=(x-v1)*P:=tK (by omega) (by omega);have h2:0<=u1*α:=tK a1 a2;have h3:v1*β<=v1*P:=tV (by omega) (by omega);have h4:0<=v1*β:=tK (by omega) a3;have h5:u1*α<=u1*P:=tV (by omega) a1;have h6:u1*P<=v1*P:=sL a6 (by omega);rw[Int.sub_mul]at h1;cases ev
   . simp only[vT,yU]at u⊢;have:u1*A-v1*B=x*P+u1*α-v1*β:=by
      rw[hA,hB,u];grind
     omega
   . simp only[xO]at u⊢;have:v1*B-u1*A=x*P+v1*β-u1*α:=by
      rw[hA,hB,u];grind
     omega
 . have u:=h.ex;have h1:0<=(w-x-(v0+v1))*P:=tK (by omega) (by omega);have h2:0<=(u0+u1)*α:=tK (by omega) a2;have h3:(v0+v1)*β<=(v0+v1)*P:=tV (by omega) (by omega);have h4:0<=(v0+v1)*β:=tK (by omega) a3;have h5:(u0+u1)*α<=(u0+u1)*P:=tV (by omega) (by omega);have h6:(u0+u1)*P<=(v0+v1)*P:=sL (by omega) (by omega);rw[Int.sub_mul]at h1;cases ev
   . simp only[vT,yU]at u ew⊢;have:v0*B-u0*A-(u1*A-v1*B)=(w-x)*P+(v0+v1)*β-(u0+u1)*α:=by
      rw[hA,hB,u,ew];grind
     omega
   . simp only[xO]at u ew⊢;have:u0*A-v0*B-(v1*B-u1*A)=(w-x)*P+(u0+u1)*α-(v0+v1)*β:=by
      rw[hA,hB,u,ew];grind
     omega
 . cases ev
   . simp only[vT,yU]at det⊢;have:v1*(v0*B-u0*A)+v0*(u1*A-v1*B)= -(u0*v1-u1*v0)*A:=by
      grind
     rw[this,det];omega
   . simp only[xO]at det⊢;have:v1*(u0*A-v0*B)+v0*(v1*B-u1*A)=(u0*v1-u1*v0)*A:=by
      grind
     rw[this,det];omega
 . cases ev
   . simp only[vT,yU]at det⊢;have:u1*(v0*B-u0*A)+u0*(u1*A-v1*B)= -(u0*v1-u1*v0)*B:=by
      grind
     rw[this,det];omega
   . simp only[xO]at det⊢;have:u1*(u0*A-v0*B)+u0*(v1*B-u1*A)=(u0*v1-u1*v0)*B:=by
      grind
     rw[this,det];omega
def B1r {A B A' B' u0 u1 v0 v1 s t p q:Int} (h1:A=v1*A'+v0*B') (u:B=u1*A'+u0*B') (h3:A'=s*A+t*B) (h4:B'=p*A+q*B):Int.gcd A B=Int.gcd A' B':=by
 apply Nat.dvd_antisymm
 . apply Int.dvd_gcd
   . rw[h3];exact g3c (uS (g0g ..)) (uS (zX ..))
   . rw[h4];exact g3c (uS (g0g ..)) (uS (zX ..))
 . apply Int.dvd_gcd
   . rw[h1];exact g3c (uS (g0g ..)) (uS (zX ..))
   . rw[u];exact g3c (uS (g0g ..)) (uS (zX ..))
end Go.Proofs.YthclcjfodjhmlaaGreat
namespace Go.Proofs.YthclcjfodjhmlaaGreat
open Go.Vc Go.Gw
open Go.IntKind (i64 u64 u32)
def DP {s:Nat} (u:s<=32):4294967296=2^s*2^(32-s):=by
 rw[<-uY,show s+(32-s)=32 from by omega]
def Ma (n:Nat):4294967296^n=2^(32*n):=by
 rw[show(4294967296:Nat)=2^32 from rfl, <-Nat.pow_mul]
def B8v {a low lo H P s:Nat} (hP:0<P) (ha:a=low+lo*P+H*(P*4294967296)) (u:low<P) (hs:s<=31):a*2^s/(P*4294967296)=H*2^s+lo/2^(32-s):=by
 have hQ:0<P*4294967296:=g5e hP (by decide);have h2:0<2^s:=tR (by decide);have e:a*2^s=(low+lo*P)*2^s+H*2^s*(P*4294967296):=by
  rw[ha,uQ,zT H]
 rw[e,yF _ _ hQ,wC];congr 1;have e2:P*4294967296=P*2^(32-s)*2^s:=by rw[sS,tI (2^(32-s)), <-DP (by omega)]
 rw[e2,g0e _ _ h2, <-vG,yF _ _ hP,uC u,sP]
def A8s {a s m:Nat} (h:s<=m):a*2^s/2^m=a/2^(m-s):=by
 have u:0<2^s:=tR (by decide)
 conv=>lhs;rw[show m=m-s+s from by omega,uY,g0e _ _ u]
def jC (l:List Int) (i:Nat) (h:i<=l.length):nv l=nv (l.take i)+4294967296^i*nv (l.drop i):=by
 conv=>lhs;rw[<-uG i l,Rt,qW,sY h]
def U4 {l:List Int} (h:A6 l) (i:Nat):nv (l.take i)<4294967296^i:=by
 have h1:=Hf (l:=l.take i) fun x hx=>h x (rV hx)
 refine rK h1 (sB (by decide) ?_);rw[qW];exact g2o ..
def Uy (l:List Int) {n:Nat} (h:l.length<=n+1):nv l=nv (l.take n)+4294967296^n*dg l n:=by
 conv=>lhs;rw[<-qX h,I7]
def A5h (l:List Int) {n:Nat} (h:l.length<=n+2):nv l=nv (l.take n)+4294967296^n*(dg l (n+1)*4294967296+dg l n):=by
 rw[Uy l (n:=n+1) h,I7,sE,tA,tI (dg l (n+1)), <-sS];omega
def A5i (l:List Int) {n:Nat} (h:l.length<=n+3):nv l=nv (l.take n)+4294967296^n*((dg l (n+2)*4294967296+dg l (n+1))*4294967296+dg l n):=by
 rw[A5h l (n:=n+1) h,I7,sE];generalize 4294967296^n=P;grind
def A4w {a:List Int} (ha:A6 a) {n:Nat} (hn:a.length=n+1) {s:Nat} (hs:s+K6 (dg a n)<=32):nv a*2^s<4294967296^(n+1):=by
 have h1:=Uy a (n:=n) (by omega);have h2:=U4 ha n;have h3:=gC (dg a n);have h4:nv a<4294967296^n*2^K6 (dg a n):=by
  have:4294967296^n*(dg a n+1)<=4294967296^n*2^K6 (dg a n):=sU _ h3;rw[tA,yR]at this;omega
 have u:nv a*2^s<4294967296^n*2^K6 (dg a n)*2^s:=xC h4 (tR (by decide));rw[sS, <-uY]at u;have h6:2^(K6 (dg a n)+s)<=2^32:=sB (by decide) (by omega);have h7:=sU (4294967296^n) h6;rw[sE];exact rK u h7
def eC {n:Nat} (h:n≠0):Nm (nc n):=by
 have a0:(nc n).length≠0:=fun h0=>h (Zk.1 (qQ h0))
 unfold Nm;intro h0;have hb:=J1 n;have e:=Uy (nc n) (n:=(nc n).length-1) (by omega);have hd:dg (nc n) ((nc n).length-1)=0:=by unfold dg;rw[h0];rfl
 rw[hd,wQ,tD,F2]at e;have u:=U4 hb ((nc n).length-1);rw[<-e]at u;have:=He u;omega
def OZ {l:List Int} (hl:A6 l) (h:Nm l):dg l (l.length-1)≠0:=by
 unfold Nm at h;have:=Aa hl (i:=l.length-1);rw[this]at h;omega
def YT {l:List Int} (hl:A6 l) (h:Nm l):nv l≠0:=by
 have h1:=OZ hl h;have u:l.length≠0:=fun e=>by
  rw[qQ e]at h1;simp[dg]at h1
 have e:=Uy l (n:=l.length-1) (by omega);have h2:0<4294967296^(l.length-1):=tR (by decide);have h3:=sU (4294967296^(l.length-1)) (sX h1);omega
def A4z {V low P x:Nat} (h:V=low+P*x) (hl:low<P):x*P<=V/\V<(x+1)*P:=by
 rw[uQ,xD,tI x,h];omega
def C0c {w v:List Int} (hw:A6 w) (hv:A6 v) {n:Nat} (hn:v.length=n+2) (a1:w.length=n+3) (a0:dg v (n+1)≠0) (u:nv w<nv v*4294967296):aO (nv w) (nv v) (dg v (n+1)) (dg v n) (dg w (n+2)*4294967296+dg w (n+1)) (dg w n) (4294967296^n):=by
 have ev:=A5h v (n:=n) (by omega);have ew:=A5i w (n:=n) (by omega);have lv:=U4 hv n;have lw:=U4 hw n;have b1:=M5 hv (n+1);have b2:=M5 hv n;have b3:=M5 hw n;exact⟨tR (by decide),sX a0,by omega,by omega,by omega,(A4z ev lv).1,(A4z ev lv).2,(A4z ew lw).1,(A4z ew lw).2,u⟩
def B0w {l:List Int} (h:A6 l) (i:Nat):dg l i=nv l/4294967296^i%4294967296:=by
 have hp:0<4294967296^i:=tR (by decide);by_cases hi:i<l.length
 . have e:=jC l (i+1) (by omega);rw[I7]at e;have h1:=U4 h i;have u:=M5 h i;have e2:nv l=nv (l.take i)+(dg l i+4294967296*nv (l.drop (i+1)))*4294967296^i:=by
    rw[e,sE];generalize 4294967296^i=P;grind
   rw[e2,yF _ _ hp,uC h1,sP,yY,tU (by omega)]
 . rw[Qe (by omega)];have h1:=Hf h;have u:4294967296^l.length<=4294967296^i:=sB (by decide) (by omega);rw[uC (by omega)]
def B5x {l:List Int} (h:A6 l) (i:Nat):dg l (i/32)/2^(i%32)%2=nv l/2^i%2:=by
 rw[B0w h,Ma];have e:i=32*(i/32)+i%32:=by omega
 have u:(4294967296:Nat)=2^(i%32)*2^(32-i%32):=DP (by omega)
 conv=>rhs;rw[e,uY, <-vG]
 generalize nv l/2^(32*(i/32))=x;rw[u,Nat.mod_mul_right_div_self];have h3:2^(32-i%32)=2*2^(31-i%32):=by rw[<-Nat.pow_succ'];congr 1;omega
 rw[h3,Nat.mod_mul_right_mod]
def B0g {a b i:Nat} (hb:b≠0):a/2^i=2*(a/2^(i+1))+a/2^i%2/\
 a/2^i/b=2*(a/2^(i+1)/b)+(if b<=2*(a/2^(i+1)%b)+a/2^i%2 then 1 else 0)/\
 a/2^i%b=2*(a/2^(i+1)%b)+a/2^i%2-(if b<=2*(a/2^(i+1)%b)+a/2^i%2 then b else 0):=by
 have e1:a/2^(i+1)=a/2^i/2:=by rw[sE,vG]
 have e0:a/2^i=2*(a/2^(i+1))+a/2^i%2:=by rw[e1];omega
 refine⟨e0, ?_⟩;have a0:a/2^i%2<2:=wE _ (by decide);generalize a/2^i%2=d at*;generalize a/2^(i+1)=h at*;rw[e0];have hd:=wY h b;have hm:=wE h (sX hb);generalize h%b=r at*;generalize h/b=q at*;have e2:2*h+d=b*(2*q)+(2*r+d):=by rw[<-hd];grind
 rw[e2,g2p (sX hb),g2q];by_cases u:b<=2*r+d
 . rw[qY u,qY u];have e3:2*r+d=b+(2*r+d-b):=by omega
   have h1:(2*r+d)/b=1:=Nat.div_eq_of_lt_le (by omega) (by omega);refine⟨by rw[h1], ?_⟩;have:=wY (2*r+d) b;rw[h1]at this;omega
 . rw[qO u,qO u,uC (by omega),tU (by omega)];exact⟨rfl,by omega⟩
def B8a {q:List Int} (hq:A6 q) {M i:Nat} (he:nv q=M*2^(i+1)) (hi:i/32<q.length):∃b:Nat,dg q (i/32)=b*2^(i%32+1)/\nv (q.set (i/32) ((dg q (i/32)+2^(i%32):Nat):Int))=(2*M+1)*2^i:=by
 have e:i=32*(i/32)+i%32:=by omega
 have hb:dg q (i/32)=(M*2^(i%32+1))%4294967296:=by
  rw[B0w hq,he,Ma];congr 1;have e5:i+1=32*(i/32)+(i%32+1):=by omega
  rw[e5,uY,g0c,xU _ (tR (by decide))]
 refine⟨M%2^(31-i%32), ?_, ?_⟩
 . rw[hb];have u:(4294967296:Nat)=2^(31-i%32)*2^(i%32+1):=by
    rw[<-uY,show 31-i%32+(i%32+1)=32 from by omega]
   conv=>lhs;rw[u]
   rw[Nat.mul_mod_mul_right]
 . have h1:=Kt (l:=q) (k:=i/32) (v:=((dg q (i/32)+2^(i%32):Nat):Int)) hi;rw[qK,he,Ma,tA]at h1;have u:2^(32*(i/32))*2^(i%32)=2^i:=by rw[<-uY, <-e]
   rw[u]at h1;have h3:(2*M+1)*2^i=M*2^(i+1)+2^i:=by rw[sE];grind
   rw[h3];omega
def NN {l:List Int} (h:A6 l) (i:Nat):dg l i=nv l/4294967296^i%4294967296:=by
 have u:0<4294967296^i:=tR (by decide);have hd:=M5 h i;have ht:=U4 h i;rcases sI i l.length with h1|h1
 . have e1:=jC l (i+1) h1;rw[I7,sE]at e1;have e2:nv l=nv (l.take i)+(dg l i+nv (l.drop (i+1))*4294967296)*4294967296^i:=by rw[e1];grind
   rw[e2,yF _ _ u,uC ht,sP,Nat.add_mul_mod_self_right,tU (by omega)]
 . rw[Qe h1];have hl:=Hf h;have a0:4294967296^l.length<=4294967296^i:=sB (by decide) h1;rw[uC (by omega)]
def A8t {l:List Int} (h:A6 l) (i:Nat) {s:Nat} (hs:s<=31):nv l/2^s/4294967296^i%4294967296=(dg l i+dg l (i+1)*4294967296)/2^s%4294967296:=by
 have h2:0<2^s:=tR (by decide);have u:nv l/2^s/4294967296^i=nv l/4294967296^i/2^s:=by rw[vG,vG,tI]
 have e1:dg l i+dg l (i+1)*4294967296=nv l/4294967296^i%(4294967296*4294967296):=by
  rw[Nat.mod_mul, <-NN h i,vG, <-sE, <-NN h (i+1),tI]
 rw[u,e1];generalize nv l/4294967296^i=W;have e2:W=W%(4294967296*4294967296)+2^s*(4294967296*(2^(32-s)*(W/(4294967296*4294967296)))):=by
  have a:=Nat.mod_add_div W (4294967296*4294967296);have b:=DP (s:=s) (by omega)
  conv=>lhs;rw[<-a]
  congr 1
  calc 4294967296*4294967296*(W/(4294967296*4294967296))=4294967296*(4294967296*(W/(4294967296*4294967296))):=sS ..
   _=(2^s*2^(32-s))*(4294967296*(W/(4294967296*4294967296))):=by rw[<-b]
   _= _:=by rw[sS,g0c (2^(32-s))]
 conv=>lhs;rw[e2,g3h _ _ h2,yY]
def fG {l:List Int} (h:A6 l) {k s:Nat} :nv l/2^(32*k+s)=nv (l.drop k)/2^s:=by
 rw[uY, <-Ma, <-vG];congr 1;have u:0<4294967296^k:=tR (by decide);rcases sI l.length k with h1|h1
 . rw[sH (by omega)];have hl:=Hf h;have a0:4294967296^l.length<=4294967296^k:=sB (by decide) (by omega);rw[uC (by omega)];rfl
 . have e:=jC l k h1;have ht:=U4 h k;rw[e,g3h _ _ u,uC ht,sP]
def I8 (x:Li):(iv x).natAbs=nv x.2:=by
 unfold iv;split<;>omega
def HH {a b:List Int} (u:A6 a) (hb:A6 b):(nc (nv a*nv b)).length<=a.length+b.length:=by
 have h1:=Qk (nv a) (nv b);have h2:=D0 u;have h3:=D0 hb;omega
def GZ {x y:Li} (hx:A6 x.2) (u:A6 y.2):(ic (iv x*iv y)).2.length<=x.2.length+y.2.length:=by
 rw[Ae,vN,I8,I8];exact HH hx u
def WF {x y:Li} {k:Nat} (hx:A6 x.2) (u:A6 y.2) (h1:x.2.length<=k) (h2:y.2.length<=k):(ic (iv x+iv y)).2.length<=k+1:=by
 rw[Ae];have e:(iv x+iv y).natAbs<=nv x.2+nv y.2:=by
  have:=g1n (iv x) (iv y);rwa[I8,I8]at this
 have h:=OD (nv x.2) (nv y.2);have a:=D0 hx;have b:=D0 u;have c:=J8 e;omega
def nD (v:Int):A6 (ic v).2:=J1 _
def jM {V:Int} {D:Nat} (hD:D≠0):rc (mkRat V D)=((decide (V<0),nc (V.natAbs/Nat.gcd V.natAbs D)),nc (D/Nat.gcd V.natAbs D)):=by
 obtain⟨hn,a2⟩:=Ou (x:=V) (d:=D) hD;unfold rc;rw[hn,a2,xB V.natAbs D];unfold ic;have u:((D.gcd V.natAbs:Nat):Int)∣V:=xW.2 (yL ..);have a0:0<D.gcd V.natAbs:=g1y _ (sX hD);generalize D.gcd V.natAbs=G at u a0;obtain⟨c,rfl⟩:=u;rw[xP _ (by omega)];have a1:(G:Int)*c<0↔c<0:=by
  constructor
  . intro h;rcases g4j c 0 with h1|h1
    . exact h1
    . have:=tK (xM (sF.2 a0)) h1;omega
  . intro h;exact yW (by omega) h
 rw[vN,uF,xU _ a0];simp only[a1]
def B7r {V:Int} {D:Nat} (u:D≠0) (h:Nat.gcd V.natAbs D=1):rc (mkRat V D)=(ic V,nc D):=by
 rw[jM u,h,g3i,g3i];rfl
def OA {a b:Int} {c d:Nat} (u:c≠0) (hd:d≠0):mkRat a c+mkRat b d=mkRat (a*d+b*c) (c*d):=Rat.mkRat_add_mkRat a b u hd
def A2b {a b:Int} {c:Nat} (u:c≠0):mkRat a c+mkRat b c=mkRat (a+b) c:=by
 rw[OA u u, <-Int.add_mul,Rat.mkRat_mul_right u]
def Mp {x:B7} {n:Li} {d:List Int} (h:(nv x.2=0->n=zi/\d= [1])/\(nv x.2≠0->n=x.1/\d=x.2)):nv d≠0/\rv x=mkRat (iv n) (nv d):=by
 rcases g4h (nv x.2=0)with u|u
 . obtain⟨rfl,rfl⟩:=h.1 u;refine⟨by decide, ?_⟩;unfold rv;rw[u,yS];exact(Rat.zero_mkRat _).symm
 . obtain⟨rfl,rfl⟩:=h.2 u;exact⟨u,rfl⟩
def Jd {x:B7} {n:Li} {d:List Int} {k:Nat} (h:(nv x.2=0->n=zi/\d= [1])/\(nv x.2≠0->n=x.1/\d=x.2)) (h1:x.1.2.length<=k) (h2:x.2.length<=k) (hk:1<=k):n.2.length<=k/\d.length<=k:=by
 rcases g4h (nv x.2=0)with u|u
 . obtain⟨rfl,rfl⟩:=h.1 u;exact⟨by simp[zi],by simpa using hk⟩
 . obtain⟨rfl,rfl⟩:=h.2 u;exact⟨h1,h2⟩
def C0h (A B:Nat):(A:Int)/(B:Int)=((A/B:Nat):Int)/\(A:Int)%(B:Int)=((A%B:Nat):Int):=⟨rfl,rfl⟩
def C0g {A B:Nat} (hB:B≠0):(A%B=0-> -(A:Int)/(B:Int)= -((A/B:Nat):Int)/\ -(A:Int)%(B:Int)=0)/\(A%B≠0-> -(A:Int)/(B:Int)= -((A/B:Nat):Int)-1/\ -(A:Int)%(B:Int)=(B:Int)-((A%B:Nat):Int)):=by
 have h1:=wY A B;have h2:=wE A (sX hB);have u:(A:Int)=(B:Int)*((A/B:Nat):Int)+((A%B:Nat):Int):=by
  rw[<-uP, <-wV,h1]
 generalize A/B=Q at*;generalize A%B=M at*;refine⟨fun h=> ?_,fun h=> ?_⟩
 . subst h;refine(g3d (by omega)).2 ⟨?_,by omega,by omega⟩;rw[u];grind
 . refine(g3d (by omega)).2 ⟨?_,by omega,by omega⟩;rw[u];grind
def C0f {sa sb:Bool} {A B:Nat} (hB:B≠0) {a b q m:Int} (u:a=if sa=true then -(A:Int)else A) (hb:b=if sb=true then -(B:Int)else B) (hq:q=if(sa !=sb)=true then -((A/B:Nat):Int)else((A/B:Nat):Int)) (hm:m=if sa=true then -((A%B:Nat):Int)else((A%B:Nat):Int)):
 (m<0->a%b=m+B/\(sb=true->a/b=q+1)/\(sb=false->a/b=q-1))/\(¬m<0->a%b=m/\a/b=q):=by
 obtain⟨n1,n2⟩:=C0g (A:=A) hB;obtain⟨p1,p2⟩:=C0h A B;generalize hQ:A/B=Q at*;generalize hM:A%B=M at*;cases sa<;>cases sb<;>simp at u hb hq hm<;>subst u hb hq hm<;>simp only[Int.ediv_neg,Int.emod_neg]
 . exact⟨fun h=>by omega,fun h=>⟨p2,p1⟩⟩
 . exact⟨fun h=>by omega,fun h=>⟨p2,by rw[p1]⟩⟩
 . refine⟨fun h=> ?_,fun h=> ?_⟩
   . obtain⟨e1,e2⟩:=n2 (by omega);exact⟨by rw[e2];omega,⟨fun h=>absurd h (by decide),fun _=>e1⟩⟩
   . obtain⟨e1,e2⟩:=n1 (by omega);exact⟨by rw[e2];omega,e1⟩
 . refine⟨fun h=> ?_,fun h=> ?_⟩
   . obtain⟨e1,e2⟩:=n2 (by omega);exact⟨by rw[e2];omega,⟨fun _=>by rw[e1];omega,fun h=>by cases h⟩⟩
   . obtain⟨e1,e2⟩:=n1 (by omega);exact⟨by rw[e2];omega,by rw[e1];omega⟩
def Mq {q:B7} {k:Nat} (h1:A6 q.1.2) (h2:A6 q.2) (l1:q.1.2.length<=k) (l2:q.2.length<=k) (hk:1<=k):(ic (rv q).num).2.length<=k/\(nc (rv q).den).length<=k:=by
 unfold rv;rcases g4h (nv q.2=0)with u|u
 . rw[u,yS];have a1:(0:Rat).num=0:=rfl;have a2:(0:Rat).den=1:=rfl;rw[a1,a2,iE,Uu];exact⟨rP _,hk⟩
 . obtain⟨e1,e2⟩:=Ou (x:=iv q.1) (d:=nv q.2) u;have b1:=D0 h1;have b2:=D0 h2;rw[e1,e2,Ae];refine⟨?_,rA (J8 (wZ _ _)) (by omega)⟩;refine rA (J8 ?_) (rA b1 l1);rw[<-I8];exact xI _ _
def WE {A:Int} {G:Nat} (hG:0<G) (hd:(G:Int)∣A):ic (A/(G:Int))=(decide (A<0),nc (A.natAbs/G)):=by
 obtain⟨c,rfl⟩:=hd;rw[xP _ (by omega)];have u:(G:Int)*c<0↔c<0:=by
  constructor
  . intro h;rcases g4j c 0 with h1|h1
    . exact h1
    . have:=tK (xM (sF.2 hG)) h1;omega
  . intro h;exact yW (by omega) h
 unfold ic;rw[vN,uF,xU _ hG];simp only[u]
def GV {A B:Int} (u:0<B):Rat.divInt A B=mkRat A B.natAbs:=by
 rw[<-g0j,show((B.natAbs:Nat):Int)=B from by omega]
def lY {A B:Int} (u:B<0):Rat.divInt A B=mkRat (-A) B.natAbs:=by
 rw[<-g0j,show((B.natAbs:Nat):Int)= -B from by omega,Rat.neg_divInt_neg]
def B2z {A B:Int} (hB:B≠0) {G:Nat} (hG:G=Nat.gcd A.natAbs B.natAbs):0<G/\(B/(G:Int)<0↔B<0)/\(B<0->(ic (-(A/(G:Int))),(ic (-(B/(G:Int)))).2)=rc (Rat.divInt A B))/\(¬B<0->(ic (A/(G:Int)),(ic (B/(G:Int))).2)=rc (Rat.divInt A B)):=by
 have a2:B.natAbs≠0:=by omega
 have u:0<G:=by rw[hG];exact g1q _ (by omega)
 have a1:(G:Int)∣A:=by rw[hG];exact xW.2 (g4x ..)
 have a0:(G:Int)∣B:=by rw[hG];exact xW.2 (yL ..)
 refine⟨u, ?_,fun h=> ?_,fun h=> ?_⟩
 . have:=tN (·.1) (WE u a0);exact uZ.1 this
 . rw[<-g3s a1, <-g3s a0,WE u (Int.dvd_neg.2 a1),WE u (Int.dvd_neg.2 a0),lY h,jM a2,yN,yN,hG]
 . rw[WE u a1,WE u a0,GV (by omega),jM a2,hG]
def lZ (q:Rat):Rat.divInt (-q.num) q.den= -q:=by
 have:=xH (-q);rwa[g1p,g3o]at this
def A1h (p q:Rat):Rat.divInt (p.num*q.den+q.num*p.den) (p.den*q.den)=p+q:=by
 have h1:=g3l p;have u:=g3l q;rw[<-Rat.divInt_add_divInt _ _ (by omega) (by omega),xH,xH]
def mA (p q:Rat):Rat.divInt (p.num*q.num) (p.den*q.den)=p*q:=by
 rw[<-g2z,xH,xH]
def A0w {n k:Nat} (h:n<2^k):K6 n<=k:=by
 rcases vF n with u|u
 . rw[u,CL];omega
 . have h1:=(CK (n:=n) (by omega)).1;rcases sI k (K6 n)with h2|h2
   . have:2^k<=2^(K6 n-1):=sB (by decide) (by omega);omega
   . exact h2
def A6k {n:Nat} (h:n≠0):K6 n=K6 (n/2)+1:=by
 rcases sI n 2 with h1|h1
 . have:n=1:=by omega
   subst this;decide+kernel
 . have:=JU (n:=n) (k:=1) h1;rwa[Nat.pow_one]at this
def A3y {l:List Int} (h:A6 l):K6 (nv l)<=32*l.length:=by
 refine A0w ?_;rw[<-Ma];exact Hf h
def B0h {n:Nat} (h:n≠0):K6 n=K6 (dg (nc n) ((nc n).length-1))+32*((nc n).length-1):=by
 have u:(nc n).length≠0:=fun h0=>h (Zk.1 (qQ h0))
 have h1:4294967296^((nc n).length-1)<=n:=B3g (by omega);have h2:=Lx n;have hP:0<4294967296^((nc n).length-1):=tR (by decide);rw[NN (J1 n),F2,Ma,tU]
 . exact JU (by rw[<-Ma];exact h1)
 . rw[<-Ma,tP hP,tI, <-sE,show((nc n).length-1).succ=(nc n).length from by omega];exact h2
def A6i {z:Int} (u:0<=z) (h1:z<4294967296):(BitVec.ofInt 32 z&&&BitVec.ofInt 32 1).toNat=z.toNat%2:=by
 rw[BitVec.toNat_and,xV,xV,show((1:Int)%((2^32:Nat):Int)).toNat=1 from by decide,Nat.and_one_is_mod];rw[show z%((2^32:Nat):Int)=z from by omega]
def B3r {d b s:Nat} (u:d=b*2^(s+1)) (h1:d<4294967296) (hs:s<=31):(BitVec.ofInt 32 (d:Int) |||BitVec.ofInt 32 ((2^s:Nat):Int)).toNat=d+2^s/\d+2^s<4294967296:=by
 have a0:2^s<=2^31:=sB (by decide) hs;have e:(BitVec.ofInt 32 (d:Int) |||BitVec.ofInt 32 ((2^s:Nat):Int)).toNat=d+2^s:=by
  rw[BitVec.toNat_or,xV,xV];rw[show((d:Int)%((2^32:Nat):Int)).toNat=d from by omega];generalize hz:2^s=z at*;rw[show((z:Int)%((2^32:Nat):Int)).toNat=z from by omega,u, <-g5a];exact(g0p (by rw[<-hz];exact Nat.pow_lt_pow_right (by decide) (by omega)) b).symm
 exact⟨e,by have:=(BitVec.ofInt 32 (d:Int) |||BitVec.ofInt 32 ((2^s:Nat):Int)).isLt;omega⟩
def gS (l:List Int) (j i:Nat):dg (l.drop j) i=dg l (j+i):=by
 unfold dg;simp[List.getD,xF]
def CT {l:List Int} {k i:Nat} (h:i<k):dg (l.take k) i=dg l i:=by
 unfold dg;simp[List.getD,wM,h]
def Jv {l:List Int} (h:A6 l) (k:Nat):nv (l.take k)=nv l%4294967296^k:=by
 rcases sI k l.length with h1|h1
 . have e:=jC l k (by omega);rw[e,yY,tU (U4 h k)]
 . rw[qX h1,tU];exact rK (Hf h) (sB (by decide) h1)
def oD {l:List Int} (h:A6 l) (j:Nat):nv (l.drop j)=nv l/4294967296^j:=by
 have:=fG h (k:=j) (s:=0);rw[tD,g4o,g3i, <-Ma]at this;exact this.symm
def C2p {u v:List Int} (hu:A6 u) (hv:A6 v) {j n:Nat} (a7:n+2<=v.length) (hV:nv v<4294967296^(n+2)) (a4:dg v (n+1)≠0) (a6:j+n+3<=u.length) (a2:nv u<nv v*4294967296^(j+1)):aO (nv u/4294967296^j) (nv v) (dg v (n+1)) (dg v n) (dg u (j+n+2)*4294967296+dg u (j+n+1)) (dg u (j+n)) (4294967296^n):=by
 have hP:0<4294967296^j:=tR (by decide);have hW:nv u/4294967296^j<nv v*4294967296:=by
  rw[tP hP,sS,tI 4294967296, <-sE];exact a2
 have a1:nv u/4294967296^j<4294967296^(n+3):=by
  rw[sE _ (n+2)];exact rK hW (rN _ (wD hV))
 have a3:A6 (v.take (n+2)):=fun x hx=>hv x (rV hx)
 have a0:A6 (u.drop j):=fun x hx=>hu x (vE hx)
 have a5:A6 ((u.drop j).take (n+3)):=fun x hx=>a0 x (rV hx)
 have ev:nv (v.take (n+2))=nv v:=by rw[Jv hv,tU hV]
 have ew:nv ((u.drop j).take (n+3))=nv u/4294967296^j:=by rw[Jv a0,oD hu,tU a1]
 have h:=C0c (w:=(u.drop j).take (n+3)) (v:=v.take (n+2)) a5 a3 (n:=n) (by rw[qW];omega) (by rw[qW,sR];omega) (by rw[CT (by omega)];exact a4) (by rw[ev,ew];exact hW);rw[ev,ew,CT (by omega),CT (by omega),CT (by omega),CT (by omega),CT (by omega),gS,gS,gS]at h;exact h
def A8z {o o' U Pk P c c' D x s t v:Nat} (h:o+P*(D*x)=U+Pk*c) (hs:o'+Pk*t=o+Pk*s) (he:t+4294967296*c'=s+(D*v+c)) {Pi:Nat} (u:Pk=P*Pi):o'+P*(D*(x+Pi*v))=U+Pk*4294967296*c':=by
 subst u;have h1:=tN ((P*Pi)* ·) he;simp only[tA]at h1⊢;have e1:P*(D*(Pi*v))=P*Pi*(D*v):=by grind
 have e2:P*Pi*(4294967296*c')=P*Pi*4294967296*c':=by grind
 omega
def A6d {o o' U Pk P c c' x s t v:Nat} (h:o+Pk*c=U+P*x) (hs:o'+Pk*t=o+Pk*s) (he:s+4294967296*c'=c+(t+v)) {Pi:Nat} (u:Pk=P*Pi):o'+Pk*4294967296*c'=U+P*(x+Pi*v):=by
 subst u;have h1:=tN ((P*Pi)* ·) he;simp only[tA]at h1⊢;have e1:P*(Pi*v)=P*Pi*v:=by grind
 have e2:P*Pi*(4294967296*c')=P*Pi*4294967296*c':=by grind
 omega
def B0j {D v c t:Nat} (u:D<4294967296) (hv:v<4294967296) (hc:c<=D):D*v+c<=18446744069414584320/\(D*v+c)/4294967296+(if t<(D*v+c)%4294967296 then 1 else 0)<=D:=by
 have h1:D*v<=D*4294967295:=sU _ (by omega);generalize D*v=p at*;split<;>omega
end Go.Proofs.YthclcjfodjhmlaaGreat
namespace Go.Proofs.YthclcjfodjhmlaaGreat
open Go.IntKind (i64 u64 u32)
def B0f {B U P V e M w1 y z g t r o:Nat} (hP:0<P) (hV:0<V) (a0:w1+P*((e+1)*V)=U+M*B) (a4:w1<M*B) (hd:e+1<=U/P/V+1) (hy:y+M*g=w1+P*V) (hz:z+M*t=y+M*r) (ho:t+g=r+B*o) (a5:o<=1) (a3:z<M*B):U/P/V=e/\z+P*(e*V)=U:=by
 have h1:U/P/V<e+1:=by
  rw[tP hV,tP hP,tI];omega
 have he:U/P/V=e:=by omega
 have hU:P*(e*V)<=U:=by
  rw[<-he,tI];exact rA (rN _ (zD _ _)) (zD _ _)
 have a1:P*((e+1)*V)=P*(e*V)+P*V:=by rw[uQ,xD,tA]
 rw[a1]at a0;have u:M*t+M*g=M*r+M*B*o:=by rw[<-tA,ho,tA,sS]
 have a2:o=1:=by
  rcases sI o 1 with h|h
  . have h0:o=0:=by omega
    subst h0;simp only[wQ,tD]at u;omega
  . omega
 subst a2;rw[yR]at u;exact⟨he,by omega⟩
def C3n (m:Nat):4294967296^(m+2)*4294967296=4294967296^(m+3):=(sE (n:=4294967296) (m:=m+2)).symm
end Go.Proofs.YthclcjfodjhmlaaGreat
namespace Go.Proofs.YthclcjfodjhmlaaGreat
open Go.Vc Go.Gw
open Go.IntKind (i64 u64 u32)
def qs (k:Nat) (q:Rat):Prop:=(nc q.num.natAbs).length<=k/\(nc q.den).length<=k
def sz (k:Nat) (x:B7):Prop:=x.1.2.length<=k/\x.2.length<=k
def Y7 (x:B7):Prop:=A6 x.1.2/\A6 x.2
def Pe {k:Nat} {q:Rat} (h:qs k q):sz k (rc q):=h
def A4x (q:Rat):Y7 (rc q):=⟨J1 _,J1 _⟩
def Bg {k:Nat} {x:B7} (hl:Y7 x) (h:sz k x) (u:1<=k):qs k (rv x):=Mq hl.1 hl.2 h.1 h.2 u
def D7 {j k:Nat} {q:Rat} (h:qs j q) (u:j<=k):qs k q:=⟨rA h.1 u,rA h.2 u⟩
def G6 {j k:Nat} {x:B7} (h:sz j x) (u:j<=k):sz k x:=⟨rA h.1 u,rA h.2 u⟩
def YB {V:Int} {D k:Nat} (hD:D≠0) (h1:(nc V.natAbs).length<=k) (u:(nc D).length<=k):qs k (mkRat V D):=by
 obtain⟨e1,e2⟩:=Ou (x:=V) hD;unfold qs;rw[e1,e2];refine⟨rA (J8 ?_) h1,rA (J8 (wZ _ _)) u⟩;exact xI _ _
def Ab {k:Nat} (u:1<=k):qs k 0:=by
 refine⟨?_, ?_⟩
 . show(nc 0).length<=k;rw[O7];exact rP _
 . show(nc 1).length<=k;rw[Uu];exact u
def C1f {k:Nat} (u:1<=k):qs k 1:=by
 refine⟨?_, ?_⟩<;>(show(nc 1).length<=k;rw[Uu];exact u)
def A2t {k:Nat} {q:Rat} (h:qs k q):1<=k:=by
 have h1:=h.2;have u:nc q.den≠ []:=fun e=>q.den_nz (Zk.1 e)
 have:=vA.2 u;omega
def YC {k:Nat} {q:Rat} (h:qs k q):qs k (-q):=by
 unfold qs at h⊢;rw[g1p,g3o,yN];exact h
def Jg {j k:Nat} {p q:Rat} (h1:qs j p) (u:qs k q):qs (j+k) (p*q):=by
 rw[Rat.mul_def'];refine YB (zM p.den_nz q.den_nz) ?_ ?_
 . rw[vN];exact rA (Qk _ _) (Nat.add_le_add h1.1 u.1)
 . exact rA (Qk _ _) (Nat.add_le_add h1.2 u.2)
def Vh {j k:Nat} {p q:Rat} (h1:qs j p) (u:qs k q):qs (j+k+1) (p+q):=by
 rw[Rat.add_def'];refine YB (zM p.den_nz q.den_nz) ?_ ?_
 . have e:(p.num*(q.den:Int)+q.num*(p.den:Int)).natAbs<=p.num.natAbs*q.den+q.num.natAbs*p.den:=by
    refine rA (g1n _ _) ?_;rw[vN,vN,uF,uF];exact rC _
   have a1:=Qk p.num.natAbs q.den;have a2:=Qk q.num.natAbs p.den;have a3:=OD (p.num.natAbs*q.den) (q.num.natAbs*p.den);have a4:=J8 e;have:=h1.1;have:=h1.2;have:=u.1;have:=u.2;omega
 . have:=Qk p.den q.den;have:=h1.2;have:=u.2;omega
def Vi {j k:Nat} {p q:Rat} (h1:qs j p) (u:qs k q):qs (j+k+1) (p-q):=by
 rw[tF];exact Vh h1 (YC u)
def B4g {k:Nat} {q:Rat} (h:qs k q):qs k q⁻¹:=by
 have hk:=A2t h;by_cases u:q=0
 . subst u;rw[Rat.inv_zero];exact Ab hk
 have hn:q.num≠0:=fun e=>u (zO.1 e)
 refine⟨?_, ?_⟩
 . rw[Rat.num_inv,vN,uF,g1d hn,xD];exact h.2
 . rw[Rat.den_inv,qO hn];exact h.1
def ON {j k:Nat} {p q:Rat} (h1:qs j p) (u:qs k q):qs (j+k) (p/q):=by
 rw[tY];exact Jg h1 (B4g u)
def OO {a:Int} (h:a.natAbs<4294967296):qs 1 (a:Rat):=by
 refine⟨?_, ?_⟩
 . rw[g2t];exact He (by simpa using h)
 . rw[g2r,Uu];exact rC _
abbrev K0:Nat:=1073741824
abbrev K1:Nat:=549755813888
def H7 {k:Nat} {x:B7} (h:sz k x) (u:k<=2199023255552):D1 x:=⟨rA h.1 u,rA h.2 u⟩
def N0 {k:Nat} {q:Rat} (h:qs k q) (u:k<=2199023255552):D1 (rc q):=⟨rA h.1 u,rA h.2 u⟩
def B4n {q:Rat} :q.num.sign=0↔q=0:=⟨fun h=>zO.1 (yX.1 h),fun h=>by rw[h];rfl⟩
abbrev D3:=Int×B7
def A8:List D3->Int->Rat
 | [],_=>0
 |e::v,i=>(if e.1=i then rv e.2 else 0)+A8 v i
def Ie (v:List D3):Prop:=v.Pairwise fun a b=>a.1<b.1
instance (v:List D3):Decidable (Ie v):=by unfold Ie;infer_instance
def Ct (v:List D3):Prop:=Ie v/\∀e∈v,rv e.2≠0/\e.2=rc (rv e.2)
def M0 (v:List D3) (n:Int):Prop:=Ie v/\∀e∈v,0<=e.1/\e.1<n/\rv e.2≠0
instance (v:List D3) (n:Int):Decidable (M0 v n):=by unfold M0;infer_instance
def jU (k:Nat) (v:List D3):Prop:=∀e∈v,sz k e.2
def Gj (k:Nat) (l:List B7):Prop:=∀x∈l,sz k x
def eM (k:Nat) (v:List D3):Prop:=Ie v/\jU k v/\v.length<=100000
def HG (v:List D3):Prop:=∀e∈v,Y7 e.2
def Zq (ok:D3×D3×Unit->Prop) (φ:D3×D3×Unit->Int):Prop:=(∀a b,ok (a,b,()))/\(∀a b c,¬φ (a,b,())<0->¬φ (b,c,())<0->¬φ (a,c,())<0)/\(∀a b,φ (a,b,())<0->¬φ (b,a,())<0)
def Xt (φ:D3×D3×Unit->Int) (l:List D3):Prop:=l.Pairwise fun a b=>¬φ (b,a,())<0
def cH (v:List D3):Prop:=Ie v\/(v.length<=20/\jU 65536 v)
def Ow (v:List D3):Prop:=eM K1 v\/(v.length<=20/\jU 65536 v)
def Rj (i:Int):A8 [] i=0:=rfl
def E9 {v:List D3} {i:Int} (h:∀e∈v,e.1≠i):A8 v i=0:=by
 induction v with
 |nil=>rfl
 |cons e v u=>
  rw[A8,qO (h e (rF ..)),u fun x hx=>h x (qL _ hx),tL]
def O8 (a b:List D3) (i:Int):A8 (a++b) i=A8 a i+A8 b i:=by
 induction a with
 |nil=>rw[wG,Rj,tL]
 |cons e a u=>rw[xT,A8,A8,u,xR]
def I6 {e:D3} {v:List D3} :Ie (e::v)↔(∀x∈v,e.1<x.1)/\Ie v:=g4d
def Gy {e:D3} {v:List D3} (h:Ie (e::v)):Ie v:=(I6.1 h).2
def N6 {e:D3} {v:List D3} (h:Ie (e::v)):A8 (e::v) e.1=rv e.2:=by
 rw[A8,qY rfl,E9 fun x hx u=>by have:=(I6.1 h).1 x hx;omega,rO]
def CQ {e:D3} {v:List D3} (h:Ie (e::v)) {i:Int} (hi:i<e.1):A8 (e::v) i=0:=
 E9 fun x hx=>by
  rcases qR.1 hx with rfl|hx
  . omega
  . have:=(I6.1 h).1 x hx;omega
def Cf {e:D3} {v:List D3} {i:Int} (hi:e.1≠i):A8 (e::v) i=A8 v i:=by
 rw[A8,qO hi,tL]
def T9 {v:List D3} (h:Ie v) {e:D3} (u:e∈v):A8 v e.1=rv e.2:=by
 induction v with
 |nil=>cases u
 |cons x v ih=>
  rcases qR.1 u with rfl|u
  . exact N6 h
  . have:=(I6.1 h).1 e u;rw[Cf (by omega),ih (Gy h) u]
def CR {v:List D3} {i:Int} (h:A8 v i≠0):∃e∈v,e.1=i:=
 rB fun hn=>h (E9 fun e u hi=>hn ⟨e,u,hi⟩)
def UX:Ct []:=⟨List.Pairwise.nil,fun _ h=>by cases h⟩
def cN {e:D3} {v:List D3} (h:Ct (e::v)):Ct v:=⟨Gy h.1,fun x hx=>h.2 x (qL _ hx)⟩
def lN:∀ {a b:List D3},Ct a->Ct b->(∀i,A8 a i=A8 b i)->a=b
 | [],[],_,_,_=>rfl
 | [],e::b,_,hb,h=>absurd ((N6 hb.1).symm.trans (h e.1).symm) (hb.2 e (rF ..)).1
 |e::a,[],u,_,h=>absurd ((N6 u.1).symm.trans (h e.1)) (u.2 e (rF ..)).1
 |e::a,f::b,u,hb,h=>by
  have h1:=u.2 e (rF ..);have h2:=hb.2 f (rF ..);have he:e.1=f.1:=by
   rcases zY e.1 f.1 with hl|hl|hl
   . have:=h e.1;rw[N6 u.1,CQ hb.1 hl]at this;exact absurd this h1.1
   . exact hl
   . have:=h f.1;rw[N6 hb.1,CQ u.1 hl]at this;exact absurd this.symm h2.1
  have hv:rv e.2=rv f.2:=by
   have:=h e.1;rw[N6 u.1,he,N6 hb.1]at this;exact this
  have a0:e=f:=by
   obtain⟨i,x⟩:=e;obtain⟨j,y⟩:=f;simp only at he hv h1 h2;rw[he,h1.2,h2.2,hv]
  subst a0;rw[lN (cN u) (cN hb) fun i=>by
   by_cases hi:e.1=i
   . subst hi;rw[E9 fun x hx a1=>by have:=(I6.1 u.1).1 x hx;omega,E9 fun x hx a1=>by have:=(I6.1 hb.1).1 x hx;omega]
   . have:=h i;rwa[Cf hi,Cf hi]at this]
def lG {v:List D3} {e:D3} (h:Ie v) (he:∀x∈v,x.1<e.1):Ie (v++ [e]):=by
 unfold Ie;rw[tO];refine⟨h,zW ..,fun a u b hb=> ?_⟩;rw[qP]at hb;subst hb;exact he a u
def CP {v:List D3} {i:Int} {q:Rat} (h:Ct v) (hq:q≠0) (u:∀x∈v,x.1<i):Ct (v++ [(i,rc q)]):=by
 refine⟨lG h.1 u,fun x hx=> ?_⟩;rcases qU.1 hx with hx|hx
 . exact h.2 x hx
 . rw[qP]at hx;subst hx;simp only[F9];exact⟨hq,trivial⟩
def Lw (v:List D3) (i:Int) (q:Rat) (j:Int):A8 (v++ [(i,rc q)]) j=A8 v j+(if i=j then q else 0):=by
 rw[O8];simp only[A8,F9,rO]
def TD {v:List D3} (h:Ct v) {k:Nat} (hq:∀i,qs k (A8 v i)):jU k v:=fun e u=>by
 rw[(h.2 e u).2, <-T9 h.1 u];exact hq _
def gO {v:List D3} (h:Ie v) (hl:HG v) {k:Nat} (hs:jU k v) (hk:1<=k) (i:Int):qs k (A8 v i):=by
 by_cases hi:∃e∈v,e.1=i
 . obtain⟨e,u,rfl⟩:=hi;rw[T9 h u];exact Bg (hl e u) (hs e u) hk
 . rw[E9 fun e u a0=>hi ⟨e,u,a0⟩];exact Ab hk
def Jo {v:List D3} {n:Int} (h:M0 v n):(v.length:Int)<=max n 0:=by
 have key:∀(v:List D3) (k n:Int),Ie v->(∀e∈v,k<=e.1/\e.1<n)->(v.length:Int)<=max (n-k) 0:=by
  intro v
  induction v with
  |nil=>intro k n _ _;simp only[wX];omega
  |cons e v ih=>
   intro k n u hb;have h1:=hb e (rF ..);have:=ih (e.1+1) n (Gy u) fun x hx=>⟨by have:=(I6.1 u).1 x hx;omega,(hb x (qL _ hx)).2⟩
   simp only[rH];omega
 have:=key v 0 n h.1 fun e he=>⟨(h.2 e he).1,(h.2 e he).2.1⟩
 omega
abbrev Fx:=Int×Int×List (List D3)
def el (m:Fx) (i j:Nat):Rat:=A8 (m.2.2.getD i []) (j:Int)
def G3 (m:Fx):Prop:=0<=m.1/\m.1<=16384/\0<=m.2.1/\m.2.1<=16384/\(m.2.2.length:Int)=m.1/\∀v∈m.2.2,M0 v m.2.1
instance (m:Fx):Decidable (G3 m):=by unfold G3;infer_instance
def zm:Fx:=(0,0,[])
def isM (R C:Nat) (f:Nat->Nat->Rat) (m:Fx):Prop:=
 m.1=(R:Int)/\m.2.1=(C:Int)/\m.2.2.length=R/\∀i,i<R->Ct (m.2.2.getD i [])/\(∀e∈m.2.2.getD i [],0<=e.1/\e.1<(C:Int))/\∀j,j<C->A8 (m.2.2.getD i []) (j:Int)=f i j
def isV (n:Nat) (f:Nat->Rat) (v:List D3):Prop:=Ct v/\(∀e∈v,0<=e.1/\e.1<(n:Int))/\∀j,j<n->A8 v (j:Int)=f j
def B2g {n:Nat} {f:Nat->Rat} {v:List D3} (h:isV n f v) (i:Int):A8 v i=if 0<=i/\i<(n:Int)then f i.toNat else 0:=by
 by_cases hi:0<=i/\i<(n:Int)
 . rw[qY hi, <-h.2.2 i.toNat (by omega)];congr 1;omega
 . rw[qO hi,E9 fun e he u=>hi (by rw[<-u];exact h.2.1 e he)]
def I0 {α:Type} (l:List α) (d:α) {i:Nat} (h:i<l.length):l.getD i d=l[i]:=by rw[qF,qM h];rfl
def A1t {R C:Nat} {f:Nat->Nat->Rat} {m:Fx} (h:isM R C f m) {i j:Nat} (hi:i<R) (u:j<C):el m i j=f i j:=(h.2.2.2 i hi).2.2 j u
def B9 {α:Type} {l:List α} {i:Nat} {d:α} (h:i<l.length):l.getD i d∈l:=by rw[I0 _ _ h];exact vV h
def P3 {α:Type} {l:List α} {x:α} (d:α) (h:x∈l):∃i,i<l.length/\l.getD i d=x:=by
 obtain⟨i,hi,e⟩:=uB.1 h;exact⟨i,hi,by rw[I0 _ _ hi];exact e⟩
def A7j {n:Nat} {f:Nat->Rat} {v:List D3} (h:isV n f v):M0 v (n:Int):=⟨h.1.1,fun e u=>⟨(h.2.1 e u).1,(h.2.1 e u).2,(h.1.2 e u).1⟩⟩
def dK {R C:Nat} {f:Nat->Nat->Rat} {m:Fx} (h:isM R C f m) (hR:R<=16384) (hC:C<=16384):G3 m:=by
 obtain⟨h1,u,h3,h4⟩:=h;refine⟨by omega,by omega,by omega,by omega,by omega,fun v hv=> ?_⟩;obtain⟨i,hi,rfl⟩:=P3 [] hv;rw[u];exact A7j (h4 i (by omega))
def Gx (k:Nat) (m:Fx):Prop:=∀v∈m.2.2,jU k v
def A7o (m:Fx):Prop:=∀v∈m.2.2,HG v
def B2f {R C k:Nat} {f:Nat->Nat->Rat} {m:Fx} (h:isM R C f m) (hk:1<=k) (u:∀i j,i<R->j<C->qs k (f i j)):Gx k m:=fun v hv=>by
 obtain⟨i,hi,rfl⟩:=P3 [] hv;rw[h.2.2.1]at hi;refine TD (h.2.2.2 i hi).1 fun j=> ?_
 rw[B2g (h.2.2.2 i hi)];split
 . exact u i _ hi (by omega)
 . exact Ab hk
def TH (f:Int->Rat) (v:List D3):Prop:=Ct v/\∀i,A8 v i=f i
def dl (n:Int) (f:Int->Rat):List B7:=(List.range n.toNat).map fun j:Nat=>rc (f (j:Int))
def Mf (x:B7):Prop:=∃q,qs 1 q/\x=rc q
def C4:Nat->(Nat->Rat)->Rat
 |0,_=>0
 |n+1,f=>C4 n f+f n
def B8 {n:Nat} {f g:Nat->Rat} (h:∀i,i<n->f i=g i):C4 n f=C4 n g:=by
 induction n with
 |zero=>rfl
 |succ n u=>rw[C4,C4,u fun i hi=>h i (by omega),h n (by omega)]
def T4 {n:Nat} {f:Nat->Rat} (h:∀i,i<n->f i=0):C4 n f=0:=by
 induction n with
 |zero=>rfl
 |succ n u=>rw[C4,u fun i hi=>h i (by omega),h n (by omega),rO]
def Ez (n:Nat) (f g:Nat->Rat):C4 n (fun i=>f i+g i)=C4 n f+C4 n g:=by
 induction n with
 |zero=>rw[C4,C4,C4,rO]
 |succ n u=>rw[C4,C4,C4,u];grind
def Mu (n:Nat) (c:Rat) (f:Nat->Rat):C4 n (fun i=>c*f i)=c*C4 n f:=by
 induction n with
 |zero=>rw[C4,C4,tZ]
 |succ n u=>rw[C4,C4,u,Rat.mul_add]
def OU (n:Nat) (c:Rat) (f:Nat->Rat):C4 n (fun i=>f i*c)=C4 n f*c:=by
 induction n with
 |zero=>rw[C4,C4,sZ]
 |succ n u=>rw[C4,C4,u,g3k]
def Ly (m n:Nat) (f:Nat->Nat->Rat):C4 m (fun i=>C4 n (f i))=C4 n fun j=>C4 m fun i=>f i j:=by
 induction m with
 |zero=>rw[C4];exact(T4 fun _ _=>rfl).symm
 |succ m u=>
  rw[C4,u, <-Ez];exact B8 fun j _=>rfl
def N7 {n k:Nat} {f:Nat->Rat} (hk:k<n) (h:∀i,i<n->i≠k->f i=0):C4 n f=f k:=by
 induction n with
 |zero=>omega
 |succ n ih=>
  rw[C4];by_cases u:k=n
  . subst u;rw[T4 fun i hi=>h i (by omega) (by omega),tL]
  . rw[ih (by omega) fun i hi=>h i (by omega),h n (by omega) (by omega),rO]
def jQ {n k:Nat} {f:Nat->Rat} (u:∀i,i<n->qs k (f i)):qs (n*(k+1)+1) (C4 n f):=by
 induction n with
 |zero=>rw[C4];exact Ab (by omega)
 |succ n ih=>
  rw[C4];refine D7 (Vh (ih fun i hi=>u i (by omega)) (u n (by omega))) ?_;rw[uQ,xD];omega
def Uh:List D3->(Int->Rat)->Rat
 | [],_=>0
 |e::v,h=>rv e.2*h e.1+Uh v h
def mI (a b:List D3) (h:Int->Rat):Uh (a++b) h=Uh a h+Uh b h:=by
 induction a with
 |nil=>rw[wG,Uh,tL]
 |cons e a u=>rw[xT,Uh,Uh,u,xR]
def cV {d:D3} {v:List D3} {i:Int} (u:0<=i) (h1:i<(v.length:Int)) (h:Int->Rat):Uh (v.take (i+1).toNat) h=Uh (v.take i.toNat) h+rv (gx d v i).2*h (gx d v i).1:=by
 rw[show(i+1).toNat=i.toNat+1 from by omega,rS,G9 (d:=d) u h1,mI];simp only[zU,Uh,rO]
def A4h {v:List D3} {n:Nat} (u:∀e∈v,0<=e.1/\e.1<(n:Int)) (h:Int->Rat):Uh v h=C4 n fun j=>A8 v (j:Int)*h (j:Int):=by
 induction v with
 |nil=>rw[Uh];exact(T4 fun j _=>sZ _).symm
 |cons e v ih=>
  obtain⟨h0,h1⟩:=u e (rF ..);rw[Uh,ih fun x hx=>u x (qL _ hx)];have e1:(C4 n fun j=>A8 (e::v) (j:Int)*h (j:Int))=(C4 n fun j=>(if e.1=(j:Int)then rv e.2 else 0)*h (j:Int))+C4 n fun j=>A8 v (j:Int)*h (j:Int):=by
   rw[<-Ez];exact B8 fun j _=>by rw[A8,g3k]
  have e2:(C4 n fun j=>(if e.1=(j:Int)then rv e.2 else 0)*h (j:Int))=rv e.2*h e.1:=by
   rw[N7 (k:=e.1.toNat) (by omega) fun i _ hi=>by rw[qO (by omega),sZ],qY (by omega),show((e.1.toNat:Nat):Int)=e.1 from by omega]
  rw[e1,e2]
def QN:rv zr=0:=yS _
def put (i:Int) (x:B7) (l:List D3):List D3:=if rv x=0 then l else(i,x)::l
def I4 (φ:B7×B7×Unit->B7):List D3->List D3->List D3
 | [],[]=> []
 |e::a,[]=>put e.1 (φ (e.2,zr,())) (I4 φ a [])
 | [],f::b=>put f.1 (φ (zr,f.2,())) (I4 φ [] b)
 |e::a,f::b=>if e.1<f.1 then put e.1 (φ (e.2,zr,())) (I4 φ a (f::b))else if e.1=f.1 then put e.1 (φ (e.2,f.2,())) (I4 φ a b)else put f.1 (φ (zr,f.2,())) (I4 φ (e::a) b)
termination_by a b=>a.length+b.length
def Yv (i:Int) (q:Rat) (l:List D3) (j:Int):A8 (put i (rc q) l) j=(if i=j then q else 0)+A8 l j:=by
 unfold put;rw[F9];split
 . rename_i h;subst h;simp only[ite_self,tL]
 . rw[A8,F9]
def KW {i:Int} {x:B7} {l:List D3} {e:D3} (h:e∈put i x l):e.1=i\/e∈l:=by
 unfold put at h;split at h
 . exact .inr h
 . rcases qR.1 h with rfl|h
   . exact .inl rfl
   . exact .inr h
def Ys {i:Int} {q:Rat} {l:List D3} (h:Ct l) (hl:∀e∈l,i<e.1):Ct (put i (rc q) l):=by
 unfold put;rw[F9];split
 . exact h
 . rename_i h0;refine⟨I6.2 ⟨hl,h.1⟩,fun e u=> ?_⟩;rcases qR.1 u with rfl|u
   . simp only[F9];exact⟨h0,trivial⟩
   . exact h.2 e u
def QC (φ:B7×B7×Unit->B7) (g:Rat->Rat->Rat) (g0:g 0 0=0) (a b:List D3):
 (∀x y,(x=zr\/∃e∈a,e.2=x)->(y=zr\/∃e∈b,e.2=y)->φ (x,y,())=rc (g (rv x) (rv y)))->Ie a->Ie b->
 Ct (I4 φ a b)/\(∀e∈I4 φ a b,(∃x∈a,x.1=e.1)\/∃y∈b,y.1=e.1)/\∀i,A8 (I4 φ a b) i=g (A8 a i) (A8 b i):=by
 induction a,b using I4.induct with
 |case1=>
  intro _ _ _;rw[I4];exact⟨UX,fun e he=>(by cases he),fun i=>g0.symm⟩
 |case2 e a ih=>
  intro a0 ha hb;obtain⟨h1,h2,h3⟩:=ih (fun x y hx hy=>a0 x y (hx.imp id fun⟨z,hz,u⟩=>⟨z,qL _ hz,u⟩) hy) (Gy ha) hb;rw[I4,a0 e.2 zr (.inr ⟨e,rF ..,rfl⟩) (.inl rfl),QN];refine⟨Ys h1 fun x hx=> ?_,fun x hx=> ?_,fun i=> ?_⟩
  . rcases h2 x hx with⟨z,hz,u⟩ | ⟨z,hz,_⟩
    . rw[<-u];exact(I6.1 ha).1 z hz
    . cases hz
  . rcases KW hx with hx|hx
    . exact .inl ⟨e,rF ..,hx.symm⟩
    . exact(h2 x hx).imp (fun⟨z,hz,u⟩=>⟨z,qL _ hz,u⟩) id
  . rw[Yv,h3,Rj];by_cases hi:e.1=i
    . subst hi;rw[qY rfl,N6 ha,E9 fun x hx a3=>by have:=(I6.1 ha).1 x hx;omega,g0,rO]
    . rw[qO hi,Cf hi,tL]
 |case3 f b ih=>
  intro a0 ha hb;obtain⟨h1,h2,h3⟩:=ih (fun x y hx hy=>a0 x y hx (hy.imp id fun⟨z,hz,u⟩=>⟨z,qL _ hz,u⟩)) ha (Gy hb);rw[I4,a0 zr f.2 (.inl rfl) (.inr ⟨f,rF ..,rfl⟩),QN];refine⟨Ys h1 fun x hx=> ?_,fun x hx=> ?_,fun i=> ?_⟩
  . rcases h2 x hx with⟨z,hz,_⟩ | ⟨z,hz,u⟩
    . cases hz
    . rw[<-u];exact(I6.1 hb).1 z hz
  . rcases KW hx with hx|hx
    . exact .inr ⟨f,rF ..,hx.symm⟩
    . exact(h2 x hx).imp id fun⟨z,hz,u⟩=>⟨z,qL _ hz,u⟩
  . rw[Yv,h3,Rj];by_cases hi:f.1=i
    . subst hi;rw[qY rfl,N6 hb,E9 fun x hx a3=>by have:=(I6.1 hb).1 x hx;omega,g0,rO]
    . rw[qO hi,Cf hi,tL]
 |case4 e a f b a1 ih=>
  intro a0 ha hb;obtain⟨h1,h2,h3⟩:=ih (fun x y hx hy=>a0 x y (hx.imp id fun⟨z,hz,u⟩=>⟨z,qL _ hz,u⟩) hy) (Gy ha) hb;rw[I4,qY a1,a0 e.2 zr (.inr ⟨e,rF ..,rfl⟩) (.inl rfl),QN];refine⟨Ys h1 fun x hx=> ?_,fun x hx=> ?_,fun i=> ?_⟩
  . rcases h2 x hx with⟨z,hz,u⟩ | ⟨z,hz,u⟩
    . rw[<-u];exact(I6.1 ha).1 z hz
    . rw[<-u];rcases qR.1 hz with rfl|hz
      . exact a1
      . have:=(I6.1 hb).1 z hz;omega
  . rcases KW hx with hx|hx
    . exact .inl ⟨e,rF ..,hx.symm⟩
    . exact(h2 x hx).imp (fun⟨z,hz,u⟩=>⟨z,qL _ hz,u⟩) id
  . rw[Yv,h3];by_cases hi:e.1=i
    . subst hi;rw[qY rfl,N6 ha,E9 (v:=a) fun x hx a3=>by have:=(I6.1 ha).1 x hx;omega,CQ hb a1,g0,rO]
    . rw[qO hi,Cf hi,tL]
 |case5 e a f b a1 a2 ih=>
  intro a0 ha hb;obtain⟨h1,h2,h3⟩:=ih (fun x y hx hy=>a0 x y (hx.imp id fun⟨z,hz,u⟩=>⟨z,qL _ hz,u⟩) (hy.imp id fun⟨z,hz,u⟩=>⟨z,qL _ hz,u⟩)) (Gy ha) (Gy hb);rw[I4,qO a1,qY a2,a0 e.2 f.2 (.inr ⟨e,rF ..,rfl⟩) (.inr ⟨f,rF ..,rfl⟩)];refine⟨Ys h1 fun x hx=> ?_,fun x hx=> ?_,fun i=> ?_⟩
  . rcases h2 x hx with⟨z,hz,u⟩ | ⟨z,hz,u⟩
    . rw[<-u];exact(I6.1 ha).1 z hz
    . rw[<-u,a2];exact(I6.1 hb).1 z hz
  . rcases KW hx with hx|hx
    . exact .inl ⟨e,rF ..,hx.symm⟩
    . exact(h2 x hx).imp (fun⟨z,hz,u⟩=>⟨z,qL _ hz,u⟩) fun⟨z,hz,u⟩=>⟨z,qL _ hz,u⟩
  . rw[Yv,h3];by_cases hi:e.1=i
    . subst hi;have a4:=N6 hb;rw[<-a2]at a4;rw[qY rfl,N6 ha,a4,E9 (v:=a) fun x hx a3=>by have:=(I6.1 ha).1 x hx;omega,E9 (v:=b) fun x hx a3=>by have:=(I6.1 hb).1 x hx;omega,g0,rO]
    . rw[qO hi,Cf hi,Cf (e:=f) (by omega),tL]
 |case6 e a f b a1 a2 ih=>
  intro a0 ha hb;obtain⟨h1,h2,h3⟩:=ih (fun x y hx hy=>a0 x y hx (hy.imp id fun⟨z,hz,u⟩=>⟨z,qL _ hz,u⟩)) ha (Gy hb);rw[I4,qO a1,qO a2,a0 zr f.2 (.inl rfl) (.inr ⟨f,rF ..,rfl⟩),QN];refine⟨Ys h1 fun x hx=> ?_,fun x hx=> ?_,fun i=> ?_⟩
  . rcases h2 x hx with⟨z,hz,u⟩ | ⟨z,hz,u⟩
    . rw[<-u];rcases qR.1 hz with rfl|hz
      . omega
      . have:=(I6.1 ha).1 z hz;omega
    . rw[<-u];exact(I6.1 hb).1 z hz
  . rcases KW hx with hx|hx
    . exact .inr ⟨f,rF ..,hx.symm⟩
    . exact(h2 x hx).imp id fun⟨z,hz,u⟩=>⟨z,qL _ hz,u⟩
  . rw[Yv,h3];by_cases hi:f.1=i
    . subst hi;rw[qY rfl,N6 hb,E9 (v:=b) fun x hx a3=>by have:=(I6.1 hb).1 x hx;omega,CQ ha (by omega),g0,rO]
    . rw[qO hi,Cf (e:=f) hi,tL]
def nF {α:Type} (p:α->Bool) (l:List α):Int:=match l.findIdx? p with
 |some i=>(i:Int)
 |none=> -1
def nE (p:Int->Bool) (l:List Int):Int:=match l.findIdx? p with
 |some i=>(i:Int)
 |none=> -1
def C3l (v:List D3):List D3:=I4 (fun x=>rc (rv x.1)) v []
def A8d {v:List D3} (h:Ie v):Ct (C3l v)/\∀i,A8 (C3l v) i=A8 v i:=by
 obtain⟨h1,_,u⟩:=QC (fun x=>rc (rv x.1)) (fun p _=>p) rfl v [] (fun _ _ _ _=>rfl) h List.Pairwise.nil;exact⟨h1,u⟩
def fill {α:Type} (n i:Nat) (F:Nat->α) (out:List α):Prop:=out.length=n/\∀j,j<i->out[j]? =some (F j)
def mJ (n i:Nat) (P:Nat->List D3->Prop) (out:List (List D3)):Prop:=out.length=n/\∀j,j<i->P j (out.getD j [])
def C0i {n:Nat} {P:Nat->List D3->Prop} {out:List (List D3)} (h:out.length=n):mJ n 0 P out:=⟨h,fun _ u=>by omega⟩
def A6z {n:Nat} {i:Int} {P:Nat->List D3->Prop} {out:List (List D3)} {x:List D3} (h:mJ n i.toNat P out) (h0:0<=i) (hi:i<(n:Int)) (hx:P i.toNat x):mJ n (i+1).toNat P (out.set i.toNat x):=by
 refine⟨by rw[qJ];exact h.1,fun j hj=> ?_⟩;rw[qF,wB];by_cases u:i.toNat=j
 . rw[qY u,qY (by rw[h.1];omega), <-u];exact hx
 . rw[qO u, <-qF];exact h.2 j (by omega)
def A2y {k:Nat} {m:Fx} (u:G3 m) (hs:Gx k m) {v:List D3} (h:v∈m.2.2):eM k v:=by
 refine⟨(u.2.2.2.2.2 v h).1,hs v h, ?_⟩;have:=Jo (u.2.2.2.2.2 v h);have:=u.2.2.2.1;have:=u.2.2.1;omega
def A9i {v:List D3} {n i:Int} (h:M0 v n) (hi:¬(0<=i/\i<n)):A8 v i=0:=E9 fun e he u=>hi (by rw[<-u];exact⟨(h.2 e he).1,(h.2 e he).2.1⟩)
abbrev LUV:=List Int×List Int×Fx×Fx
def kH:LUV:=([],[],zm,zm)
def L9 (p:List Int) (n:Int):Prop:=(p.length:Int)=n/\(∀i∈p,0<=i/\i<n)/\p.Nodup
instance (p:List Int) (n:Int):Decidable (L9 p n):=by unfold L9;infer_instance
def sqr (m:Fx) (n:Int):Prop:=m.1=n/\m.2.1=n/\G3 m
instance (m:Fx) (n:Int):Decidable (sqr m n):=by unfold sqr;infer_instance
def Da (f:LUV) (n:Int):Prop:=L9 f.1 n/\L9 f.2.1 n/\sqr f.2.2.1 n/\sqr f.2.2.2 n/\∀i j:Nat,(i:Int)<n->(j:Int)<n->(i<j->el f.2.2.1 i j=0)/\el f.2.2.1 i i=1/\(j<i->el f.2.2.2 i j=0)/\el f.2.2.2 i i≠0
def luM (f:LUV) (n:Nat) (i j:Nat):Rat:=C4 n fun k=>el f.2.2.1 i k*el f.2.2.2 k j
def nonsing (n:Nat) (A:Nat->Nat->Rat):Prop:=∀x:Nat->Rat,(∀i,i<n->C4 n (fun j=>A i j*x j)=0)->∀j,j<n->x j=0
def sK (s:Nat):Nat->Nat
 |0=>s
 |k+1=>4*sK s k+1
def gK (s T:Nat):Nat->Nat
 |0=>T
 |k+1=>2*gK s T k+s+1
def hK (s Y:Nat):Nat->Nat
 |0=>Y
 |k+1=>2*hK s Y k+2*s+1
def ix (p:List Int) (i:Nat):Nat:=(p.getD i 0).toNat
end Go.Proofs.YthclcjfodjhmlaaGreat
namespace Go.Proofs.YthclcjfodjhmlaaGreat
open Go.IntKind (i64 u64 u32)
abbrev Ln:=Int×Int
def C1 (s:List Int) (i:Int):Int:=s.getD i.toNat 0
def EH (n:Int) (l:Ln):Prop:=0<=l.1/\l.1<n/\0<=l.2/\l.2<n
instance (n:Int) (l:Ln):Decidable (EH n l):=by unfold EH;infer_instance
def V7 (n:Int) (ls:List Ln):Prop:=0<=n/\n<=16384/\∀l∈ls,EH n l
def Uv (n:Int) (ls:List Ln):Int:=if n<0\/16384<n then 3 else if∀l∈ls,EH n l then 0 else 12
def UF (s:List Int):Prop:=∀i:Nat,i<s.length->0<=C1 s i/\C1 s i<=i
def KZ (s:List Int):Nat->Int->Int
 |0,b=>b
 |k+1,b=>if C1 s b=b then b else KZ s k (C1 s b)
def root (s:List Int) (b:Int):Int:=KZ s b.toNat b
def PX (n:Int):List Int:=(List.range n.toNat).map Int.ofNat
def Bd (L:List Int) (l:Ln):List Int:=L.map fun x=>if x=max (C1 L l.1) (C1 L l.2)then min (C1 L l.1) (C1 L l.2)else x
def G1 (n:Int) (ls:List Ln):List Int:=ls.foldl Bd (PX n)
def cnt (L:List Int):Nat:=((List.range L.length).filter fun(b:Nat)=>decide (C1 L (b:Int)=(b:Int))).length
def adj (N:List (List Ln)) (i:Int) (l:Ln):List (List Ln):=
 let N1:=N.set l.1.toNat (N.getD l.1.toNat []++ [(i,l.2)])
 N1.set l.2.toNat (N1.getD l.2.toNat []++ [(i,l.1)])
def D2 (n:Int) (ls:List Ln):Nat->List Int×List Int×List (List Ln)
 |0=>(PX n,[],List.replicate n.toNat [])
 |k+1=>
  let p:=D2 n ls k
  let l:=ls.getD k (0,0)
  if C1 p.1 l.1=C1 p.1 l.2 then p else(Bd p.1 l,p.2.1++ [(k:Int)],adj p.2.2 k l)
def D5 (n:Int) (ls:List Ln):List Int:=(D2 n ls ls.length).2.1
end Go.Proofs.YthclcjfodjhmlaaGreat
namespace Go.Proofs.YthclcjfodjhmlaaGreat
open Go.Vc Go.Gw
open Go.IntKind (i64 u64 u32)
def LA (n:Nat) (f g:Nat->Rat):C4 n (fun i=>f i-g i)=C4 n f-C4 n g:=by
 induction n with
 |zero=>rw[C4,C4,C4];decide+kernel
 |succ n u=>rw[C4,C4,C4,u];grind
def QM {n:Nat} {f:Nat->Rat} (h:∀i,i<n->0<=f i):0<=C4 n f:=by
 induction n with
 |zero=>exact Rat.le_refl
 |succ n u=>
  rw[C4];exact Rat.add_nonneg (u fun i hi=>h i (by omega)) (h n (by omega))
def A8m {n:Nat} {f:Nat->Rat} (h:∀i,i<n->0<=f i) (h0:C4 n f=0):∀i,i<n->f i=0:=by
 induction n with
 |zero=>intro i hi;omega
 |succ n ih=>
  rw[C4]at h0;have h1:=QM (n:=n) fun i hi=>h i (by omega)
  have h2:=h n (by omega);have e2:f n=0:=by grind
  have e1:C4 n f=0:=by grind
  intro i hi;by_cases u:i=n
  . subst u;exact e2
  . exact ih (fun i hi=>h i (by omega)) e1 i (by omega)
def Yq (fr to:Nat->Nat) (b i:Nat):Rat:=(if fr i=b then 1 else 0)-(if to i=b then 1 else 0)
def FG (m:Nat) (fr to:Nat->Nat) (f:Nat->Rat) (b:Nat):Rat:=C4 m fun i=>Yq fr to b i*f i
variable {n m:Nat} {fr to:Nat->Nat}
def XX {φ:Nat->Rat} {a:Nat} (h:a<n):C4 n (fun b=>(if a=b then 1 else 0)*φ b)=φ a:=by
 rw[N7 h fun i _ hi=>by rw[qO (Ne.symm hi),sZ],qY rfl,xN]
def A4a {φ:Nat->Rat} {i:Nat} (h1:fr i<n) (u:to i<n):C4 n (fun b=>Yq fr to b i*φ b)=φ (fr i)-φ (to i):=by
 rw[B8 (g:=fun b=>(if fr i=b then 1 else 0)*φ b-(if to i=b then 1 else 0)*φ b) fun b _=>by unfold Yq;grind,LA,XX h1,XX u]
def C1s {φ D:Nat->Rat} (h:∀i,i<m->fr i<n/\to i<n):C4 m (fun i=>D i*(φ (fr i)-φ (to i)))=C4 n (fun b=>φ b*FG m fr to D b):=by
 rw[B8 (g:=fun i=>C4 n fun b=>D i*(Yq fr to b i*φ b)) fun i hi=>by rw[Mu,A4a (h i hi).1 (h i hi).2],Ly];refine B8 fun b _=> ?_
 unfold FG;rw[<-Mu];exact B8 fun i _=>by grind
def B7g {φ D s:Nat->Rat} (h:∀i,i<m->fr i<n/\to i<n) (hs:∀i,i<m->0<s i) (hD:∀i,i<m->D i=s i*(φ (fr i)-φ (to i))) (h0:∀b,b<n->φ b=0\/FG m fr to D b=0):∀i,i<m->φ (fr i)-φ (to i)=0:=by
 have e0:C4 m (fun i=>D i*(φ (fr i)-φ (to i)))=0:=by
  rw[C1s h];exact T4 fun b hb=>by rcases h0 b hb with e|e<;>rw[e]<;>grind
 have hq:∀x:Rat,0<=x*x:=fun x=>by
  rcases(Rat.le_total (a:=0) (b:=x))with h|h
  . exact yT h h
  . have u:0<= -x:=by grind
    have:=yT u u;grind
 have:=A8m (f:=fun i=>D i*(φ (fr i)-φ (to i))) (fun i hi=>by
  show 0<=D i*(φ (fr i)-φ (to i));rw[hD i hi,vP];exact yT (Rat.le_of_lt (hs i hi)) (hq _)) e0
 intro i hi;have e:=this i hi;rw[hD i hi,vP]at e;rcases zN.1 e with e|e
 . have:=hs i hi;rw[e]at this;exact absurd this (g0n)
 . rcases zN.1 e with e|e<;>exact e
def cZ (fr to:Nat->Nat) (s h θ:Nat->Rat) (i:Nat):Rat:=s i*(θ (fr i)-θ (to i)+h i)
def B6f (f g:Nat->Rat) (b:Nat):FG m fr to (fun i=>f i-g i) b=FG m fr to f b-FG m fr to g b:=by
 unfold FG;rw[<-LA];exact B8 fun i _=>by grind
def A4f (f g:Nat->Rat) (w:Rat) (b:Nat):FG m fr to (fun i=>f i+w*g i) b=FG m fr to f b+w*FG m fr to g b:=by
 unfold FG;rw[<-Mu, <-Ez];exact B8 fun i _=>by grind
def NO {f g:Nat->Rat} (h:∀i,i<m->f i=g i) (b:Nat):FG m fr to f b=FG m fr to g b:=B8 fun i hi=>by rw[h i hi]
def WI {f:Nat->Rat} {lab:Nat->Nat} (hb:∀i,i<m->fr i<n/\to i<n) (hl:∀i,i<m->lab (fr i)=lab (to i)) (t:Nat):C4 n (fun b=>(if lab b=t then 1 else 0)*FG m fr to f b)=0:=by
 rw[<-C1s hb];exact T4 fun i hi=>by rw[hl i hi];grind
def iS {s h θ g:Nat->Rat} (hb:∀i,i<m->fr i<n/\to i<n) (hs:∀i,i<m->0<s i) (hd:∀b,b<n->FG m fr to g b=FG m fr to (cZ fr to s h θ) b):
 C4 m (fun i=>cZ fr to s h θ i*(cZ fr to s h θ i/(2*s i)-h i))<=C4 m (fun i=>g i*(g i/(2*s i)-h i)):=by
 have e1:C4 m (fun i=>g i*(g i/(2*s i)-h i))-C4 m (fun i=>cZ fr to s h θ i*(cZ fr to s h θ i/(2*s i)-h i))=C4 m (fun i=>(g i-cZ fr to s h θ i)*(g i-cZ fr to s h θ i)/(2*s i))+C4 m (fun i=>(g i-cZ fr to s h θ i)*(θ (fr i)-θ (to i))):=by
  rw[<-LA, <-Ez];refine B8 fun i hi=> ?_
  have u:=hs i hi;have a1:s i≠0:=fun e=>by rw[e]at u;exact absurd u g0n
  have hf:cZ fr to s h θ i/s i=θ (fr i)-θ (to i)+h i:=by
   unfold cZ;rw[tY,g0z, <-vP,zV _ a1,xN]
  generalize cZ fr to s h θ i=f at*;have h2:∀x:Rat,x/(2*s i)=x/s i/2:=fun x=>by
   rw[tY,tY,tY,Rat.inv_mul_rev];grind
  rw[h2,h2,h2];have h3:∀x y:Rat,x*y/s i=x*(y/s i):=fun x y=>by rw[tY,tY,vP]
  rw[h3];have h4:∀x y:Rat,(x-y)/s i=x/s i-y/s i:=fun x y=>by rw[tY,tY,tY];grind
  rw[h4];have h5:θ (fr i)-θ (to i)=f/s i-h i:=by rw[hf];grind
  rw[h5];have h6:g i*(f/s i)=f*(g i/s i):=by rw[tY,tY];grind
  grind
 rw[C1s hb,T4 (n:=n) fun b a0=>by rw[B6f,hd b a0];grind,rO]at e1;have h0:0<=C4 m (fun i=>(g i-cZ fr to s h θ i)*(g i-cZ fr to s h θ i)/(2*s i)):=QM fun i hi=>by
  have u:=hs i hi;rw[tY];refine yT ?_ (Rat.le_of_lt (Rat.inv_pos.2 (Rat.mul_pos (by decide) u)));generalize g i-cZ fr to s h θ i=x;rcases(Rat.le_total (a:=0) (b:=x))with h|h
  . exact yT h h
  . have h2:0<= -x:=by grind
    have:=yT h2 h2;grind
 grind
end Go.Proofs.YthclcjfodjhmlaaGreat
