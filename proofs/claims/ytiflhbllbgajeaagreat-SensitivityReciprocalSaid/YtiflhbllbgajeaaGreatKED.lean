/- Part. -/
import Derived.Test.YtiflhbllbgajeaaGreatKEC
set_option linter.all false
namespace Go.Vc
open Go Go.RowKit Go.Gw
open Go.IntKind (i64 u64 u32)
section
variable {za:Zn} {w0 w:World} {Z:Nat->Prop} {B:Nat->Value} {st st0 st2:St} {E:F8}
def B7.setSame (h:B7 za w0 st E w Z B) (s:Nat) {x:DV} (hx:RD w Z B E x (E s)) (hr:Nu st.nx x):B7 za w0 (st.setS s x) E w Z B:=by
 have e:upd E s (E s)=E:=by
  funext t;by_cases u:t=s
  . subst u;exact C2 _ _ _
  . exact C3 _ _ _ _ u
 have:=h.setS s (x:=x) (v:=E s) (by rw[e];exact hx) hr;rwa[e]at this
def B5z {A:FE} (u:B7 za w0 st2 E w Z B) (pk:B1h za.n st0) (hS:∀s∈A.keepS,st2.eS s=st0.eS s) (hL:∀k∈A.keepL,st2.eL k=st0.eL k) (hF:st2.fr=st0.fr):Lr za w0 st2 E w Z B A.keepL (kept A st0) B:=by
 have eS:∀s,(kept A st0).S s=if s∈A.keepS then st2.S s else .dead:=fun s=>by
  show((kept A st0).eS s).2= _;rw[dG];split
  . rename_i hs;rw[<-hS s hs];rfl
  . rfl
 have eL:∀k,(kept A st0).L k=if k∈A.keepL then st2.L k else .none:=fun k=>by
  show((kept A st0).eL k).2= _;rw[dF];split
  . rename_i hs;rw[<-hL k hs];rfl
  . rfl
 have a1:∀s,(kept A st0).S s=if s∈A.keepS then st0.S s else .dead:=fun s=>by
  show((kept A st0).eS s).2= _;rw[dG];split<;>rfl
 have a0:∀k,(kept A st0).L k=if k∈A.keepL then st0.L k else .none:=fun s=>by
  show((kept A st0).eL s).2= _;rw[dF];split<;>rfl
 have lv:∀k b,A9 w (B k) ((kept A st0).L k) b->k∈A.keepL/\A9 w (B k) (st2.L k) b:=fun k b hk=>by
  rw[eL]at hk;split at hk
  . rename_i hm;exact⟨hm,hk⟩
  . exact hk.elim
 refine⟨⟨u.ext,u.zlt,fun s=> ?_,fun k=> ?_,fun k k' b a2 l1 l2=>u.disj k k' b a2 (lv k b l1).2 (lv k' b l2).2,fun s=> ?_,fun k=> ?_,fun k hk=> ?_,u.bone,u.zin,⟨pk.nms.1,qZ pk.nms.2 (Ox _ _)⟩,u.bfix,⟨u.mrk.1,fun k b hk hl=>u.mrk.2 k b hk (lv k b hl).2⟩,(by have:=u.frs;rw[hF]at this;exact this),pk.frf.le (Ox _ _)⟩,fun j b hj=>⟨j,(lv j b hj).1,(lv j b hj).2⟩⟩
 . rw[eS];split
   . exact u.slots s
   . trivial
 . rw[eL];split
   . exact u.locs k
   . trivial
 . rw[a1];split
   . exact(pk.refs s).le (Ox _ _)
   . trivial
 . rw[a0];split
   . exact(pk.refl k).le (Ox _ _)
   . trivial
 . rw[a0];split
   . exact pk.fresh k (qZ (Ox _ _) hk)
   . rfl
def MS (h2:B7 za w0 st2 E w Z B) {t:Ty} {e:TypeId} {c:C} {l:List t.den} {v:Value} (hc:RC w Z B c v) (u:MR st2 t e c=some l):
 ∃xs,w.ownsRow w0.heap.size e t.size v l.length xs/\F7 (C4 t w Z) xs l/\(∀b,v.ownBlock=some b->¬Z b)/\((∃q,c= .row q/\live (st2.L q)/\v=B q)\/(root v=none/\∀q,c≠ .row q)):=by
 unfold MR at u;split at u
 . rename_i q;split at u
   . rename_i t' e' l' hq;split at u
     . rename_i a1;subst a1;obtain⟨he,u⟩:=D4 u;cases u;simp only[qC]at he;have a3:=qP he.2;have a0:=qD he.1;subst a0;have hL:=h2.locs q;rw[hq]at hL;obtain⟨xs,h1,h3,h4⟩:=hL;have hv:v=B q:=hc;subst hv;have a2:∀b,(B q).ownBlock=some b->w0.heap.size<=b:=fun b hb=>by
        rcases(h4 b hb).1 with g|g
        . exact g.2
        . have:=h2.nms.1;omega
       exact⟨xs,nV h1 a2,h3,fun b hb=>(h4 b hb).2, .inl ⟨q,rfl,by rw[hq];trivial,rfl⟩⟩
     . cases u
   . cases u
 . obtain⟨hn,u⟩:=D4 u;cases u;have hv:v= .slice none 0 0:=by rw[hc.1];exact Ui hn
   subst hv;exact⟨[],World.ownsRow_nil _ _ _ _,rfl,fun b hb=>(by cases hb), .inr ⟨rfl,fun q hq=>(by cases hq)⟩⟩
 . cases u
def B2v {t:Ty} {v:Value} {x:t.den} (h:C4 t w Z [v] x):RC w Z B (B7g t x) v:=by
 cases t with
 |ptr t=>
  obtain⟨b,o,u,e,r⟩:=h;simp only[sL,vM]at e;exact⟨b,o,u,by rw[e];rfl,r⟩
 | _=>exact h
def A9a {n:Nat} {t:Ty} {x:t.den} :Cd n (B7g t x):=by cases t<;>trivial
def Zq (hb0:za.b0=0) (h2:B7 za w0 st2 E w Z B):∀ {shs:List Vs} {T:Type} {tl:T} {cs:List C} {vs:List Value} {p:shD shs T} {st:St} {BX:Nat->Value} {used:List Nat},Lr za w0 st2 E w Z B used st BX->Dh w Z B cs vs->Cq st2 shs tl cs=some p->(∀q∈Y7 shs cs,q∉used)->(Y7 shs cs).Nodup->(∀c∈shs,∀k,c.pin=some k->k<st.nx/\BX k=B k)->
 ∃BX',Lr za w0 st2 E w Z B (Y7 shs cs++used) (placeSh shs p st).2.1 BX'/\Dh w Z BX' (placeSh shs p st).1 vs/\(∀c∈(placeSh shs p st).1,Cd (placeSh shs p st).2.1.nx c)/\(∀k,k<st.nx->BX' k=BX k)/\st.nx<=(placeSh shs p st).2.1.nx/\(placeSh shs p st).2.2=tl
 | [],_,tl,[],vs,p,st,BX,used,c,hv,hp,_,_,_=>by
  simp only[Cq,rE]at hp;exact⟨BX,c,hv,by simp[placeSh],fun _ _=>rfl,rB _,hp.symm⟩
 | [],_,_,_:: _,_,_,_,_,_,_,_,hp,_,_,_=>by cases hp
 | .val t::r,_,_,[],_,_,_,_,_,_,_,hp,_,_,_=>by cases hp
 | .own t e::r,_,_,[],_,_,_,_,_,_,_,hp,_,_,_=>by cases hp
 | .fix k::r,_,_,[],_,_,_,_,_,_,_,hp,_,_,_=>by cases hp
 | .fixB k::r,_,_,[],_,_,_,_,_,_,_,hp,_,_,_=>by cases hp
 | .fix k::r,T,tl,c0::cs,vs,p,st,BX,used,c,⟨v,a4,e,a2,a3⟩,hp,hu,hn,hf=>by
  simp only[Cq]at hp;obtain⟨hk,hp⟩:=D4 hp;have a0:Y7 (.fix k::r) (c0::cs)=Y7 r cs:=by cases c0<;>rfl
  rw[a0]at hu hn⊢;obtain⟨BX',g1,g2,g3,g4,g5,g6⟩:=Zq hb0 h2 c a3 hp hu hn (fun j hj=>hf j (qJ _ hj));subst e;have a1:=hf _ rC k rfl;cases c0 with
  |row j=>
   have:=qD hk;subst this;refine⟨BX',g1,⟨v,a4,rfl, ?_,g2⟩,fun q hq=> ?_,g4,g5,g6⟩
   . show v=BX' j;rw[g4 j a1.1,a1.2];exact a2
   . rcases qG.1 hq with rfl|hq
     . exact rD a1.1 g5
     . exact g3 q hq
  | _=>cases hk
 | .fixB k::r,T,tl,c0::cs,vs,p,st,BX,used,c,⟨v,a4,e,a2,a3⟩,hp,hu,hn,hf=>by
  simp only[Cq]at hp;obtain⟨hk,hp⟩:=D4 hp;have a0:Y7 (.fixB k::r) (c0::cs)=Y7 r cs:=by cases c0<;>rfl
  rw[a0]at hu hn⊢;obtain⟨BX',g1,g2,g3,g4,g5,g6⟩:=Zq hb0 h2 c a3 hp hu hn (fun j hj=>hf j (qJ _ hj));subst e;have a1:=hf _ rC k rfl;cases c0 with
  |box j o=>
   cases o with
   |succ o=>cases hk
   |zero=>
   have:=qD hk;subst this;refine⟨BX',g1,⟨v,a4,rfl, ?_,g2⟩,fun q hq=> ?_,g4,g5,g6⟩
   . obtain⟨b,hb,hv⟩:=a2;exact⟨b,by rw[g4 j a1.1,a1.2];exact hb,hv⟩
   . rcases qG.1 hq with rfl|hq
     . exact rD a1.1 g5
     . exact g3 q hq
  | _=>cases hk
 | .val t::r,T,tl,c0::cs,vs,p,st,BX,used,c,⟨v,a4,e,a2,a3⟩,hp,hu,hn,hf=>by
  simp only[Cq,bind_some,qK]at hp;obtain⟨y,hy,z,hz,rfl⟩:=hp;have a0:Y7 (.val t::r) (c0::cs)=Y7 r cs:=by cases c0<;>rfl
  rw[a0]at hu hn⊢;obtain⟨BX',g1,g2,g3,g4,g5,g6⟩:=Zq hb0 h2 c a3 hz hu hn (fun j hj=>hf j (qJ _ hj));subst e;refine⟨BX',g1,⟨v,a4,rfl,B2v (bQ a2 hy),g2⟩,fun q hq=> ?_,g4,g5,g6⟩;rcases qG.1 hq with rfl|hq
  . exact A9a
  . exact g3 q hq
 | .own t e0::r,T,tl,c0::cs,vs,p,st,BX,used,c,⟨v,a4,e,a2,a3⟩,hp,hu,hn,hf=>by
  simp only[Cq,bind_some,qK]at hp;obtain⟨l,hl,z,hz,rfl⟩:=hp;subst e;obtain⟨xs,o1,o2,o3,o4⟩:=MS h2 a2 hl;have ac:v.oneCell'=true:=by rcases o1.2 with⟨hv,_⟩ | ⟨_,_,_,hv,_⟩<;>rw[hv]<;>rfl
  have ah:=F3 o1;have key:∃u,Lr za w0 st2 E w Z B u (st.newL (.row t e0 l)) (upd BX st.nx v)/\(∀q∈Y7 r cs,q∉u)/\(Y7 r cs).Nodup/\(∀q,q∈Y7 (.own t e0::r) (c0::cs)++used↔q∈Y7 r cs++u):=by
   have mk:∀u,(∀q∈used,q∈u)->(∀b,root v=some b->∃q,q∈u/\A9 w (B q) (st2.L q) b)->(∀k b,root v=some b->¬A9 w (BX k) (st.L k) b)->Lr za w0 st2 E w Z B u (st.newL (.row t e0 l)) (upd BX st.nx v):=by
    intro u ab hq hd;refine⟨c.rel.new (v:=v) (lc:= .row t e0 l) ⟨xs,by rw[C2];exact Zo o1 (rN _),o2,fun b hb=>by rw[C2]at hb;exact⟨.inl ⟨c.rel.nms.2,(World.ownsRow.lt o1 b hb).1⟩,o3 b hb⟩⟩ hd trivial ac (fun b _ _=>by rw[hb0];exact rN _),fun j b hj=> ?_⟩;rw[St.L_newL]at hj;by_cases a6:j=st.nx
    . subst a6;rw[C2,qT rfl]at hj;exact hq b hj
    . rw[qL a6,C3 _ _ _ _ a6]at hj;obtain⟨q,h1,h3⟩:=c.own j b hj;exact⟨q,ab q h1,h3⟩
   rcases o4 with⟨q,rfl,a9,ad⟩ | ⟨aa,af⟩
   . have a0:Y7 (.own t e0::r) (.row q::cs)=q::Y7 r cs:=rfl;rw[a0]at hu hn⊢;have a5:=sH.1 hn;refine⟨q::used,mk _ (fun x hx=>qJ _ hx) (fun b hb=>⟨q,by simp,A9.of a9 (by rw[<-ad];exact hb)⟩) (fun k b hb=> ?_),fun x hx=> ?_,a5.2,fun x=>by grind⟩
     . rw[ad]at hb;exact c.disj h2 (hu q (by simp)) k b (A9.of a9 hb)
     . intro a7;rcases qG.1 a7 with rfl|a7
       . exact a5.1 hx
       . exact hu x (qJ _ hx) a7
   . have a0:Y7 (.own t e0::r) (c0::cs)=Y7 r cs:=by cases c0<;>first|rfl|exact absurd rfl (af _)
     rw[a0]at hu hn⊢;exact⟨used,mk _ (fun x hx=>hx) (fun b hb=>by rw[aa]at hb;cases hb) (fun k b hb=>by rw[aa]at hb;cases hb),hu,hn,fun x=>yI⟩
  obtain⟨u,c',ag,a5,a8⟩:=key;obtain⟨BX',g1,g2,g3,g4,g5,g6⟩:=Zq hb0 h2 c' a3 hz ag a5 (fun j hj k hk=>by
   obtain⟨a,b⟩:=hf j (qJ _ hj) k hk;exact⟨vO a,(C3 _ _ _ _ (tU a)).trans b⟩)
  have ae:BX' st.nx=v:=by rw[g4 st.nx (rV _),C2]
  refine⟨BX',⟨g1.rel,fun j b hj=> ?_⟩,⟨v,a4,rfl,ae.symm,g2⟩,fun q hq=> ?_,fun k hk=> ?_,qZ (uU _) g5,g6⟩
  . obtain⟨q,h1,h3⟩:=g1.own j b hj;exact⟨q,(a8 q).2 h1,h3⟩
  . rcases qG.1 hq with rfl|hq
    . exact rD (rV _) g5
    . exact g3 q hq
  . rw[g4 k (vO hk),C3 _ _ _ _ (tU hk)]
end
section
variable {za:Zn} {w0 w:World} {Z:Nat->Prop} {B:Nat->Value} {st st0 st2:St} {E:F8}
def RA (E:F8):List (Nat×Bool×List Vs)->List Value->List Value->Prop
 | [],vs,u=>vs=u
 | (s,agg,shs)::l,vs,u=>∃v1 v2,vs=v1++v2/\v1.length=shs.length/\(agg=true->E s= .agg v1.toArray)/\(agg=false->v1= [E s])/\RA E l v2 u
def bJ (za:Zn) (w0:World) (w:World) (Z:Nat->Prop) (B:Nat->Value) (st2:St):List (Nat×TypeId×List Vs)->List Value->Prop
 | [],vs=>vs= []
 | (k,T,shs)::l,vs=>∃v1 v2,vs=v1++v2/\v1.length=shs.length/\live (st2.L k)/\(∃b,B k= .pointer (some ⟨b,0,none⟩)/\up za w0 k b/\¬Z b/\KO w b v1.toArray T)/\bJ za w0 w Z B st2 l v2
def YZ (h2:B7 za w0 st2 E w Z B):∀ {l:List (Nat×Bool×List Vs)} {r cs:List C} {vr:List Value},Dh w Z B r vr->cG st2 l r=some cs->∃vs,Dh w Z B cs vs/\RA E l vs vr
 | [],r,cs,vr,hr,h=>by cases h;exact⟨vr,hr,rfl⟩
 | (s,agg,shs)::l,r,cs,vr,hr,h=>by
  simp only[cG]at h;split at h
  . rename_i a a1 hs;obtain⟨hb,h⟩:=D4 h;simp only[qK]at h;obtain⟨a2,h3,rfl⟩:=h;simp only[qC,g1c]at hb;obtain⟨ha,hb⟩:=hb;subst ha;have a0:=qD hb;obtain⟨v2,h4,h5⟩:=YZ h2 hr h3;have u:=h2.slots s;rw[hs]at u;cases a with
    |true=>
     obtain⟨v1,e,u⟩:=u;exact⟨v1++v2,u.append h4,v1,v2,rfl,by rw[<-a0,u.len],fun _=>e,fun hh=>(by cases hh),h5⟩
    |false=>
     have u:Dh w Z B a1 [E s]:=u;exact⟨[E s]++v2,u.append h4,[E s],v2,rfl,by rw[<-a0,u.len],fun hh=>(by cases hh),fun _=>rfl,h5⟩
  . cases h
def YY (h2:B7 za w0 st2 E w Z B):∀ {l:List (Nat×TypeId×List Vs)} {cs:List C},cF st2 l=some cs->∃vs,Dh w Z B cs vs/\bJ za w0 w Z B st2 l vs
 | [],cs,h=>by cases h;exact⟨[],rfl,rfl⟩
 | (k,T,shs)::l,cs,h=>by
  simp only[cF]at h;split at h
  . rename_i T' a0 hk;obtain⟨hb,h⟩:=D4 h;simp only[qK]at h;obtain⟨a1,h3,rfl⟩:=h;simp only[qC]at hb;have hT:=qD hb.1;subst hT;have u:=qD hb.2;obtain⟨v2,h4,h5⟩:=YY h2 h3;have hL:=h2.locs k;rw[hk]at hL;obtain⟨b,vs,e,h6,h7,h8,h9⟩:=hL;exact⟨vs.toList++v2,h9.append h4,vs.toList,v2,rfl,by rw[<-u,h9.len],by rw[hk];trivial,⟨b,e,h6,h7,by simpa using h8⟩,h5⟩
  . cases h
def aG {k:Nat} {t:Ty} {e e':TypeId} {x:List t.den×List Nat} (hl:nE st2 t e e' k=some x):st2.L k= .nest t e e' x.1 [] x.2:=by
 unfold nE at hl;split at hl
 . rename_i t' d d' ls dd u;split at hl
   . rename_i hh;subst hh;obtain⟨hb,hl⟩:=D4 hl;cases hl;simp only[qC]at hb;rw[u,qD hb.1,qD hb.2]
   . cases hl
 . cases hl
def TK {k q:Nat} {ka va:Bool} {kt vt:Ty} {x:(LT.itM ka kt va vt q).den} (hl:mZ st2 k (.itM ka kt va vt q)=some x):∃cur,st2.L k= .itM ka kt va vt x.1 x.2 cur q/\q<k:=by
 simp only[mZ]at hl;split at hl
 . rename_i a0 a1 a2 a3 es left cur q' u;obtain⟨hb,hl⟩:=D4 hl;simp only[qC]at hb;split at hl
   . rename_i hh;cases hh;cases hl;have:=qD hb.1;subst this;exact⟨cur,u,qP hb.2⟩
   . cases hl
 . cases hl
def ZX {k q:Nat} {t:LT} {x:t.den} (hl:mZ st2 k t=some x) (u:t.need=some q):q<k:=by
 cases t with
 |itM ka kt va vt q'=>cases u;exact(TK hl).choose_spec.2
 | _=>cases u
def IN (h2:B7 za w0 st2 E w Z B) {k:Nat} {t:LT} {x:t.den} (hl:mZ st2 k t=some x):live (st2.L k)/\RL (up za w0 k) w Z B k (t.lc x)/\t.wf x:=by
 cases t with
 |row t e=>
  have hk:=Mk hl;have u:=h2.locs k;rw[hk]at u;refine⟨by rw[hk];trivial,u, ?_⟩;obtain⟨xs,o1,o2,_⟩:=u;exact C4.wf (Bz (Z:=fun _=>True) o1 (o2.mono fun _ _=>C4.mono (fun _ _=>trivial) (fun _ _=>rfl)) (fun _ _=>trivial))
 |map ka kt va vt=>
  have hk:=QJ hl;have u:=h2.locs k;rw[hk]at u;refine⟨by rw[hk];trivial,u, ?_⟩;obtain⟨b,ents,cl,e,_,_,hb,hm,he⟩:=u;exact C4.wf (dK (Z:=fun _=>True) hb hm (he.mono (fun _ _=>trivial) (fun _ _=>rfl)) trivial)
 |rows t e e'=>
  obtain⟨al,hk⟩:=Ih hl;have u:=h2.locs k;have hR:=u;rw[hk]at hR;have hR:=hR.rowsR;refine⟨by rw[hk];trivial,hR.rl fun b hb=> ?_,hR.wf⟩;have a0:A9 w (B k) (st2.L k) b:=by rw[hk];exact(Y6 fun _ _=>rfl).1 hb
  obtain⟨a1,a2,a3⟩:=u.root a0;exact⟨a1,a3,a2⟩
 |iter ka kt va vt=>
  simp only[mZ]at hl;cases hk:st2.L k with
  |iter a4 a5 a6 a7 es cur=>
   rw[hk]at hl;simp only at hl;split at hl
   . rename_i hh;cases hh;cases hl;have u:=h2.locs k;rw[hk]at u;obtain⟨r,e,h1,h3,h4⟩:=u;refine⟨trivial,⟨r,e,h1,h3,h4.imp (fun h=>⟨h.1,h.2.1,rfl⟩) fun⟨m,seen,ents,cl,i1,i2,i3,i4,i5,i6⟩=>⟨m,seen,ents,cl,i1,i2,i3,i4,i5,fun x hx=>by cases hx⟩⟩, ?_⟩;rcases h4 with⟨_,h,_⟩ | ⟨m,seen,ents,cl,i1,i2,i3,i4,i5,i6⟩
     . rw[h];intro x hx;cases hx
     . intro x hx;obtain⟨m,_,g1,g2⟩:=R4.mem i5 hx;exact⟨S8.wf' (fun _ _=>C4.wf) g1,S8.wf' (fun _ _=>C4.wf) g2⟩
   . cases hl
  | _=>rw[hk]at hl;cases hl
 |nest t e e'=>
  have hk:=aG hl;have u:=h2.locs k;rw[hk]at u;refine⟨by rw[hk];trivial,u, ?_⟩;obtain⟨xs,hN,_⟩:=u;rcases hN.own.2 with⟨_,hn⟩ | ⟨_,_,_,_,_,_,h3,h4,_⟩
  . show x.1.length<= _;omega
  . show x.1.length<= _;simp only[maxLen]at h4;omega
 |itM ka kt va vt q=>
  obtain⟨cur,hk,_⟩:=TK hl;have u:=h2.locs k;rw[hk]at u;obtain⟨r,m,seen,ents,cl,e1,e2,hi,h1,h3,h4,h5⟩:=u;refine⟨by rw[hk];trivial,⟨r,m,seen,ents,cl,e1,e2,⟨hi.it,hi.mp,hi.ok,hi.all,hi.rest,fun x hx=>(by cases hx)⟩,h1,h3,h4,h5⟩,fun y hy=> ?_⟩;obtain⟨m,_,g1,g2⟩:=R4.mem hi.rest hy;exact⟨S8.wf' (fun _ _=>C4.wf) g1,S8.wf' (fun _ _=>C4.wf) g2⟩
def RL.setB {U:Nat->Prop} {B':Nat->Value} {k:Nat} {t:LT} {x:t.den} (h:RL U w Z B k (t.lc x)) (e:B' k=B k) (en:∀q,t.need=some q->B' q=B q):RL U w Z B' k (t.lc x):=by
 cases t with
 |nest t e0 e1=>
  obtain⟨xs,u,h6⟩:=h;exact⟨xs,⟨by rw[e];exact u.own,fun p hp=>(by cases hp),u.elt,u.dis,by rw[e];exact u.top⟩,by rw[e];exact h6⟩
 |itM ka kt va vt q=>
  obtain⟨r,m,seen,ents,cl,e1,e2,hr⟩:=h;exact⟨r,m,seen,ents,cl,e.trans e1,(en q rfl).trans e2,hr⟩
 |row t e0=>obtain⟨xs,a,b,c⟩:=h;exact⟨xs,by rw[e];exact a,b,by rw[e];exact c⟩
 |map ka kt va vt=>obtain⟨b,ents,cl,a,r⟩:=h;exact⟨b,ents,cl,e.trans a,r⟩
 |iter ka kt va vt=>obtain⟨r,a,b⟩:=h;exact⟨r,e.trans a,b⟩
 |rows t e0 e1=>
  obtain⟨xs,h1,⟨h2,h3,h4⟩,h5,h6⟩:=h;exact⟨xs,by rw[e];exact h1,⟨fun p hp=>(by cases hp),h3,h4⟩,by rw[e];exact h5,by rw[e];exact h6⟩
def B2m (u:B7 za w0 st2 E w Z B) {k b:Nat} {t:LT} {x:t.den} (hl:mZ st2 k t=some x) (h:A9 w (B k) (t.lc x) b):A9 w (B k) (st2.L k) b:=by
 cases t with
 |row t e=>exact A9.of (IN u hl).1 h
 |map ka kt va vt=>exact A9.of (IN u hl).1 h
 |iter ka kt va vt=>exact A9.of (IN u hl).1 h
 |rows t e e'=>
  obtain⟨al,hk⟩:=Ih hl;rw[hk];exact(Y6 fun _ _=>rfl).1 h
 |nest t e e'=>rw[aG hl];exact h
 |itM ka kt va vt q=>obtain⟨cur,hk,_⟩:=TK hl;rw[hk];exact h
def UX (h2:B7 za w0 st2 E w Z B) {BX:Nat->Value} {n0:Nat} (hB:∀k,k<n0->BX k=B k):∀ {l:List (Nat×LT)} {x:jX l} {st:St} {used:List Nat},Lr za w0 st2 E w Z B used st BX->n0<=st.nx->A3i st2 l=some x->(∀y∈l,y.1<n0)->(∀y∈l,y.1∉used)->(l.map fun y=>y.1).Nodup->
 Lr za w0 st2 E w Z B ((l.map fun y=>y.1)++used) (putRows l x st) BX/\(putRows l x st).nx=st.nx
 | [],_,st,used,c,_,_,_,_,_=>⟨c,rfl⟩
 | (k,t)::r,x,st,used,c,hn,hp,a6,hu,a2=>by
  simp only[A3i,bind_some,qK]at hp;obtain⟨l,hl,z,hz,rfl⟩:=hp;have a0:=a6 (k,t) (by simp);have a5:=hu (k,t) (by simp);simp only at a0 a5;obtain⟨a8,a7,_⟩:=IN h2 hl;have a3:BX k=B k:=hB k a0;simp only[sB,sH]at a2;have a1:∀b,A9 w (BX k) (t.lc l) b->A9 w (B k) (st2.L k) b:=fun b hb=>B2m h2 hl (by rw[<-a3];exact hb)
  have c1:Lr za w0 st2 E w Z B (k::used) (st.setL k (t.lc l)) BX:=by
   refine⟨c.rel.addL (by omega) (a7.setB a3 fun q hq=>hB q (Nat.lt_trans (ZX hl hq) a0)) (fun j b _ hb u=> ?_) (by cases t<;>first|trivial|exact fun p hp=>(by cases hp) |exact rD (Nat.lt_trans (ZX hl rfl) a0) hn) (fun b hk hb=>h2.mrk.2 k b hk (a1 b hb)),fun j b u=> ?_⟩
   . exact c.disj h2 a5 j b (a1 b hb) u
   . rw[St.L_setL]at u;by_cases a4:j=k
     . subst a4;rw[qT rfl]at u;exact⟨j,by simp,a1 b u⟩
     . rw[qL a4]at u;obtain⟨q,h1,h3⟩:=c.own j b u;exact⟨q,qJ _ h1,h3⟩
  obtain⟨c2,a9⟩:=UX h2 hB c1 hn hz (fun y hy=>a6 y (qJ _ hy)) (fun y hy=>by
   intro hh;rcases qG.1 hh with hh|hh
   . exact a2.1 (hh▸vC hy)
   . exact hu y (qJ _ hy) hh) a2.2
  refine⟨⟨c2.rel,fun j b u=> ?_⟩,a9⟩;obtain⟨q,h1,h3⟩:=c2.own j b u;refine⟨q, ?_,h3⟩;simp only[sB];grind
def A0o {BX:Nat->Value} :∀ {l:List (Nat×Bool×List Vs)} {cs:List C} {vs vr:List Value} {st:St} {used:List Nat},Lr za w0 st2 E w Z B used st BX->Dh w Z BX cs vs->RA E l vs vr->(∀c∈cs,Cd st.nx c)->
 Lr za w0 st2 E w Z B used (putS l cs st).2 BX/\Dh w Z BX (putS l cs st).1 vr/\(∀c∈(putS l cs st).1,Cd st.nx c)/\(putS l cs st).2.nx=st.nx
 | [],cs,vs,vr,st,used,c,u,hv,hf=>by rw[show vs=vr from hv]at u;exact⟨c,u,hf,rfl⟩
 | (s,agg,shs)::l,cs,vs,vr,st,used,c,u,⟨v1,v2,e,hl,ha,a1,hv⟩,hf=>by
  subst e;have h1:=u.take shs.length;have h2:=u.drop shs.length;rw[<-hl,g2v]at h1;rw[<-hl,g2t]at h2;rw[hl]at h1 h2;have a0:RS w Z BX ⟨agg,cs.take shs.length⟩ (E s):=by
   cases agg with
   |true=>exact⟨v1,ha rfl,h1⟩
   |false=>rw[a1 rfl]at h1;exact h1
  have c1:Lr za w0 st2 E w Z B used (st.setS s (.one ⟨agg,cs.take shs.length⟩)) BX:=⟨c.rel.setSame s a0 (fun x hx=>hf x (rZ hx)),c.own⟩;have:=A0o (l:=l) (cs:=cs.drop shs.length) c1 h2 hv (fun x hx=>hf x (vF hx));exact this
def A0n (h2:B7 za w0 st2 E w Z B) {BX:Nat->Value} {n0:Nat} (hB:∀k,k<n0->BX k=B k):∀ {l:List (Nat×TypeId×List Vs)} {cs:List C} {vs:List Value} {st:St} {used:List Nat},Lr za w0 st2 E w Z B used st BX->n0<=st.nx->Dh w Z BX cs vs->bJ za w0 w Z B st2 l vs->(∀c∈cs,Cd st.nx c)->(∀y∈l,y.1<n0)->(∀y∈l,y.1∉used)->(l.map fun y=>y.1).Nodup->
 B7 za w0 (putB l cs st) E w Z BX
 | [],_,_,st,used,c,_,_,_,_,_,_,_=>c.rel
 | (k,T,shs)::l,cs,vs,st,used,c,hn,hr,⟨v1,v2,e,hl,a8,⟨b,a7,hb0,a9,a2⟩,hv⟩,hf,a6,hu,a0=>by
  subst e;have h1:=hr.take shs.length;have h3:=hr.drop shs.length;rw[<-hl,g2v]at h1;rw[<-hl,g2t]at h3;rw[hl]at h1 h3;have a4:=a6 (k,T,shs) (by simp);have a5:=hu (k,T,shs) (by simp);simp only at a4 a5;have a1:BX k=B k:=hB k a4;simp only[sB,sH]at a0;have u:∀q,A9 w (BX k) (.box T (cs.take shs.length)) q->A9 w (B k) (st2.L k) q:=fun q hq=>A9.of a8 (by rw[<-a1];exact hq)
  have c1:Lr za w0 st2 E w Z B (k::used) (st.setL k (.box T (cs.take shs.length))) BX:=by
   refine⟨c.rel.addL (by omega) ⟨b,v1.toArray,a1.trans a7,hb0,a9,a2,by simpa using h1⟩ (fun j q _ hq hj=> ?_) (fun x hx=>hf x (rZ hx)) (fun q hk hb=>h2.mrk.2 k q hk (u q hb)),fun j q hj=> ?_⟩
   . exact c.disj h2 a5 j q (u q hq) hj
   . rw[St.L_setL]at hj;by_cases a3:j=k
     . subst a3;rw[qT rfl]at hj;exact⟨j,by simp,u q hj⟩
     . rw[qL a3]at hj;obtain⟨q',h1,h3⟩:=c.own j q hj;exact⟨q',qJ _ h1,h3⟩
  have:=A0n (l:=l) (cs:=cs.drop shs.length) h2 hB c1 hn h3 hv (fun x hx=>hf x (vF hx)) (fun y hy=>a6 y (qJ _ hy)) (fun y hy=>by
   intro hh;rcases qG.1 hh with hh|hh
   . exact a0.1 (hh▸vC hy)
   . exact hu y (qJ _ hy) hh) a0.2
  exact this
def Sa (h2:B7 za w0 st2 E w Z B):∀ {shs:List Vs} {T:Type} {tl:T} {q:T->Prop} {cs:List C} {vs:List Value} {p:shD shs T},q tl->Dh w Z B cs vs->Cq st2 shs tl cs=some p->shW shs q p
 | [],_,tl,q,[],vs,p,hq,_,u=>by simp only[Cq,rE]at u;subst u;exact hq
 | [],_,_,_,_:: _,_,_,_,_,u=>by cases u
 | .val t::r,_,_,_,[],_,_,_,_,u=>by cases u
 | .own t e::r,_,_,_,[],_,_,_,_,u=>by cases u
 | .fix k::r,_,_,_,[],_,_,_,_,u=>by cases u
 | .fixB k::r,_,_,_,[],_,_,_,_,u=>by cases u
 | .fixB k::r,_,tl,q,c::cs,vs,p,hq,⟨v,a0,_,h1,h3⟩,u=>by
  simp only[Cq]at u;exact Sa (shs:=r) h2 hq h3 (D4 u).2
 | .fix k::r,_,tl,q,c::cs,vs,p,hq,⟨v,a0,_,h1,h3⟩,u=>by
  simp only[Cq]at u;exact Sa (shs:=r) h2 hq h3 (D4 u).2
 | .val t::r,_,tl,q,c::cs,vs,p,hq,⟨v,a0,e,h1,h3⟩,u=>by
  simp only[Cq,bind_some,qK]at u;obtain⟨y,hy,z,hz,rfl⟩:=u;exact⟨C4.wf (bQ h1 hy),Sa h2 hq h3 hz⟩
 | .own t e::r,_,tl,q,c::cs,vs,p,hq,⟨v,a0,_,h1,h3⟩,u=>by
  simp only[Cq,bind_some,qK]at u;obtain⟨l,hl,z,hz,rfl⟩:=u;obtain⟨xs,o1,o2,_⟩:=MS h2 h1 hl;exact⟨C4.wf (Bz (Z:=fun _=>True) o1 (o2.mono fun _ _=>C4.mono (fun _ _=>trivial) (fun _ _=>rfl)) (fun _ _=>trivial)),Sa h2 hq h3 hz⟩
def A0w (u:B7 za w0 st2 E w Z B):∀ {l:List (Nat×LT)} {x:jX l},A3i st2 l=some x->B7n l x
 | [],_,_=>trivial
 | (k,t)::r,x,hp=>by
  simp only[A3i,bind_some,qK]at hp;obtain⟨l,hl,z,hz,rfl⟩:=hp;exact⟨(IN u hl).2.2,A0w u hz⟩
def pP {A:FE} {p:A.den} {a1:St} (hb0:za.b0=0) (h:B7 za w0 st E w Z B) (hg:gath A st=some (a1,p)) (pk:B1h za.n st0) (hS:∀s∈A.keepS,a1.eS s=st0.eS s) (hL:∀k∈A.keepL,a1.eL k=st0.eL k) (hR:∀y∈A.rowL,y.1<st0.nx) (hF:a1.fr=st0.fr):
 A.wf p/\∃Z' B',B7 za w0 (reflect A st0 p) E w Z' B':=by
 simp only[gath,qH,bind_some]at hg;obtain⟨a2,_,cs,a0,tl,a5,p',hp,hg⟩:=hg;obtain⟨u,hg⟩:=D4 hg;cases hg;simp only[qC,tR]at u;obtain⟨u,a9⟩:=u;obtain⟨Z0,h0⟩:=h.plugL hb0 (l:=A.rowL);obtain⟨Z1,h2⟩:=B7.settleSh (shs:=A.shs) (cs:=a2) h0;generalize settleSh (plugL A.rowL st) A.shs a2=st2 at*;have u:=Fk u;simp only[FE.cells,bind_some]at a0;obtain⟨cb,a8,a0⟩:=a0;obtain⟨vb,a6,a7⟩:=YY h2 a8;obtain⟨vs,a4,aa⟩:=YZ h2 a6 a0;refine⟨Sa h2 (A0w h2 a5) a4 hp, ?_⟩;have c0:=B5z h2 pk hS hL hF;have a3:∀y∈A.rowL,y.1<A3z A.boxL st0.nx:=fun y hy=>rD (hR y hy) (Ox _ _)
 rw[sX]at u;obtain⟨n1,n2,n3⟩:=u;rw[sX]at n2;obtain⟨n4,n5,n6⟩:=n2;rw[sX]at n5;obtain⟨n7,n8,n9⟩:=n5;obtain⟨BX,g1,g2,g3,g4,g5,g6⟩:=Zq hb0 h2 c0 a4 hp (fun q hq hk=>n3 q hk q (by simp[hq]) rfl) n4 (fun c hc k hk=>by
  have:=a9 _ hc;cases c with
  |fix k'=>
   cases hk;simp only[A6s,xT]at this;obtain⟨y,hy,hb⟩:=this;have:=qD hb;subst this;exact⟨a3 y hy,rfl⟩
  |fixB k'=>
   cases hk;simp only[A6s,xT]at this;obtain⟨y,hy,hb⟩:=this;have:=qD hb;subst this;exact⟨VP y hy,rfl⟩
  | _=>cases hk)
 have hB:∀k,k<A3z A.boxL st0.nx->BX k=B k:=g4;have q1:=UX h2 hB (x:=(placeSh A.shs p (kept A st0)).2.2) g1 g5 (by rw[g6];exact a5) a3 (fun y hy hh=>by
  rcases rA.1 hh with hh|hh
  . exact n6 y.1 hh y.1 (by simp only[rA,tC];exact .inl ⟨y,hy,rfl⟩) rfl
  . exact n3 y.1 hh y.1 (by simp only[rA,tC];exact .inr (.inl ⟨y,hy,rfl⟩)) rfl) n7
 have q2:=A0o (l:=A.modS) q1.1 g2 aa (by rw[q1.2];exact g3);refine⟨Z1,BX, ?_⟩;exact A0n h2 hB q2.1 (by rw[q2.2.2.2,q1.2];exact g5) q2.2.1 a7 (by rw[q2.2.2.2];exact q2.2.2.1) (fun y hy=>VP y hy) (fun y hy hh=>by
  rcases rA.1 hh with hh|hh
  . exact n9 y.1 hh y.1 (vC hy) rfl
  . rcases rA.1 hh with hh|hh
    . exact n6 y.1 hh y.1 (by simp only[rA,tC];exact .inr ⟨y,hy,rfl⟩) rfl
    . exact n3 y.1 hh y.1 (by simp only[rA,tC];exact .inr (.inr ⟨y,hy,rfl⟩)) rfl) n8
end
def addA (st:St) (d:Tmp) (lc:LC) (mk:Nat->C):St:=(st.newL lc).setS d (one1 (mk st.nx))
def KR (cx:Cx) (st:St) (d:Tmp):Op->Option (Option Prop×LC×(Nat->C))
 | .alloc T=>do
  let ti<-cx.ti T
  some (none, .box T (Ke ti.ty),fun k=> .box k 0)
 | .makeSlice T lo u=>do
  let ti<-cx.ti T
  let t<-slT ti.ty
  let l<-cY st lo
  let c<-cY st u
  bif ti.nest.any (Nat.beq d)then do
   let t2<-cx.ti ti.elem
   bif JC t then some (some (0<=l/\l<=c/\(ti.bytes:Int)*c<=281474976710656/\c<=9223372036854775807), .nest t ti.elem t2.elem (List.replicate l.toNat t.dflt) [] (Pz t l.toNat), .row)else none
  else bif !ti.rows&&Rp t then some (some (0<=l/\l<=c/\(ti.bytes:Int)*c<=281474976710656/\c<=9223372036854775807), .row t ti.elem (List.replicate l.toNat t.dflt), .row)else none
 | _=>none
def A5a (lc:LC) (mk:Nat->C) (X:Obj) (f:Nat->Value):Prop:=
 ∀(za:Zn) (w0 w:World) (st:St) (E:F8) (Z:Nat->Prop) (B:Nat->Value) (d b:Nat),B7 za w0 st E w Z B->w.heap[b]? =some X->w0.heap.size<=b->¬Z b->(∀k,¬A9 w (B k) (st.L k) b)->za.b0<=b->
  B7 za w0 (addA st d lc mk) (upd E d (f b)) w Z (upd B st.nx (f b))/\∀c,A9 w (f b) lc c->c=b
section
variable {za:Zn} {w0 w w':World} {st:St} {E:F8} {Z:Nat->Prop} {B:Nat->Value} {cx:Cx} {d:Tmp} {φ:Option Prop}
def C1.addA (st:St) (d:Tmp) (lc:LC) (mk:Nat->C):C1 st (addA st d lc mk):=(C1.newL _ _).trans (C1.setS _ _ _)
def A9h {base b e sz n c:Nat} {cs:Array Value} (hb:w.heap[b]? =some (.cells cs e (0,0))) (h0:base<=b) (u:cs.size=c*sz) (a0:n<=c) (hm:c<=maxLen):w.ownsRow base e sz (.slice (some ⟨b,0,none⟩) n c) n (cs.toList.take (n*sz)):=by
 refine⟨?_, .inr ⟨b,c,cs,rfl,h0,hb,a0,hm,u,rfl⟩⟩;rw[qW,sR,u];exact sW (rM _ a0)
def A1i {op:Op} {lc:LC} {mk:Nat->C} (h:B7 za w0 st E w Z B) (hty:H1 cx.P cx.tys=true) (ha:KR cx st d op=some (φ,lc,mk)) (ag:OA φ):
 ∃(X:Obj) (f:Nat->Value),(∀ty w',Gw.E4 cx.P E ty op w' (f w'.heap.size) (w'.alloc X))/\A5a lc mk X f:=by
 unfold KR at ha;split at ha
 . simp only[qH,bind_some]at ha;obtain⟨ti,ab,ha⟩:=ha;cases ha;obtain⟨z,hz,a1⟩:=Fs (O1 (B8 hty ab)).2.2;rename_i T;refine⟨.cells z.cells T,fun b=> .pointer (some ⟨b,0,none⟩),fun ty w'=>A1d hz,fun za w0 w st E Z B d b h hb h0 a5 hf hb0=> ?_⟩;have h3:=Ci (w:=w) (Z:=Z) (B:=B) (n:=st.nx) (Dg ti.ty);have aa:∀c,A9 w (.pointer (some ⟨b,0,none⟩)) (.box T (Ke ti.ty)) c->c=b:=fun c hc=>by
    simp only[A9,root,rE]at hc;exact hc.symm
   have h2:=h.new (v:= .pointer (some ⟨b,0,none⟩)) (lc:= .box T (Ke ti.ty)) ⟨b,z.cells,C2 _ _ _, .inl ⟨h.nms.2,h0⟩,a5,hb,
    Dh.mono (n:=st.nx) (fun _=>id) (fun _ _=>rfl) (fun k hk=>C3 _ _ _ _ (tU hk)) h3.2 (by rw[a1];exact h3.1)⟩
    (fun k c hc hc'=>hf k (aa c hc▸hc')) (fun c hc=>(h3.2 c hc).le (uU _)) rfl (fun c _ hc=>by rw[aa c hc];exact hb0)
   refine⟨h2.setS d (x:=one1 (.box st.nx 0)) ⟨_,[],rfl,⟨b,C2 _ _ _,rfl⟩,rfl⟩ (fun c hc=> ?_),aa⟩;simp at hc;subst hc;exact rV _
 . rename_i T lo co;simp only[qH,bind_some]at ha;obtain⟨ti,ab,t,ht,l,hl,c,hc,ha⟩:=ha;have ht:=Ji ht;have key:∀ {φ':Option Prop},OA (some (0<=l/\l<=c/\(ti.bytes:Int)*c<=281474976710656/\c<=9223372036854775807))->∃z:Value,z.cells.toList=Dg t/\z.cells.size=t.size/\l.toNat<=c.toNat/\c.toNat<=maxLen/\∀ty w',Gw.E4 cx.P E ty (.makeSlice T lo co) w' (.slice (some ⟨w'.heap.size,0,none⟩) l.toNat c.toNat) (w'.alloc (.cells (madeCells z.cells (c.toNat*t.size)) ti.elem)):=by
    intro _ ⟨f1,f2,f3,f4⟩;obtain⟨i,z,hu,hi,hz,ah,a1,a7,hb,ak⟩:=Kw (B8 hty ab) ht;obtain⟨k1,e1,_⟩:=h.int (F6 E) hl;obtain⟨k2,e2,_⟩:=h.int (F6 E) hc;refine⟨z,a1,a7,by omega,by simp only[maxLen];omega,fun ty w'=> ?_⟩;have ad:=run_make (P:=cx.P) w' T ti.elem i z hu hi hz k1 k2 l c f1 f2 (by rw[hb];exact f3) f4;rw[<-ah];exact fun _ _ _ _=>by simp[execOp,e1,e2,ad]
   cases hn:ti.nest.any (Nat.beq d)with
   |true=>
    simp only[hn,qQ,qH,bind_some]at ha;obtain⟨t2,_,ha⟩:=ha;cases a2:JC t with
    |false=>simp only[a2,rF]at ha;cases ha
    |true=>
     simp only[a2,qQ]at ha;cases ha;obtain⟨z,a1,a7,a9,hm,hy⟩:=key (φ':=none) ag;obtain⟨ae,u,af⟩:=aN a2;rw[ae]at a7 hy;refine⟨_,fun b=> .slice (some ⟨b,0,none⟩) l.toNat c.toNat,hy,fun za w0 w st E Z B d b h hb h0 a5 hf hb0=> ?_⟩;generalize a8:madeCells z.cells (c.toNat*1)=cs at hb;have a3:cs.size=c.toNat*1:=by rw[<-a8];simp[madeCells]
     have a6:=A9h (sz:=1) hb h0 a3 a9 hm;have ac:∀x∈cs.toList.take (l.toNat*1),x=u:=fun x hx=>by
      have hx:=rZ hx;rw[<-a8]at hx;simp only[madeCells,g1m,tC]at hx;obtain⟨j,_,rfl⟩:=hx;have ai:z.cells.toList= [u]:=a1.trans af;have aj:z.cells= #[u]:=by rw[<-uS (xs:=z.cells),ai]
      rw[aj];simp[g4o]
     obtain⟨z1,z2⟩:=aO a2 af.symm;obtain⟨g1,g2⟩:=h.newNestE d (t:=t) (e':=t2.elem) (dd:=Pz t l.toNat) a6 (fun j x hx=>by
      have:=ac x (sU hx);subst this;have hj:j<l.toNat:=by have:=(sD.1 hx).1;rw[qW]at this;omega
      exact⟨z1,z2 _ _ _ j _ hj⟩) (fun b' a0=>by
      simp only[Value.ownBlock,rE]at a0;subst a0;exact⟨a5,hf⟩) (fun b' _ a0=>by simp only[Value.ownBlock,rE]at a0;subst a0;exact hb0)
     exact⟨g1,fun c' hc'=>by have:=g2 c' hc';simp only[Value.ownBlock,rE]at this;exact this.symm⟩
   |false=>
    simp only[hn,rF]at ha;cases hd: !ti.rows&&Rp t with
    |false=>simp only[hd,rF]at ha;cases ha
    |true=>
     simp only[hd,qQ]at ha;cases ha;simp only[qC]at hd;obtain⟨z,a1,a7,a9,hm,hy⟩:=key (φ':=none) ag;refine⟨_,fun b=> .slice (some ⟨b,0,none⟩) l.toNat c.toNat,hy,fun za w0 w st E Z B d b h hb h0 a5 hf hb0=> ?_⟩;have a4:F7 (C4 t w Z) ((madeCells z.cells (c.toNat*t.size)).toList.take (l.toNat*t.size)) (List.replicate l.toNat t.dflt):=LU a1 hd.2 a7 _ _ a9;generalize a8:madeCells z.cells (c.toNat*t.size)=cs at hb a4;have a3:cs.size=c.toNat*t.size:=by rw[<-a8];simp[madeCells]
     have a6:=A9h hb h0 a3 a9 hm;refine⟨h.newRowE d (t:=t) (e:=ti.elem) (l:=List.replicate l.toNat t.dflt) (by rw[rI];exact a6) a4 (fun b' a0=>by
      simp only[Value.ownBlock,rE]at a0;subst a0;exact⟨a5,hf⟩) (fun b' _ a0=>by simp only[Value.ownBlock,rE]at a0;subst a0;exact hb0),fun c' hc'=> ?_⟩
     have:=hc';simp only[A9,root,rE]at this;exact this.symm
 . cases ha
end
def ET (cx:Cx) (all:List Oper) (st0:St):List Nat->(St->Prop)->St->Prop
 | [],k=>k
 |i::r,k=>fun st=>match all[i]? with
  |some o=>match KR cx st0 (Ft all i) o.op with
   |some (φ,lc,mk)=>XJ φ (ET cx all st0 r k (addA st (Ft all i) lc mk))
   |none=>False
  |none=>False
def oS (all:List Oper) (f:Nat->Nat->Value) (bl:Nat->Nat):List Nat->F8->F8
 | [],E=>E
 |i::r,E=>oS all f bl r (upd E (Ft all i) (f i (bl i)))
section
variable {za:Zn} {w0 w w':World} {Z:Nat->Prop} {cx:Cx} {all:List Oper} {st0:St} {k k':St->Prop} {f:Nat->Nat->Value} {X:Nat->Obj} {bl:Nat->Nat}
def aX:∀ {ls:List Nat} {st:St},ET cx all st0 ls k st->∀i∈ls,∃o φ lc mk,all[i]? =some o/\KR cx st0 (Ft all i) o.op=some (φ,lc,mk)/\OA φ
 | [],_,_,_,h=>by cases h
 |i::r,st,u,j,hj=>by
  simp only[ET]at u;split at u
  . rename_i o ho;split at u
    . rename_i φ lc mk ha;obtain⟨h1,h2⟩:=D7.1 u;rcases qG.1 hj with rfl|hj
      . exact⟨o,φ,lc,mk,ho,ha,h1⟩
      . exact aX h2 j hj
    . exact u.elim
  . exact u.elim
def VH:∀ {ls:List Nat} {st:St},ET cx all st0 ls k st->(∀st',C1 st st'->k st'->k' st')->ET cx all st0 ls k' st
 | [],st,h,u=>u st (C1.refl st) h
 |i::r,st,h,u=>by
  simp only[ET]at h⊢;split at h
  . split at h
    . exact D7.2 ⟨(D7.1 h).1,VH (D7.1 h).2 fun st' e hh=>u st' ((C1.addA _ _ _ _).trans e) hh⟩
    . exact h
  . exact h
def GT {x:Nat} :∀ {l:List Nat} {E:F8},x∉Ba all l->oS all f bl l E x=E x
 | [],_,_=>rfl
 |i::l,E,h=>by
  simp only[Ba,sB,qG,g4s]at h;simp only[oS];rw[GT h.2,C3 _ _ _ _ h.1]
def kR {i:Nat} :∀ {l:List Nat} {E:F8},(Ba all l).Nodup->i∈l->oS all f bl l E (Ft all i)=f i (bl i)
 | [],_,_,h=>by cases h
 |j::l,E,u,h=>by
  simp only[Ba,sB]at u;obtain⟨h1,h2⟩:=sH.1 u;simp only[oS];by_cases hi:i∈l
  . exact kR h2 hi
  . rcases qG.1 h with rfl|h
    . rw[GT h1,C2]
    . exact absurd h hi
def kD:∀ {ls:List Nat} {st:St} {E:F8} {B:Nat->Value},B7 za w0 st E w Z B->(∀i∈ls,∀o φ lc mk,all[i]? =some o->KR cx st0 (Ft all i) o.op=some (φ,lc,mk)->A5a lc mk (X i) (f i))->
 (∀i∈ls,w.heap[bl i]? =some (X i)/\w0.heap.size<=bl i/\¬Z (bl i)/\za.b0<=bl i/\∀k,¬A9 w (B k) (st.L k) (bl i))->(∀i∈ls,∀j∈ls,i≠j->bl i≠bl j)->ls.Nodup->ET cx all st0 ls k st->∃st' B',B7 za w0 st' (oS all f bl ls E) w Z B'/\k st'
 | [],st,E,B,h,_,_,_,_,u=>⟨st,B,h,u⟩
 |i::r,st,E,B,h,ht,hb,a1,hn,u=>by
  simp only[ET]at u;obtain⟨n1,n2⟩:=sH.1 hn;split at u
  . rename_i o ho;split at u
    . rename_i φ lc mk ha;obtain⟨_,u⟩:=D7.1 u;obtain⟨b1,b2,b3,b4,b5⟩:=hb i (rC);obtain⟨g1,g2⟩:=ht i rC o φ lc mk ho ha za w0 w st E Z B (Ft all i) (bl i) h b1 b2 b3 b5 b4;refine kD (ls:=r) (E:=upd E (Ft all i) (f i (bl i))) g1 (fun j hj=>ht j (qJ _ hj)) (fun j hj=> ?_) (fun a ha b hb=>a1 a (qJ _ ha) b (qJ _ hb)) n2 u;obtain⟨c1,c2,c3,c4,c5⟩:=hb j (qJ _ hj);refine⟨c1,c2,c3,c4,fun q hq=> ?_⟩;have hL:(addA st (Ft all i) lc mk).L q=(st.newL lc).L q:=rfl;rw[hL,St.L_newL]at hq;by_cases a0:q=st.nx
      . subst a0;rw[qT rfl,C2]at hq;exact a1 i rC j (qJ _ hj) (fun e=>n1 (e▸hj)) (g2 _ hq).symm
      . rw[qL a0,C3 _ _ _ _ a0]at hq;exact c5 q hq
    . exact u.elim
  . exact u.elim
def aV:∀(l:List Nat) (E:F8) (w:World),l.Nodup->(Ba all l).Nodup->R5 w (Fu all f X l E w).2/\∃bl:Nat->Nat,(∀i∈l,w.heap.size<=bl i/\(Fu all f X l E w).2.heap[bl i]? =some (X i)/\(Fu all f X l E w).1 (Ft all i)=f i (bl i))/\∀i∈l,∀j∈l,i≠j->bl i≠bl j
 | [],_,w,_,_=>⟨R5.refl w,fun _=>0,by simp,by simp⟩
 |i::r,E,w,hn,hd=>by
  obtain⟨n1,n2⟩:=sH.1 hn;simp only[Ba,sB]at hd;obtain⟨d1,d2⟩:=sH.1 hd;obtain⟨h1,bl,h2,h3⟩:=aV r (upd E (Ft all i) (f i w.heap.size)) (w.alloc (X i)) n2 d2;have hx:R5 w (w.alloc (X i)):=R5.alloc w _;have a1:(w.alloc (X i)).heap.size=w.heap.size+1:=Array.size_push ..;simp only[Fu];refine⟨hx.trans h1,fun j=>if j=i then w.heap.size else bl j,fun j hj=> ?_,fun a ha b hb hab=> ?_⟩
  . rcases qG.1 hj with rfl|hj
    . have he:(if j=j then w.heap.size else bl j)=w.heap.size:=qT rfl;show w.heap.size<=(if j=j then w.heap.size else bl j)/\(Fu all f X r _ _).2.heap[if j=j then w.heap.size else bl j]? = _ /\ _=f j (if j=j then w.heap.size else bl j);rw[he];refine⟨rB _, ?_,by rw[Ii _ _ _ d1,C2]⟩;rw[h1.block _ (by rw[a1];exact rV _)];exact heap_alloc_new w _
    . have:j≠i:=fun e=>n1 (e▸hj)
      simp only[qL this];obtain⟨g1,g2,g3⟩:=h2 j hj;exact⟨by omega,g2,g3⟩
  . simp only;have hr:∀q,q∈i::r->q≠i->q∈r:=fun q hq hqi=>(qG.1 hq).resolve_left hqi
    by_cases u:a=i
    . rw[qT u,qL (fun e=>hab (u.trans e.symm))];have:=(h2 b (hr b hb (fun e=>hab (u.trans e.symm)))).1;omega
    . rw[qL u];by_cases a0:b=i
      . rw[qT a0];have:=(h2 a (hr a ha u)).1;omega
      . rw[qL a0];exact h3 a (hr a ha u) b (hr b hb a0) hab
end
structure K where
 n:St->Prop
 x:Nat->St->Prop
 r:St->Prop
def K.at (k:K):Exit->St->Prop
 | .normal=>k.n
 | .exit i=>k.x i
 | .ret=>k.r
 | _=>fun _=>False
structure An where
 join:List (Nat×FE):= []
 loop:List (Nat×FE):= []
 plan:List (Nat×List Nat×List Nat×Bool×Pl):= []
def jA:Code->Option Nat
 | .region id _ _=>some id
 | .seq a b=>match jA a with
  |some i=>some i
  |none=>jA b
 | .cond _ a b=>match jA a with
  |some i=>some i
  |none=>jA b
 | .block _ c=>jA c
 | .loop c=>jA c
 | _=>none
def B4s (l:List (Nat×FE)):Option Nat->Option FE
 |some i=>Fz i l
 |none=>none
def C2l (A:FE) (st:St) (u:(St->Prop)->Prop) (rest:St->Prop):Prop:=
 ∃J:A.den->Prop,u (LD A st J)/\∀p,A.wf p->J p->rest (reflect A st p)
def B5i (A:FE) (st:St) (a0:(St->Prop)->St->Prop):Prop:=
 match gath A st with
 |some (u,p0)=>bif(A.rowL.all fun x=>Nat.blt x.1 u.nx)&&(A.boxL.all fun x=>Nat.blt x.1 u.nx)then
  (∃(I:A.den->Prop) (μ:A.den->Nat),I p0/\∀p,A.wf p->I p->a0 (LD A u fun p'=>I p'/\μ p'<μ p) (reflect A u p))else False
 |none=>False
def Ov (cx:Cx) (all:List Oper) (o:Oper) (k:St->Prop) (st:St):Prop:=
 match o.guard with
 |none=>match Zs cx st [] o.op with
  |some (φ,v)=>match o.dst with
   |some d=>XJ φ (k (st.setS d v))
   |none=>False
  |none=>match o.op with
   | .load T x=>match o.dst with
    |some d=>(match ZZ cx st d T x with
     |some st'=>k st'
     |none=>False)
    |none=>False
   | _=>False
 |some (j,b)=>match(all[j]?).bind (·.dst)with
  |some t=>bif Od st 20 t then(match o.dst with
   |some d=>bif !(Nat.beq t d)then(match Zs cx st (gctx st 20 t b) o.op with
    |some (φ, .one s)=>bif s.cs.all (A9x st.nx)then XJ (B2f (ctxP st (gctx st 20 t b)) φ) (k (st.setS d (.cnd t b s)))else False
    | _=>False)else False
   |none=>False)else False
  |none=>False
def OF (cx:Cx) (all:List Oper):List Nat->(St->Prop)->St->Prop
 | [],k=>k
 |j::r,k=>fun st=>match all[j]? with
  |some o=>bif !(A8l o.op)&&B3s (aL all j) (Ba all (j::r))then Ov cx all o (OF cx all r k) st else False
  |none=>False
def P8 (cx:Cx) (sp:G7) (all:List Oper) (tails:List Nat) (n0:Nat) (nw:Bool):Pl->Bool->Bool->(St->Prop)->St->Prop
 | .done,_,_,k=>k
 | .q i p,pre,t,k=>fun st=>match all[i]? with
  |some o=>bif pre|| !nw then Ov cx all o (P8 cx sp all tails n0 nw p pre t k) st else False
  |none=>False
 | .p i p,pre,t,k=>fun st=>match all[i]? with
  |some o=>bif !(A8l o.op)then Ov cx all o (P8 cx sp all tails n0 nw p pre t k) st else False
  |none=>False
 | .e i p,_,t,k=>fun st=>match all[i]? with
  |some o=>bif((t||tails.contains i) || !(XB sp st o) || (nw&&frO n0 st o.op))&&(!nw||dW sp n0 st o.op)then Kj cx sp all o (P8 cx sp all tails n0 nw p false (t||tails.contains i) k) st else False
  |none=>False
 | .or i p q,pre,t,k=>fun st=>
  (match all[i]? with
  |some o=>bif((t||tails.contains i) || !(XB sp st o) || (nw&&frO n0 st o.op))&&(!nw||dW sp n0 st o.op)then Kj cx sp all o (P8 cx sp all tails n0 nw p false (t||tails.contains i) k) st else False
  |none=>False)/\P8 cx sp all tails n0 nw q pre t k st
 | .al is js p,_,t,k=>fun st=>bif A1h all is js then ET cx all st is (OF cx all js (P8 cx sp all tails n0 nw p false t k)) st else False
def Io (cx:Cx) (sp:G7) (an:An):Code->K->St->Prop
 | .skip,k=>k.n
 | .label _,k=>k.n
 | .region id ops u,k=>fun st=>bif u then(match Fz id an.plan with
  |some (heads,tails,nw,p)=>bif B5a ops.toList heads tails p&&cx.P.follows .mixedOrders then P8 cx sp ops.toList tails st.nx nw p true false k.n st else False
  |none=>False)else VI cx sp ops.toList ops.toList k.n st
 | .seq a b,k=>fun st=>match B4s an.join (jA b)with
  |some A=>C2l A st (fun j=>Io cx sp an a {k with n:=j} st) (Io cx sp an b k)
  |none=>Io cx sp an a {k with n:=Io cx sp an b k} st
 | .cond c a b,k=>fun st=>match(st.ev [] c).bind NM with
  |some e=>(e=true->Io cx sp an a k st)/\(e=false->Io cx sp an b k st)
  |none=>False
 | .block id c,k=>Io cx sp an c {k with x:=fun i st=>bif Nat.beq i id then k.n st else k.x i st}
 | .loop c,k=>fun st=>match B4s an.loop (jA c)with
  |some A=>B5i A st fun j=>Io cx sp an c {k with n:=j}
  |none=>False
 | .exit i,k=>k.x i
 | .ret,k=>k.r
 | _,_=>fun _=>False
section
variable {za:Zn} {w0:World} {cx:Cx} {sp:G7} {an:An} {all:List Oper}
def Uz {o:Oper} {k k':St->Prop} {st:St} (h:Ov cx all o k st) (u:∀st',C1 st st'->k st'->k' st'):Ov cx all o k' st:=by
 unfold Ov at h⊢;split at h
 . split at h
   . split at h
     . exact D7.2 ⟨(D7.1 h).1,u _ (C1.setS _ _ _) (D7.1 h).2⟩
     . exact h
   . split at h
     . split at h
       . split at h
         . rename_i hl;exact u _ (aA hl) h
         . exact h
       . exact h
     . exact h
 . split at h
   . obtain⟨hf,h⟩:=B4 h;simp only[hf,qQ];split at h
     . obtain⟨a1,h⟩:=B4 h;simp only[a1,qQ];split at h
       . obtain⟨a0,h⟩:=B4 h;simp only[a0,qQ];exact D7.2 ⟨(D7.1 h).1,u _ (C1.setS _ _ _) (D7.1 h).2⟩
       . exact h
     . exact h
   . exact h
def VJ:∀ {ls:List Nat} {k k':St->Prop} {st:St},OF cx all ls k st->(∀st',C1 st st'->k st'->k' st')->OF cx all ls k' st
 | [],_,_,st,h,u=>u st (C1.refl st) h
 |j::r,_,_,st,h,u=>by
  simp only[OF]at h⊢;split at h
  . obtain⟨hp,h⟩:=B4 h;simp only[hp,qQ];exact Uz h fun a0 e1 h1=>VJ h1 fun st2 e2 h2=>u st2 (e1.trans e2) h2
  . exact h
def Aw {tails:List Nat} {n0:Nat} {nw:Bool} :∀ {p:Pl} {pre t:Bool} {k k':St->Prop} {st:St},P8 cx sp all tails n0 nw p pre t k st->(∀st',C1 st st'->k st'->k' st')->P8 cx sp all tails n0 nw p pre t k' st
 | .done,_,_,_,_,st,h,u=>u st (C1.refl st) h
 | .q i p,pre,t,_,_,st,h,u=>by
  simp only[P8]at h⊢;split at h
  . obtain⟨hp,h⟩:=B4 h;simp only[hp,qQ]at h⊢;exact Uz h fun a0 e1 h1=>Aw h1 fun st2 e2 h2=>u st2 (e1.trans e2) h2
  . exact h
 | .p i p,pre,t,_,_,st,h,u=>by
  simp only[P8]at h⊢;split at h
  . obtain⟨hp,h⟩:=B4 h;simp only[hp,qQ];exact Uz h fun a0 e1 h1=>Aw h1 fun st2 e2 h2=>u st2 (e1.trans e2) h2
  . exact h
 | .e i p,pre,t,_,_,st,h,u=>by
  simp only[P8]at h⊢;split at h
  . obtain⟨hp,h⟩:=B4 h;simp only[hp,qQ];exact GR h fun a0 e1 h1=>Aw h1 fun st2 e2 h2=>u st2 (e1.trans e2) h2
  . exact h
 | .or i p q,pre,t,_,_,st,h,u=>by
  simp only[P8]at h⊢;refine⟨?_,Aw h.2 u⟩;have h:=h.1;split at h
  . obtain⟨hp,h⟩:=B4 h;simp only[hp,qQ];exact GR h fun a0 e1 h1=>Aw h1 fun st2 e2 h2=>u st2 (e1.trans e2) h2
  . exact h
 | .al is js p,pre,t,_,_,st,h,u=>by
  simp only[P8]at h⊢;obtain⟨hp,h⟩:=B4 h;simp only[hp,qQ];exact VH h fun a0 e1 h1=>VJ h1 fun st2 e2 h2=>Aw h2 fun a1 e3 h3=>u a1 (e1.trans (e2.trans e3)) h3
def C1.told (A:FE) (st0:St) (p:A.den):C1 st0 (Vc.reflect A st0 p):=
 ⟨qZ (uU _) (C1.reflect A st0 p).ct,fun _ u h1=>jW u h1,fun _ u h1=>eK u h1,(C1.reflect A st0 p).f.le (uU _)⟩
def C1.gath {A:FE} {st u:St} {p:A.den} (h:gath A st=some (u,p)):C1 st u:=by
 simp only[Vc.gath,qH,bind_some]at h;obtain⟨a0,_,cs,_,tl,_,p',_,h⟩:=h;obtain⟨_,h⟩:=D4 h;cases h;exact(C1.plugL _ _).trans (C1.settleSh _ _ _)
def MW:∀ {c:Code} {k k':K} {st:St},Io cx sp an c k st->(∀e st',C1 st st'->k.at e st'->k'.at e st')->Io cx sp an c k' st:=by
 intro c
 induction c with
 |skip=>intro k k' st h u;exact u .normal st (C1.refl st) h
 |label l=>intro k k' st h u;exact u .normal st (C1.refl st) h
 |region id ops a3=>
  intro k k' st h u;simp only[Io]at h⊢;cases a3 with
  |true=>
   simp only[qQ]at h⊢;split at h
   . obtain⟨hp,h⟩:=B4 h;simp only[hp,qQ];exact Aw h fun st' e=>u .normal st' e
   . exact h
  |false=>
   simp only[rF]at h⊢;exact OE h fun st' e=>u .normal st' e
 |seq a b a1 a2=>
  intro k k' st h u;simp only[Io]at h⊢;split at h
  . rename_i A _;obtain⟨J,h1,h2⟩:=h;refine⟨J,a1 h1 fun e st' ev hh=> ?_,fun p hw hJ=>a2 (h2 p hw hJ) fun e st' ev hh=> ?_⟩
    . cases e with
      |normal=>exact hh
      |exit i=>exact u (.exit i) st' ev hh
      |ret=>exact u .ret st' ev hh
      | _=>exact hh
    . exact u e st' ((C1.told A st p).trans ev) hh
  . refine a1 h fun e a0 e1 hh=> ?_
    cases e with
    |normal=>exact a2 hh fun e st2 e2 h2=>u e st2 (e1.trans e2) h2
    |exit i=>exact u (.exit i) a0 e1 hh
    |ret=>exact u .ret a0 e1 hh
    | _=>exact hh
 |cond c a b a1 a2=>
  intro k k' st h u;simp only[Io]at h⊢;split at h
  . exact⟨fun e=>a1 (h.1 e) u,fun e=>a2 (h.2 e) u⟩
  . exact h
 |block id c ih=>
  intro k k' st h u;simp only[Io]at h⊢;refine ih h fun e st' ev hh=> ?_
  cases e with
  |exit i=>
   simp only[K.at]at hh⊢;cases hb:Nat.beq i id with
   |true=>simp only[hb,qQ]at hh⊢;exact u .normal st' ev hh
   |false=>simp only[hb,rF]at hh⊢;exact u (.exit i) st' ev hh
  |normal=>exact u .normal st' ev hh
  |ret=>exact u .ret st' ev hh
  | _=>exact hh
 |loop c ih=>
  intro k k' st h u;simp only[Io]at h⊢;split at h
  . rename_i A _;unfold B5i at h⊢;split at h
    . rename_i a0 p0 hg;obtain⟨hb,h⟩:=B4 h;simp only[hb,qQ];obtain⟨I,μ,h0,h1⟩:=h;refine⟨I,μ,h0,fun p hw hI=>ih (h1 p hw hI) fun e st' ev hh=> ?_⟩;cases e with
      |normal=>exact hh
      |exit i=>exact u (.exit i) st' ((C1.gath hg).trans ((C1.told A a0 p).trans ev)) hh
      |ret=>exact u .ret st' ((C1.gath hg).trans ((C1.told A a0 p).trans ev)) hh
      | _=>exact hh
    . exact h
  . exact h
 |exit i=>intro k k' st h u;exact u (.exit i) st (C1.refl st) h
 |ret=>intro k k' st h u;exact u .ret st (C1.refl st) h
 | _=>intro k k' st h u;exact h
def YR {A:FE} (hb0:za.b0=0) {st0 st:St} {J:A.den->Prop} {E:F8} {w:World} {Z:Nat->Prop} {B:Nat->Value} (h:B7 za w0 st E w Z B) (u:LD A st0 J st) (pk:B1h za.n st0) (ev:C1 st0 st):∃p,A.wf p/\J p/\∃Z' B',B7 za w0 (reflect A st0 p) E w Z' B':=by
 unfold LD at u;split at u
 . rename_i a0 p hg;obtain⟨hk,u⟩:=B4 u;simp only[A7u,qC,tR]at hk;obtain⟨⟨⟨k1,k2⟩,k3⟩,k5⟩:=hk;have e1:=ev.trans (C1.gath hg);have tm:∀ {n g:Nat},cV n g=true->g≠0/\g<=n:=fun hh=>by
    simp only[cV,qC]at hh;have a:=qP hh.1;have b:=qP hh.2;omega
   obtain⟨hw,Z',B',hr⟩:=pP hb0 h hg pk (fun s hs=>e1.s s (tm (k1 s hs)).1 (tm (k1 s hs)).2) (fun q hq=>e1.l q (tm (k2 q hq)).1 (tm (k2 q hq)).2) (fun y hy=>Yg (k3 y hy)) (e1.f.old k5);exact⟨p,hw,u,Z',B',hr⟩
 . exact u.elim
variable (hty:H1 cx.P cx.tys=true) (hsp:Iw cx.P sp)
include hty in
theorem GS {S:World->Prop} {o:Oper} {k:St->Prop} {st:St} {E:F8} {w:World} {Z:Nat->Prop} {B:Nat->Value} (hS:∀w',S w'->(A8l o.op=true->R5 w w')) (h:B7 za w0 st E w Z B) (hs:Ov cx all o k st):GQ cx.P S all o (Nx za w0 k) E w:=by
 obtain⟨a8,op,ty,pos,aft,gd⟩:=o;unfold Ov at hs;simp only at hs hS;split at hs
 . split at hs
   . rename_i φ v hp;split at hs
     . rename_i d;replace hs:=D7.1 hs;obtain⟨u,h1,h2,h3⟩:=CO (ty:=ty) h hty (F6 E) hp hs.1;exact .inl ⟨rfl,u,fun w' a0=>h1 w' (hS w' a0) _ _ _ _,_,_,_,h.setS d (h2 _) h3,hs.2⟩
     . exact hs.elim
   . split at hs
     . rename_i T x _;split at hs
       . rename_i d;split at hs
         . rename_i st' hl;obtain⟨u,B',h1,h2⟩:=jB (ty:=ty) h hty hl;exact .inl ⟨rfl,u,fun w' a0=>h1 w' (hS w' a0 rfl) _ _ _ _,_,_,_,h2,hs⟩
         . exact hs.elim
       . exact hs.elim
     . exact hs.elim
 . rename_i j b;split at hs
   . rename_i t hj;have a6:=(B4 hs).1;replace hs:=(B4 hs).2;split at hs
     . rename_i d;have a4:=(B4 hs).1;replace hs:=(B4 hs).2;have a3:t≠d:=uW (by simpa using a4);split at hs
       . rename_i φ s hp;obtain⟨a7,hs⟩:=B4 hs;replace hs:=D7.1 hs;rw[iR]at hs;by_cases hw:E t= .bool b
         . have a1:=h.gctx (n:=20) hw;obtain⟨u,h1,h2,h3⟩:=CO (ty:=ty) h hty a1 hp (hs.1 (h.ctxP a1));refine .inl ⟨UP hj hw,u,fun w' a0=>h1 w' (hS w' a0) _ _ _ _,_,_,_,h.setS d (x:= .cnd t b s) (.inl ⟨?_,h2 E⟩) h3,hs.2⟩;rw[C3 _ _ _ _ a3];exact hw
         . have a2:E2 all ⟨some d,op,ty,pos,aft,some (j,b)⟩ E=false:=by
            unfold E2 Df;simp only[hj];cases a5:E t with
            |bool b'=>simp only[wB,g4r,rE];intro hh;exact hw (by rw[a5,hh])
            | _=>rfl
           refine .inr ⟨a2,_,_,_,h.setS d (x:= .cnd t b s) (.inr ⟨?_,rfl⟩) (fun c hc=>eI (tR.1 a7 c hc)),hs.2⟩;rw[C3 _ _ _ _ a3];exact hw
       . exact hs.elim
     . exact hs.elim
   . exact hs.elim
theorem VC {P:Program} {S:World->Prop} {o:Oper} {n n':F8->World->Prop} {E:F8} {w:World} (h:GQ P S all o n E w) (hn:∀E',n E' w->n' E' w):GQ P S all o n' E w:=by
 rcases h with⟨h1,v,u,h3⟩ | ⟨h1,u⟩
 . exact .inl ⟨h1,v,u,hn _ h3⟩
 . exact .inr ⟨h1,hn _ u⟩
def RW (nw:Bool) (b0:Nat) (w w':World):Prop:=bif nw then(Below b0 w w'/\True)else R5 w w'
theorem RW.of {nw:Bool} {b0:Nat} {w w':World} (hb:b0<=w.heap.size) (h:R5 w w'):RW nw b0 w w':=by
 cases nw with
 |true=>exact⟨⟨h.os,h.tape,h.output,h.size,fun k u=>h.block k (rD u hb)⟩,h.drw⟩
 |false=>exact h
theorem RW.refl (nw:Bool) (b0:Nat) (w:World):RW nw b0 w w:=by
 cases nw with
 |true=>exact⟨Below.refl _ _,trivial⟩
 |false=>exact R5.refl _
theorem RW.trans {nw:Bool} {b0:Nat} {a b c:World} (h:RW nw b0 a b) (u:RW nw b0 b c):RW nw b0 a c:=by
 cases nw with
 |true=>exact⟨Below.trans h.1 u.1,trivial⟩
 |false=>exact R5.trans h u
include hty hsp in
theorem A0y {nw tl:Bool} {n0:Nat} {k:St->Prop} {o:Oper} {st:St} {E:F8} {w:World} {Z:Nat->Prop} {B:Nat->Value} (a2:nw=true->za.k0=n0) (hb0:nw=false->za.b0=0) (h:B7 za w0 st E w Z B)
 (hm:((tl|| !(XB sp st o) || (nw&&frO n0 st o.op))&&(!nw||dW sp n0 st o.op))=true) (u:Kj cx sp all o k st):I0 cx.P all o (fun E' w'=>(tl=true\/RW nw za.b0 w w')/\Nx za w0 k E' w') E w:=by
 simp only[qC,uI,rQ]at hm;obtain⟨hm,a0⟩:=hm;have a3:za.b0=0\/dW sp za.k0 st o.op=true:=by
  cases hn:nw with
  |false=>exact .inl (hb0 hn)
  |true=>rw[hn]at a0;exact .inr (by rw[a2 hn];simpa using a0)
 rcases hm with(hm|hm) |hm
 . refine C0 ?_ (Gu h a3 hty hsp u);rintro E' w' ⟨_,n⟩;exact⟨.inl hm,n⟩
 . refine C0 ?_ (Gu h a3 hty hsp u);rintro E' w' ⟨hx,n⟩;exact⟨.inr (RW.of h.mrk.1 (hx hm)),n⟩
 . obtain⟨a7,hm⟩:=hm;subst a7;obtain⟨a4,op,ty,pos,aft,gd⟩:=o;have a5:=hm;unfold frO at hm;split at hm
   . rename_i T p v a1;simp only at a1;subst a1;unfold Kj at u;simp only at u;cases gd with
     |none=>
      simp only[Zs]at u;cases a4 with
      |none=>
       simp only at u;have a6:Zb st (.store T p v)=false:=by
        rcases a0 with a0|a0
        . cases a0
        . simp only[dW,qC,rQ]at a0;exact a0.2
       rw[jH a6]at u;simp only at u;split at u
       . rename_i φ st' a8;refine C0 ?_ (bB h hty a8 (D7.1 u).1 (D7.1 u).2 rfl);rintro E' w' ⟨hb,n⟩;exact⟨.inr (hb (by rw[a2 rfl];exact a5)),n⟩
       . exact u.elim
      |some d=>exact u.elim
     |some jb=>
      obtain⟨j,b⟩:=jb;simp only[Zs]at u;split at u
      . obtain⟨_,u⟩:=B4 u;split at u
        . obtain⟨_,u⟩:=B4 u;exact u.elim
        . exact u.elim
      . exact u.elim
   . cases hm
include hty in
theorem kE {k:St->Prop} :∀ {js:List Nat},(∀j∈js,dZ all j=true)->(Ba all js).Nodup->∀ {st:St} {E:F8} {w:World} {Z:Nat->Prop} {B:Nat->Value},B7 za w0 st E w Z B->OF cx all js k st->∃F,(∀x,x∉Ba all js->F x=E x)/\AlV cx.P all js F/\Nx za w0 k F w
 | [],_,_,st,E,w,Z,B,h,hs=>⟨E,fun _ _=>rfl,fun _ hj=>(by cases hj),st,Z,B,h,hs⟩
 |j::r,a3,a2,st,E,w,Z,B,h,hs=>by
  simp only[OF]at hs;simp only[Ba,sB]at a2;obtain⟨n1,n2⟩:=sH.1 a2;split at hs
  . rename_i o ho;obtain⟨hm,hs⟩:=B4 hs;simp only[qC,rQ]at hm;obtain⟨a1,hg,a6⟩:=Zr (a3 j rC) ho;have a4:=MY hm.2;have hq:=GS (S:=fun _=>True) (all:=all) hty (fun w' _ hh=>by rw[hh]at hm;cases hm.1) h hs;have a0:E2 all o E=true:=by simp[E2,hg]
    rcases hq with⟨_,v,hv,a8,Z1,B1,h1,a7⟩ | ⟨hw,_⟩
    . rw[a1]at h1;obtain⟨F,g1,g2,g3⟩:=kE (fun i hi=>a3 i (qJ _ hi)) n2 h1 a7;have a5:F (Ft all j)=v:=by rw[g1 _ n1];exact C2 _ _ _
      refine⟨F,fun x hx=> ?_,fun i hi=> ?_,g3⟩
      . simp only[Ba,sB,qG,g4s]at hx;rw[g1 x hx.2];exact C3 _ _ _ _ hx.1
      . rcases qG.1 hi with rfl|hi
        . refine⟨o,ho,fun w'=> ?_⟩;rw[a5,LJ (E:=F) (E':=E) ho a6 fun u hu=> ?_]
          . exact hv w' trivial
          . have hx:=a4 u hu;simp only[Ba,sB,qG,g4s]at hx;rw[g1 u hx.2];exact C3 _ _ _ _ hx.1
        . exact g2 i hi
    . rw[a0]at hw;cases hw
  . exact hs.elim
theorem RW.size {nw:Bool} {b0:Nat} {a b:World} (h:RW nw b0 a b):a.heap.size<=b.heap.size:=by
 cases nw with
 |true=>exact h.1.size
 |false=>exact(show R5 a b from h).size
include hty in
theorem A3o {nw:Bool} {is js:List Nat} {k:St->Prop} {st:St} {E:F8} {w:World} {Z:Nat->Prop} {B:Nat->Value} (a3:A1h all is js=true) (h:B7 za w0 st E w Z B) (hs:ET cx all st is (OF cx all js k) st):∃f X,A4q cx.P (RW nw za.b0) all is js f X (Nx za w0 k) E w:=by
 simp only[A1h,qC,tR]at a3;obtain⟨⟨⟨s1,s2⟩,s3⟩,s4⟩:=a3;have s2:=(sX.1 (Lz s2)).1;have s3:=Lz s3;have s3:(Ba all is++Ba all js).Nodup:=by simpa[Ba]using s3
 obtain⟨d1,d2,d3⟩:=sX.1 s3;have u:=aX hs;have a5:∀i,∃x:Obj×(Nat->Value),i∈is->∀o φ lc mk,all[i]? =some o->KR cx st (Ft all i) o.op=some (φ,lc,mk)->(∀w',(execOp (ev E) o).run cx.P w'= .ok (.value (x.2 w'.heap.size)) (w'.alloc x.1))/\A5a lc mk x.1 x.2:=fun i=>by
  by_cases hi:i∈is
  . obtain⟨o,φ,lc,mk,ho,ha,a4⟩:=u i hi;obtain⟨X,f,g1,g2⟩:=A1i h hty ha a4;refine⟨(X,f),fun _ o' φ' aa ab a2 a1=> ?_⟩;rw[ho]at a2;cases a2;rw[ha]at a1;cases a1;obtain⟨a9,op,ty,pos,aft,gd⟩:=o;exact⟨fun w'=>g1 ty w' _ _ _ _,g2⟩
  . exact⟨(.cells #[] 0 (0,0),fun _=>undef),fun hh=>absurd hh hi⟩
 obtain⟨g,hg⟩:=Classical.axiomOfChoice a5;refine⟨fun i=>(g i).2,fun i=>(g i).1,⟨fun i hi=> ?_,fun i hi w' hr=>RW.of (qZ h.mrk.1 hr.size) (R5.alloc w' _),fun l hl=> ?_⟩⟩
 . obtain⟨o,φ,lc,mk,ho,ha,a4⟩:=u i hi;exact⟨o,ho,(hg i hi o φ lc mk ho ha).1⟩
 . have a7:l.Nodup:=hl.nodup_iff.2 s2;have a6:(Ba all l).Nodup:=(hl.map _).nodup_iff.2 d1;obtain⟨hx,bl,b1,b2⟩:=aV (f:=fun i=>(g i).2) (X:=fun i=>(g i).1) l E w a7 a6;have h1:=h.more (Z':=Z) hx (fun _=>id) (fun _=> .inl);obtain⟨ac,B1,h2,h3⟩:=kD (f:=fun i=>(g i).2) (X:=fun i=>(g i).1) (bl:=bl) h1 (fun i hi o φ lc mk ho ha=>(hg i hi o φ lc mk ho ha).2) (fun i hi=>by
    obtain⟨c1,c2,c3⟩:=b1 i (hl.symm.subset hi);refine⟨c2,qZ h.ext.size c1,fun hz=> ?_,qZ h.mrk.1 c1,fun q hq=> ?_⟩
    . have:=h.zlt _ hz;omega
    . have:=((h.locs q).root (h.ft hx hq)).2.1;omega) (fun i hi j hj a8=>b2 i (hl.symm.subset hi) j (hl.symm.subset hj) a8) s2 hs
   have hE:oS all (fun i=>(g i).2) bl is E=(Fu all (fun i=>(g i).2) (fun i=>(g i).1) l E w).1:=funext fun x=>by
    by_cases a0:x∈Ba all is
    . obtain⟨i,hi,e⟩:=I8.1 a0;subst e;rw[kR d1 hi,(b1 i (hl.symm.subset hi)).2.2]
    . rw[GT a0,Ii _ _ _ fun hm=>a0 ((hl.map _).subset hm)]
   rw[hE]at h2;exact kE hty (fun j hj=>s1 j (tI _ hj)) d2 h2 h3
include hty hsp in
theorem Dd {za0:Zn} {tails:List Nat} {n0:Nat} {nw:Bool} {k:St->Prop} (a0:nw=true->za.k0=n0) (hb0:nw=false->za.b0=0) (a1:∀ {st:St} {E:F8} {w:World} {Z:Nat->Prop} {B:Nat->Value},B7 za w0 st E w Z B->B7 za0 w0 st E w Z B):∀ {p:Pl} {pre t:Bool} {st:St} {E:F8} {w:World} {Z:Nat->Prop} {B:Nat->Value},(nw=true->pre=true->za.b0=w.heap.size)->B7 za w0 st E w Z B->P8 cx sp all tails n0 nw p pre t k st->SL cx.P (RW nw za.b0) all tails (Nx za0 w0 k) p t E w
 | .done,_,_,_,_,_,_,_,_,h,u=>⟨_,_,_,a1 h,u⟩
 | .q i p,pre,t,st,E,w,Z,B,hp,h,u=>by
  simp only[P8]at u;split at u
  . rename_i o ho;obtain⟨a5,u⟩:=B4 u;refine⟨o,ho,VC (GS hty (fun w' a2 _=> ?_) h u) ?_⟩
    . cases nw with
      |false=>exact a2
      |true=>
       have a2:Below za.b0 w w'/\True:=a2;rw[hp rfl (by simpa using a5)]at a2;exact⟨a2.1,a2.2⟩
    . rintro E' ⟨st',Z',B',h',hk⟩;exact Dd a0 hb0 a1 hp h' hk
  . exact u.elim
 | .p i p,pre,t,st,E,w,Z,B,hp,h,u=>by
  simp only[P8]at u;split at u
  . rename_i o ho;obtain⟨hm,u⟩:=B4 u;refine⟨o,ho,VC (GS hty (fun w' _ hh=>by rw[hh]at hm;cases hm) h u) ?_⟩;rintro E' ⟨st',Z',B',h',hk⟩;exact Dd a0 hb0 a1 hp h' hk
  . exact u.elim
 | .e i p,pre,t,st,E,w,Z,B,hp,h,u=>by
  simp only[P8]at u;split at u
  . rename_i o ho;obtain⟨hm,u⟩:=B4 u;refine⟨o,ho,C0 ?_ (A0y hty hsp a0 hb0 (tl:=t||tails.contains i) h hm u)⟩;rintro E' w' ⟨a4,st',Z',B',h',hk⟩;exact⟨a4,Dd a0 hb0 a1 (fun _ hh=>by cases hh) h' hk⟩
  . exact u.elim
 | .or i p q,pre,t,st,E,w,Z,B,hp,h,u=>by
  simp only[P8]at u;refine⟨?_,Dd a0 hb0 a1 hp h u.2⟩;have u:=u.1;split at u
  . rename_i o ho;obtain⟨hm,u⟩:=B4 u;refine⟨o,ho,C0 ?_ (A0y hty hsp a0 hb0 (tl:=t||tails.contains i) h hm u)⟩;rintro E' w' ⟨a4,st',Z',B',h',hk⟩;exact⟨a4,Dd a0 hb0 a1 (fun _ hh=>by cases hh) h' hk⟩
  . exact u.elim
 | .al is js p,pre,t,st,E,w,Z,B,hp,h,u=>by
  simp only[P8]at u;obtain⟨a7,u⟩:=B4 u;obtain⟨f,X,a3⟩:=A3o (nw:=nw) hty a7 h u;refine⟨f,X,a3.one,a3.rel,fun l hl=> ?_⟩;obtain⟨F,f1,f2,st',Z',B',h',a6⟩:=a3.fin l hl;exact⟨F,f1,f2,Dd a0 hb0 a1 (fun _ hh=>by cases hh) h' a6⟩
theorem B7.marked {st:St} {E:F8} {w:World} {Z:Nat->Prop} {B:Nat->Value} (h:B7 za w0 st E w Z B):B7 {za with k0:=st.nx,b0:=w.heap.size} w0 st E w Z B:=
 ⟨h.ext,h.zlt,h.slots,h.locs,h.disj,h.refs,h.refl,h.fresh,h.bone,h.zin,h.nms,h.bfix,⟨rB _,fun k b u hl=>by
  have:st.L k= .none:=h.fresh k u;rw[this]at hl;exact hl.elim⟩,h.frs,h.frf⟩
theorem B7.unmark {k0 b0:Nat} (hb0:za.b0=0) {st:St} {E:F8} {w:World} {Z:Nat->Prop} {B:Nat->Value} (h:B7 {za with k0:=k0,b0:=b0} w0 st E w Z B):B7 za w0 st E w Z B:=
 ⟨h.ext,h.zlt,h.slots,h.locs,h.disj,h.refs,h.refl,h.fresh,h.bone,h.zin,h.nms,h.bfix,⟨by rw[hb0];exact rN _,fun k b _ _=>by rw[hb0];exact rN _⟩,h.frs,h.frf⟩
end
section
variable {za:Zn} {w0:World} {cx:Cx} {sp:G7} {an:An}
def A6z {A:FE} {st a0:St} {p:A.den} {E:F8} {w:World} {Z:Nat->Prop} {B:Nat->Value} (hb0:za.b0=0) (h:B7 za w0 st E w Z B) (u:gath A st=some (a0,p)):∃Z',B7 za w0 a0 E w Z' B:=by
 simp only[Vc.gath,qH,bind_some]at u;obtain⟨a1,_,cs,_,tl,_,p',_,u⟩:=u;obtain⟨_,u⟩:=D4 u;cases u;obtain⟨Z0,h0⟩:=h.plugL hb0 (l:=A.rowL);exact B7.settleSh h0
def post (za:Zn) (w0:World) (k:K):Exit->F8->World->Prop:=fun e E w=>Nx za w0 (k.at e) E w
variable (hty:H1 cx.P cx.tys=true) (hsp:Iw cx.P sp)
include hty hsp in
theorem Uy (hb0:za.b0=0) {n:Nat} :∀ {c:Code} {k:K} {st:St} {E:F8} {w:World} {Z:Nat->Prop} {B:Nat->Value},B7 za w0 st E w Z B->Io cx sp an c k st->Gw.Wp cx.P n c (post za w0 k) E w:=by
 intro c
 induction c with
 |skip=>intro k st E w Z B h u _ a hr;exact wp_skip ⟨E,hr,st,Z,B,h,u⟩
 |label l=>intro k st E w Z B h u _ a hr;exact wp_label ⟨E,hr,st,Z,B,h,u⟩
 |exit i=>intro k st E w Z B h u _ a hr;exact wp_exit ⟨E,hr,st,Z,B,h,u⟩
 |ret=>intro k st E w Z B h u _ a hr;exact wp_ret ⟨E,hr,st,Z,B,h,u⟩
 |region id ops a5=>
  intro k st E w Z B h u a0 a hr;simp only[X0]at a0;simp only[Io]at u;have a4:ops=ops.toList.toArray:=by simp
  cases a5 with
  |false=>
   simp only[rF]at u;rw[a4];refine wp_region ?_;have:=UQ (P:=cx.P) (Q:=post za w0 k) a0 ops.toList 0 (by simp) a E w hr (aY hb0 hty hsp h u);simpa[g2u]using this
  |true=>
   simp only[qQ]at u;split at u
   . rename_i heads tails nw p _;obtain⟨hp,u⟩:=B4 u;simp only[qC]at hp;obtain⟨hp,hm⟩:=hp;simp only[B5a,qC]at hp;rw[a4];refine wp_region_any hm (WY (S:=fun _=>True) (tails:=tails) _ _ _ _ ?_);have a2:G1 tails (Array.replicate ops.toList.length false)=false:=by
      unfold G1;rw[wP];intro x _;simp only[uO,xP];split<;>simp
     have h1:=h.more (Z':=Z) (w':=w.drew) (R5.refl w).drew (fun _ h=>h) (fun _=> .inl);have fin:∀b0,SL cx.P (RW nw b0) ops.toList tails (Nx za w0 k.n) p false E w.drew->X5 cx.P ops.toList.toArray (DL n (post za w0 k)) (RW nw b0 w.drew) tails ops.toList.length (Array.replicate ops.toList.length false) a w.drew:=fun b0 hd=>
      A6k (P:=cx.P) (R:=RW nw b0) (RW.refl nw _) (fun a b=>a.trans b) (Q:=post za w0 k) a0 hp.1.1 hp.1.2 (fun c E w hh=>by obtain⟨_,_,_,_,hh⟩:=hh;exact hh) p ops.toList.length _ none hp.2 ⟨gJ _ _,fun ht=>by rw[a2]at ht;cases ht⟩ false a2.symm a E w.drew hr (fun _ hh=>by cases hh) hd
     cases nw with
     |true=>
      have:=fin _ (Dd (za0:=za) (nw:=true) hty hsp (n0:=st.nx) (fun _=>rfl) (fun hh=>by cases hh) (fun h=>h.unmark hb0) (fun _ _=>rfl) h1.marked u);simpa using Jq (S':=fun _=>True) (fun _ _=>trivial) _ _ _ _ this
     |false=>
      have:=fin _ (Dd (za0:=za) (nw:=false) hty hsp (n0:=st.nx) (fun hh=>by cases hh) (fun _=>hb0) (fun h=>h) (fun hh=>by cases hh) h1 u);simpa using Jq (S':=fun _=>True) (fun _ _=>trivial) _ _ _ _ this
   . exact u.elim
 |seq a b a8 a9=>
  intro k st E w Z B h u a0 a1 hr;simp only[X0,qC]at a0;simp only[Io]at u;split at u
  . rename_i A _;obtain⟨J,h1,h2⟩:=u;have aa:=MW (k':= {n:=fun st'=>C1 st st'/\LD A st J st',x:=k.x,r:=k.r}) h1 (fun e st' ev hh=>by
     cases e with
     |normal=>exact⟨ev,hh⟩
     |exit i=>exact hh
     |ret=>exact hh
     | _=>exact hh)
    refine wp_seq (wp_mono (a8 h aa a0.1 a1 hr) ?_);rintro e a' w' ⟨E',hr',st',Z',B',h',hq⟩;cases e with
    |normal=>
     obtain⟨p,hw,hJ,Z2,B2,h3⟩:=YR hb0 h' hq.2 h.pure hq.1;exact a9 h3 (h2 p hw hJ) a0.2 a' hr'
    |exit i=>exact⟨E',hr',st',Z',B',h',hq⟩
    |ret=>exact⟨E',hr',st',Z',B',h',hq⟩
    | _=>exact hq.elim
  . refine wp_seq (wp_mono (a8 h u a0.1 a1 hr) ?_);rintro e a' w' ⟨E',hr',st',Z',B',h',hq⟩;cases e with
    |normal=>exact a9 h' hq a0.2 a' hr'
    |exit i=>exact⟨E',hr',st',Z',B',h',hq⟩
    |ret=>exact⟨E',hr',st',Z',B',h',hq⟩
    | _=>exact hq.elim
 |cond c x y af ag=>
  intro k st E w Z B h u a0 a1 hr;simp only[X0,qC]at a0;simp only[Io]at u;split at u
  . rename_i e he;obtain⟨s,ab,ac⟩:=bind_some.1 he;have hv:=Rh (h.ev (F6 E) ab).1 ac;refine wp_cond (t:=e) (by rw[hr.ev];exact hv) ?_;cases e with
    |true=>exact af h (u.1 rfl) a0.1 a1 hr
    |false=>exact ag h (u.2 rfl) a0.2 a1 hr
  . exact u.elim
 |block id c ih=>
  intro k st E w Z B h u a0 a1 hr;refine wp_block (wp_mono (ih h u a0 a1 hr) ?_);rintro e a' w' ⟨E',hr',st',Z',B',h',hq⟩;cases e with
  |normal=>exact⟨E',hr',st',Z',B',h',hq⟩
  |ret=>exact⟨E',hr',st',Z',B',h',hq⟩
  |exit j=>
   simp only[Exit.inBlock];simp only[K.at]at hq;by_cases hj:j=id
   . subst hj;simp only[xS];simp at hq;exact⟨E',hr',st',Z',B',h',hq⟩
   . simp only[hj,yD];rw[C8 hj]at hq;exact⟨E',hr',st',Z',B',h',hq⟩
  | _=>exact hq.elim
 |loop c ih=>
  intro k st E w Z B h u a0 a1 hr;simp only[X0]at a0;simp only[Io]at u;split at u
  . rename_i A _;unfold B5i at u;split at u
    . rename_i a3 p0 hg;obtain⟨hb,u⟩:=B4 u;simp only[qC,tR]at hb;obtain⟨I,μ,h0,h1⟩:=u;obtain⟨Z1,a6⟩:=A6z hb0 h hg;obtain⟨ae,Z2,B2,h2⟩:=pP hb0 h hg a6.pure (fun _ _=>rfl) (fun _ _=>rfl) (fun y hy=>Yg (hb.1 y hy)) rfl;refine wp_loop_ghost (fun m a w=>∃p E',μ p=m/\Gw.C4 n a E'/\A.wf p/\I p/\∃Z B,B7 za w0 (reflect A a3 p) E' w Z B) (μ p0) ⟨p0,E,rfl,hr,ae,h0,Z2,B2,h2⟩ ?_;rintro m a w ⟨p,E',ah,a7,hw,hI,Z3,B3,h3⟩;have h4:=MW (k':= {n:=fun st'=>C1 (reflect A a3 p) st'/\LD A a3 (fun p'=>I p'/\μ p'<μ p) st',x:=k.x,r:=k.r}) (h1 p hw hI) (fun e st' ev hh=>by
       cases e with
       |normal=>exact⟨ev,hh⟩
       |exit i=>exact hh
       |ret=>exact hh
       | _=>exact hh)
      refine wp_mono (ih h3 h4 a0 a a7) ?_;rintro e a' w' ⟨E'',hr',st',Z',B',h',hq⟩;cases e with
      |normal=>
       obtain⟨p',ad,hJ,Z5,B5,h5⟩:=YR hb0 h' hq.2 a6.pure ((C1.told A a3 p).trans hq.1);exact⟨μ p',by have:=hJ.2;omega,p',E'',rfl,hr',ad,hJ.1,Z5,B5,h5⟩
      |exit j=>exact⟨E'',hr',st',Z',B',h',hq⟩
      |ret=>exact⟨E'',hr',st',Z',B',h',hq⟩
      | _=>exact hq.elim
    . exact u.elim
  . exact u.elim
 | _=>intro k st E w Z B h u;exact u.elim
end
abbrev Cn (α:Type):List α:= []
def Zt (cx:Cx) (st:St):List ResultVar->Option (List SV)
 | []=>some []
 | .tmp t::r=>match st.S t with
  | .one s=>(Zt cx st r).map (s:: ·)
  | _=>none
 | .cell a T::r=>do
  let ti<-cx.ti T
  match st.S a with
  | .one ⟨false,[.box k 0]⟩=>match st.L k with
   | .box _ cs=>bif Nat.beq cs.length ti.ty.size then(Zt cx st r).map (⟨ti.agg,cs⟩:: ·)else none
   | _=>none
  | _=>none
def settleR:St->List RT->List SV->St
 |st, .val _ _::rs,s::ss=>settleR (settle st s.cs) rs ss
 |st, .own _ _::rs,_::ss=>settleR st rs ss
 |st, .obox _ _::rs,s::ss=>settleR (match c1 s with
  |some (.box k 0)=>(match st.L k with
   | .box _ cs=>settle st cs
   | _=>st)
  | _=>st) rs ss
 |st, .rows _ _ _::rs,_::ss=>settleR st rs ss
 |st,_,_=>st
def EQ (st:St):(rs:List RT)->List SV->Option (Bf rs)
 | [],[]=>some ()
 | .val a t::rs,s::ss=>(Rz a t s).bind fun x=>(EQ st rs ss).map fun y=>(x,y)
 | .own t e::rs,s::ss=>((c1 s).bind (MR st t e)).bind fun x=>(EQ st rs ss).map fun y=>(x,y)
 | .obox T t::rs,s::ss=>((YU s).bind fun k=>bif Nat.ble st.nm k then gE st T t k else none).bind fun x=>(EQ st rs ss).map fun y=>(x,y)
 | .rows t e e'::rs,s::ss=>((OD s).bind fun k=>bif Nat.ble st.nm k then MT st t e e' k else none).bind fun x=>(EQ st rs ss).map fun y=>(x,y)
 | _,_=>none
def Bv:List RT->List SV->List Nat
 | .own _ _::rs,⟨false,[.row k]⟩::ss=>k::Bv rs ss
 | .obox _ _::rs,⟨false,[.box k 0]⟩::ss=>k::Bv rs ss
 | .rows _ _ _::rs,⟨false,[.row k]⟩::ss=>k::Bv rs ss
 | _::rs,_::ss=>Bv rs ss
 | _,_=> []
def settleM:St->List AM->Nat->St
 |st, .box _ _::r,j=>settleM (match st.L j with| .box _ cs=>settle st cs| _=>st) r (j+1)
 |st, .row _ _::r,j=>settleM st r (j+1)
 |st, .val _ _::r,j=>settleM st r j
 |st, .fn _ _ _::r,j=>settleM st r j
 |st, .rows _ _ _::r,j=>settleM st r (j+1)
 |st,[],_=>st
def XL (st:St):(as:List AM)->Nat->Option (Nt as)
 | [],_=>some ()
 | .row t e::r,j=>(Zv st t e j).bind fun x=>(XL st r (j+1)).map fun y=>(x,y)
 | .box T t::r,j=>(gE st T t j).bind fun x=>(XL st r (j+1)).map fun y=>(x,y)
 | .val _ _::r,j=>XL st r j
 | .fn _ _ _::r,j=>XL st r j
 | .rows t e e'::r,j=>(MT st t e e' j).bind fun x=>(XL st r (j+1)).map fun y=>(x,y)
def B4y:AM->Bool
 | .row t _=>Lv t
 | .rows t _ _=>Lv t
 | .box _ t=>Lv t
 | _=>true
def B6k (s:A7) (x:A2 s.args) (r:Bf s.res) (o:Nt s.args):Prop:=bif N0 s.args then s.post x r/\s.mpost x r o else s.post x r
def fin (cx:Cx) (s:A7) (u:List ResultVar) (x:A2 s.args) (st:St):Prop:=
 match Zt cx st u with
 |some ss=>match Zt cx (settleM (settleR st s.res ss) s.args 0) u with
  |some a0=>match EQ (settleM (settleR st s.res ss) s.args 0) s.res a0,XL (settleM (settleR st s.res ss) s.args 0) s.args 0 with
   |some r,some o=>bif(GE (Bv s.res a0)&&Ml s.res)&&(s.shared|| (s.res.all pM&&s.args.all B4y))then B6k s x r o else False
   | _,_=>False
  |none=>False
 |none=>False
def Hn (P:Program):(as:List AM)->A2 as->Nat->Nat->List (Nat×Nat×DV)
 | [],_,_,_=> []
 | .val a t::r,x,i,j=>(i,1, .one ⟨a,explode t x.1⟩)::Hn P r x.2 (i+1) j
 | .row _ _::r,x,i,j=>(i,1, .one ⟨false,[.row j]⟩)::Hn P r x.2 (i+1) (j+1)
 | .box _ _::r,x,i,j=>(i,1, .one ⟨false,[.box j 0]⟩)::Hn P r x.2 (i+1) (j+1)
 | .rows _ _ _::r,x,i,j=>(i,1, .one ⟨false,[.row j]⟩)::Hn P r x.2 (i+1) (j+1)
 | .fn u a0 r'::r,x,i,j=>(i,1, .one ⟨false,[.fv P u a0 r' x.1.1 x.1.2]⟩)::Hn P r x.2 (i+1) j
def Dy:(as:List AM)->A2 as->Nat->List (Nat×Nat×LC)
 | [],_,_=> []
 | .val _ _::r,x,j=>Dy r x.2 j
 | .fn _ _ _::r,x,j=>Dy r x.2 j
 | .row t e::r,x,j=>(j,1, .row t e x.1)::Dy r x.2 (j+1)
 | .box T t::r,x,j=>(j,1, .box T (explode t x.1))::Dy r x.2 (j+1)
 | .rows t e e'::r,x,j=>(j,1, .rows t e e' x.1 [] none)::Dy r x.2 (j+1)
def Jx:List AM->Nat
 | []=>0
 | .row _ _::r=>Jx r+1
 | .box _ _::r=>Jx r+1
 | .rows _ _ _::r=>Jx r+1
 | .val _ _::r=>Jx r
 | .fn _ _ _::r=>Jx r
def TH (P:Program) (as:List AM) (x:A2 as):St:=⟨Hn P as x 0 0,Dy as x 0,Jx as,1,Jx as,[]⟩
def B7p (cx:Cx) (sp:G7) (an:An) (s:A7) (u:List ResultVar) (c:Code) (x:A2 s.args):Prop:=
 Io cx sp an c ⟨fin cx s u x,fun _ _=>False,fin cx s u x⟩ (TH cx.P s.args x)
section
variable {za:Zn} {w0 w:World} {Z:Nat->Prop} {B:Nat->Value} {st:St} {E:F8} {cx:Cx} {sp:G7} {an:An}
def XM (tmps:Array Value):ResultVar->Sem Value
 | .tmp t=>pure (tmps.getD t undef)
 | .cell a t=>do loadVar t (<-asAddr (tmps.getD a undef))
def Zu (hty:H1 cx.P cx.tys=true) (h:B7 za w0 st E w Z B) {tmps:Array Value} (ht:∀t,tmps.getD t undef=E t):∀ {a3:List ResultVar} {ss:List SV},Zt cx st a3=some ss->∃vs,(a3.mapM (XM tmps)).run cx.P w= .ok vs w/\Qz w Z B ss vs
 | [],ss,hs=>by cases hs;exact⟨[],rfl,rfl⟩
 | .tmp t::r,ss,hs=>by
  simp only[Zt]at hs;split at hs
  . rename_i s hd;simp only[qK]at hs;obtain⟨ss',a5,rfl⟩:=hs;obtain⟨vs,h1,h2⟩:=Zu hty h ht a5;have a0:=h.slots t;rw[hd]at a0;refine⟨E t::vs, ?_,E t,vs,rfl,a0,h2⟩;rw[wO];simp only[XM,ht,Sem.run_bind,Sem.run_pure,Result.andThen_ok,h1]
  . cases hs
 | .cell a T::r,ss,hs=>by
  simp only[Zt,qH,bind_some]at hs;obtain⟨ti,ac,hs⟩:=hs;split at hs
  . rename_i k hd;split at hs
    . rename_i T' cs hk;obtain⟨hb,hs⟩:=D4 hs;simp only[qK]at hs;obtain⟨ss',a5,rfl⟩:=hs;obtain⟨vs,h1,h2⟩:=Zu hty h ht a5;have a7:=qD hb;have a0:=h.slots a;rw[hd]at a0;obtain⟨_,_,e1,⟨b,e2,e3⟩,_⟩:=a0;cases e1;have hL:=h.locs k;rw[hk]at hL;obtain⟨b',us,e4,_,_,a2,a1⟩:=hL;rw[e2]at e4;cases e4;have a6:us.toList.length=ti.ty.size:=by rw[<-a7,a1.len]
      rcases(O1 (B8 hty ac)).2.1 with⟨ha,a9⟩ | ⟨ha,ab,aa⟩
      . refine⟨.agg us.toList.toArray::vs, ?_,_,vs,rfl,by rw[ha];exact⟨us.toList,rfl,a1⟩,h2⟩;obtain⟨g1,g2⟩:=Qd (P:=cx.P) (w:=w) a9;have g3:=run_loadCells_list (P:=cx.P) (w:=w) ⟨b,0,none⟩ us.toList a2.cellsAt;rw[a6]at g3;unfold loadCells at g3;rw[wO];simp[XM,ht,e3,asAddr,loadVar,g1,g2,g3,h1,go_sem]
      . rw[aa]at a6
        match a8:us.toList,a6 with
        | [u],_=>
         rw[a8]at a1;have a4:w.cell? ⟨b,0,none⟩=some u:=by
          have:=a2.cellsAt 0 u (by rw[a8];rfl);rwa[J7]at this
         refine⟨u::vs, ?_,u,vs,rfl,by rw[ha];exact a1,h2⟩;have g1:=Ij (P:=cx.P) (w:=w) ab;rw[wO];simp[XM,ht,e3,asAddr,loadVar,g1,a4,h1,go_sem]
    . cases hs
  . cases hs
def B7.settleR:∀ {rs:List RT} {ss:List SV} {st:St} {Z:Nat->Prop},B7 za w0 st E w Z B->∃Z',B7 za w0 (settleR st rs ss) E w Z' B
 | .val _ _::rs,s::ss,st,Z,h=>by
  obtain⟨Z1,h1⟩:=h.settle s.cs;exact B7.settleR (rs:=rs) (ss:=ss) h1
 | .own _ _::rs,_::ss,st,Z,h=>B7.settleR (rs:=rs) (ss:=ss) h
 | .obox _ _::rs,s::ss,st,Z,h=>by
  simp only[Vc.settleR];split
  . split
    . obtain⟨Z1,h1⟩:=h.settle _;exact B7.settleR (rs:=rs) (ss:=ss) h1
    . exact B7.settleR (rs:=rs) (ss:=ss) h
  . exact B7.settleR (rs:=rs) (ss:=ss) h
 | [],_,st,Z,h=>⟨Z,h⟩
 | .val _ _:: _,[],st,Z,h=>⟨Z,h⟩
 | .own _ _:: _,[],st,Z,h=>⟨Z,h⟩
 | .obox _ _:: _,[],st,Z,h=>⟨Z,h⟩
 | .rows _ _ _::rs,_::ss,st,Z,h=>B7.settleR (rs:=rs) (ss:=ss) h
 | .rows _ _ _:: _,[],st,Z,h=>⟨Z,h⟩
def Mh (h:B7 za w0 st E w Z B) {Zn:Nat->Prop} (a6:∀b,Zn b->Z b):∀ {rs:List RT} {ss:List SV} {vs:List Value} {r:Bf rs},((∀b,Z b->Zn b)\/rs.all pM=true)->Qz w Z B ss vs->EQ st rs ss=some r->(Bv rs ss).Nodup->Ml rs=true->
 Oc w0.heap.size w Zn rs vs r/\∀u∈W0 rs vs,∀b,root u=some b->∃k∈Bv rs ss,A9 w (B k) (st.L k) b
 | [],[],vs,_,_,hr,_,_,_=>⟨hr,fun u hu=>by simp[W0]at hu⟩
 | [],_:: _,_,_,_,_,hp,_,_=>by cases hp
 | .val _ _:: _,[],_,_,_,_,hp,_,_=>by cases hp
 | .own _ _:: _,[],_,_,_,_,hp,_,_=>by cases hp
 | .obox _ _:: _,[],_,_,_,_,hp,_,_=>by cases hp
 | .rows _ _ _:: _,[],_,_,_,_,hp,_,_=>by cases hp
 | .rows t e0 e1::rs,s::ss,_,r,hf,⟨v,a7,e,h1,h2⟩,hp,hn,a4=>by
  simp only[EQ,bind_some,qK]at hp;obtain⟨l,⟨q,hq,hl⟩,y,hy,rfl⟩:=hp;subst e;obtain⟨ai,hl⟩:=D4 hl;have ay:=qP ai;have ac:s=⟨false,[.row q]⟩:=by
   unfold OD at hq;split at hq
   . cases hq;rfl
   . cases hq
  subst ac;obtain⟨_,_,e2,aa,_⟩:=h1;cases e2;have aa:v=B q:=aa;subst aa;obtain⟨al,ae⟩:=Ih hl;have hL:=h.locs q;rw[ae]at hL;have hR:=hL.rowsR;have ad:∀b,A9 w (B q) (.rows t e0 e1 l [] none) b->A9 w (B q) (st.L q) b:=fun b hb=>by rw[ae];exact(Y6 fun _ _=>rfl).1 hb
  simp only[Ml,Bb,Pv,qC,zY,vX,rQ]at a4;obtain⟨⟨r1,r2⟩,r3⟩:=a4;have a5:Bv (.rows t e0 e1::rs) (⟨false,[.row q]⟩::ss)=q::Bv rs ss:=rfl;rw[a5]at hn⊢;have a8:=sH.1 hn;obtain⟨g1,g2⟩:=Mh h a6 (hf.imp id fun hh=>by simp only[sY,qC]at hh;exact hh.2) h2 hy a8.2 r3;have ap:Kg w Zn t e0 e1 (B q) l:=by
   obtain⟨xs,o1,o2,o3,o4⟩:=hR;refine⟨xs,o1,fun i a x ha hx=>(o2 i a x ha hx).imp fun ys hy=>⟨hy.1, ?_⟩,o3,o4⟩;rcases hf with hf|hf
   . exact hy.2.mono fun _ _=>C4.mono hf (fun _ _=>rfl)
   . simp only[sY,qC]at hf;exact hy.2.mono fun _ _ hh=>C4.flat hf.1 hh
  refine⟨⟨B q,a7,rfl,⟨ap,fun b hb=> ?_⟩,fun _=>⟨⟨r1,fun _=>r2⟩,fun b hb u hu=>by rw[Uu r2]at hu;cases hu⟩,g1⟩,fun u hu b hb=> ?_⟩
  . obtain⟨a1,a2,a3⟩:=(h.locs q).root (ad b hb);refine⟨?_,fun hz=>a3 (a6 b hz),a2⟩;rcases a1 with a1|a1
    . exact a1.2
    . have:=h.nms.1;omega
  . simp only[W0,qG]at hu;rcases hu with rfl|hu
    . exact⟨q,by simp,ad b (.inl hb)⟩
    . obtain⟨k,hk,r⟩:=g2 u hu b hb;exact⟨k,qJ _ hk,r⟩
 | .val a t::rs,s::ss,_,r,hf,⟨v,a7,e,h1,h2⟩,hp,hn,a4=>by
  simp only[Ml,qC]at a4;obtain⟨af,a9⟩:=a4;simp only[EQ,bind_some,qK]at hp;obtain⟨x,hx,y,hy,rfl⟩:=hp;have a5:Bv (.val a t::rs) (s::ss)=Bv rs ss:=by
   obtain⟨sa,sc⟩:=s;simp only[Bv]
  rw[a5]at hn⊢;obtain⟨g1,g2⟩:=Mh h a6 (hf.imp id fun hh=>by simp only[sY,qC]at hh;exact hh.2) h2 hy hn a9;subst e;refine⟨⟨v,a7,rfl, ?_,fun hh=>(by cases hh),g1⟩,g2⟩;have a0:=Eg h1 hx;rcases hf with hf|hf
  . exact a0.mono hf (fun _ _=>rfl)
  . simp only[sY,qC]at hf;cases a with
    |true=>obtain⟨cs,e,a0⟩:=a0;exact⟨cs,e,C4.flat hf.1 a0⟩
    |false=>exact C4.flat (cs:= [v]) hf.1 a0
 | .own t e0::rs,s::ss,_,r,hf,⟨v,a7,e,h1,h2⟩,hp,hn,a4=>by
  simp only[Ml,Bb,Pv,qC,zY,vX,g2p,g1w,Bool.and_true,rQ]at a4;obtain⟨af,a9⟩:=a4;simp only[EQ,bind_some,qK]at hp;obtain⟨l,⟨c,hc,hl⟩,y,hy,rfl⟩:=hp;subst e;have ac:s=⟨false,[c]⟩:=by
   unfold c1 at hc;split at hc
   . cases hc;rfl
   . cases hc
  subst ac;obtain⟨_,_,e1,aw,_⟩:=h1;cases e1;obtain⟨xs,o1,o2,o3,o4⟩:=MS h aw hl;have ax:=F3 o1;have ab:F7 (C4 t w Zn) xs l:=by
   rcases hf with hf|hf
   . exact o2.mono fun _ _=>C4.mono hf (fun _ _=>rfl)
   . simp only[sY,qC]at hf;exact o2.mono fun _ _ hh=>C4.flat hf.1 hh
  have ag:(∀b,Z b->Zn b)\/rs.all pM=true:=hf.imp id fun hh=>by simp only[sY,qC]at hh;exact hh.2
  rcases o4 with⟨q,rfl,ao,aa⟩ | ⟨ar,aq⟩
  . have a5:Bv (.own t e0::rs) (⟨false,[.row q]⟩::ss)=q::Bv rs ss:=rfl;rw[a5]at hn⊢;have a8:=sH.1 hn;obtain⟨g1,g2⟩:=Mh h a6 ag h2 hy a8.2 a9;refine⟨⟨v,a7,rfl,⟨xs,o1,ab,fun b hb hz=>o3 b hb (a6 b hz)⟩,fun _=>⟨⟨af,fun hh=>(by cases hh)⟩,fun b hb u hu hub=> ?_⟩,g1⟩,fun u hu b hb=> ?_⟩
    . obtain⟨k,hk,am⟩:=g2 u hu b hub;have av:root (B q)=some b:=by rw[<-aa];exact hb
      exact h.disj q k b (fun hh=>a8.1 (hh▸hk)) (A9.of ao av) am
    . simp only[W0,qG]at hu;rcases hu with rfl|hu
      . exact⟨q,by simp,A9.of ao (by rw[<-aa];exact hb)⟩
      . obtain⟨k,hk,r⟩:=g2 u hu b hb;exact⟨k,qJ _ hk,r⟩
  . have a5:Bv (.own t e0::rs) (⟨false,[c]⟩::ss)=Bv rs ss:=by cases c<;>first|rfl|exact absurd rfl (aq _)
    rw[a5]at hn⊢;obtain⟨g1,g2⟩:=Mh h a6 ag h2 hy hn a9;have aj:∀b,root v≠some b:=fun b hb=>by rw[ar]at hb;cases hb
    refine⟨⟨v,a7,rfl,⟨xs,o1,ab,fun b hb=>absurd (ax.trans hb) (aj b)⟩,fun _=>⟨⟨af,fun hh=>(by cases hh)⟩,fun b hb=>absurd hb (aj b)⟩,g1⟩,fun u hu b hb=> ?_⟩;simp only[W0,qG]at hu;rcases hu with rfl|hu
    . exact absurd hb (aj b)
    . exact g2 u hu b hb
 | .obox T t::rs,s::ss,_,r,hf,⟨v,a7,e,h1,h2⟩,hp,hn,a4=>by
  simp only[Ml,Bb,Pv,qC,zY,vX,g2p,g1w,Bool.and_true,rQ]at a4;obtain⟨af,a9⟩:=a4;simp only[EQ,bind_some,qK]at hp;obtain⟨x,⟨q,hq,hx⟩,y,hy,rfl⟩:=hp;subst e;obtain⟨ai,hx⟩:=D4 hx;have ac:s=⟨false,[.box q 0]⟩:=by
   unfold YU at hq;split at hq
   . cases hq;rfl
   . cases hq
  subst ac;obtain⟨_,_,e1,⟨b',e2,e3⟩,_⟩:=h1;cases e1;obtain⟨cs,ae,au⟩:=Yh hx;have hL:=h.locs q;rw[ae]at hL;obtain⟨g,us,d1,d2,d3,d4,d5⟩:=hL;rw[d1]at e2;cases e2;have a0:=Gj d5 au;have ak:C4 t w Zn us.toList x:=by
   rcases hf with hf|hf
   . exact C4.mono hf (fun _ _=>rfl) a0
   . simp only[sY,qC]at hf;exact C4.flat hf.1 a0
  have ag:(∀b,Z b->Zn b)\/rs.all pM=true:=hf.imp id fun hh=>by simp only[sY,qC]at hh;exact hh.2
  have a5:Bv (.obox T t::rs) (⟨false,[.box q 0]⟩::ss)=q::Bv rs ss:=rfl;rw[a5]at hn⊢;have a8:=sH.1 hn;obtain⟨g1,g2⟩:=Mh h a6 ag h2 hy a8.2 a9;have ah:w0.heap.size<=b':=by
   rcases d2 with d2|d2
   . exact d2.2
   . have:=h.nms.1;have:=qP ai;omega
  have ad:∀c,root (Value.pointer (some ⟨b',0,none⟩))=some c->A9 w (B q) (st.L q) c:=fun c hc=>by rw[ae,d1];exact hc
  refine⟨⟨v,a7,rfl,⟨b',us,e3,ah,fun hz=>d3 (a6 b' hz),d4,ak⟩,fun _=>⟨⟨af,fun hh=>(by cases hh)⟩,fun b hb u hu hub=> ?_⟩,g1⟩,fun u hu b hb=> ?_⟩
  . obtain⟨k,hk,am⟩:=g2 u hu b hub;rw[e3]at hb;exact h.disj q k b (fun hh=>a8.1 (hh▸hk)) (ad b hb) am
  . simp only[W0,qG]at hu;rcases hu with rfl|hu
    . rw[e3]at hb;exact⟨q,by simp,ad b hb⟩
    . obtain⟨k,hk,r⟩:=g2 u hu b hb;exact⟨k,qJ _ hk,r⟩
def B7.settleM:∀ {as:List AM} {st:St} {j:Nat} {Z:Nat->Prop},B7 za w0 st E w Z B->∃Z',B7 za w0 (settleM st as j) E w Z' B
 | [],st,_,Z,h=>⟨Z,h⟩
 | .row _ _::r,st,j,Z,h=>B7.settleM (as:=r) h
 | .val _ _::r,st,j,Z,h=>B7.settleM (as:=r) h
 | .fn _ _ _::r,st,j,Z,h=>B7.settleM (as:=r) h
 | .rows _ _ _::r,st,j,Z,h=>B7.settleM (as:=r) h
 | .box _ _::r,st,j,Z,h=>by
  simp only[Vc.settleM];split
  . obtain⟨Z1,h1⟩:=h.settle _;exact B7.settleM (as:=r) h1
  . exact B7.settleM (as:=r) h
def Ue (h:B7 za w0 st E w Z B) {Zn:Nat->Prop} :∀ {as:List AM} {vs:List Value} {o:Nt as} {j:Nat},((∀b,Z b->Zn b)\/as.all B4y=true)->(∀m u,(D1 as vs)[m]? =some u->B (j+m)=u)->(∀m p,(O4 as vs)[m]? =some p->∀b,up za w0 (j+m) b->A9 w0 p.2 (lcA p.1) b)->vs.length=as.length->XL st as j=some o->Wr w0 w Zn as vs o
 | [],_,_,_,_,_,_,_,_=>trivial
 |a::r,[],_,_,_,_,_,hl,_=>by simp at hl
 | .val _ _::r,v::vs,o,j,hf,hB,hU,hl,ho=>Ue (as:=r) h (hf.imp id fun hh=>by simp only[sY,qC]at hh;exact hh.2) hB hU (by simpa using hl) ho
 | .fn _ _ _::r,v::vs,o,j,hf,hB,hU,hl,ho=>Ue (as:=r) h (hf.imp id fun hh=>by simp only[sY,qC]at hh;exact hh.2) hB hU (by simpa using hl) ho
 | .row t e::r,v::vs,o,j,hf,hB,hU,hl,ho=>by
  simp only[XL,bind_some,qK]at ho;obtain⟨x,hx,y,hy,rfl⟩:=ho;have a0:B j=v:=hB 0 v (by simp[D1,K4]);have hL:=h.locs j;rw[Mk hx]at hL;obtain⟨xs,g1,g2,_⟩:=hL;rw[a0]at g1;refine⟨⟨xs,g1, ?_⟩,Ue (as:=r) h (hf.imp id fun hh=>by simp only[sY,qC]at hh;exact hh.2) (fun m u hm=>by rw[show j+1+m=j+(m+1)from by omega];exact hB (m+1) u (by simpa[D1,K4]using hm)) (fun m p hm=>by rw[show j+1+m=j+(m+1)from by omega];exact hU (m+1) p (by simpa[O4,K4]using hm)) (by simpa using hl) hy⟩;rcases hf with hf|hf
  . exact g2.mono fun _ _=>C4.mono hf (fun _ _=>rfl)
  . simp only[sY,qC]at hf;exact g2.mono fun _ _ hh=>C4.flat hf.1 hh
 | .box T t::r,v::vs,o,j,hf,hB,hU,hl,ho=>by
  simp only[XL,bind_some,qK]at ho;obtain⟨x,hx,y,hy,rfl⟩:=ho;have a0:B j=v:=hB 0 v (by simp[D1,K4]);obtain⟨cs,hc,hp⟩:=Yh hx;have hL:=h.locs j;rw[hc]at hL;obtain⟨b,us,g1,_,_,g4,g5⟩:=hL;rw[a0]at g1;refine⟨⟨b,us,g1,g4, ?_⟩,Ue (as:=r) h (hf.imp id fun hh=>by simp only[sY,qC]at hh;exact hh.2) (fun m u hm=>by rw[show j+1+m=j+(m+1)from by omega];exact hB (m+1) u (by simpa[D1,K4]using hm)) (fun m p hm=>by rw[show j+1+m=j+(m+1)from by omega];exact hU (m+1) p (by simpa[O4,K4]using hm)) (by simpa using hl) hy⟩;have:=Gj g5 hp;rcases hf with hf|hf
  . exact C4.mono hf (fun _ _=>rfl) this
  . simp only[sY,qC]at hf;exact C4.flat hf.1 this
 | .rows t e e'::r,v::vs,o,j,hf,hB,hU,hl,ho=>by
  simp only[XL,bind_some,qK]at ho;obtain⟨x,hx,y,hy,rfl⟩:=ho;have a0:B j=v:=hB 0 v (by simp[D1,K4]);have hL:=h.locs j;obtain⟨al,ha⟩:=Ih hx;rw[ha]at hL;have hR:=hL.rowsR;rw[a0]at hR;refine⟨⟨?_,fun b hb=> ?_⟩,Ue (as:=r) h (hf.imp id fun hh=>by simp only[sY,qC]at hh;exact hh.2) (fun m u hm=>by rw[show j+1+m=j+(m+1)from by omega];exact hB (m+1) u (by simpa[D1,K4]using hm)) (fun m p hm=>by rw[show j+1+m=j+(m+1)from by omega];exact hU (m+1) p (by simpa[O4,K4]using hm)) (by simpa using hl) hy⟩
  . rcases hf with hf|hf
    . exact hR.mono hf
    . simp only[sY,qC]at hf;obtain⟨xs,h1,h3,h4,h5⟩:=hR;exact⟨xs,h1,fun i l x hl hx=>(h3 i l x hl hx).imp fun ys hy=>⟨hy.1,hy.2.mono fun _ _ hh=>C4.flat hf.1 hh⟩,h4,h5⟩
  . have a1:A9 w (B j) (st.L j) b:=by rw[ha,a0];exact(Y6 fun _ _=>rfl).1 hb
    exact hU 0 (.rows t e e',v) (by simp[O4,K4]) b ((h.locs j).root a1).1
variable {P:Program}
def Ia {n:Nat} :∀ {as:List AM} {vs:List Value} {x:A2 as} {i j s:Nat},Y4 P w Z as vs x->i<=s->(∀m u,(D1 as vs)[m]? =some u->B (j+m)=u)->j+Jx as<=n->RD w Z B E (find (0, .dead) s (Hn P as x i j)).2 ((vs[s-i]?).getD undef)/\Nu n (find (0, .dead) s (Hn P as x i j)).2
 | [],_,_,_,_,_,_,_,_,_=>⟨trivial,trivial⟩
 |a::r,_,x,i,j,s,⟨v,a3,e,h1,h2⟩,hi,hB,hn=>by
  subst e;by_cases a0:i=s
  . subst a0;cases a with
    |val a t=>
     simp only[Hn,find,xM,qQ,xO];exact⟨Az.explode h1,D8⟩
    |row t e=>
     simp only[Hn,find,xM,qQ,xO];have a1:B j=v:=hB 0 v (by simp[D1,K4]);exact⟨⟨v,[],rfl,a1.symm,rfl⟩,fun c hc=>by simp at hc;subst hc;simp only[Jx]at hn;show j<n;omega⟩
    |box T t=>
     simp only[Hn,find,xM,qQ,xO];have a1:B j=v:=hB 0 v (by simp[D1,K4]);obtain⟨b,us,g1,_⟩:=h1;exact⟨⟨v,[],rfl,⟨b,a1.trans g1,g1⟩,rfl⟩,fun c hc=>by simp at hc;subst hc;simp only[Jx]at hn;show j<n;omega⟩
    |rows t e e'=>
     simp only[Hn,find,xM,qQ,xO];have a1:B j=v:=hB 0 v (by simp[D1,K4]);exact⟨⟨v,[],rfl,a1.symm,rfl⟩,fun c hc=>by simp at hc;subst hc;simp only[Jx]at hn;show j<n;omega⟩
    |fn a2 r'=>
     simp only[Hn,find,xM,qQ,xO];exact⟨⟨v,[],rfl,h1,rfl⟩,fun c hc=>by simp at hc;subst hc;trivial⟩
  . have he:s-i=(s-(i+1))+1:=by omega
    rw[he];cases a with
    |val a t=>
     simp only[Hn,find,C8 a0,rF,uG];exact Ia (i:=i+1) (s:=s) h2 (by omega) hB hn
    |fn a2 r'=>
     simp only[Hn,find,C8 a0,rF,uG];exact Ia (i:=i+1) (s:=s) h2 (by omega) hB hn
    |row t e=>
     simp only[Hn,find,C8 a0,rF,uG];exact Ia (i:=i+1) (s:=s) h2 (by omega) (fun m u hm=>by rw[show j+1+m=j+(m+1)from by omega];exact hB (m+1) u (by simpa[D1,K4]using hm)) (by simp only[Jx]at hn;omega)
    |box t e=>
     simp only[Hn,find,C8 a0,rF,uG];exact Ia (i:=i+1) (s:=s) h2 (by omega) (fun m u hm=>by rw[show j+1+m=j+(m+1)from by omega];exact hB (m+1) u (by simpa[D1,K4]using hm)) (by simp only[Jx]at hn;omega)
    |rows t e e'=>
     simp only[Hn,find,C8 a0,rF,uG];exact Ia (i:=i+1) (s:=s) h2 (by omega) (fun m u hm=>by rw[show j+1+m=j+(m+1)from by omega];exact hB (m+1) u (by simpa[D1,K4]using hm)) (by simp only[Jx]at hn;omega)
def mR {n:Nat} {U:Nat->Nat->Prop} :∀ {as:List AM} {vs:List Value} {x:A2 as} {j k:Nat},Y4 P w Z as vs x->(∀m p,(O4 as vs)[m]? =some p->B (j+m)=p.2/\∀b,A9 w p.2 (lcA p.1) b->U (j+m) b)->
 RL (U k) w Z B k (find (0, .none) k (Dy as x j)).2/\Ky n (find (0, .none) k (Dy as x j)).2/\(live (find (0, .none) k (Dy as x j)).2->j<=k/\∃p,(O4 as vs)[k-j]? =some p/\∀b,A9 w (B k) (find (0, .none) k (Dy as x j)).2 b->A9 w p.2 (lcA p.1) b):=by
 intro as
 induction as with
 |nil=>intro _ _ _ _ _ _;exact⟨trivial,trivial,fun h=>h.elim⟩
 |cons a r ih=>
  intro vs x j k h hB;obtain⟨v,a3,e,h1,h2⟩:=h;subst e;have a1:K4 a=true->j≠k->RL (U k) w Z B k (find (0, .none) k (Dy r x.2 (j+1))).2/\Ky n (find (0, .none) k (Dy r x.2 (j+1))).2/\(live (find (0, .none) k (Dy r x.2 (j+1))).2->j<=k/\∃p,(O4 (a::r) (v::a3))[k-j]? =some p/\∀b,A9 w (B k) (find (0, .none) k (Dy r x.2 (j+1))).2 b->A9 w p.2 (lcA p.1) b):=fun hm a0=>by
   obtain⟨q1,q2,q3⟩:=ih (vs:=a3) (x:=x.2) (j:=j+1) (k:=k) h2 (fun m p hp=>by rw[show j+1+m=j+(m+1)from by omega];exact hB (m+1) p (by simpa[O4,hm]using hp));refine⟨q1,q2,fun hl=>⟨by have:=(q3 hl).1;omega, ?_⟩⟩;obtain⟨q4,p,q5,q6⟩:=q3 hl;refine⟨p, ?_,q6⟩;rw[show k-j=(k-(j+1))+1 from by omega];simpa[O4,hm]using q5
  cases a with
  |val a t=>exact ih (x:=x.2) h2 hB
  |fn a t=>exact ih (x:=x.2) h2 hB
  |row t e0=>
   simp only[Dy,find];by_cases a0:j=k
   . subst a0;simp only[xM,qQ];obtain⟨u,a2⟩:=hB 0 (.row t e0,v) (by simp[O4,K4]);obtain⟨xs,g1,g2,g3⟩:=h1;have u:B j=v:=u;refine⟨⟨xs,by rw[u];exact g1,g2,fun b hb=> ?_⟩,trivial,fun _=>⟨rB _,(.row t e0,v),by simp[O4,K4],fun b hb=>by rw[u]at hb;exact hb⟩⟩;rw[u]at hb;exact⟨a2 b ((F3 g1).trans hb),g3 b hb⟩
   . simp only[C8 a0,rF];exact a1 rfl a0
  |box T t=>
   simp only[Dy,find];by_cases a0:j=k
   . subst a0;simp only[xM,qQ];obtain⟨u,a2⟩:=hB 0 (.box T t,v) (by simp[O4,K4]);obtain⟨b,us,g1,g2,g3,g4⟩:=h1;have u:B j=v:=u;exact⟨⟨b,us,u.trans g1,a2 b (by rw[g1];rfl),g2,g3,T5 g4⟩,D8,fun _=>⟨rB _,(.box T t,v),by simp[O4,K4],fun b hb=>by rw[u]at hb;exact hb⟩⟩
   . simp only[C8 a0,rF];exact a1 rfl a0
  |rows t e0 e1=>
   simp only[Dy,find];by_cases a0:j=k
   . subst a0;simp only[xM,qQ];obtain⟨u,a2⟩:=hB 0 (.rows t e0 e1,v) (by simp[O4,K4]);obtain⟨g1,g2⟩:=h1;have u:B j=v:=u;refine⟨Kg.rl (by rw[u];exact g1) fun b hb=> ?_,fun p hp=>(by cases hp),fun _=>⟨rB _,(.rows t e0 e1,v),by simp[O4,K4],fun b hb=>by rw[u]at hb;exact(Y6 fun _ _=>rfl).1 hb⟩⟩;rw[u]at hb;exact⟨a2 b ((Y6 fun _ _=>rfl).1 hb),g2 b hb⟩
   . simp only[C8 a0,rF];exact a1 rfl a0
def Y4.len:∀ {as:List AM} {vs:List Value} {x:A2 as},Y4 P w Z as vs x->vs.length=as.length
 | [],_,_,h=>by rw[show _= _ from h];rfl
 | _:: _,_,_,⟨v,a0,e,_,u⟩=>by rw[e,rH,rH,Y4.len u]
def R6:∀ {as:List AM} {vs:List Value},vs.length=as.length->(D1 as vs).length=Jx as
 | [],vs,_=>by cases vs<;>rfl
 |a::r,[],h=>by simp at h
 | .val _ _::r,v::vs,h=>R6 (as:=r) (by simpa using h)
 | .fn _ _ _::r,v::vs,h=>R6 (as:=r) (by simpa using h)
 | .row _ _::r,v::vs,h=>by simp only[D1,K4,qQ,rH,Jx];rw[R6 (as:=r) (by simpa using h)]
 | .box _ _::r,v::vs,h=>by simp only[D1,K4,qQ,rH,Jx];rw[R6 (as:=r) (by simpa using h)]
 | .rows _ _ _::r,v::vs,h=>by simp only[D1,K4,qQ,rH,Jx];rw[R6 (as:=r) (by simpa using h)]
def Ly:∀(as:List AM) (vs:List Value),D1 as vs=(O4 as vs).map (·.2)
 | [],vs=>by cases vs<;>rfl
 | _:: _,[]=>rfl
 |a::r,v::vs=>by
  simp only[D1,O4];cases K4 a
  . exact Ly r vs
  . simp only[qQ,sB,Ly r vs]
def Dis.get:∀ {l:List (AM×Value)} {m m' b:Nat} {u u':AM×Value},Dis w l->m<m'->l[m]? =some u->l[m']? =some u'->A9 w u.2 (lcA u.1) b->¬A9 w u'.2 (lcA u'.1) b
 | [],_,_,_,_,_,_,_,h,_,_=>by simp at h
 |v::l,0,m'+1,b,u,u',hd,hm,h,h',hb=>by
  simp at h h';subst h;exact hd.1 b hb u' (sU h')
 |v::l,m+1,m'+1,b,u,u',hd,hm,h,h',hb=>by
  simp at h h';exact Dis.get hd.2 (by omega) h h' hb
 |v::l,_,0,_,_,_,_,hm,_,_,_=>by omega
def TW (as:List AM) (vs:List Value):Nat->Value:=fun j=>((D1 as vs)[j]?).getD (.bool false)
def CH:∀ {as:List AM} {vs:List Value} {x:A2 as},Y4 P w Z as vs x->∀u∈D1 as vs,u.oneCell'=true
 | [],vs,_,_,u,hu=>by cases vs<;>cases hu
 | .val _ _::r,_,_,⟨v,a0,e,_,h2⟩,u,hu=>by subst e;exact CH (as:=r) h2 u hu
 | .fn _ _ _::r,_,_,⟨v,a0,e,_,h2⟩,u,hu=>by subst e;exact CH (as:=r) h2 u hu
 | .row t e0::r,_,_,⟨v,a0,e,⟨xs,g,_⟩,h2⟩,u,hu=>by
  subst e;simp only[D1,K4,qQ,qG]at hu;rcases hu with rfl|hu
  . rcases g.2 with⟨hv,_⟩ | ⟨_,_,_,hv,_⟩<;>rw[hv]<;>rfl
  . exact CH (as:=r) h2 u hu
 | .rows t e0 e1::r,_,_,⟨v,a0,e,⟨⟨xs,g,_⟩,_⟩,h2⟩,u,hu=>by
  subst e;simp only[D1,K4,qQ,qG]at hu;rcases hu with rfl|hu
  . rcases g.2 with⟨hv,_⟩ | ⟨_,_,_,hv,_⟩<;>rw[hv]<;>rfl
  . exact CH (as:=r) h2 u hu
 | .box t e0::r,_,_,⟨v,a0,e,⟨b,us,g,_⟩,h2⟩,u,hu=>by
  subst e;simp only[D1,K4,qQ,qG]at hu;rcases hu with rfl|hu
  . rw[g];rfl
  . exact CH (as:=r) h2 u hu
def Ib:∀ {as:List AM} {x:A2 as} {j k:Nat},¬live (find (0, .none) k (Dy as x j)).2->(find (0, .none) k (Dy as x j)).2= .none
 | [],_,_,_,_=>rfl
 | .val _ _::r,x,j,k,h=>Ib (as:=r) (x:=x.2) (j:=j) h
 | .fn _ _ _::r,x,j,k,h=>Ib (as:=r) (x:=x.2) (j:=j) h
 | .row t u::r,x,j,k,h=>by
  simp only[Dy,find]at h⊢;cases hb:Nat.beq j k with
  |true=>rw[hb]at h;exact absurd trivial h
  |false=>rw[hb]at h;exact Ib (as:=r) h
 | .rows t u e1::r,x,j,k,h=>by
  simp only[Dy,find]at h⊢;cases hb:Nat.beq j k with
  |true=>rw[hb]at h;exact absurd trivial h
  |false=>rw[hb]at h;exact Ib (as:=r) h
 | .box T t::r,x,j,k,h=>by
  simp only[Dy,find]at h⊢;cases hb:Nat.beq j k with
  |true=>rw[hb]at h;exact absurd trivial h
  |false=>rw[hb]at h;exact Ib (as:=r) h
def B9i (w:World) (as:List AM) (vs:List Value):Nat->Nat->Prop:=fun k b=>∃p:AM×Value,(O4 as vs)[k]? =some p/\A9 w p.2 (lcA p.1) b
def zn0 (w:World) (Z:Nat->Prop) (as:List AM) (vs:List Value):Zn:=⟨Z,jG w as vs,Jx as,TW as vs,0,0,B9i w as vs,fun _ _ ⟨p,hp,hb⟩=>⟨p,sU hp,hb⟩,[]⟩
def pQ {as:List AM} {vs:List Value} {x:A2 as} (hz:∀b,Z b->b<w.heap.size) (h:Y4 P w Z as vs x) (hd:Dis w (O4 as vs)):B7 (zn0 w Z as vs) w (TH P as x) (NS vs) w Z (TW as vs):=by
 have a4:=R6 (Y4.len h);have hB:∀m u,(D1 as vs)[m]? =some u->TW as vs (0+m)=u:=fun m u hm=>by simp only[TW,sG,hm,vA]
 have a0:∀(m:Nat) (p:AM×Value),(O4 as vs)[m]? =some p->(D1 as vs)[m]? =some p.2:=fun m p hm=>by rw[Ly,wR,hm];rfl
 have hT:=fun k=>mR (P:=P) (w:=w) (Z:=Z) (B:=TW as vs) (n:=Jx as) (U:=fun k b=>up (zn0 w Z as vs) w k b) (j:=0) (k:=k) h (fun m p hm=>⟨hB m p.2 (a0 m p hm),fun b hb=> .inr ⟨by have:=EM (a0 m p hm);simp only[sG];show m<Jx as;omega,p,by simpa using hm,hb⟩⟩)
 have hS:=fun s=>Ia (P:=P) (w:=w) (Z:=Z) (B:=TW as vs) (E:=NS vs) (n:=Jx as) (i:=0) (j:=0) (s:=s) h (rN _) hB (by omega)
 refine⟨Hx.of (R5.refl w),hz,fun s=>(hS s).1,fun k=>(hT k).1,fun k k' b a6 l1 l2=> ?_,fun s=>(hS s).2,fun k=>(hT k).2.1,fun k hk=> ?_,fun k=> ?_,fun b hb=> .inl hb,⟨rfl,rB _⟩,fun _ _=>rfl,⟨rN _,fun _ _ _ _=>rN _⟩,trivial,fun f hf=>(by cases hf)⟩
 . obtain⟨_,p,a1,f1⟩:=(hT k).2.2 l1.live;obtain⟨_,p',a2,f2⟩:=(hT k').2.2 l2.live;simp only[g2c]at a1 a2;rcases sF k k' with a3|a5
   . exact hd.get a3 a1 a2 (f1 b l1) (f2 b l2)
   . exact hd.get (by omega:k'<k) a2 a1 (f2 b l2) (f1 b l1)
 . by_cases hl:live ((TH P as x).L k)
   . obtain⟨_,p,a1,_⟩:=(hT k).2.2 hl;simp only[g2c]at a1;have:=EM (a0 k p a1);have hk:Jx as<=k:=hk;omega
   . exact Ib hl
 . simp only[TW];cases hm:(D1 as vs)[k]? with
   |none=>rfl
   |some u=>exact CH h u (sU hm)
def A8i {f:FuncId} {fn:Func} {c:Code} {s:A7} (hf:cx.P.funcs[f]? =some fn) (hb:fn.body=some c) (hn:s.args.length<=fn.ntmps) (ah:X0 fn.ntmps c=true) (hty:H1 cx.P cx.tys=true) (hsp:Iw cx.P sp)
 (hv:∀x,awf s.args x->s.pre x->B7p cx sp an s fn.results.toList c x):A8 cx.P f s:=by
 intro w Z vs x hz a8 aa ad;have a4:vs.length=s.args.length:=a8.len;have af:=hv x a8.awf ad;generalize a3:zn0 w Z s.args vs=za;have a6:=pQ hz a8 aa;rw[a3]at a6;refine Yj hf hb (by rw[a4];exact hn) ah (fun E w'=>Nx za w (fin cx s fn.results.toList x) E w') ?_ ⟨fun ab a hr=> ?_⟩
 . rintro E w' tmps ht ⟨st,Z',B',h,a1⟩;unfold fin at a1;split at a1
   . rename_i ss ai;split at a1
     . rename_i aj ag;split at a1
       . rename_i r o hr ho;obtain⟨a2,a0⟩:=B4 a1;simp only[qC]at a2;obtain⟨Z0,h0⟩:=B7.settleR (rs:=s.res) (ss:=ss) h;obtain⟨Z1,h1⟩:=B7.settleM (as:=s.args) (j:=0) h0;obtain⟨us,g1,g2⟩:=Zu hty h1 ht ag;have ae:(results fn tmps).run cx.P w'= .ok (Vz us) w':=by
          have hm:(fn.results.mapM (XM tmps)).run cx.P w'= .ok us.toArray w':=by
           rw[xE];simp[g1]
          have e:results fn tmps=(do let vs<-fn.results.mapM (XM tmps);pure (if h:vs.size=1 then vs[0]else .tuple vs)):=by
           unfold results;congr 1
          rw[e];simp only[Sem.run_bind,hm,Result.andThen_ok,Sem.run_pure]
          match us with
          | []=>rfl
          | [u]=>rfl
          |u::u'::r=>rfl
         have a5:s.post x r/\(N0 s.args=true->s.mpost x r o):=by
          unfold B6k at a0;cases hm:N0 s.args with
          |true=>simp only[hm,qQ]at a0;exact⟨a0.1,fun _=>a0.2⟩
          |false=>simp only[hm,rF]at a0;exact⟨a0,fun hh=>by cases hh⟩
         refine⟨_,ae, ?_,r,o,us,(fun b=>s.shared=true/\Z1 b),a5.1,a5.2,rfl,fun b hb=> ?_, ?_, ?_⟩
         . have:=h.ext;rw[<-a3]at this;exact this
         . rcases h1.zin b hb.2 with hh|hh
           . rw[<-a3]at hh;exact .inr ⟨hb.1,hh⟩
           . exact .inl ⟨hh,h1.zlt b hb.2⟩
         . refine(Mh h1 (Zn:=fun b=>s.shared=true/\Z1 b) (fun b hb=>hb.2) ?_ g2 hr (Fk a2.1.1) a2.1.2).1;cases a9:s.shared with
           |true=>exact .inl fun b hb=>⟨rfl,hb⟩
           |false=>rw[a9]at a2;simp only[vX,qC]at a2;exact .inr a2.2.1
         . refine Ue (Zn:=fun b=>s.shared=true/\Z1 b) h1 (j:=0) ?_ (fun m u hm=> ?_) (fun m p hm b hu=> ?_) a4 ho
           . cases a9:s.shared with
             |true=>exact .inl fun b hb=>⟨rfl,hb⟩
             |false=>rw[a9]at a2;simp only[vX,qC]at a2;exact .inr a2.2.2
           . have a7:=EM hm;rw[R6 a4]at a7;have:=h1.bfix m (by rw[<-a3];exact a7);rw[sG,this, <-a3];show TW s.args vs m=u;simp only[TW,hm,vA]
           . rw[<-a3,sG]at hu;rcases hu with⟨hu,_⟩ | ⟨_,p',ac,hb⟩
             . have a7:=EM (show(D1 s.args vs)[m]? =some p.2 by rw[Ly,wR,hm];rfl);rw[R6 a4]at a7;have hu:Jx s.args<=m:=hu;omega
             . rw[hm]at ac;cases ac;exact hb
       . exact a1.elim
     . exact a1.elim
   . exact a1.elim
 . refine wp_mono (Uy hty hsp (by rw[<-a3];rfl) a6 af ab a hr) ?_;rintro e a' w' ⟨E',hr',st',Z',B',h',hq⟩;refine⟨E',hr', ?_⟩;cases e with
   |normal=>exact⟨st',Z',B',h',hq⟩
   |ret=>exact⟨st',Z',B',h',hq⟩
   | _=>exact hq.elim
def A8j {f:FuncId} {fn:Func} {c:Code} {s:A7} {vc:A2 s.args->Prop} (hf:cx.P.funcs[f]? =some fn) (hb:fn.body=some c) (hn:s.args.length<=fn.ntmps) (u:X0 fn.ntmps c=true) (hty:H1 cx.P cx.tys=true) (hsp:Iw cx.P sp)
 (he:∀x,B7p cx sp an s fn.results.toList c x=vc x) (hv:∀x,awf s.args x->s.pre x->vc x):A8 cx.P f s:=
 A8i hf hb hn u hty hsp fun x hw hp=>by rw[he];exact hv x hw hp
def B3p (P:Program) (tys:List (Nat×TI)) (sp:G7) (an:An) (s:A7) (fn:Func) (x:A2 s.args):Prop:=B7p ⟨P,tys⟩ sp an s fn.results.toList (fn.body.getD .skip) x
def A8k {P:Program} {tys:List (Nat×TI)} {sp:G7} {an:An} {f:FuncId} {fn:Func} {s:A7} {vc:A2 s.args->Prop} (hf:P.funcs[f]? =some fn) (hb:fn.body.isSome=true) (hn:Nat.ble s.args.length fn.ntmps=true) (a0:X0 fn.ntmps (fn.body.getD .skip)=true) (hty:H1 P tys=true) (hsp:Iw P sp)
 (he:∀x,B3p P tys sp an s fn x=vc x) (hv:∀x,awf s.args x->s.pre x->vc x):A8 P f s:=by
 cases u:fn.body with
 |none=>rw[u]at hb;cases hb
 |some c=>
  have hc:fn.body.getD .skip=c:=by rw[u];rfl
  refine A8j (cx:=⟨P,tys⟩) (an:=an) (c:=c) hf u (qP hn) (by rw[<-hc];exact a0) hty hsp (fun x=> ?_) hv;rw[<-he x, <-hc];rfl
def CQ (ct:Nat):Nat->List SV->List (Nat×Nat×DV)
 | _,[]=> []
 |i,s::ss=>(i,ct, .one s)::CQ ct (i+1) ss
def eC (st:St) (ss:List SV):St:=⟨CQ (st.ct+1) 0 ss,st.lc,st.nx,st.ct+1,st.nm,st.sl::st.fr⟩
def nY (cx:Cx) (u:List ResultVar) (k:St->List SV->Prop) (st:St):Prop:=
 match st.fr with
 |f::fr=>(match Zt cx st u with
  |some ss=>k ⟨f,st.lc,st.nx,st.ct,st.nm,fr⟩ ss
  |none=>False)
 | []=>False
def LR (cx:Cx) (a0:List (Nat×G7×An)) (u:List ResultVar) (c:Code) (n d:Nat) (st:St) (ss:List SV) (k:St->List SV->Prop):Prop:=
 match Fz d a0 with
 |some (sp,an)=>bif Nat.ble ss.length n then Io cx sp an c ⟨nY cx u k,fun _ _=>False,nY cx u k⟩ (eC st ss)else False
 |none=>False
def aR {u:List ResultVar} {k k':St->List SV->Prop} {ss:List SV} {st':St} (ev:C1 (eC st ss) st') (h:nY cx u k st') (hk:∀st' ss',C1 st st'->k st' ss'->k' st' ss'):nY cx u k' st':=by
 unfold nY at h⊢;cases hf:st'.fr with
 |nil=>rw[hf]at h;exact h
 |cons f fr=>
  rw[hf]at h;simp only at h⊢;split at h
  . have e:=ev.f;rw[hf]at e;have e:N7 (st.ct+1) st.sl f/\Ao (st.ct+1) st.fr fr:=e;refine hk _ _ ⟨qZ (uU _) ev.ct,fun s h0 h1=> ?_,fun q h0 h1=>ev.l q h0 (yM h1),e.2.le (uU _)⟩ h;exact N7.find s e.1 (yM h1)
  . exact h
def A7n (a0:List (Nat×G7×An)) (u:List ResultVar) (c:Code) (n:Nat) {st:St} {d:Nat} {ss:List SV} {k k':St->List SV->Prop} (h:LR cx a0 u c n d st ss k) (hk:∀st' ss',C1 st st'->k st' ss'->k' st' ss'):LR cx a0 u c n d st ss k':=by
 unfold LR at h⊢;split at h
 . obtain⟨hb,h⟩:=B4 h;simp only[hb,qQ];refine MW h fun e st' ev hh=> ?_
   cases e with
   |normal=>exact aR ev hh hk
   |ret=>exact aR ev hh hk
   | _=>exact hh
 . exact h
def NW (cx:Cx) (a0:List (Nat×G7×An)) (u:List ResultVar) (c:Code) (n:Nat):Inl:= {run:=LR cx a0 u c n,step:=A7n a0 u c n}
def JK {ct s:Nat} :∀ {ss:List SV} {i:Nat},(find (0, .dead) s (CQ ct i ss)).2=if i<=s then(match ss[s-i]? with|some v=> .one v|none=> .dead)else .dead
 | [],i=>by simp[CQ,find]
 |v::ss,i=>by
  simp only[CQ,find];cases hb:Nat.beq i s with
  |true=>
   have:=qD hb;subst this;simp
  |false=>
   have u:i≠s:=uW hb;simp only[rF,JK (ss:=ss) (i:=i+1)];by_cases h1:i+1<=s
   . rw[qT h1,qT (by omega),show s-i=(s-(i+1))+1 from by omega,uG]
   . rw[qL h1,qL (by omega)]
def Qz.len {w:World} {Z:Nat->Prop} {B:Nat->Value} :∀ {ss:List SV} {vs:List Value},Qz w Z B ss vs->vs.length=ss.length
 | [],_,h=>by rw[show _= _ from h];rfl
 | _:: _,_,⟨v,a0,e,_,u⟩=>by rw[e,rH,rH,Qz.len u]
def MQ (h:B7 za w0 st E w Z B):∀ {a1:List ResultVar} {ss:List SV},Zt cx st a1=some ss->∀s∈ss,Kz st.nx s
 | [],_,u=>by cases u;intro s u;cases u
 | .tmp t::r,ss,u=>by
  simp only[Zt]at u;split at u
  . rename_i s1 a2;simp only[qK]at u;obtain⟨ss',a0,rfl⟩:=u;intro s hm;rcases qG.1 hm with rfl|hm
    . have:=h.refs t;rw[a2]at this;exact this
    . exact MQ h a0 s hm
  . cases u
 | .cell a t::r,ss,u=>by
  simp only[Zt,qH,bind_some]at u;obtain⟨ti,_,u⟩:=u;split at u
  . rename_i k _;split at u
    . rename_i T cs hk;obtain⟨_,u⟩:=D4 u;simp only[qK]at u;obtain⟨ss',a0,rfl⟩:=u;intro s hm;rcases qG.1 hm with rfl|hm
      . have:=h.refl k;rw[hk]at this;exact this
      . exact MQ h a0 s hm
    . cases u
  . cases u
def oW (P:Program) (u:List (Nat×G7×An)):Prop:=∀x∈u,Iw P x.2.1
def ZH {α:Type} {d:Nat} {x:α} :∀ {l:List (Nat×α)},Fz d l=some x->(d,x)∈l
 | [],h=>by cases h
 | (t,y)::l,h=>by
  simp only[Fz]at h;cases hb:Nat.beq t d with
  |true=>
   rw[hb]at h;have:=qD hb;subst this;cases h;simp
  |false=>rw[hb]at h;exact qJ _ (ZH h)
def FY {f:FuncId} {fn:Func} {c:Code} {a0:List (Nat×G7×An)} (hf:cx.P.funcs[f]? =some fn) (hb:fn.body=some c) (ae:X0 fn.ntmps c=true) (hty:H1 cx.P cx.tys=true) (hsp:oW cx.P a0):NK cx.P f (NW cx a0 fn.results.toList c fn.ntmps):=by
 refine {go:= ?_};intro za w0 st E w Z B d ss vs k hb0 h a9 a7 hs;have hs:LR cx a0 fn.results.toList c fn.ntmps d st ss k:=hs;unfold LR at hs;split at hs
 . rename_i sp an ad;have hsp:=hsp _ (ZH ad);simp only at hsp;obtain⟨a2,hs⟩:=B4 hs;have a2:=qP a2;have a5:=a9.len;have hS:∀s,(eC st ss).S s=match ss[s]? with|some v=> .one v|none=> .dead:=fun s=>by
    show(find (0, .dead) s (CQ (st.ct+1) 0 ss)).2= _;rw[JK,qT (rN _)];rfl
   have h1:B7 {za with es:=E::za.es} w0 (eC st ss) (NS vs) w Z B:=by
    refine⟨h.ext,h.zlt,fun s=> ?_,h.locs,h.disj,fun s=> ?_,h.refl,h.fresh,h.bone,h.zin,h.nms,h.bfix,h.mrk,⟨h.slots,h.frs⟩,fun g hg s=> ?_⟩
    . rw[hS];cases hv:ss[s]? with
      |none=>trivial
      |some v=>
       obtain⟨u,h3,h4⟩:=a9.get hv;show RS w Z B v (NS vs s);simp only[NS,h3,vA];exact h4
    . rw[hS];cases hv:ss[s]? with
      |none=>trivial
      |some v=>exact a7 v (sU hv)
    . rcases qG.1 hg with rfl|hg
      . exact h.refs s
      . exact h.frf g hg s
   refine Yj hf hb (by rw[a5];exact a2) ae (fun E' w'=>Nx {za with es:=E::za.es} w0 (nY cx fn.results.toList k) E' w') ?_ ⟨fun a6 a hr=> ?_⟩
   . rintro E' w' tmps ht ⟨st',Z',B',h',hp⟩;unfold nY at hp;have a4:=h'.frs;have a1:=h'.frf;cases a3:st'.fr with
     |nil=>rw[a3]at hp;exact hp.elim
     |cons fl fr=>
      rw[a3]at hp a4 a1;simp only at hp;obtain⟨ab,ac⟩:=a4;split at hp
      . rename_i ss' aa;obtain⟨us,g1,g2⟩:=Zu hty h' ht aa;have a8:(results fn tmps).run cx.P w'= .ok (Vz us) w':=by
         have hm:(fn.results.mapM (XM tmps)).run cx.P w'= .ok us.toArray w':=by
          rw[xE];simp[g1]
         have e:results fn tmps=(do let vs<-fn.results.mapM (XM tmps);pure (if h:vs.size=1 then vs[0]else .tuple vs)):=by
          unfold results;congr 1
         rw[e];simp only[Sem.run_bind,hm,Result.andThen_ok,Sem.run_pure]
         match us with
         | []=>rfl
         | [u]=>rfl
         |u::u'::r=>rfl
        exact⟨_,a8,⟨fl,st'.lc,st'.nx,st'.ct,st'.nm,fr⟩,Z',B',ss',us,⟨h'.ext,h'.zlt,ab,h'.locs,h'.disj,fun s=>a1 fl (by simp) s,h'.refl,h'.fresh,h'.bone,h'.zin,h'.nms,h'.bfix,h'.mrk,ac,fun g hg s=>a1 g (by simp[hg]) s⟩,rfl,g2,MQ h' aa,hp⟩
      . exact hp.elim
   . refine wp_mono (Uy hty hsp (by exact hb0) h1 hs a6 a hr) ?_;rintro e a' w' ⟨E',hr',st',Z',B',h',hq⟩;refine⟨E',hr', ?_⟩;cases e with
     |normal=>exact⟨st',Z',B',h',hq⟩
     |ret=>exact⟨st',Z',B',h',hq⟩
     | _=>exact hq.elim
 . exact hs.elim
def Gb (run:Inl):A7:= {args:= [],res:= [],pre:=fun _=>False,post:=fun _ _=>True,inl:=some run}
end
end Go.Vc
namespace Go.Proofs.YtiflhbllbgajeaaGreat
open Go.IntKind (i64 u64 u32)
def nv:List Int->Nat
 | []=>0
 |a::l=>a.toNat+4294967296*nv l
def nc (n:Nat):List Int:=if h:n=0 then []else((n%4294967296:Nat):Int)::nc (n/4294967296)
termination_by n
decreasing_by omega
def dI (x:Int):Prop:=0<=x/\x<=4294967295
def A6 (l:List Int):Prop:=∀x∈l,dI x
def O3:nc 0= []:=by rw[nc];rfl
def MA {n:Nat} (h:n≠0):nc n=((n%4294967296:Nat):Int)::nc (n/4294967296):=by rw[nc];simp[h]
def E7 (n:Nat):nv (nc n)=n:=by
 induction n using Nat.strongRecOn with
 | _ n u=>
  by_cases h:n=0
  . subst h;rw[O3];rfl
  . rw[MA h];simp only[nv,u (n/4294967296) (by omega)];omega
def I9 (n:Nat):A6 (nc n):=by
 induction n using Nat.strongRecOn with
 | _ n u=>
  by_cases h:n=0
  . subst h;rw[O3];intro x hx;cases hx
  . rw[MA h];intro x hx;rcases qG.1 hx with rfl|hx
    . unfold dI;omega
    . exact u (n/4294967296) (by omega) x hx
def Za {n:Nat} :nc n= []↔n=0:=by
 constructor
 . intro h;by_cases u:n=0
   . exact u
   . rw[MA u]at h;cases h
 . rintro rfl;exact O3
def A0d (a:Int) (m:Nat) (u:dI a) (h:a≠0\/m≠0):nc (a.toNat+4294967296*m)=a::nc m:=by
 unfold dI at u;rw[MA (by omega)];congr 1
 . omega
 . congr 1;omega
def Rr (a b:List Int):nv (a++b)=nv a+4294967296^a.length*nv b:=by
 induction a with
 |nil=>simp[nv]
 |cons x a u=>
  simp only[wG,nv,u,rH,sC];rw[sZ, <-uH, <-sO,tG 4294967296 (4294967296^a.length)]
def Rs (n:Nat):nv (List.replicate n 0)=0:=by
 induction n with
 |zero=>rfl
 |succ n u=>simp[List.replicate_succ,nv,u]
def TM {a:Int} {l:List Int} :A6 (a::l)↔dI a/\A6 l:=by simp[A6]
def Gd {l:List Int} (h:A6 l):nv l<4294967296^l.length:=by
 induction l with
 |nil=>simp[nv]
 |cons a l u=>
  rw[TM]at h;have:=u h.2;have h1:=h.1;unfold dI at h1;simp only[nv,rH,sC];omega
def B9w {l:List Int} (h:A6 l) (hl:∀x,l.getLast? =some x->x≠0):nc (nv l)=l:=by
 induction l with
 |nil=>exact O3
 |cons a l u=>
  rw[TM]at h;simp only[nv];cases l with
  |nil=>
   have:=hl a rfl;rw[A0d a _ h.1 (.inl this)];simp only[nv,O3]
  |cons b l=>
   have u:=u h.2 (fun x hx=>hl x (by rw[List.getLast?_cons_cons];exact hx));have hn:nv (b::l)≠0:=by
    intro h0;rw[h0,O3]at u;cases u
   rw[A0d a _ h.1 (.inr hn),u]
def A0e {l:List Int} (h:A6 l) {n:Nat} (hn:n<=l.length) (hz:∀i x,n<=i->l[i]? =some x->x=0) (hl:n=0\/∃x,l[n-1]? =some x/\x≠0):l.take n=nc (nv l):=by
 have e:nv l=nv (l.take n):=by
  conv=>lhs;rw[<-uE n l]
  rw[Rr];have:l.drop n=List.replicate (l.length-n) 0:=by
   apply wQ;intro i;rw[xA];by_cases hi:n+i<l.length
   . rw[qS hi,uQ,qT (by omega)];rw[hz (n+i) l[n+i] (by omega) (qS hi)]
   . rw[rW (by omega),rW (by simp;omega)]
  rw[this,Rs];simp
 rw[e]
 symm
 apply B9w
 . intro x hx;exact h x (rZ hx)
 . intro x hx;rw[List.getLast?_eq_getElem?,qW,sW hn]at hx;rcases hl with u| ⟨y,hy,a0⟩
   . subst u;simp at hx
   . rw[rT (by
      rcases vG n with u|u
      . subst u;simp at hx
      . omega),hy]at hx
     cases hx;exact a0
def Gc {n k:Nat} (h:n<4294967296^k):(nc n).length<=k:=by
 induction k generalizing n with
 |zero=>have:n=0:=by simpa using h
        subst this;rw[O3];exact rB _
 |succ k ih=>
  by_cases u:n=0
  . subst u;rw[O3];exact rN _
  . rw[MA u,rH];have:n/4294967296<4294967296^k:=by
     rw[tO (by decide)];rw[sC]at h;exact h
    have:=ih this;omega
def C7 {l:List Int} (h:A6 l):(nc (nv l)).length<=l.length:=Gc (Gd h)
def A8p {n k:Nat} (h:k<(nc n).length):4294967296^k<=n:=by
 rcases sF n (4294967296^k)with h1|h1
 . have:=Gc h1;omega
 . exact h1
def J3 {m n:Nat} (h:m<=n):(nc m).length<=(nc n).length:=by
 apply Gc;have:=Gd (I9 n);rw[E7]at this;omega
def Li (n:Nat):n<4294967296^(nc n).length:=by
 have:=Gd (I9 n);rwa[E7]at this
def Py (m n:Nat):(nc (m*n)).length<=(nc m).length+(nc n).length:=by
 apply Gc;rw[uV];have h1:=Li m;have u:=Li n;exact Nat.mul_lt_mul'' h1 u
def LZ (m n:Nat):(nc (m+n)).length<=max (nc m).length (nc n).length+1:=by
 apply Gc;have h1:=Li m;have u:=Li n;have h3:4294967296^(nc m).length<=4294967296^(max (nc m).length (nc n).length):=rX (by decide) (Nat.le_max_left ..);have h4:4294967296^(nc n).length<=4294967296^(max (nc m).length (nc n).length):=rX (by decide) (g4l ..);rw[sC];omega
abbrev Kr:=Bool×List Int
abbrev D3:=Kr×List Int
def Cm (a b:Nat):Int:=if a<b then -1 else if b<a then 1 else 0
def J8 (a b:Int):Int:=if a<b then -1 else if b<a then 1 else 0
def iv (x:Kr):Int:=if x.1=true then -(nv x.2:Int)else(nv x.2:Int)
def ic (v:Int):Kr:=(decide (v<0),nc v.natAbs)
def B7o (x:D3):Int:=if nv x.2=0 then 0 else(iv x.1).sign
def rv (x:D3):Rat:=mkRat (iv x.1) (nv x.2)
def rc (q:Rat):D3:=(ic q.num,nc q.den)
def I7 (x:D3):Prop:=nv x.1.2<2147483648/\nv x.2<2147483648
instance (x:D3):Decidable (I7 x):=by unfold I7;infer_instance
def Rq (x:D3):Int:=if nv x.2=0 then 0 else iv x.1
def Ns (x:D3):Int:=if nv x.2=0 then 1 else(nv x.2:Int)
def zi:Kr:=(false,[])
def zr:D3:=((false,[]),[])
def ri (k:Int):D3:=(ic k,[1])
abbrev Hg (l:List Int):Prop:=l.length<=35184372088832
abbrev D6 (l:List Int):Prop:=l.length<=17592186044416
abbrev V6 (l:List Int):Prop:=l.length<=8796093022208
def E3 (x:D3):Prop:=x.1.2.length<=2199023255552/\x.2.length<=2199023255552
def Ea (a b:Kr):Rat:=Rat.divInt (iv a) (iv b)
def J6 (n:Nat):Nat:=if n=0 then 0 else Nat.log2 n+1
def B6t (A B u0 u1 v0 v1:Int) (ev:Bool):Prop:=v0=0\/∃A' B':Int,A'=(if ev then u0*A-v0*B else v0*B-u0*A)/\B'=(if ev then v1*B-u1*A else u1*A-v1*B)/\0<=B'/\B'<=A'/\A=v1*A'+v0*B'/\B=u1*A'+u0*B'/\1<=v0/\1<=v1/\0<=u0/\0<=u1
def Nd (l:List Int):Prop:=l.getD (l.length-1) 0≠0
end Go.Proofs.YtiflhbllbgajeaaGreat
namespace Go.Proofs.YtiflhbllbgajeaaGreat
open Go.Vc Go.Gw
open Go.IntKind (i64 u64 u32)
def J1 (a b:Bool):K8 a true b=(a||b):=by cases a<;>rfl
def J9 (a b:Bool):K8 a b false=(a&&b):=by cases a<;>rfl
def wr {a:Int} (h1: -9223372036854775808<=a) (u:a<=9223372036854775807):i64.wrap a=a:=IntWalk.i64_in _ ⟨h1,u⟩
def wv {a:Int} (h: -9223372036854775808<=a/\a<=9223372036854775807):i64.wrap a=a:=wr h.1 h.2
def I3 {α:Type} {d:α} {l:List α} {i:Int} (u:0<=i) (h1:i<(l.length:Int)):gx d l i∈l:=sU (G8 u h1)
def G2 {α:Type} {d:α} {l:List α} {i:Int} (u:0<=i) (h1:i<(l.length:Int)):gx d l i=l.getD i.toNat d:=by
 have:=G8 (d:=d) u h1;rw[qF,this];rfl
def Iz {α:Type} {d:α} {l:List α} {q:α->Prop} {i:Int} (u:0<=i) (h1:i<(l.length:Int)) (hb:∀x∈l.take i.toNat,q x) (hq:q (gx d l i)):∀x∈l.take (i+1).toNat,q x:=by
 intro x hx;rw[show(i+1).toNat=i.toNat+1 from by omega,rR,G8 (d:=d) u h1]at hx;simp at hx;rcases hx with hx|rfl
 . exact hb x hx
 . exact hq
def E1 {α:Type} {l:List α} {i:Int} (h:(l.length:Int)<=i):l.take i.toNat=l:=qV (by omega)
def QX:u32.max=4294967295:=by decide
def QY:u32.min=0:=by decide
def CW:u64.max=18446744073709551615:=by decide
def eV:u64.min=0:=by decide
def CB:i64.max=9223372036854775807:=by decide
def Ug:i64.min= -9223372036854775808:=by decide
def A3 {l:List Int} (h:∀x∈l,u32.min<=x/\x<=u32.max):A6 l:=fun x hx=>by
 have:=h x hx;rw[QY,QX]at this;exact this
def W9 {a:Int} (u:0<=a) (h1:a<=18446744073709551615):u64.wrap a=a:=IntWalk.u64_in _ ⟨u,h1⟩
def w32 {a:Int} (u:0<=a) (h1:a<=4294967295):u32.wrap a=a:=IntWalk.u32_in _ ⟨u,h1⟩
def Ca (a:Int):u32.wrap a=a%4294967296:=IntKind.wrap_u32 a
def Cb (a:Int):u64.wrap a=a%18446744073709551616:=IntKind.wrap_u64 a
def Uk {l:List Int} (h:A6 l) {i:Int} (u:0<=i) (h1:i<(l.length:Int)):0<=gx 0 l i/\gx 0 l i<=4294967295:=h _ (I3 u h1)
def NZ {v:Int} (u:0<=v) (h1:v<18446744073709551616):(BitVec.ofInt 64 v).toNat=v.toNat:=by
 rw[xX];congr 1;omega
def UR {v b:Int} {k:Nat} (v0:0<=v) (v1:v<2^k) (b0:0<=b) (hb:b*2^k<18446744073709551616) (hv:v<18446744073709551616):(((BitVec.ofInt 64 v|||BitVec.ofInt 64 (b*2^k)).toNat:Nat):Int)=v+b*2^k:=by
 have hb0:0<=b*2^k:=tJ b0 (Int.pow_nonneg (by decide));rw[BitVec.toNat_or,NZ v0 hv,NZ hb0 hb];have e:(b*2^k).toNat=b.toNat<<<k:=by
  rw[g4n,g3l b0 (Int.pow_nonneg (by decide)),Int.toNat_pow_of_nonneg (by decide)];rfl
 have u:v.toNat<2^k:=by
  have:(v.toNat:Int)<((2^k:Nat):Int):=by rw[sP v0,xH];exact v1
  exact sQ.1 this
 rw[e,Nat.or_comm, <-g0c u, <-e,wS,sP v0,sP hb0,Int.add_comm]
def IT {l:List Int} {i:Int} (u:0<=i) (h1:i<(l.length:Int)):nv (l.take (i+1).toNat)=nv (l.take i.toNat)+4294967296^i.toNat*(gx 0 l i).toNat:=by
 rw[show(i+1).toNat=i.toNat+1 from by omega,rR,G8 (d:=(0:Int)) u h1,g0z,Rr,qW,sW (by omega)];simp[nv]
def V7 {l:List Int} {i:Int} (h0:0<=i) (h1:i<(l.length:Int)):l.drop i.toNat=gx 0 l i::l.drop (i+1).toNat:=by
 have h:=G8 (d:=(0:Int)) h0 h1;have u:i.toNat<l.length:=by omega
 rw[qS u]at h;rw[xG u,show(i+1).toNat=i.toNat+1 from by omega];congr 1;exact xJ h
def dU {a b:List Int} (ha:A6 a) (_:A6 b) (hl:a.length=b.length) {i:Int} (u:0<=i) (h1:i<(a.length:Int)) (he:a.drop (i+1).toNat=b.drop (i+1).toNat) (a1:gx 0 a i<gx 0 b i):nv a<nv b:=by
 have ea:nv a=nv (a.take i.toNat)+4294967296^i.toNat*nv (a.drop i.toNat):=by
  conv=>lhs;rw[<-uE i.toNat a,Rr,qW,sW (by omega)]
 have eb:nv b=nv (b.take i.toNat)+4294967296^i.toNat*nv (b.drop i.toNat):=by
  conv=>lhs;rw[<-uE i.toNat b,Rr,qW,sW (by omega)]
 have a0:=Uk ha u h1;have h2:nv (a.drop i.toNat)+1<=nv (b.drop i.toNat):=by
  rw[V7 u h1,V7 u (by omega),he];simp only[nv];omega
 have h3:nv (a.take i.toNat)<4294967296^i.toNat:=by
  have:=Gd (l:=a.take i.toNat) fun x hx=>ha x (rZ hx)
  rwa[qW,sW (by omega)]at this
 have h4:=sS (4294967296^i.toNat) h2;rw[sZ,yP]at h4;omega
def CJ {m n:Nat} (h:(nc m).length<(nc n).length):m<n:=by
 rcases sF m n with h1|h1
 . exact h1
 . have:=J3 h1;omega
def Um:nc 1= [1]:=by rw[MA (by decide)];simp[O3]
def B7e:nv [1]=1:=rfl
def dS:nv []=0:=rfl
def aF (n:Nat):Cm n n=0:=by simp[Cm]
def Oi {m n:Nat} (h:m<n):Cm m n= -1:=by simp[Cm,h]
def QL {m n:Nat} (h:n<m):Cm m n=1:=by
 unfold Cm;rw[qL (by omega),qT h]
def TX {m n:Nat} :Cm m n=0↔m=n:=by
 unfold Cm;split
 . omega
 . split<;>omega
def M8 (v:Int):iv (ic v)=v:=by
 unfold iv ic;simp only[rY,E7];split<;>omega
def A7i {neg:Bool} {m:Nat} :ic (iv (neg,nc m))=(neg&&decide (m≠0),nc m):=by
 unfold ic iv;simp only[E7];cases neg
 . simp
 . simp only[zZ,xS,g0a,wJ];constructor
   . omega
   . congr 1;omega
def B9l {x:Kr} :ic (iv x)=(x.1&&decide (nv x.2≠0),nc (nv x.2)):=by
 have:iv x=iv (x.1,nc (nv x.2)):=by unfold iv;simp only[E7]
 rw[this,A7i]
def B7m (k:Int):nv (ri k).2=1:=rfl
def eG (k:Int):rc (k:Rat)=ri k:=by
 unfold rc ri;rw[g2j,g2h,Um]
def C0d (k:Int):rv (ri k)=(k:Rat):=by
 unfold rv;rw[B7m];show mkRat (iv (ic k)) 1= _;rw[M8];exact Rat.mkRat_one k
def E5 (q:Rat):rv (rc q)=q:=by
 unfold rv rc;simp only[M8,E7];exact g3b q
def B3j (x:D3):B7o x=(rv x).num.sign:=by
 unfold B7o rv;split
 . rename_i h;rw[h,yQ];rfl
 . rename_i h;rw[Rat.num_mkRat,qL h];have hg:(0:Int)<(((nv x.2).gcd (iv x.1).natAbs:Nat):Int):=by
    have:=g1s (iv x.1).natAbs (sV h);omega
   have hd:(((nv x.2).gcd (iv x.1).natAbs:Nat):Int)∣iv x.1:=xY.2 (yL ..);obtain⟨c,u⟩:=hd;generalize (((nv x.2).gcd (iv x.1).natAbs:Nat):Int)=g at hg u;rw[u,xQ _ (by omega),g3y,uK hg,Int.one_mul]
def Oh {x:Int} {d:Nat} (u:d≠0):(mkRat x d).num=x/((d.gcd x.natAbs:Nat):Int)/\(mkRat x d).den=d/d.gcd x.natAbs:=by
 rw[Rat.num_mkRat,Rat.den_mkRat,qL u,qL u];exact⟨rfl,rfl⟩
def dg (l:List Int) (i:Nat):Nat:=(l.getD i 0).toNat
def H9 (l:List Int) (i:Nat):nv (l.take (i+1))=nv (l.take i)+4294967296^i*dg l i:=by
 unfold dg;by_cases h:i<l.length
 . have:=IT (l:=l) (i:=(i:Int)) (by omega) (by omega);rw[show((i:Int)+1).toNat=i+1 from by omega,qM]at this;rw[this,G2 (by omega) (by omega),qM]
 . rw[qV (by omega),qV (by omega),qF,rW (by omega)];simp
def L7 {l:List Int} (h:A6 l) (i:Nat):dg l i<=4294967295:=by
 unfold dg;by_cases hi:i<l.length
 . rw[qF,qS hi];have:=h l[i] (wY hi);unfold dI at this;simp only[vA];omega
 . rw[qF,rW (by omega)];simp
def Fi {l:List Int} (h:A6 l) {i:Int} (u:0<=i) (h1:i<(l.length:Int)):gx 0 l i=(dg l i.toNat:Int):=by
 have:=Uk h u h1;unfold dg;rw[<-G2 (d:=(0:Int)) u h1];omega
def Y0 {l:List Int} (h:A6 l) {i:Nat} :l.getD i 0=(dg l i:Int):=by
 unfold dg;by_cases hi:i<l.length
 . have:=h l[i] (wY hi);unfold dI at this;rw[qF,qS hi];simp only[vA];omega
 . rw[qF,rW (by omega)];rfl
def Ps {l:List Int} {i:Nat} (h:l.length<=i):dg l i=0:=by
 unfold dg;rw[qF,rW h];rfl
def R8 {l:List Int} {i:Nat} {v:Int} (h:i<l.length):nv ((l.set i v).take (i+1))=nv (l.take i)+4294967296^i*v.toNat:=by
 rw[H9,yV (rB _)];unfold dg;rw[qF,tB h];rfl
def Jy:∀ {l:List Int} {k:Nat} {v:Int},k<l.length->nv (l.set k v)+4294967296^k*dg l k=nv l+4294967296^k*v.toNat
 | [],_,_,h=>by simp at h
 |a::l,0,v,_=>by simp[nv,dg];omega
 |a::l,k+1,v,h=>by
  have u:=Jy (l:=l) (k:=k) (v:=v) (by simpa using h);have e:dg (a::l) (k+1)=dg l k:=by simp[dg]
  rw[e];simp only[List.set_cons_succ,nv,sC];generalize nv (l.set k v)=A at*;have e1:4294967296^k*4294967296*dg l k=4294967296*(4294967296^k*dg l k):=by rw[tG (4294967296^k) 4294967296,sO]
  have e2:4294967296^k*4294967296*v.toNat=4294967296*(4294967296^k*v.toNat):=by rw[tG (4294967296^k) 4294967296,sO]
  rw[e1,e2,uH,uH, <-sZ, <-sZ,u]
def ZY {l:List Int} {k:Nat} {v:Int} (h:A6 l) (u:dI v):A6 (l.set k v):=fun x hx=>by
 rcases g1e hx with hx|hx
 . exact h x hx
 . rw[hx];exact u
def Yo {l:List Int} {k i:Nat} {v:Int} (u:k<l.length):dg (l.set k v) i=if i=k then v.toNat else dg l i:=by
 unfold dg;rw[qF,xL];by_cases h:k=i
 . subst h;rw[qT rfl,qT u,qT rfl];rfl
 . rw[qL h,qL (fun e=>h e.symm),qF]
def IJ (n i:Nat):dg (List.replicate n 0) i=0:=by
 unfold dg;rw[qF,uQ];split<;>rfl
def NY {l:List Int} {i:Nat} (h:∀j,i<=j->dg l j=0):nv (l.take i)=nv l:=by
 have key:∀k,nv (l.take (i+k))=nv (l.take i):=by
  intro k
  induction k with
  |zero=>rfl
  |succ k u=>rw[<-uH,H9,u,h (i+k) (by omega),wK,tD]
 rw[<-key l.length,qV (by omega)]
def aJ {P A B o c a b s c':Nat} (h:o+P*c=A+B) (u:s+4294967296*c'=c+a+b):(o+P*s)+(P*4294967296)*c'=(A+P*a)+(B+P*b):=by
 have:=tT (P* ·) u;simp only[sZ, <-sO]at this;omega
def TY {P A B o c a b s c':Nat} (h:A+P*c=o+B) (u:a+4294967296*c'=s+b+c):(A+P*a)+(P*4294967296)*c'=(o+P*s)+(B+P*b):=by
 have:=tT (P* ·) u;simp only[sZ, <-sO]at this;omega
def A3b {a b:List Int} (ha:A6 a) (hb:A6 b):nv a+nv b<4294967296^(max a.length b.length+1):=by
 have hA:=Gd ha;have hB:=Gd hb;have u:4294967296^a.length<=4294967296^(max a.length b.length):=rX (by decide) (Nat.le_max_left ..);have a0:4294967296^b.length<=4294967296^(max a.length b.length):=rX (by decide) (g4l ..);rw[sC];generalize 4294967296^(max a.length b.length)=P at*;omega
def FR {P c x:Nat} (h:P*c<=x) (hx:x<P):c=0:=by
 rcases vG c with h1|h1
 . exact h1
 . have:=sS P h1;omega
def Jv (l:List Int):iv (false,l)=(nv l:Int):=rfl
def TL (l:List Int):iv (true,l)= -(nv l:Int):=rfl
def A7s (b:Bool) (l:List Int):iv (!b,l)= -iv (b,l):=by
 cases b
 . rfl
 . show(nv l:Int)= - -(nv l:Int);omega
def Ck (v:Int):(ic v).2.length=(nc v.natAbs).length:=rfl
def mO:ic 1=(false,[1]):=by unfold ic;rw[show(1:Int).natAbs=1 from rfl,Um];rfl
def cU:ic 0=(false,[]):=by unfold ic;rw[show(0:Int).natAbs=0 from rfl,O3];rfl
def A0p:rc 0=((false,[]),[1]):=by
 unfold rc;rw[Rat.zero_num,Rat.zero_den,cU,Um]
def gR {a:Kr} {b:Kr} (h:iv b=1):Ea a b=((iv a:Int):Rat):=by
 unfold Ea;rw[h];have:=zW (iv a) 1;rw[show((1:Nat):Int)=1 from rfl]at this;rw[this];exact Rat.mkRat_one _
def A2b {a:Kr} {b:Kr} (h:iv b=0):Ea a b=0:=by
 unfold Ea;rw[h,Rat.divInt_zero]
def B3l (x:D3):Ea x.1 (false,x.2)=rv x:=by
 unfold Ea rv;rw[Jv,zW]
end Go.Proofs.YtiflhbllbgajeaaGreat
namespace Go.Proofs.YtiflhbllbgajeaaGreat
open Go.IntKind (i64 u64 u32)
structure XC (U V v1 v2 t u2 P:Nat):Prop where
 pos:0<P
 v1p:0<v1
 v1b:v1<4294967296
 v2b:v2<4294967296
 u2b:u2<4294967296
 vlo:(v1*4294967296+v2)*P<=V
 vhi:V<(v1*4294967296+v2+1)*P
 ulo:(t*4294967296+u2)*P<=U
 uhi:U<(t*4294967296+u2+1)*P
 lt:U<V*4294967296
variable {U V v1 v2 t u2 P:Nat}
def XC.vpos (h:XC U V v1 v2 t u2 P):0<V:=by
 have h1:=h.vlo;have u:0<(v1*4294967296+v2)*P:=g4p (by have:=h.v1p;omega) h.pos;omega
def XC.quo (h:XC U V v1 v2 t u2 P):U/V<4294967296:=by
 rw[tO h.vpos,tG];exact h.lt
def pX {a b c P Q:Nat} (hP:0<P) (h:a*P<=Q) (hq:Q<(b+1)*P) (hc:c<=a):c<=b:=by
 have h1:c*P<=a*P:=rM _ hc;have u:c*P<(b+1)*P:=by omega
 have:=xC u;omega
def XC.top (h:XC U V v1 v2 t u2 P):t*4294967296+u2<(v1*4294967296+v2+1)*4294967296:=by
 have h1:=h.ulo;have h2:=h.lt;have h3:=rM 4294967296 (vZ h.vhi);have u:(t*4294967296+u2)*P<((v1*4294967296+v2+1)*4294967296)*P:=by
  have h5:V*4294967296<(v1*4294967296+v2+1)*P*4294967296:=wW h.vhi (by decide);rw[zH];omega
 exact xC u
def XC.t_le (h:XC U V v1 v2 t u2 P):t<=v1*4294967296+v2:=by
 have:=h.top;omega
def XC.est (h:XC U V v1 v2 t u2 P):U/V*v1<=t:=by
 have h1:U/V*V<=U:=yW U V;have u:U/V*(v1*4294967296+v2)*P<=U:=by
  rw[sO];exact qZ (sS _ h.vlo) h1
 have h3:U/V*(v1*4294967296+v2)<=t*4294967296+u2:=pX h.pos u h.uhi (rB _);rw[sZ, <-sO]at h3;have:=h.u2b;omega
def XC.dec (h:XC U V v1 v2 t u2 P) {d r:Nat} (ht:t=d*v1+r) (hq:U/V<=d) (hb:4294967296<=d\/r*4294967296+u2<d*v2):U/V+1<=d:=by
 rcases sF (U/V) d with h1|h1
 . omega
 . exfalso;have he:U/V=d:=by omega
   rcases hb with hb|hb
   . have:=h.quo;omega
   . have h1:d*V<=U:=by rw[<-he];exact yW U V
     have u:d*(v1*4294967296+v2)*P<=U:=by
      rw[sO];exact qZ (sS _ h.vlo) h1
     have h3:d*(v1*4294967296+v2)<=t*4294967296+u2:=pX h.pos u h.uhi (rB _);rw[sZ, <-sO,ht,uP]at h3;omega
def XC.near (h:XC U V v1 v2 t u2 P) {d r:Nat} (ht:t=d*v1+r) (hd:d<4294967296) (a0:d*v2<=r*4294967296+u2):d<=U/V+1:=by
 have h1:=h.ulo;have h2:d*(v1*4294967296+v2)<=t*4294967296+u2:=by
  rw[ht,uP,sZ, <-sO];omega
 have h3:d*(v1*4294967296+v2)*P<=U:=qZ (rM _ h2) h1;have h4:d*V<=d*((v1*4294967296+v2+1)*P):=sS _ (vZ h.vhi);have h5:d*((v1*4294967296+v2+1)*P)=d*(v1*4294967296+v2)*P+d*P:=by
  rw[<-sO,sZ d,yP,uP]
 have h6:d*P<V:=by
  have h7:d*P<4294967296*P:=wW hd h.pos;have h8:4294967296*P<=(v1*4294967296+v2)*P:=rM _ (by have:=h.v1p;omega);have:=h.vlo;omega
 have h9:d*V<U+V:=xZ (qZ h4 (Nat.le_of_eq h5)) (Nat.add_lt_add_of_le_of_lt h3 h6);rcases vG d with h0|h0
 . rw[h0];exact rN _
 . have u:(d-1)*V<U:=by
    have:d*V=(d-1)*V+V:=by
     conv=>lhs;rw[show d=d-1+1 from by omega,uP,xN]
    omega
   have:=(vD h.vpos).2 (vZ u);omega
def XC.out (h:XC U V v1 v2 t u2 P) {d r:Nat} (ht:t=d*v1+r) (hr:4294967296<=r) (hd:U/V<=d):d<4294967296/\d*v2<=r*4294967296+u2:=by
 have h1:=h.t_le;have h2:=h.v2b;have a0:d<4294967296:=by
  rcases sF d 4294967296 with u|u
  . exact u
  . have:=rM v1 u;rw[tG 4294967296]at this;omega
 refine⟨a0, ?_⟩;have u:d*v2<=4294967295*4294967295:=yO (by omega) (by omega);omega
end Go.Proofs.YtiflhbllbgajeaaGreat
namespace Go.Proofs.YtiflhbllbgajeaaGreat
open Go.Vc Go.Gw
open Go.IntKind (i64 u64 u32)
def BP:J6 0=0:=rfl
def bW (n:Nat):n<2^J6 n:=by
 unfold J6;split
 . rename_i h;subst h;decide
 . exact Nat.lt_log2_self
def BO {n:Nat} (h:n≠0):2^(J6 n-1)<=n/\1<=J6 n:=by
 unfold J6;rw[qL h,Nat.add_sub_cancel];exact⟨Nat.log2_self_le h,by omega⟩
def B1p {n k:Nat} (u:2^k<=n) (h1:n<2^(k+1)):J6 n=k+1:=by
 have hp:0<2^k:=tP (by decide);unfold J6;rw[qL (by omega)];congr 1;exact(Nat.log2_eq_iff (by omega)).2 ⟨u,h1⟩
def IF {n k:Nat} (h:2^k<=n):J6 n=J6 (n/2^k)+k:=by
 have u:0<2^k:=tP (by decide);have hm:n/2^k≠0:=by
  have:1<=n/2^k:=(vD u).2 (by omega);omega
 obtain⟨h1,h2⟩:=BO hm;have h3:=bW (n/2^k);have e:J6 (n/2^k)+k=(J6 (n/2^k)-1+k)+1:=by omega
 rw[e];apply B1p
 . rw[uV];have:=(vD u).1 h1;exact this
 . rw[show J6 (n/2^k)-1+k+1=J6 (n/2^k)+k from by omega,uV];exact(tO u).1 h3
def SG (p q:Rat):Int:=if p<q then -1 else if q<p then 1 else 0
def SH {a b:Int} {c d:Nat} (u:c≠0) (hd:d≠0):SG (mkRat a c) (mkRat b d)=J8 (a*d) (b*c):=by
 have key:∀ {a b:Int} {c d:Nat},c≠0->d≠0->(mkRat a c<mkRat b d↔a*d<b*c):=fun {a b c d} u hd=>by
  have hc':(0:Rat)<(c:Rat):=g2i.2 (sV u);have a0:(0:Rat)<(d:Rat):=g2i.2 (sV hd);rw[zX,zX,Rat.div_lt_iff hc',wX,wL,g4e _ (c:Rat), <-wL, <-wX,Rat.lt_div_iff a0];have:(a:Rat)*(d:Rat)=((a*(d:Int):Int):Rat):=by rw[Rat.intCast_mul];rfl
  have h2:(b:Rat)*(c:Rat)=((b*(c:Int):Int):Rat):=by rw[Rat.intCast_mul];rfl
  rw[this,h2,Rat.intCast_lt_intCast]
 unfold SG J8;simp only[key u hd,key hd u]
def A1r {p q:Rat} (h:p.num.sign≠q.num.sign):SG p q=J8 p.num.sign q.num.sign:=by
 have hp:=g3a p;have hq:=g3a q;have e:SG p q=J8 (p.num*q.den) (q.num*p.den):=by
  have:=SH (a:=p.num) (b:=q.num) p.den_nz q.den_nz;rwa[g3b,g3b]at this
 rw[e];have s1:(p.num*(q.den:Int)).sign=p.num.sign:=by rw[g3y,uK (show(0:Int)<q.den by omega),Int.mul_one]
 have s2:(q.num*(p.den:Int)).sign=q.num.sign:=by rw[g3y,uK (show(0:Int)<p.den by omega),Int.mul_one]
 rw[<-s1, <-s2]at h⊢;generalize p.num*(q.den:Int)=x at*;generalize q.num*(p.den:Int)=y at*;have key:∀z:Int,(z<0/\z.sign= -1)\/(z=0/\z.sign=0)\/(0<z/\z.sign=1):=fun z=>by
  rcases zN z 0 with h|h|h
  . exact .inl ⟨h,wZ h⟩
  . exact .inr (.inl ⟨h,by rw[h];rfl⟩)
  . exact .inr (.inr ⟨h,uK h⟩)
 unfold J8;rcases key x with⟨h1,u⟩ | ⟨h1,u⟩ | ⟨h1,u⟩<;>rcases key y with⟨h3,h4⟩ | ⟨h3,h4⟩ | ⟨h3,h4⟩<;>rw[u,h4]at h⊢ <;>first|exact absurd rfl h| (split<;>(try split)<;>(try split)<;>(try split)<;>omega)
end Go.Proofs.YtiflhbllbgajeaaGreat
namespace Go.Proofs.YtiflhbllbgajeaaGreat
open Go.IntKind (i64 u64 u32)
structure Leh (X Y w x y u0 u1 u2 v0 v1 v2:Int) (ev:Bool):Prop where
 yx:y<=x
 y0:0<=y
 x0:0<x
 u10:0<=u1
 u20:0<=u2
 v10:0<=v1
 v20:1<=v2
 uv2:u2<=v2
 ex:x=if ev then v1*Y-u1*X else u1*X-v1*Y
 ey:y=if ev then u2*X-v2*Y else v2*Y-u2*X
 idX:x*v2+y*v1=X
 idY:x*u2+y*u1=Y
 det:u1*v2-u2*v1=if ev then -1 else 1
 /--At the start,or with what the cofactors before need. -/
 back:(u0=0/\u1=1/\v0=0/\v1=0/\ev=false/\u2=0/\v2=1)\/(0<=u0/\0<=v0/\u1<=v1/\v1<=x/\u0<=w/\v0<=w/\w-x>=v0+v1/\(v0=0\/u0<=v0)/\1<=v1/\
  w=(if ev then u0*X-v0*Y else v0*Y-u0*X)/\(u0*v1-u1*v0=if ev then 1 else -1))
def Leh.start {X Y:Int} (hY:0<=Y) (h:Y<=X) (u:0<X):Leh X Y 0 X Y 0 1 0 0 0 1 false where
 yx:=h
 y0:=hY
 x0:=u
 u10:=by decide
 u20:=by decide
 v10:=by decide
 v20:=by decide
 uv2:=by decide
 ex:=by simp
 ey:=by simp
 idX:=by omega
 idY:=by omega
 det:=by simp
 back:= .inl ⟨rfl,rfl,rfl,rfl,rfl,rfl,rfl⟩
def Leh.step {X Y w x y u0 u1 u2 v0 v1 v2:Int} {ev:Bool} (h:Leh X Y w x y u0 u1 u2 v0 v1 v2 ev) (c1:v2<=y) (c2:v1+v2<=x-y):Leh X Y x y (x%y) u1 u2 (u1+x/y*u2) v1 v2 (v1+x/y*v2) (!ev):=by
 have hv:=h.v20;have hy:0<y:=by omega
 have a8:1<=x/y:=by
  rw[g1y hy];have:=h.yx;omega
 have aa:=g2d x (b:=y) (by omega);have ab:=zD x hy;have ad:x=y*(x/y)+x%y:=(yG x y).symm;have he:x%y=x-x/y*y:=by rw[g1z (x/y)];omega
 have a5:=h.idX;have a6:=h.idY;have a1:=h.det;have u:=h.ex;have a0:=h.ey;have a3:=h.u20;have a2:=h.u10;have a7:=h.v10;have a4:=h.uv2;generalize x/y=q at*;have a9:0<=q*u2:=tJ (by omega) a3;have ae:1*v2<=q*v2:=sJ a8 (by omega);have ac:q*u2<=q*v2:=tV a4 (by omega);refine⟨xK ab,aa,hy,a3,Int.add_nonneg a2 a9,by omega,by omega, ?_, ?_, ?_, ?_, ?_, ?_, .inr ⟨a2,a7,a4,c1, ?_,by omega,by omega, ?_,hv, ?_, ?_⟩⟩
 . rcases h.back with⟨_,b1,_,b2,_,b3,b4⟩ | ⟨_,_,b1,_⟩
   . subst b3 b4;omega
   . omega
 . cases ev<;>simpa using a0
 . rw[he];cases ev
   . simp only[g2p,xS,vV,yD]at u a0⊢;rw[u,a0];grind
   . simp only[zY,xS,vV,yD]at u a0⊢;rw[u,a0];grind
 . rw[he, <-a5];grind
 . rw[he, <-a6];grind
 . have e1:u2*(v1+q*v2)-(u1+q*u2)*v2= -(u1*v2-u2*v1):=by
    grind
   rw[e1,a1];cases ev<;>simp
 . rcases h.back with⟨_,b1,_,b2,_⟩ | ⟨_,_,b1,_⟩<;>omega
 . rcases h.back with⟨_,b1,_,b2,_⟩ | ⟨_,_,b1,_⟩
   . exact .inl b2
   . exact .inr b1
 . cases ev<;>simpa using u
 . rw[a1];cases ev<;>simp
def Leh.apply {X Y w x y u0 u1 u2 v0 v1 v2:Int} {ev:Bool} (h:Leh X Y w x y u0 u1 u2 v0 v1 v2 ev) (a3:v0≠0) {P α β A B:Int} (hP:0<P) (a2:0<=α) (a8:α<P) (hb0:0<=β) (a9:β<P) (hA:A=X*P+α) (hB:B=Y*P+β):
 ∃A' B':Int,A'=(if ev then u0*A-v0*B else v0*B-u0*A)/\B'=(if ev then v1*B-u1*A else u1*A-v1*B)/\0<=B'/\B'<=A'/\A=v1*A'+v0*B'/\B=u1*A'+u0*B'/\1<=v0/\1<=v1/\0<=u0/\0<=u1:=by
 rcases h.back with⟨_,_,b2,_⟩ | ⟨a0,b0,a5,vx,uw,vw,a7,a4,v1p,ew,det⟩
 . exact absurd b2 a3
 have a6:u0<=v0:=a4.resolve_left a3;have a1:=h.u10;refine⟨_,_,rfl,rfl, ?_, ?_, ?_, ?_,by omega,v1p,a0,a1⟩
 . --the second combination is not negative
   have u:=h.ex;have h1:0<=(x-v1)*P:=tJ (by omega) (by omega);have h2:0<=u1*α:=tJ a1 a2;have h3:v1*β<=v1*P:=tV (by omega) (by omega);have h4:0<=v1*β:=tJ (by omega) hb0;have h5:u1*α<=u1*P:=tV (by omega) a1;have h6:u1*P<=v1*P:=sJ a5 (by omega);rw[Int.sub_mul]at h1;cases ev
   . simp only[vV,yD]at u⊢;have:u1*A-v1*B=x*P+u1*α-v1*β:=by
      rw[hA,hB,u];grind
     omega
   . simp only[xS]at u⊢;have:v1*B-u1*A=x*P+v1*β-u1*α:=by
      rw[hA,hB,u];grind
     omega
 . have u:=h.ex;have h1:0<=(w-x-(v0+v1))*P:=tJ (by omega) (by omega);have h2:0<=(u0+u1)*α:=tJ (by omega) a2;have h3:(v0+v1)*β<=(v0+v1)*P:=tV (by omega) (by omega);have h4:0<=(v0+v1)*β:=tJ (by omega) hb0;have h5:(u0+u1)*α<=(u0+u1)*P:=tV (by omega) (by omega);have h6:(u0+u1)*P<=(v0+v1)*P:=sJ (by omega) (by omega);rw[Int.sub_mul]at h1;cases ev
   . simp only[vV,yD]at u ew⊢;have:v0*B-u0*A-(u1*A-v1*B)=(w-x)*P+(v0+v1)*β-(u0+u1)*α:=by
      rw[hA,hB,u,ew];grind
     omega
   . simp only[xS]at u ew⊢;have:u0*A-v0*B-(v1*B-u1*A)=(w-x)*P+(u0+u1)*α-(v0+v1)*β:=by
      rw[hA,hB,u,ew];grind
     omega
 . cases ev
   . simp only[vV,yD]at det⊢;have:v1*(v0*B-u0*A)+v0*(u1*A-v1*B)= -(u0*v1-u1*v0)*A:=by
      grind
     rw[this,det];omega
   . simp only[xS]at det⊢;have:v1*(u0*A-v0*B)+v0*(v1*B-u1*A)=(u0*v1-u1*v0)*A:=by
      grind
     rw[this,det];omega
 . cases ev
   . simp only[vV,yD]at det⊢;have:u1*(v0*B-u0*A)+u0*(u1*A-v1*B)= -(u0*v1-u1*v0)*B:=by
      grind
     rw[this,det];omega
   . simp only[xS]at det⊢;have:u1*(u0*A-v0*B)+u0*(v1*B-u1*A)=(u0*v1-u1*v0)*B:=by
      grind
     rw[this,det];omega
def A7a {A B A' B' u0 u1 v0 v1 s t p q:Int} (h1:A=v1*A'+v0*B') (u:B=u1*A'+u0*B') (h3:A'=s*A+t*B) (h4:B'=p*A+q*B):Int.gcd A B=Int.gcd A' B':=by
 apply Nat.dvd_antisymm
 . apply Int.dvd_gcd
   . rw[h3];exact g2r (uM (zU ..)) (uM (zM ..))
   . rw[h4];exact g2r (uM (zU ..)) (uM (zM ..))
 . apply Int.dvd_gcd
   . rw[h1];exact g2r (uM (zU ..)) (uM (zM ..))
   . rw[u];exact g2r (uM (zU ..)) (uM (zM ..))
end Go.Proofs.YtiflhbllbgajeaaGreat
namespace Go.Proofs.YtiflhbllbgajeaaGreat
open Go.Vc Go.Gw
open Go.IntKind (i64 u64 u32)
def CT {s:Nat} (u:s<=32):4294967296=2^s*2^(32-s):=by
 rw[<-uV,show s+(32-s)=32 from by omega]
def Lq (n:Nat):4294967296^n=2^(32*n):=by
 rw[show(4294967296:Nat)=2^32 from rfl, <-Nat.pow_mul]
def B4k {a low lo H P s:Nat} (hP:0<P) (ha:a=low+lo*P+H*(P*4294967296)) (u:low<P) (hs:s<=31):a*2^s/(P*4294967296)=H*2^s+lo/2^(32-s):=by
 have hQ:0<P*4294967296:=g4p hP (by decide);have h2:0<2^s:=tP (by decide);have e:a*2^s=(low+lo*P)*2^s+H*2^s*(P*4294967296):=by
  rw[ha,uP,zH H]
 rw[e,yH _ _ hQ,vY];congr 1;have e2:P*4294967296=P*2^(32-s)*2^s:=by rw[sO,tG (2^(32-s)), <-CT (by omega)]
 rw[e2,zS _ _ h2, <-vK,yH _ _ hP,uB u,sG]
def A3p {a s m:Nat} (h:s<=m):a*2^s/2^m=a/2^(m-s):=by
 have u:0<2^s:=tP (by decide)
 conv=>lhs;rw[show m=m-s+s from by omega,uV,zS _ _ u]
def dR (l:List Int) (i:Nat) (h:i<=l.length):nv l=nv (l.take i)+4294967296^i*nv (l.drop i):=by
 conv=>lhs;rw[<-uE i l,Rr,qW,sW h]
def T6 {l:List Int} (h:A6 l) (i:Nat):nv (l.take i)<4294967296^i:=by
 have h1:=Gd (l:=l.take i) fun x hx=>h x (rZ hx)
 refine rD h1 (rX (by decide) ?_);rw[qW];exact g2e ..
def Uo (l:List Int) {n:Nat} (h:l.length<=n+1):nv l=nv (l.take n)+4294967296^n*dg l n:=by
 conv=>lhs;rw[<-qV h,H9]
def A0h (l:List Int) {n:Nat} (h:l.length<=n+2):nv l=nv (l.take n)+4294967296^n*(dg l (n+1)*4294967296+dg l n):=by
 rw[Uo l (n:=n+1) h,H9,sC,sZ,tG (dg l (n+1)), <-sO];omega
def A0i (l:List Int) {n:Nat} (h:l.length<=n+3):nv l=nv (l.take n)+4294967296^n*((dg l (n+2)*4294967296+dg l (n+1))*4294967296+dg l n):=by
 rw[A0h l (n:=n+1) h,H9,sC];generalize 4294967296^n=P;grind
def pY {a:List Int} (ha:A6 a) {n:Nat} (hn:a.length=n+1) {s:Nat} (hs:s+J6 (dg a n)<=32):nv a*2^s<4294967296^(n+1):=by
 have h1:=Uo a (n:=n) (by omega);have h2:=T6 ha n;have h3:=bW (dg a n);have h4:nv a<4294967296^n*2^J6 (dg a n):=by
  have:4294967296^n*(dg a n+1)<=4294967296^n*2^J6 (dg a n):=sS _ h3;rw[sZ,yP]at this;omega
 have u:nv a*2^s<4294967296^n*2^J6 (dg a n)*2^s:=wW h4 (tP (by decide));rw[sO, <-uV]at u;have h6:2^(J6 (dg a n)+s)<=2^32:=rX (by decide) (by omega);have h7:=sS (4294967296^n) h6;rw[sC];exact rD u h7
def aD {n:Nat} (h:n≠0):Nd (nc n):=by
 have a0:(nc n).length≠0:=fun h0=>h (Za.1 (qO h0))
 unfold Nd;intro h0;have hb:=I9 n;have e:=Uo (nc n) (n:=(nc n).length-1) (by omega);have hd:dg (nc n) ((nc n).length-1)=0:=by unfold dg;rw[h0];rfl
 rw[hd,wK,tD,E7]at e;have u:=T6 hb ((nc n).length-1);rw[<-e]at u;have:=Gc u;omega
def MZ {l:List Int} (hl:A6 l) (h:Nd l):dg l (l.length-1)≠0:=by
 unfold Nd at h;have:=Y0 hl (i:=l.length-1);rw[this]at h;omega
def VQ {l:List Int} (hl:A6 l) (h:Nd l):nv l≠0:=by
 have h1:=MZ hl h;have u:l.length≠0:=fun e=>by
  rw[qO e]at h1;simp[dg]at h1
 have e:=Uo l (n:=l.length-1) (by omega);have h2:0<4294967296^(l.length-1):=tP (by decide);have h3:=sS (4294967296^(l.length-1)) (sV h1);omega
def pZ {V low P x:Nat} (h:V=low+P*x) (hl:low<P):x*P<=V/\V<(x+1)*P:=by
 rw[uP,xN,tG x,h];omega
def B6e {w v:List Int} (hw:A6 w) (hv:A6 v) {n:Nat} (hn:v.length=n+2) (a1:w.length=n+3) (a0:dg v (n+1)≠0) (u:nv w<nv v*4294967296):XC (nv w) (nv v) (dg v (n+1)) (dg v n) (dg w (n+2)*4294967296+dg w (n+1)) (dg w n) (4294967296^n):=by
 have ev:=A0h v (n:=n) (by omega);have ew:=A0i w (n:=n) (by omega);have lv:=T6 hv n;have lw:=T6 hw n;have b1:=L7 hv (n+1);have b2:=L7 hv n;have b3:=L7 hw n;exact⟨tP (by decide),sV a0,by omega,by omega,by omega,(pZ ev lv).1,(pZ ev lv).2,(pZ ew lw).1,(pZ ew lw).2,u⟩
def A6h {l:List Int} (h:A6 l) (i:Nat):dg l i=nv l/4294967296^i%4294967296:=by
 have hp:0<4294967296^i:=tP (by decide);by_cases hi:i<l.length
 . have e:=dR l (i+1) (by omega);rw[H9]at e;have h1:=T6 h i;have u:=L7 h i;have e2:nv l=nv (l.take i)+(dg l i+4294967296*nv (l.drop (i+1)))*4294967296^i:=by
    rw[e,sC];generalize 4294967296^i=P;grind
   rw[e2,yH _ _ hp,uB h1,sG,yT,tS (by omega)]
 . rw[Ps (by omega)];have h1:=Gd h;have u:4294967296^l.length<=4294967296^i:=rX (by decide) (by omega);rw[uB (by omega)]
def B1o {l:List Int} (h:A6 l) (i:Nat):dg l (i/32)/2^(i%32)%2=nv l/2^i%2:=by
 rw[A6h h,Lq];have e:i=32*(i/32)+i%32:=by omega
 have u:(4294967296:Nat)=2^(i%32)*2^(32-i%32):=CT (by omega)
 conv=>rhs;rw[e,uV, <-vK]
 generalize nv l/2^(32*(i/32))=x;rw[u,Nat.mod_mul_right_div_self];have h3:2^(32-i%32)=2*2^(31-i%32):=by rw[<-Nat.pow_succ'];congr 1;omega
 rw[h3,Nat.mod_mul_right_mod]
def A5p {a b i:Nat} (hb:b≠0):a/2^i=2*(a/2^(i+1))+a/2^i%2/\
 a/2^i/b=2*(a/2^(i+1)/b)+(if b<=2*(a/2^(i+1)%b)+a/2^i%2 then 1 else 0)/\
 a/2^i%b=2*(a/2^(i+1)%b)+a/2^i%2-(if b<=2*(a/2^(i+1)%b)+a/2^i%2 then b else 0):=by
 have e1:a/2^(i+1)=a/2^i/2:=by rw[sC,vK]
 have e0:a/2^i=2*(a/2^(i+1))+a/2^i%2:=by rw[e1];omega
 refine⟨e0, ?_⟩;have a0:a/2^i%2<2:=wA _ (by decide);generalize a/2^i%2=d at*;generalize a/2^(i+1)=h at*;rw[e0];have hd:=wT h b;have hm:=wA h (sV hb);generalize h%b=r at*;generalize h/b=q at*;have e2:2*h+d=b*(2*q)+(2*r+d):=by rw[<-hd];grind
 rw[e2,g2f (sV hb),g2g];by_cases u:b<=2*r+d
 . rw[qT u,qT u];have e3:2*r+d=b+(2*r+d-b):=by omega
   have h1:(2*r+d)/b=1:=Nat.div_eq_of_lt_le (by omega) (by omega);refine⟨by rw[h1], ?_⟩;have:=wT (2*r+d) b;rw[h1]at this;omega
 . rw[qL u,qL u,uB (by omega),tS (by omega)];exact⟨rfl,by omega⟩
def B3q {q:List Int} (hq:A6 q) {M i:Nat} (he:nv q=M*2^(i+1)) (hi:i/32<q.length):∃b:Nat,dg q (i/32)=b*2^(i%32+1)/\nv (q.set (i/32) ((dg q (i/32)+2^(i%32):Nat):Int))=(2*M+1)*2^i:=by
 have e:i=32*(i/32)+i%32:=by omega
 have hb:dg q (i/32)=(M*2^(i%32+1))%4294967296:=by
  rw[A6h hq,he,Lq];congr 1;have e5:i+1=32*(i/32)+(i%32+1):=by omega
  rw[e5,uV,zR,xV _ (tP (by decide))]
 refine⟨M%2^(31-i%32), ?_, ?_⟩
 . rw[hb];have u:(4294967296:Nat)=2^(31-i%32)*2^(i%32+1):=by
    rw[<-uV,show 31-i%32+(i%32+1)=32 from by omega]
   conv=>lhs;rw[u]
   rw[Nat.mul_mod_mul_right]
 . have h1:=Jy (l:=q) (k:=i/32) (v:=((dg q (i/32)+2^(i%32):Nat):Int)) hi;rw[qM,he,Lq,sZ]at h1;have u:2^(32*(i/32))*2^(i%32)=2^i:=by rw[<-uV, <-e]
   rw[u]at h1;have h3:(2*M+1)*2^i=M*2^(i+1)+2^i:=by rw[sC];grind
   rw[h3];omega
def LI {l:List Int} (h:A6 l) (i:Nat):dg l i=nv l/4294967296^i%4294967296:=by
 have u:0<4294967296^i:=tP (by decide);have hd:=L7 h i;have ht:=T6 h i;rcases sF i l.length with h1|h1
 . have e1:=dR l (i+1) h1;rw[H9,sC]at e1;have e2:nv l=nv (l.take i)+(dg l i+nv (l.drop (i+1))*4294967296)*4294967296^i:=by rw[e1];grind
   rw[e2,yH _ _ u,uB ht,sG,Nat.add_mul_mod_self_right,tS (by omega)]
 . rw[Ps h1];have hl:=Gd h;have a0:4294967296^l.length<=4294967296^i:=rX (by decide) h1;rw[uB (by omega)]
def A3q {l:List Int} (h:A6 l) (i:Nat) {s:Nat} (hs:s<=31):nv l/2^s/4294967296^i%4294967296=(dg l i+dg l (i+1)*4294967296)/2^s%4294967296:=by
 have h2:0<2^s:=tP (by decide);have u:nv l/2^s/4294967296^i=nv l/4294967296^i/2^s:=by rw[vK,vK,tG]
 have e1:dg l i+dg l (i+1)*4294967296=nv l/4294967296^i%(4294967296*4294967296):=by
  rw[Nat.mod_mul, <-LI h i,vK, <-sC, <-LI h (i+1),tG]
 rw[u,e1];generalize nv l/4294967296^i=W;have e2:W=W%(4294967296*4294967296)+2^s*(4294967296*(2^(32-s)*(W/(4294967296*4294967296)))):=by
  have a:=Nat.mod_add_div W (4294967296*4294967296);have b:=CT (s:=s) (by omega)
  conv=>lhs;rw[<-a]
  congr 1
  calc 4294967296*4294967296*(W/(4294967296*4294967296))=4294967296*(4294967296*(W/(4294967296*4294967296))):=sO ..
   _=(2^s*2^(32-s))*(4294967296*(W/(4294967296*4294967296))):=by rw[<-b]
   _= _:=by rw[sO,zR (2^(32-s))]
 conv=>lhs;rw[e2,g2w _ _ h2,yT]
def aZ {l:List Int} (h:A6 l) {k s:Nat} :nv l/2^(32*k+s)=nv (l.drop k)/2^s:=by
 rw[uV, <-Lq, <-vK];congr 1;have u:0<4294967296^k:=tP (by decide);rcases sF l.length k with h1|h1
 . rw[sE (by omega)];have hl:=Gd h;have a0:4294967296^l.length<=4294967296^k:=rX (by decide) (by omega);rw[uB (by omega)];rfl
 . have e:=dR l k h1;have ht:=T6 h k;rw[e,g2w _ _ u,uB ht,sG]
def I4 (x:Kr):(iv x).natAbs=nv x.2:=by
 unfold iv;split<;>omega
def GD {a b:List Int} (u:A6 a) (hb:A6 b):(nc (nv a*nv b)).length<=a.length+b.length:=by
 have h1:=Py (nv a) (nv b);have h2:=C7 u;have h3:=C7 hb;omega
def FX {x y:Kr} (hx:A6 x.2) (u:A6 y.2):(ic (iv x*iv y)).2.length<=x.2.length+y.2.length:=by
 rw[Ck,vQ,I4,I4];exact GD hx u
def TE {x y:Kr} {k:Nat} (hx:A6 x.2) (u:A6 y.2) (h1:x.2.length<=k) (h2:y.2.length<=k):(ic (iv x+iv y)).2.length<=k+1:=by
 rw[Ck];have e:(iv x+iv y).natAbs<=nv x.2+nv y.2:=by
  have:=g1g (iv x) (iv y);rwa[I4,I4]at this
 have h:=LZ (nv x.2) (nv y.2);have a:=C7 hx;have b:=C7 u;have c:=J3 e;omega
def iN (v:Int):A6 (ic v).2:=I9 _
def eH {V:Int} {D:Nat} (hD:D≠0):rc (mkRat V D)=((decide (V<0),nc (V.natAbs/Nat.gcd V.natAbs D)),nc (D/Nat.gcd V.natAbs D)):=by
 obtain⟨hn,a2⟩:=Oh (x:=V) (d:=D) hD;unfold rc;rw[hn,a2,wV V.natAbs D];unfold ic;have u:((D.gcd V.natAbs:Nat):Int)∣V:=xY.2 (yL ..);have a0:0<D.gcd V.natAbs:=g1s _ (sV hD);generalize D.gcd V.natAbs=G at u a0;obtain⟨c,rfl⟩:=u;rw[xQ _ (by omega)];have a1:(G:Int)*c<0↔c<0:=by
  constructor
  . intro h;rcases g3x c 0 with h1|h1
    . exact h1
    . have:=tJ (xK (sQ.2 a0)) h1;omega
  . intro h;exact yR (by omega) h
 rw[vQ,uN,xV _ a0];simp only[a1]
def B3f {V:Int} {D:Nat} (u:D≠0) (h:Nat.gcd V.natAbs D=1):rc (mkRat V D)=(ic V,nc D):=by
 rw[eH u,h,g2x,g2x];rfl
def LW {a b:Int} {c d:Nat} (u:c≠0) (hd:d≠0):mkRat a c+mkRat b d=mkRat (a*d+b*c) (c*d):=Rat.mkRat_add_mkRat a b u hd
def nD {a b:Int} {c:Nat} (u:c≠0):mkRat a c+mkRat b c=mkRat (a+b) c:=by
 rw[LW u u, <-Int.add_mul,Rat.mkRat_mul_right u]
def Mi {x:D3} {n:Kr} {d:List Int} (h:(nv x.2=0->n=zi/\d= [1])/\(nv x.2≠0->n=x.1/\d=x.2)):nv d≠0/\rv x=mkRat (iv n) (nv d):=by
 rcases g3u (nv x.2=0)with u|u
 . obtain⟨rfl,rfl⟩:=h.1 u;refine⟨by decide, ?_⟩;unfold rv;rw[u,yQ];exact(Rat.zero_mkRat _).symm
 . obtain⟨rfl,rfl⟩:=h.2 u;exact⟨u,rfl⟩
def Ie {x:D3} {n:Kr} {d:List Int} {k:Nat} (h:(nv x.2=0->n=zi/\d= [1])/\(nv x.2≠0->n=x.1/\d=x.2)) (h1:x.1.2.length<=k) (h2:x.2.length<=k) (hk:1<=k):n.2.length<=k/\d.length<=k:=by
 rcases g3u (nv x.2=0)with u|u
 . obtain⟨rfl,rfl⟩:=h.1 u;exact⟨by simp[zi],by simpa using hk⟩
 . obtain⟨rfl,rfl⟩:=h.2 u;exact⟨h1,h2⟩
def B6i (A B:Nat):(A:Int)/(B:Int)=((A/B:Nat):Int)/\(A:Int)%(B:Int)=((A%B:Nat):Int):=⟨rfl,rfl⟩
def B6h {A B:Nat} (hB:B≠0):(A%B=0-> -(A:Int)/(B:Int)= -((A/B:Nat):Int)/\ -(A:Int)%(B:Int)=0)/\(A%B≠0-> -(A:Int)/(B:Int)= -((A/B:Nat):Int)-1/\ -(A:Int)%(B:Int)=(B:Int)-((A%B:Nat):Int)):=by
 have h1:=wT A B;have h2:=wA A (sV hB);have u:(A:Int)=(B:Int)*((A/B:Nat):Int)+((A%B:Nat):Int):=by
  rw[<-uJ, <-wS,h1]
 generalize A/B=Q at*;generalize A%B=M at*;refine⟨fun h=> ?_,fun h=> ?_⟩
 . subst h;refine(g2s (by omega)).2 ⟨?_,by omega,by omega⟩;rw[u];grind
 . refine(g2s (by omega)).2 ⟨?_,by omega,by omega⟩;rw[u];grind
def B6g {sa sb:Bool} {A B:Nat} (hB:B≠0) {a b q m:Int} (u:a=if sa=true then -(A:Int)else A) (hb:b=if sb=true then -(B:Int)else B) (hq:q=if(sa !=sb)=true then -((A/B:Nat):Int)else((A/B:Nat):Int)) (hm:m=if sa=true then -((A%B:Nat):Int)else((A%B:Nat):Int)):
 (m<0->a%b=m+B/\(sb=true->a/b=q+1)/\(sb=false->a/b=q-1))/\(¬m<0->a%b=m/\a/b=q):=by
 obtain⟨n1,n2⟩:=B6h (A:=A) hB;obtain⟨p1,p2⟩:=B6i A B;generalize hQ:A/B=Q at*;generalize hM:A%B=M at*;cases sa<;>cases sb<;>simp at u hb hq hm<;>subst u hb hq hm<;>simp only[Int.ediv_neg,Int.emod_neg]
 . exact⟨fun h=>by omega,fun h=>⟨p2,p1⟩⟩
 . exact⟨fun h=>by omega,fun h=>⟨p2,by rw[p1]⟩⟩
 . refine⟨fun h=> ?_,fun h=> ?_⟩
   . obtain⟨e1,e2⟩:=n2 (by omega);exact⟨by rw[e2];omega,⟨fun h=>absurd h (by decide),fun _=>e1⟩⟩
   . obtain⟨e1,e2⟩:=n1 (by omega);exact⟨by rw[e2];omega,e1⟩
 . refine⟨fun h=> ?_,fun h=> ?_⟩
   . obtain⟨e1,e2⟩:=n2 (by omega);exact⟨by rw[e2];omega,⟨fun _=>by rw[e1];omega,fun h=>by cases h⟩⟩
   . obtain⟨e1,e2⟩:=n1 (by omega);exact⟨by rw[e2];omega,by rw[e1];omega⟩
def Mj {q:D3} {k:Nat} (h1:A6 q.1.2) (h2:A6 q.2) (l1:q.1.2.length<=k) (l2:q.2.length<=k) (hk:1<=k):(ic (rv q).num).2.length<=k/\(nc (rv q).den).length<=k:=by
 unfold rv;rcases g3u (nv q.2=0)with u|u
 . rw[u,yQ];have a1:(0:Rat).num=0:=rfl;have a2:(0:Rat).den=1:=rfl;rw[a1,a2,cU,Um];exact⟨rN _,hk⟩
 . obtain⟨e1,e2⟩:=Oh (x:=iv q.1) (d:=nv q.2) u;have b1:=C7 h1;have b2:=C7 h2;rw[e1,e2,Ck];refine⟨?_,qZ (J3 (wU _ _)) (by omega)⟩;refine qZ (J3 ?_) (qZ b1 l1);rw[<-I4];exact xF _ _
def TD {A:Int} {G:Nat} (hG:0<G) (hd:(G:Int)∣A):ic (A/(G:Int))=(decide (A<0),nc (A.natAbs/G)):=by
 obtain⟨c,rfl⟩:=hd;rw[xQ _ (by omega)];have u:(G:Int)*c<0↔c<0:=by
  constructor
  . intro h;rcases g3x c 0 with h1|h1
    . exact h1
    . have:=tJ (xK (sQ.2 hG)) h1;omega
  . intro h;exact yR (by omega) h
 unfold ic;rw[vQ,uN,xV _ hG];simp only[u]
def FT {A B:Int} (hB:0<B):Rat.divInt A B=mkRat A B.natAbs:=by
 rw[<-zW,show((B.natAbs:Nat):Int)=B from by omega]
def gS {A B:Int} (hB:B<0):Rat.divInt A B=mkRat (-A) B.natAbs:=by
 rw[<-zW,show((B.natAbs:Nat):Int)= -B from by omega,Rat.neg_divInt_neg]
def A8g {A B:Int} (hB:B≠0) {G:Nat} (hG:G=Nat.gcd A.natAbs B.natAbs):0<G/\(B/(G:Int)<0↔B<0)/\(B<0->(ic (-(A/(G:Int))),(ic (-(B/(G:Int)))).2)=rc (Rat.divInt A B))/\(¬B<0->(ic (A/(G:Int)),(ic (B/(G:Int))).2)=rc (Rat.divInt A B)):=by
 have a2:B.natAbs≠0:=by omega
 have u:0<G:=by rw[hG];exact g1k _ (by omega)
 have a1:(G:Int)∣A:=by rw[hG];exact xY.2 (g4k ..)
 have a0:(G:Int)∣B:=by rw[hG];exact xY.2 (yL ..)
 refine⟨u, ?_,fun h=> ?_,fun h=> ?_⟩
 . have:=tT (·.1) (TD u a0);exact wJ.1 this
 . rw[<-g3i a1, <-g3i a0,TD u (Int.dvd_neg.2 a1),TD u (Int.dvd_neg.2 a0),gS h,eH a2,zO,zO,hG]
 . rw[TD u a1,TD u a0,FT (by omega),eH a2,hG]
def gT (q:Rat):Rat.divInt (-q.num) q.den= -q:=by
 have:=yB (-q);rwa[g3e,g4q]at this
def mI (p q:Rat):Rat.divInt (p.num*q.den+q.num*p.den) (p.den*q.den)=p+q:=by
 have h1:=g3a p;have u:=g3a q;rw[<-Rat.divInt_add_divInt _ _ (by omega) (by omega),yB,yB]
def gU (p q:Rat):Rat.divInt (p.num*q.num) (p.den*q.den)=p*q:=by
 rw[<-Rat.divInt_mul_divInt,yB,yB]
def mC {n k:Nat} (h:n<2^k):J6 n<=k:=by
 rcases vG n with u|u
 . rw[u,BP];omega
 . have h1:=(BO (n:=n) (by omega)).1;rcases sF k (J6 n)with h2|h2
   . have:2^k<=2^(J6 n-1):=rX (by decide) (by omega);omega
   . exact h2
def A1n {n:Nat} (h:n≠0):J6 n=J6 (n/2)+1:=by
 rcases sF n 2 with h1|h1
 . have:n=1:=by omega
   subst this;decide+kernel
 . have:=IF (n:=n) (k:=1) h1;rwa[Nat.pow_one]at this
def pF {l:List Int} (h:A6 l):J6 (nv l)<=32*l.length:=by
 refine mC ?_;rw[<-Lq];exact Gd h
def A5q {n:Nat} (h:n≠0):J6 n=J6 (dg (nc n) ((nc n).length-1))+32*((nc n).length-1):=by
 have u:(nc n).length≠0:=fun h0=>h (Za.1 (qO h0))
 have h1:4294967296^((nc n).length-1)<=n:=A8p (by omega);have h2:=Li n;have hP:0<4294967296^((nc n).length-1):=tP (by decide);rw[LI (I9 n),E7,Lq,tS]
 . exact IF (by rw[<-Lq];exact h1)
 . rw[<-Lq,tO hP,tG, <-sC,show((nc n).length-1).succ=(nc n).length from by omega];exact h2
def A1k {z:Int} (u:0<=z) (h1:z<4294967296):(BitVec.ofInt 32 z&&&BitVec.ofInt 32 1).toNat=z.toNat%2:=by
 rw[BitVec.toNat_and,xX,xX,show((1:Int)%((2^32:Nat):Int)).toNat=1 from by decide,Nat.and_one_is_mod];rw[show z%((2^32:Nat):Int)=z from by omega]
def A9c {d b s:Nat} (u:d=b*2^(s+1)) (h1:d<4294967296) (hs:s<=31):(BitVec.ofInt 32 (d:Int) |||BitVec.ofInt 32 ((2^s:Nat):Int)).toNat=d+2^s/\d+2^s<4294967296:=by
 have a0:2^s<=2^31:=rX (by decide) hs;have e:(BitVec.ofInt 32 (d:Int) |||BitVec.ofInt 32 ((2^s:Nat):Int)).toNat=d+2^s:=by
  rw[BitVec.toNat_or,xX,xX];rw[show((d:Int)%((2^32:Nat):Int)).toNat=d from by omega];generalize hz:2^s=z at*;rw[show((z:Int)%((2^32:Nat):Int)).toNat=z from by omega,u, <-g4n];exact(g0c (by rw[<-hz];exact Nat.pow_lt_pow_right (by decide) (by omega)) b).symm
 exact⟨e,by have:=(BitVec.ofInt 32 (d:Int) |||BitVec.ofInt 32 ((2^s:Nat):Int)).isLt;omega⟩
def cJ (l:List Int) (j i:Nat):dg (l.drop j) i=dg l (j+i):=by
 unfold dg;simp[List.getD,xA]
def BV {l:List Int} {k i:Nat} (h:i<k):dg (l.take k) i=dg l i:=by
 unfold dg;simp[List.getD,wH,h]
def Jc {l:List Int} (h:A6 l) (k:Nat):nv (l.take k)=nv l%4294967296^k:=by
 rcases sF k l.length with h1|h1
 . have e:=dR l k (by omega);rw[e,yT,tS (T6 h k)]
 . rw[qV h1,tS];exact rD (Gd h) (rX (by decide) h1)
def jJ {l:List Int} (h:A6 l) (j:Nat):nv (l.drop j)=nv l/4294967296^j:=by
 have:=aZ h (k:=j) (s:=0);rw[tD,g4b,g2x, <-Lq]at this;exact this.symm
def B9a {u v:List Int} (hu:A6 u) (hv:A6 v) {j n:Nat} (a7:n+2<=v.length) (hV:nv v<4294967296^(n+2)) (a4:dg v (n+1)≠0) (a6:j+n+3<=u.length) (a2:nv u<nv v*4294967296^(j+1)):XC (nv u/4294967296^j) (nv v) (dg v (n+1)) (dg v n) (dg u (j+n+2)*4294967296+dg u (j+n+1)) (dg u (j+n)) (4294967296^n):=by
 have hP:0<4294967296^j:=tP (by decide);have hW:nv u/4294967296^j<nv v*4294967296:=by
  rw[tO hP,sO,tG 4294967296, <-sC];exact a2
 have a1:nv u/4294967296^j<4294967296^(n+3):=by
  rw[sC _ (n+2)];exact rD hW (rM _ (vZ hV))
 have a3:A6 (v.take (n+2)):=fun x hx=>hv x (rZ hx)
 have a0:A6 (u.drop j):=fun x hx=>hu x (vF hx)
 have a5:A6 ((u.drop j).take (n+3)):=fun x hx=>a0 x (rZ hx)
 have ev:nv (v.take (n+2))=nv v:=by rw[Jc hv,tS hV]
 have ew:nv ((u.drop j).take (n+3))=nv u/4294967296^j:=by rw[Jc a0,jJ hu,tS a1]
 have h:=B6e (w:=(u.drop j).take (n+3)) (v:=v.take (n+2)) a5 a3 (n:=n) (by rw[qW];omega) (by rw[qW,sN];omega) (by rw[BV (by omega)];exact a4) (by rw[ev,ew];exact hW);rw[ev,ew,BV (by omega),BV (by omega),BV (by omega),BV (by omega),BV (by omega),cJ,cJ,cJ]at h;exact h
def A3w {o o' U Pk P c c' D x s t v:Nat} (h:o+P*(D*x)=U+Pk*c) (hs:o'+Pk*t=o+Pk*s) (he:t+4294967296*c'=s+(D*v+c)) {Pi:Nat} (u:Pk=P*Pi):o'+P*(D*(x+Pi*v))=U+Pk*4294967296*c':=by
 subst u;have h1:=tT ((P*Pi)* ·) he;simp only[sZ]at h1⊢;have e1:P*(D*(Pi*v))=P*Pi*(D*v):=by grind
 have e2:P*Pi*(4294967296*c')=P*Pi*4294967296*c':=by grind
 omega
def A1f {o o' U Pk P c c' x s t v:Nat} (h:o+Pk*c=U+P*x) (hs:o'+Pk*t=o+Pk*s) (he:s+4294967296*c'=c+(t+v)) {Pi:Nat} (u:Pk=P*Pi):o'+Pk*4294967296*c'=U+P*(x+Pi*v):=by
 subst u;have h1:=tT ((P*Pi)* ·) he;simp only[sZ]at h1⊢;have e1:P*(Pi*v)=P*Pi*v:=by grind
 have e2:P*Pi*(4294967296*c')=P*Pi*4294967296*c':=by grind
 omega
def A5u {D v c t:Nat} (u:D<4294967296) (hv:v<4294967296) (hc:c<=D):D*v+c<=18446744069414584320/\(D*v+c)/4294967296+(if t<(D*v+c)%4294967296 then 1 else 0)<=D:=by
 have h1:D*v<=D*4294967295:=sS _ (by omega);generalize D*v=p at*;split<;>omega
end Go.Proofs.YtiflhbllbgajeaaGreat
namespace Go.Proofs.YtiflhbllbgajeaaGreat
open Go.IntKind (i64 u64 u32)
def A5o {B U P V e M w1 y z g t r o:Nat} (hP:0<P) (hV:0<V) (a0:w1+P*((e+1)*V)=U+M*B) (a4:w1<M*B) (hd:e+1<=U/P/V+1) (hy:y+M*g=w1+P*V) (hz:z+M*t=y+M*r) (ho:t+g=r+B*o) (a5:o<=1) (a3:z<M*B):U/P/V=e/\z+P*(e*V)=U:=by
 have h1:U/P/V<e+1:=by
  rw[tO hV,tO hP,tG];omega
 have he:U/P/V=e:=by omega
 have hU:P*(e*V)<=U:=by
  rw[<-he,tG];exact qZ (rM _ (yW _ _)) (yW _ _)
 have a1:P*((e+1)*V)=P*(e*V)+P*V:=by rw[uP,xN,sZ]
 rw[a1]at a0;have u:M*t+M*g=M*r+M*B*o:=by rw[<-sZ,ho,sZ,sO]
 have a2:o=1:=by
  rcases sF o 1 with h|h
  . have h0:o=0:=by omega
    subst h0;simp only[wK,tD]at u;omega
  . omega
 subst a2;rw[yP]at u;exact⟨he,by omega⟩
def C0b (m:Nat):4294967296^(m+2)*4294967296=4294967296^(m+3):=(sC (n:=4294967296) (m:=m+2)).symm
end Go.Proofs.YtiflhbllbgajeaaGreat
namespace Go.Proofs.YtiflhbllbgajeaaGreat
open Go.Vc Go.Gw
open Go.IntKind (i64 u64 u32)
def qs (k:Nat) (q:Rat):Prop:=(nc q.num.natAbs).length<=k/\(nc q.den).length<=k
def sz (k:Nat) (x:D3):Prop:=x.1.2.length<=k/\x.2.length<=k
def Jb (x:D3):Prop:=A6 x.1.2/\A6 x.2
def JN {k:Nat} {q:Rat} (h:qs k q):sz k (rc q):=h
def QI (q:Rat):Jb (rc q):=⟨I9 _,I9 _⟩
def Je {k:Nat} {x:D3} (hl:Jb x) (h:sz k x) (u:1<=k):qs k (rv x):=Mj hl.1 hl.2 h.1 h.2 u
def N3 {j k:Nat} {q:Rat} (h:qs j q) (u:j<=k):qs k q:=⟨qZ h.1 u,qZ h.2 u⟩
def F9 {j k:Nat} {x:D3} (h:sz j x) (u:j<=k):sz k x:=⟨qZ h.1 u,qZ h.2 u⟩
def VA {V:Int} {D k:Nat} (hD:D≠0) (h1:(nc V.natAbs).length<=k) (u:(nc D).length<=k):qs k (mkRat V D):=by
 obtain⟨e1,e2⟩:=Oh (x:=V) hD;unfold qs;rw[e1,e2];refine⟨qZ (J3 ?_) h1,qZ (J3 (wU _ _)) u⟩;exact xF _ _
def R2 {k:Nat} (u:1<=k):qs k 0:=by
 refine⟨?_, ?_⟩
 . show(nc 0).length<=k;rw[O3];exact rN _
 . show(nc 1).length<=k;rw[Um];exact u
def eE {k:Nat} (u:1<=k):qs k 1:=by
 refine⟨?_, ?_⟩<;>(show(nc 1).length<=k;rw[Um];exact u)
def nZ {k:Nat} {q:Rat} (h:qs k q):1<=k:=by
 have h1:=h.2;have u:nc q.den≠ []:=fun e=>q.den_nz (Za.1 e)
 have:=vB.2 u;omega
def VB {k:Nat} {q:Rat} (h:qs k q):qs k (-q):=by
 unfold qs at h⊢;rw[g3e,g4q,zO];exact h
def MO {j k:Nat} {p q:Rat} (h1:qs j p) (u:qs k q):qs (j+k) (p*q):=by
 rw[Rat.mul_def'];refine VA (zC p.den_nz q.den_nz) ?_ ?_
 . rw[vQ];exact qZ (Py _ _) (Nat.add_le_add h1.1 u.1)
 . exact qZ (Py _ _) (Nat.add_le_add h1.2 u.2)
def UZ {j k:Nat} {p q:Rat} (h1:qs j p) (u:qs k q):qs (j+k+1) (p+q):=by
 rw[Rat.add_def'];refine VA (zC p.den_nz q.den_nz) ?_ ?_
 . have e:(p.num*(q.den:Int)+q.num*(p.den:Int)).natAbs<=p.num.natAbs*q.den+q.num.natAbs*p.den:=by
    refine qZ (g1g _ _) ?_;rw[vQ,vQ,uN,uN];exact rB _
   have a1:=Py p.num.natAbs q.den;have a2:=Py q.num.natAbs p.den;have a3:=LZ (p.num.natAbs*q.den) (q.num.natAbs*p.den);have a4:=J3 e;have:=h1.1;have:=h1.2;have:=u.1;have:=u.2;omega
 . have:=Py p.den q.den;have:=h1.2;have:=u.2;omega
def MP {j k:Nat} {p q:Rat} (h1:qs j p) (u:qs k q):qs (j+k+1) (p-q):=by
 rw[tK];exact UZ h1 (VB u)
def A9t {k:Nat} {q:Rat} (h:qs k q):qs k q⁻¹:=by
 have hk:=nZ h;by_cases u:q=0
 . subst u;rw[Rat.inv_zero];exact R2 hk
 have hn:q.num≠0:=fun e=>u (g0h.1 e)
 refine⟨?_, ?_⟩
 . rw[Rat.num_inv,vQ,uN,g0s hn,xN];exact h.2
 . rw[Rat.den_inv,qL hn];exact h.1
def eD {j k:Nat} {p q:Rat} (h1:qs j p) (u:qs k q):qs (j+k) (p/q):=by
 rw[wX];exact MO h1 (A9t u)
def A9s {a:Int} (h:a.natAbs<4294967296):qs 1 (a:Rat):=by
 refine⟨?_, ?_⟩
 . rw[g2j];exact Gc (by simpa using h)
 . rw[g2h,Um];exact rB _
abbrev K0:Nat:=1073741824
abbrev K1:Nat:=549755813888
def U7 {k:Nat} {x:D3} (h:sz k x) (u:k<=2199023255552):E3 x:=⟨qZ h.1 u,qZ h.2 u⟩
def R3 {k:Nat} {q:Rat} (h:qs k q) (u:k<=2199023255552):E3 (rc q):=⟨qZ h.1 u,qZ h.2 u⟩
def B5d {q:Rat} :q.num.sign=0↔q=0:=⟨fun h=>g0h.1 (yS.1 h),fun h=>by rw[h];rfl⟩
abbrev D0:=Int×D3
def A4:List D0->Int->Rat
 | [],_=>0
 |e::v,i=>(if e.1=i then rv e.2 else 0)+A4 v i
def Hf (v:List D0):Prop:=v.Pairwise fun a b=>a.1<b.1
instance (v:List D0):Decidable (Hf v):=by unfold Hf;infer_instance
def Y5 (v:List D0):Prop:=Hf v/\∀e∈v,rv e.2≠0/\e.2=rc (rv e.2)
def L6 (v:List D0) (n:Int):Prop:=Hf v/\∀e∈v,0<=e.1/\e.1<n/\rv e.2≠0
instance (v:List D0) (n:Int):Decidable (L6 v n):=by unfold L6;infer_instance
def QT (k:Nat) (v:List D0):Prop:=∀e∈v,sz k e.2
def JM (k:Nat) (l:List D3):Prop:=∀x∈l,sz k x
def CM (k:Nat) (v:List D0):Prop:=Hf v/\QT k v/\v.length<=100000
def DM (v:List D0):Prop:=∀e∈v,Jb e.2
def Zf (ok:D0×D0×Unit->Prop) (φ:D0×D0×Unit->Int):Prop:=(∀a b,ok (a,b,()))/\(∀a b c,¬φ (a,b,())<0->¬φ (b,c,())<0->¬φ (a,c,())<0)/\(∀a b,φ (a,b,())<0->¬φ (b,a,())<0)
def Xk (φ:D0×D0×Unit->Int) (l:List D0):Prop:=l.Pairwise fun a b=>¬φ (b,a,())<0
def YQ (v:List D0):Prop:=Hf v\/(v.length<=20/\QT 65536 v)
def Oj (v:List D0):Prop:=CM K1 v\/(v.length<=20/\QT 65536 v)
def Rj (i:Int):A4 [] i=0:=rfl
def D2 {v:List D0} {i:Int} (h:∀e∈v,e.1≠i):A4 v i=0:=by
 induction v with
 |nil=>rfl
 |cons e v u=>
  rw[A4,qL (h e (rC ..)),u fun x hx=>h x (qJ _ hx),tH]
def M7 (a b:List D0) (i:Int):A4 (a++b) i=A4 a i+A4 b i:=by
 induction a with
 |nil=>rw[vJ,Rj,tH]
 |cons e a u=>rw[wG,A4,A4,u,yF]
def H8 {e:D0} {v:List D0} :Hf (e::v)↔(∀x∈v,e.1<x.1)/\Hf v:=g3q
def Fx {e:D0} {v:List D0} (h:Hf (e::v)):Hf v:=(H8.1 h).2
def M5 {e:D0} {v:List D0} (h:Hf (e::v)):A4 (e::v) e.1=rv e.2:=by
 rw[A4,qT rfl,D2 fun x hx u=>by have:=(H8.1 h).1 x hx;omega,rO]
def BS {e:D0} {v:List D0} (h:Hf (e::v)) {i:Int} (hi:i<e.1):A4 (e::v) i=0:=
 D2 fun x hx=>by
  rcases qG.1 hx with rfl|hx
  . omega
  . have:=(H8.1 h).1 x hx;omega
def Bo {e:D0} {v:List D0} {i:Int} (hi:e.1≠i):A4 (e::v) i=A4 v i:=by
 rw[A4,qL hi,tH]
def Q4 {v:List D0} (h:Hf v) {e:D0} (u:e∈v):A4 v e.1=rv e.2:=by
 induction v with
 |nil=>cases u
 |cons x v ih=>
  rcases qG.1 u with rfl|u
  . exact M5 h
  . have:=(H8.1 h).1 e u;rw[Bo (by omega),ih (Fx h) u]
def BT {v:List D0} {i:Int} (h:A4 v i≠0):∃e∈v,e.1=i:=
 qU fun hn=>h (D2 fun e u hi=>hn ⟨e,u,hi⟩)
def Yk:Y5 []:=⟨List.Pairwise.nil,fun _ h=>by cases h⟩
def YX {e:D0} {v:List D0} (h:Y5 (e::v)):Y5 v:=⟨Fx h.1,fun x hx=>h.2 x (qJ _ hx)⟩
def gI:∀ {a b:List D0},Y5 a->Y5 b->(∀i,A4 a i=A4 b i)->a=b
 | [],[],_,_,_=>rfl
 | [],e::b,_,hb,h=>absurd ((M5 hb.1).symm.trans (h e.1).symm) (hb.2 e (rC ..)).1
 |e::a,[],u,_,h=>absurd ((M5 u.1).symm.trans (h e.1)) (u.2 e (rC ..)).1
 |e::a,f::b,u,hb,h=>by
  have h1:=u.2 e (rC ..);have h2:=hb.2 f (rC ..);have he:e.1=f.1:=by
   rcases zN e.1 f.1 with hl|hl|hl
   . have:=h e.1;rw[M5 u.1,BS hb.1 hl]at this;exact absurd this h1.1
   . exact hl
   . have:=h f.1;rw[M5 hb.1,BS u.1 hl]at this;exact absurd this.symm h2.1
  have hv:rv e.2=rv f.2:=by
   have:=h e.1;rw[M5 u.1,he,M5 hb.1]at this;exact this
  have a0:e=f:=by
   obtain⟨i,x⟩:=e;obtain⟨j,y⟩:=f;simp only at he hv h1 h2;rw[he,h1.2,h2.2,hv]
  subst a0;rw[gI (YX u) (YX hb) fun i=>by
   by_cases hi:e.1=i
   . subst hi;rw[D2 fun x hx a1=>by have:=(H8.1 u.1).1 x hx;omega,D2 fun x hx a1=>by have:=(H8.1 hb.1).1 x hx;omega]
   . have:=h i;rwa[Bo hi,Bo hi]at this]
def gC {v:List D0} {e:D0} (h:Hf v) (he:∀x∈v,x.1<e.1):Hf (v++ [e]):=by
 unfold Hf;rw[tY];refine⟨h,zI ..,fun a u b hb=> ?_⟩;rw[qR]at hb;subst hb;exact he a u
def Lh {v:List D0} {i:Int} {q:Rat} (h:Y5 v) (hq:q≠0) (u:∀x∈v,x.1<i):Y5 (v++ [(i,rc q)]):=by
 refine⟨gC h.1 u,fun x hx=> ?_⟩;rcases rA.1 hx with hx|hx
 . exact h.2 x hx
 . rw[qR]at hx;subst hx;simp only[E5];exact⟨hq,trivial⟩
def Fg (v:List D0) (i:Int) (q:Rat) (j:Int):A4 (v++ [(i,rc q)]) j=A4 v j+(if i=j then q else 0):=by
 rw[M7];simp only[A4,E5,rO]
def IH {v:List D0} (h:Y5 v) {k:Nat} (hq:∀i,qs k (A4 v i)):QT k v:=fun e u=>by
 rw[(h.2 e u).2, <-Q4 h.1 u];exact hq _
def II {v:List D0} (h:Hf v) (hl:DM v) {k:Nat} (hs:QT k v) (hk:1<=k) (i:Int):qs k (A4 v i):=by
 by_cases hi:∃e∈v,e.1=i
 . obtain⟨e,u,rfl⟩:=hi;rw[Q4 h u];exact Je (hl e u) (hs e u) hk
 . rw[D2 fun e u a0=>hi ⟨e,u,a0⟩];exact R2 hk
def Fw {v:List D0} {n:Int} (h:L6 v n):(v.length:Int)<=max n 0:=by
 have key:∀(v:List D0) (k n:Int),Hf v->(∀e∈v,k<=e.1/\e.1<n)->(v.length:Int)<=max (n-k) 0:=by
  intro v
  induction v with
  |nil=>intro k n _ _;simp only[xI];omega
  |cons e v ih=>
   intro k n u hb;have h1:=hb e (rC ..);have:=ih (e.1+1) n (Fx u) fun x hx=>⟨by have:=(H8.1 u).1 x hx;omega,(hb x (qJ _ hx)).2⟩
   simp only[rH];omega
 have:=key v 0 n h.1 fun e he=>⟨(h.2 e he).1,(h.2 e he).2.1⟩
 omega
abbrev Dj:=Int×Int×List (List D0)
def el (m:Dj) (i j:Nat):Rat:=A4 (m.2.2.getD i []) (j:Int)
def E8 (m:Dj):Prop:=0<=m.1/\m.1<=16384/\0<=m.2.1/\m.2.1<=16384/\(m.2.2.length:Int)=m.1/\∀v∈m.2.2,L6 v m.2.1
instance (m:Dj):Decidable (E8 m):=by unfold E8;infer_instance
def zm:Dj:=(0,0,[])
def Pu (R C:Nat) (f:Nat->Nat->Rat) (m:Dj):Prop:=
 m.1=(R:Int)/\m.2.1=(C:Int)/\m.2.2.length=R/\∀i,i<R->Y5 (m.2.2.getD i [])/\(∀e∈m.2.2.getD i [],0<=e.1/\e.1<(C:Int))/\∀j,j<C->A4 (m.2.2.getD i []) (j:Int)=f i j
def PQ (n:Nat) (f:Nat->Rat) (v:List D0):Prop:=Y5 v/\(∀e∈v,0<=e.1/\e.1<(n:Int))/\∀j,j<n->A4 v (j:Int)=f j
def IM {n:Nat} {f:Nat->Rat} {v:List D0} (h:PQ n f v) (i:Int):A4 v i=if 0<=i/\i<(n:Int)then f i.toNat else 0:=by
 by_cases hi:0<=i/\i<(n:Int)
 . rw[qT hi, <-h.2.2 i.toNat (by omega)];congr 1;omega
 . rw[qL hi,D2 fun e he u=>hi (by rw[<-u];exact h.2.1 e he)]
def B2j {n:Nat} {f g:Nat->Rat} {a b:List D0} (u:PQ n f a) (hb:PQ n g b) (h:∀j,j<n->f j=g j):a=b:=
 gI u.1 hb.1 fun i=>by
  rw[IM u,IM hb];split
  . exact h _ (by omega)
  . rfl
def A2k {n:Nat} {f g:Nat->Rat} {v:List D0} (h:PQ n f v) (e:∀j,j<n->f j=g j):PQ n g v:=⟨h.1,h.2.1,fun j u=>by rw[h.2.2 j u,e j u]⟩
def H2 {α:Type} (l:List α) (d:α) {i:Nat} (h:i<l.length):l.getD i d=l[i]:=by rw[qF,qS h];rfl
def B2i {R C:Nat} {f g:Nat->Nat->Rat} {a b:Dj} (ha:Pu R C f a) (hb:Pu R C g b) (h:∀i j,i<R->j<C->f i j=g i j):a=b:=by
 obtain⟨r,c,d⟩:=a;obtain⟨r',c',d'⟩:=b;obtain⟨u,a2,a3,a4⟩:=ha;obtain⟨b1,b2,b3,b4⟩:=hb;simp only at u a2 a3 a4 b1 b2 b3 b4;subst u;subst a2;subst b1;subst b2;have:d=d':=by
  refine g1n (by omega) fun i h1 h2=> ?_
  have x1:=a4 i (by omega);have x2:=b4 i (by omega);have:=B2j x1 x2 fun j hj=>h i j (by omega) hj
  rwa[H2 _ _ h1,H2 _ _ h2]at this
 rw[this]
def mV {R C:Nat} {f:Nat->Nat->Rat} {m:Dj} (h:Pu R C f m) {i j:Nat} (hi:i<R) (u:j<C):el m i j=f i j:=(h.2.2.2 i hi).2.2 j u
def C6 {α:Type} {l:List α} {i:Nat} {d:α} (h:i<l.length):l.getD i d∈l:=by rw[H2 _ _ h];exact wY h
def Bc {α:Type} {l:List α} {x:α} (d:α) (h:x∈l):∃i,i<l.length/\l.getD i d=x:=by
 obtain⟨i,hi,e⟩:=uT.1 h;exact⟨i,hi,by rw[H2 _ _ hi];exact e⟩
def ZR {n:Nat} {f:Nat->Rat} {v:List D0} (h:PQ n f v):L6 v (n:Int):=⟨h.1.1,fun e u=>⟨(h.2.1 e u).1,(h.2.1 e u).2,(h.1.2 e u).1⟩⟩
def CC {R C:Nat} {f:Nat->Nat->Rat} {m:Dj} (h:Pu R C f m) (hR:R<=16384) (hC:C<=16384):E8 m:=by
 obtain⟨h1,u,h3,h4⟩:=h;refine⟨by omega,by omega,by omega,by omega,by omega,fun v hv=> ?_⟩;obtain⟨i,hi,rfl⟩:=Bc [] hv;rw[u];exact ZR (h4 i (by omega))
def Di (k:Nat) (m:Dj):Prop:=∀v∈m.2.2,QT k v
def nA (m:Dj):Prop:=∀v∈m.2.2,DM v
def dD {R C k:Nat} {f:Nat->Nat->Rat} {m:Dj} (h:Pu R C f m) (hk:1<=k) (u:∀i j,i<R->j<C->qs k (f i j)):Di k m:=fun v hv=>by
 obtain⟨i,hi,rfl⟩:=Bc [] hv;rw[h.2.2.1]at hi;refine IH (h.2.2.2 i hi).1 fun j=> ?_
 rw[IM (h.2.2.2 i hi)];split
 . exact u i _ hi (by omega)
 . exact R2 hk
def PP (f:Int->Rat) (v:List D0):Prop:=Y5 v/\∀i,A4 v i=f i
def dl (n:Int) (f:Int->Rat):List D3:=(List.range n.toNat).map fun j:Nat=>rc (f (j:Int))
def Yv (x:D3):Prop:=∃q,qs 1 q/\x=rc q
def C9:Nat->(Nat->Rat)->Rat
 |0,_=>0
 |n+1,f=>C9 n f+f n
def B9 {n:Nat} {f g:Nat->Rat} (h:∀i,i<n->f i=g i):C9 n f=C9 n g:=by
 induction n with
 |zero=>rfl
 |succ n u=>rw[C9,C9,u fun i hi=>h i (by omega),h n (by omega)]
def Bq {n:Nat} {f:Nat->Rat} (h:∀i,i<n->f i=0):C9 n f=0:=by
 induction n with
 |zero=>rfl
 |succ n u=>rw[C9,u fun i hi=>h i (by omega),h n (by omega),rO]
def Gl (n:Nat) (f g:Nat->Rat):C9 n (fun i=>f i+g i)=C9 n f+C9 n g:=by
 induction n with
 |zero=>rw[C9,C9,C9,rO]
 |succ n u=>rw[C9,C9,C9,u];grind
def Mm (n:Nat) (c:Rat) (f:Nat->Rat):C9 n (fun i=>c*f i)=c*C9 n f:=by
 induction n with
 |zero=>rw[C9,C9,uX]
 |succ n u=>rw[C9,C9,u,Rat.mul_add]
def MV (n:Nat) (c:Rat) (f:Nat->Rat):C9 n (fun i=>f i*c)=C9 n f*c:=by
 induction n with
 |zero=>rw[C9,C9,tL]
 |succ n u=>rw[C9,C9,u,g2z]
def Lk (m n:Nat) (f:Nat->Nat->Rat):C9 m (fun i=>C9 n (f i))=C9 n fun j=>C9 m fun i=>f i j:=by
 induction m with
 |zero=>rw[C9];exact(Bq fun _ _=>rfl).symm
 |succ m u=>
  rw[C9,u, <-Gl];exact B9 fun j _=>rfl
def O5 {n k:Nat} {f:Nat->Rat} (hk:k<n) (h:∀i,i<n->i≠k->f i=0):C9 n f=f k:=by
 induction n with
 |zero=>omega
 |succ n ih=>
  rw[C9];by_cases u:k=n
  . subst u;rw[Bq fun i hi=>h i (by omega) (by omega),tH]
  . rw[ih (by omega) fun i hi=>h i (by omega),h n (by omega) (by omega),rO]
def B3k {n k:Nat} {f:Nat->Rat} (u:∀i,i<n->qs k (f i)):qs (n*(k+1)+1) (C9 n f):=by
 induction n with
 |zero=>rw[C9];exact R2 (by omega)
 |succ n ih=>
  rw[C9];refine N3 (UZ (ih fun i hi=>u i (by omega)) (u n (by omega))) ?_;rw[uP,xN];omega
def Ub:List D0->(Int->Rat)->Rat
 | [],_=>0
 |e::v,h=>rv e.2*h e.1+Ub v h
def iC (a b:List D0) (h:Int->Rat):Ub (a++b) h=Ub a h+Ub b h:=by
 induction a with
 |nil=>rw[vJ,Ub,tH]
 |cons e a u=>rw[wG,Ub,Ub,u,yF]
def ZG {d:D0} {v:List D0} {i:Int} (u:0<=i) (h1:i<(v.length:Int)) (h:Int->Rat):Ub (v.take (i+1).toNat) h=Ub (v.take i.toNat) h+rv (gx d v i).2*h (gx d v i).1:=by
 rw[show(i+1).toNat=i.toNat+1 from by omega,rR,G8 (d:=d) u h1,iC];simp only[g0z,Ub,rO]
def pK {v:List D0} {n:Nat} (u:∀e∈v,0<=e.1/\e.1<(n:Int)) (h:Int->Rat):Ub v h=C9 n fun j=>A4 v (j:Int)*h (j:Int):=by
 induction v with
 |nil=>rw[Ub];exact(Bq fun j _=>tL _).symm
 |cons e v ih=>
  obtain⟨h0,h1⟩:=u e (rC ..);rw[Ub,ih fun x hx=>u x (qJ _ hx)];have e1:(C9 n fun j=>A4 (e::v) (j:Int)*h (j:Int))=(C9 n fun j=>(if e.1=(j:Int)then rv e.2 else 0)*h (j:Int))+C9 n fun j=>A4 v (j:Int)*h (j:Int):=by
   rw[<-Gl];exact B9 fun j _=>by rw[A4,g2z]
  have e2:(C9 n fun j=>(if e.1=(j:Int)then rv e.2 else 0)*h (j:Int))=rv e.2*h e.1:=by
   rw[O5 (k:=e.1.toNat) (by omega) fun i _ hi=>by rw[qL (by omega),tL],qT (by omega),show((e.1.toNat:Nat):Int)=e.1 from by omega]
  rw[e1,e2]
def aW:rv zr=0:=yQ _
def put (i:Int) (x:D3) (l:List D0):List D0:=if rv x=0 then l else(i,x)::l
def H7 (φ:D3×D3×Unit->D3):List D0->List D0->List D0
 | [],[]=> []
 |e::a,[]=>put e.1 (φ (e.2,zr,())) (H7 φ a [])
 | [],f::b=>put f.1 (φ (zr,f.2,())) (H7 φ [] b)
 |e::a,f::b=>if e.1<f.1 then put e.1 (φ (e.2,zr,())) (H7 φ a (f::b))else if e.1=f.1 then put e.1 (φ (e.2,f.2,())) (H7 φ a b)else put f.1 (φ (zr,f.2,())) (H7 φ (e::a) b)
termination_by a b=>a.length+b.length
def Yn (i:Int) (q:Rat) (l:List D0) (j:Int):A4 (put i (rc q) l) j=(if i=j then q else 0)+A4 l j:=by
 unfold put;rw[E5];split
 . rename_i h;subst h;simp only[ite_self,tH]
 . rw[A4,E5]
def JF {i:Int} {x:D3} {l:List D0} {e:D0} (h:e∈put i x l):e.1=i\/e∈l:=by
 unfold put at h;split at h
 . exact .inr h
 . rcases qG.1 h with rfl|h
   . exact .inl rfl
   . exact .inr h
def Yl {i:Int} {q:Rat} {l:List D0} (h:Y5 l) (hl:∀e∈l,i<e.1):Y5 (put i (rc q) l):=by
 unfold put;rw[E5];split
 . exact h
 . rename_i h0;refine⟨H8.2 ⟨hl,h.1⟩,fun e u=> ?_⟩;rcases qG.1 u with rfl|u
   . simp only[E5];exact⟨h0,trivial⟩
   . exact h.2 e u
def NV (φ:D3×D3×Unit->D3) (g:Rat->Rat->Rat) (g0:g 0 0=0) (a b:List D0):
 (∀x y,(x=zr\/∃e∈a,e.2=x)->(y=zr\/∃e∈b,e.2=y)->φ (x,y,())=rc (g (rv x) (rv y)))->Hf a->Hf b->
 Y5 (H7 φ a b)/\(∀e∈H7 φ a b,(∃x∈a,x.1=e.1)\/∃y∈b,y.1=e.1)/\∀i,A4 (H7 φ a b) i=g (A4 a i) (A4 b i):=by
 induction a,b using H7.induct with
 |case1=>
  intro _ _ _;rw[H7];exact⟨Yk,fun e he=>(by cases he),fun i=>g0.symm⟩
 |case2 e a ih=>
  intro a0 ha hb;obtain⟨h1,h2,h3⟩:=ih (fun x y hx hy=>a0 x y (hx.imp id fun⟨z,hz,u⟩=>⟨z,qJ _ hz,u⟩) hy) (Fx ha) hb;rw[H7,a0 e.2 zr (.inr ⟨e,rC ..,rfl⟩) (.inl rfl),aW];refine⟨Yl h1 fun x hx=> ?_,fun x hx=> ?_,fun i=> ?_⟩
  . rcases h2 x hx with⟨z,hz,u⟩ | ⟨z,hz,_⟩
    . rw[<-u];exact(H8.1 ha).1 z hz
    . cases hz
  . rcases JF hx with hx|hx
    . exact .inl ⟨e,rC ..,hx.symm⟩
    . exact(h2 x hx).imp (fun⟨z,hz,u⟩=>⟨z,qJ _ hz,u⟩) id
  . rw[Yn,h3,Rj];by_cases hi:e.1=i
    . subst hi;rw[qT rfl,M5 ha,D2 fun x hx a3=>by have:=(H8.1 ha).1 x hx;omega,g0,rO]
    . rw[qL hi,Bo hi,tH]
 |case3 f b ih=>
  intro a0 ha hb;obtain⟨h1,h2,h3⟩:=ih (fun x y hx hy=>a0 x y hx (hy.imp id fun⟨z,hz,u⟩=>⟨z,qJ _ hz,u⟩)) ha (Fx hb);rw[H7,a0 zr f.2 (.inl rfl) (.inr ⟨f,rC ..,rfl⟩),aW];refine⟨Yl h1 fun x hx=> ?_,fun x hx=> ?_,fun i=> ?_⟩
  . rcases h2 x hx with⟨z,hz,_⟩ | ⟨z,hz,u⟩
    . cases hz
    . rw[<-u];exact(H8.1 hb).1 z hz
  . rcases JF hx with hx|hx
    . exact .inr ⟨f,rC ..,hx.symm⟩
    . exact(h2 x hx).imp id fun⟨z,hz,u⟩=>⟨z,qJ _ hz,u⟩
  . rw[Yn,h3,Rj];by_cases hi:f.1=i
    . subst hi;rw[qT rfl,M5 hb,D2 fun x hx a3=>by have:=(H8.1 hb).1 x hx;omega,g0,rO]
    . rw[qL hi,Bo hi,tH]
 |case4 e a f b a1 ih=>
  intro a0 ha hb;obtain⟨h1,h2,h3⟩:=ih (fun x y hx hy=>a0 x y (hx.imp id fun⟨z,hz,u⟩=>⟨z,qJ _ hz,u⟩) hy) (Fx ha) hb;rw[H7,qT a1,a0 e.2 zr (.inr ⟨e,rC ..,rfl⟩) (.inl rfl),aW];refine⟨Yl h1 fun x hx=> ?_,fun x hx=> ?_,fun i=> ?_⟩
  . rcases h2 x hx with⟨z,hz,u⟩ | ⟨z,hz,u⟩
    . rw[<-u];exact(H8.1 ha).1 z hz
    . rw[<-u];rcases qG.1 hz with rfl|hz
      . exact a1
      . have:=(H8.1 hb).1 z hz;omega
  . rcases JF hx with hx|hx
    . exact .inl ⟨e,rC ..,hx.symm⟩
    . exact(h2 x hx).imp (fun⟨z,hz,u⟩=>⟨z,qJ _ hz,u⟩) id
  . rw[Yn,h3];by_cases hi:e.1=i
    . subst hi;rw[qT rfl,M5 ha,D2 (v:=a) fun x hx a3=>by have:=(H8.1 ha).1 x hx;omega,BS hb a1,g0,rO]
    . rw[qL hi,Bo hi,tH]
 |case5 e a f b a1 a2 ih=>
  intro a0 ha hb;obtain⟨h1,h2,h3⟩:=ih (fun x y hx hy=>a0 x y (hx.imp id fun⟨z,hz,u⟩=>⟨z,qJ _ hz,u⟩) (hy.imp id fun⟨z,hz,u⟩=>⟨z,qJ _ hz,u⟩)) (Fx ha) (Fx hb);rw[H7,qL a1,qT a2,a0 e.2 f.2 (.inr ⟨e,rC ..,rfl⟩) (.inr ⟨f,rC ..,rfl⟩)];refine⟨Yl h1 fun x hx=> ?_,fun x hx=> ?_,fun i=> ?_⟩
  . rcases h2 x hx with⟨z,hz,u⟩ | ⟨z,hz,u⟩
    . rw[<-u];exact(H8.1 ha).1 z hz
    . rw[<-u,a2];exact(H8.1 hb).1 z hz
  . rcases JF hx with hx|hx
    . exact .inl ⟨e,rC ..,hx.symm⟩
    . exact(h2 x hx).imp (fun⟨z,hz,u⟩=>⟨z,qJ _ hz,u⟩) fun⟨z,hz,u⟩=>⟨z,qJ _ hz,u⟩
  . rw[Yn,h3];by_cases hi:e.1=i
    . subst hi;have a4:=M5 hb;rw[<-a2]at a4;rw[qT rfl,M5 ha,a4,D2 (v:=a) fun x hx a3=>by have:=(H8.1 ha).1 x hx;omega,D2 (v:=b) fun x hx a3=>by have:=(H8.1 hb).1 x hx;omega,g0,rO]
    . rw[qL hi,Bo hi,Bo (e:=f) (by omega),tH]
 |case6 e a f b a1 a2 ih=>
  intro a0 ha hb;obtain⟨h1,h2,h3⟩:=ih (fun x y hx hy=>a0 x y hx (hy.imp id fun⟨z,hz,u⟩=>⟨z,qJ _ hz,u⟩)) ha (Fx hb);rw[H7,qL a1,qL a2,a0 zr f.2 (.inl rfl) (.inr ⟨f,rC ..,rfl⟩),aW];refine⟨Yl h1 fun x hx=> ?_,fun x hx=> ?_,fun i=> ?_⟩
  . rcases h2 x hx with⟨z,hz,u⟩ | ⟨z,hz,u⟩
    . rw[<-u];rcases qG.1 hz with rfl|hz
      . omega
      . have:=(H8.1 ha).1 z hz;omega
    . rw[<-u];exact(H8.1 hb).1 z hz
  . rcases JF hx with hx|hx
    . exact .inr ⟨f,rC ..,hx.symm⟩
    . exact(h2 x hx).imp id fun⟨z,hz,u⟩=>⟨z,qJ _ hz,u⟩
  . rw[Yn,h3];by_cases hi:f.1=i
    . subst hi;rw[qT rfl,M5 hb,D2 (v:=b) fun x hx a3=>by have:=(H8.1 hb).1 x hx;omega,BS ha (by omega),g0,rO]
    . rw[qL hi,Bo (e:=f) hi,tH]
def iO (p:Int->Bool) (l:List Int):Int:=match l.findIdx? p with
 |some i=>(i:Int)
 |none=> -1
def B9y (v:List D0):List D0:=H7 (fun x=>rc (rv x.1)) v []
def A3a {v:List D0} (h:Hf v):Y5 (B9y v)/\∀i,A4 (B9y v) i=A4 v i:=by
 obtain⟨h1,_,u⟩:=NV (fun x=>rc (rv x.1)) (fun p _=>p) rfl v [] (fun _ _ _ _=>rfl) h List.Pairwise.nil;exact⟨h1,u⟩
def fill {α:Type} (n i:Nat) (F:Nat->α) (out:List α):Prop:=out.length=n/\∀j,j<i->out[j]? =some (F j)
def A8h {α:Type} {i:Int} (F:Nat->α) (u:0<=i):(List.range (i+1).toNat).map F=(List.range i.toNat).map F++ [F i.toNat]:=by
 rw[show(i+1).toNat=i.toNat+1 from by omega,g0e,uY];rfl
def iD (n i:Nat) (P:Nat->List D0->Prop) (out:List (List D0)):Prop:=out.length=n/\∀j,j<i->P j (out.getD j [])
def B6j {n:Nat} {P:Nat->List D0->Prop} {out:List (List D0)} (h:out.length=n):iD n 0 P out:=⟨h,fun _ u=>by omega⟩
def A2d {n:Nat} {i:Int} {P:Nat->List D0->Prop} {out:List (List D0)} {x:List D0} (h:iD n i.toNat P out) (h0:0<=i) (hi:i<(n:Int)) (hx:P i.toNat x):iD n (i+1).toNat P (out.set i.toNat x):=by
 refine⟨by rw[qN];exact h.1,fun j hj=> ?_⟩;rw[qF,xL];by_cases u:i.toNat=j
 . rw[qT u,qT (by rw[h.1];omega), <-u];exact hx
 . rw[qL u, <-qF];exact h.2 j (by omega)
def eO {k:Nat} {m:Dj} (u:E8 m) (hs:Di k m) {v:List D0} (h:v∈m.2.2):CM k v:=by
 refine⟨(u.2.2.2.2.2 v h).1,hs v h, ?_⟩;have:=Fw (u.2.2.2.2.2 v h);have:=u.2.2.2.1;have:=u.2.2.1;omega
def B2k {n:Nat} {f:Nat->Rat} {v:List D0} {g:Int->Rat} (h:PP g v) (h1:∀i,¬(0<=i/\i<(n:Int))->g i=0) (h2:∀j:Nat,j<n->g (j:Int)=f j):PQ n f v:=by
 refine⟨h.1,fun e u=> ?_,fun j hj=>by rw[h.2,h2 j hj]⟩;refine qU fun hn=> ?_
 have e1:=Q4 h.1.1 u;rw[h.2,h1 _ hn]at e1;exact(h.1.2 e u).1 e1.symm
def A4g {v:List D0} {n i:Int} (h:L6 v n) (hi:¬(0<=i/\i<n)):A4 v i=0:=D2 fun e he u=>hi (by rw[<-u];exact⟨(h.2 e he).1,(h.2 e he).2.1⟩)
abbrev LUV:=List Int×List Int×Dj×Dj
def fF:LUV:=([],[],zm,zm)
def L5 (p:List Int) (n:Int):Prop:=(p.length:Int)=n/\(∀i∈p,0<=i/\i<n)/\p.Nodup
instance (p:List Int) (n:Int):Decidable (L5 p n):=by unfold L5;infer_instance
def sqr (m:Dj) (n:Int):Prop:=m.1=n/\m.2.1=n/\E8 m
instance (m:Dj) (n:Int):Decidable (sqr m n):=by unfold sqr;infer_instance
def Cl (f:LUV) (n:Int):Prop:=L5 f.1 n/\L5 f.2.1 n/\sqr f.2.2.1 n/\sqr f.2.2.2 n/\∀i j:Nat,(i:Int)<n->(j:Int)<n->(i<j->el f.2.2.1 i j=0)/\el f.2.2.1 i i=1/\(j<i->el f.2.2.2 i j=0)/\el f.2.2.2 i i≠0
def luM (f:LUV) (n:Nat) (i j:Nat):Rat:=C9 n fun k=>el f.2.2.1 i k*el f.2.2.2 k j
def nonsing (n:Nat) (A:Nat->Nat->Rat):Prop:=∀x:Nat->Rat,(∀i,i<n->C9 n (fun j=>A i j*x j)=0)->∀j,j<n->x j=0
def sK (s:Nat):Nat->Nat
 |0=>s
 |k+1=>4*sK s k+1
def gK (s T:Nat):Nat->Nat
 |0=>T
 |k+1=>2*gK s T k+s+1
def hK (s Y:Nat):Nat->Nat
 |0=>Y
 |k+1=>2*hK s Y k+2*s+1
def ix (p:List Int) (i:Nat):Nat:=(p.getD i 0).toNat
end Go.Proofs.YtiflhbllbgajeaaGreat
namespace Go.Proofs.YtiflhbllbgajeaaGreat
open Go.IntKind (i64 u64 u32)
abbrev Ln:=Int×Int
def I1 (s:List Int) (i:Int):Int:=s.getD i.toNat 0
def XO (n:Int) (l:Ln):Prop:=0<=l.1/\l.1<n/\0<=l.2/\l.2<n
instance (n:Int) (l:Ln):Decidable (XO n l):=by unfold XO;infer_instance
def A8q (n:Int) (ls:List Ln):Prop:=0<=n/\n<=16384/\∀l∈ls,XO n l
def Ro (n:Int) (ls:List Ln):Int:=if n<0\/16384<n then 3 else if∀l∈ls,XO n l then 0 else 12
def UF (s:List Int):Prop:=∀i:Nat,i<s.length->0<=I1 s i/\I1 s i<=i
def JH (s:List Int):Nat->Int->Int
 |0,b=>b
 |k+1,b=>if I1 s b=b then b else JH s k (I1 s b)
def root (s:List Int) (b:Int):Int:=JH s b.toNat b
def mP (n:Int):List Int:=(List.range n.toNat).map Int.ofNat
def Fj (L:List Int) (l:Ln):List Int:=L.map fun x=>if x=max (I1 L l.1) (I1 L l.2)then min (I1 L l.1) (I1 L l.2)else x
def Al (n:Int) (ls:List Ln):List Int:=ls.foldl Fj (mP n)
def cnt (L:List Int):Nat:=((List.range L.length).filter fun(b:Nat)=>decide (I1 L (b:Int)=(b:Int))).length
end Go.Proofs.YtiflhbllbgajeaaGreat
namespace Go.Proofs.YtiflhbllbgajeaaGreat
open Go.Vc Go.Gw
open Go.IntKind (i64 u64 u32)
def JI (n:Nat) (f g:Nat->Rat):C9 n (fun i=>f i-g i)=C9 n f-C9 n g:=by
 induction n with
 |zero=>rw[C9,C9,C9];decide+kernel
 |succ n u=>rw[C9,C9,C9,u];grind
def kA {n:Nat} {f:Nat->Rat} (h:∀i,i<n->0<=f i):0<=C9 n f:=by
 induction n with
 |zero=>exact Rat.le_refl
 |succ n u=>
  rw[C9];exact Rat.add_nonneg (u fun i hi=>h i (by omega)) (h n (by omega))
def A3j {n:Nat} {f:Nat->Rat} (h:∀i,i<n->0<=f i) (h0:C9 n f=0):∀i,i<n->f i=0:=by
 induction n with
 |zero=>intro i hi;omega
 |succ n ih=>
  rw[C9]at h0;have h1:=kA (n:=n) fun i hi=>h i (by omega)
  have h2:=h n (by omega);have e2:f n=0:=by grind
  have e1:C9 n f=0:=by grind
  intro i hi;by_cases u:i=n
  . subst u;exact e2
  . exact ih (fun i hi=>h i (by omega)) e1 i (by omega)
def NN (fr to:Nat->Nat) (b i:Nat):Rat:=(if fr i=b then 1 else 0)-(if to i=b then 1 else 0)
def fD (m:Nat) (fr to:Nat->Nat) (f:Nat->Rat) (b:Nat):Rat:=C9 m fun i=>NN fr to b i*f i
variable {n m:Nat} {fr to:Nat->Nat}
def Sb {φ:Nat->Rat} {a:Nat} (h:a<n):C9 n (fun b=>(if a=b then 1 else 0)*φ b)=φ a:=by
 rw[O5 h fun i _ hi=>by rw[qL (Ne.symm hi),tL],qT rfl,xW]
def pG {φ:Nat->Rat} {i:Nat} (h1:fr i<n) (u:to i<n):C9 n (fun b=>NN fr to b i*φ b)=φ (fr i)-φ (to i):=by
 rw[B9 (g:=fun b=>(if fr i=b then 1 else 0)*φ b-(if to i=b then 1 else 0)*φ b) fun b _=>by unfold NN;grind,JI,Sb h1,Sb u]
def B7u {φ D:Nat->Rat} (h:∀i,i<m->fr i<n/\to i<n):C9 m (fun i=>D i*(φ (fr i)-φ (to i)))=C9 n (fun b=>φ b*fD m fr to D b):=by
 rw[B9 (g:=fun i=>C9 n fun b=>D i*(NN fr to b i*φ b)) fun i hi=>by rw[Mm,pG (h i hi).1 (h i hi).2],Lk];refine B9 fun b _=> ?_
 unfold fD;rw[<-Mm];exact B9 fun i _=>by grind
def B2u {φ D s:Nat->Rat} (h:∀i,i<m->fr i<n/\to i<n) (hs:∀i,i<m->0<s i) (hD:∀i,i<m->D i=s i*(φ (fr i)-φ (to i))) (h0:∀b,b<n->φ b=0\/fD m fr to D b=0):∀i,i<m->φ (fr i)-φ (to i)=0:=by
 have e0:C9 m (fun i=>D i*(φ (fr i)-φ (to i)))=0:=by
  rw[B7u h];exact Bq fun b hb=>by rcases h0 b hb with e|e<;>rw[e]<;>grind
 have hq:∀x:Rat,0<=x*x:=fun x=>by
  rcases(Rat.le_total (a:=0) (b:=x))with h|h
  . exact g3c h h
  . have u:0<= -x:=by grind
    have:=g3c u u;grind
 have:=A3j (f:=fun i=>D i*(φ (fr i)-φ (to i))) (fun i hi=>by
  show 0<=D i*(φ (fr i)-φ (to i));rw[hD i hi,wL];exact g3c (Rat.le_of_lt (hs i hi)) (hq _)) e0
 intro i hi;have e:=this i hi;rw[hD i hi,wL]at e;rcases g0g.1 e with e|e
 . have:=hs i hi;rw[e]at this;exact absurd this (g3m)
 . rcases g0g.1 e with e|e<;>exact e
def flw (fr to:Nat->Nat) (s h θ:Nat->Rat) (i:Nat):Rat:=s i*(θ (fr i)-θ (to i)+h i)
def B1w (f g:Nat->Rat) (w:Rat) (b:Nat):fD m fr to (fun i=>f i+w*g i) b=fD m fr to f b+w*fD m fr to g b:=by
 unfold fD;rw[<-Mm, <-Gl];exact B9 fun i _=>by grind
def ZF {f g:Nat->Rat} (h:∀i,i<m->f i=g i) (b:Nat):fD m fr to f b=fD m fr to g b:=B9 fun i hi=>by rw[h i hi]
def TJ {f:Nat->Rat} {lab:Nat->Nat} (hb:∀i,i<m->fr i<n/\to i<n) (hl:∀i,i<m->lab (fr i)=lab (to i)) (t:Nat):C9 n (fun b=>(if lab b=t then 1 else 0)*fD m fr to f b)=0:=by
 rw[<-B7u hb];exact Bq fun i hi=>by rw[hl i hi];grind
end Go.Proofs.YtiflhbllbgajeaaGreat
