/- Part. -/
import Derived.Test.YtiflhbllbgajeaaGreatKGC
set_option linter.all false
namespace Go.Vc
open Go Go.RowKit Go.Gw
open Go.IntKind (i64 u64 u32)
section
variable {za:Zn} {w0 w:World} {Z:Nat->Prop} {B:Nat->Value} {st st0 st2:St} {E:G2}
def B7.setSame (h:B7 za w0 st E w Z B) (s:Nat) {x:DV} (c:RD w Z B E x (E s)) (b:Oo st.nx x):B7 za w0 (st.setS s x) E w Z B:=by
 have e:upd E s (E s)=E:=by
  funext t;by_cases a:t=s
  . subst a;exact C3 _ _ _
  . exact C4 _ _ _ _ a
 have:=h.setS s (x:=x) (v:=E s) (by rw[e];exact c) b;rwa[e]at this
def C1h {A:HQ} (a:B7 za w0 st2 E w Z B) (d:B6f za.n st0) (c:∀s∈A.keepS,st2.eS s=st0.eS s) (b:∀k∈A.keepL,st2.eL k=st0.eL k) (j:st2.fr=st0.fr):Mj za w0 st2 E w Z B A.keepL (kept A st0) B:=by
 have eS:∀s,(kept A st0).S s=if s∈A.keepS then st2.S s else .dead:=fun s=>by
  show((kept A st0).eS s).2= _;rw[iS];split
  . rename_i f;rw[<-c s f];rfl
  . rfl
 have eL:∀k,(kept A st0).L k=if k∈A.keepL then st2.L k else .none:=fun k=>by
  show((kept A st0).eL k).2= _;rw[iR];split
  . rename_i c;rw[<-b k c];rfl
  . rfl
 have i:∀s,(kept A st0).S s=if s∈A.keepS then st0.S s else .dead:=fun s=>by
  show((kept A st0).eS s).2= _;rw[iS];split<;>rfl
 have g:∀k,(kept A st0).L k=if k∈A.keepL then st0.L k else .none:=fun s=>by
  show((kept A st0).eL s).2= _;rw[iR];split<;>rfl
 have f:∀k b,A9 w (B k) ((kept A st0).L k) b->k∈A.keepL/\A9 w (B k) (st2.L k) b:=fun k b c=>by
  rw[eL]at c;split at c
  . rename_i h;exact⟨h,c⟩
  . exact c.elim
 refine⟨⟨a.ext,a.zlt,fun s=> ?_,fun k=> ?_,fun k h b l o r=>a.disj k h b l (f k b o).2 (f h b r).2,fun s=> ?_,fun k=> ?_,fun k c=> ?_,a.bone,a.zin,⟨d.nms.1,qX d.nms.2 (Pt _ _)⟩,a.bfix,⟨a.mrk.1,fun k b c h=>a.mrk.2 k b c (f k b h).2⟩,(by have:=a.frs;rw[j]at this;exact this),d.frf.le (Pt _ _)⟩,fun j b h=>⟨j,(f j b h).1,(f j b h).2⟩⟩
 . rw[eS];split
   . exact a.slots s
   . trivial
 . rw[eL];split
   . exact a.locs k
   . trivial
 . rw[i];split
   . exact(d.refs s).le (Pt _ _)
   . trivial
 . rw[g];split
   . exact(d.refl k).le (Pt _ _)
   . trivial
 . rw[g];split
   . exact d.fresh k (qX (Pt _ _) c)
   . rfl
def PW (i:B7 za w0 st2 E w Z B) {t:Ty} {e:TypeId} {c:C} {l:List t.den} {v:Value} (k:RC w Z B c v) (a:PV st2 t e c=some l):
 ∃xs,w.ownsRow w0.heap.size e t.size v l.length xs/\G1 (C5 t w Z) xs l/\(∀b,v.ownBlock=some b->¬Z b)/\((∃q,c= .row q/\live (st2.L q)/\v=B q)\/(root v=none/\∀q,c≠ .row q)):=by
 unfold PV at a;split at a
 . rename_i q;split at a
   . rename_i h d g f;split at a
     . rename_i d;subst d;obtain⟨d,a⟩:=D8 a;cases a;simp only[qC]at d;have g:=qS d.2;have g:=qE d.1;subst g;have d:=i.locs q;rw[f]at d;obtain⟨xs,n,o,j⟩:=d;have g:v=B q:=k;subst g;have r:∀b,(B q).ownBlock=some b->w0.heap.size<=b:=fun b d=>by
        rcases(j b d).1 with h|h
        . exact h.2
        . have:=i.nms.1;omega
       exact⟨xs,A2d n r,o,fun b d=>(j b d).2, .inl ⟨q,rfl,by rw[f];trivial,rfl⟩⟩
     . cases a
   . cases a
 . obtain⟨h,a⟩:=D8 a;cases a;have g:v= .slice none 0 0:=by rw[k.1];exact Vi h
   subst g;exact⟨[],World.ownsRow_nil _ _ _ _,rfl,fun b d=>(by cases d), .inr ⟨rfl,fun q f=>(by cases f)⟩⟩
 . cases a
def B7w {t:Ty} {v:Value} {x:t.den} (h:C5 t w Z [v] x):RC w Z B (C2r t x) v:=by
 cases t with
 |ptr t=>
  obtain⟨b,o,a,e,r⟩:=h;simp only[sI,vN]at e;exact⟨b,o,a,by rw[e];rfl,r⟩
 | _=>exact h
def B3q {n:Nat} {t:Ty} {x:t.den} :Cr n (C2r t x):=by cases t<;>trivial
def BA (n:za.b0=0) (i:B7 za w0 st2 E w Z B):∀ {shs:List Wt} {T:Type} {tl:T} {cs:List C} {vs:List Value} {p:shD shs T} {st:St} {BX:Nat->Value} {d:List Nat},Mj za w0 st2 E w Z B d st BX->Dw w Z B cs vs->Df st2 shs tl cs=some p->(∀q∈Ac shs cs,q∉d)->(Ac shs cs).Nodup->(∀c∈shs,∀k,c.pin=some k->k<st.nx/\BX k=B k)->
 ∃BX',Mj za w0 st2 E w Z B (Ac shs cs++d) (placeSh shs p st).2.1 BX'/\Dw w Z BX' (placeSh shs p st).1 vs/\(∀c∈(placeSh shs p st).1,Cr (placeSh shs p st).2.1.nx c)/\(∀k,k<st.nx->BX' k=BX k)/\st.nx<=(placeSh shs p st).2.1.nx/\(placeSh shs p st).2.2=tl
 | [],_,tl,[],vs,p,st,BX,d,c,b,a,_,_,_=>by
  simp only[Df,rD]at a;exact⟨BX,c,b,by simp[placeSh],fun _ _=>rfl,qZ _,a.symm⟩
 | [],_,_,_:: _,_,_,_,_,_,_,_,a,_,_,_=>by cases a
 | .val t::r,_,_,[],_,_,_,_,_,_,_,a,_,_,_=>by cases a
 | .own t e::r,_,_,[],_,_,_,_,_,_,_,a,_,_,_=>by cases a
 | .fix k::r,_,_,[],_,_,_,_,_,_,_,a,_,_,_=>by cases a
 | .fixB k::r,_,_,[],_,_,_,_,_,_,_,a,_,_,_=>by cases a
 | .fix k::u,T,tl,b::cs,vs,p,st,BX,d,c,⟨v,I,e,G,H⟩,a,t,s,o=>by
  simp only[Df]at a;obtain⟨r,a⟩:=D8 a;have D:Ac (.fix k::u) (b::cs)=Ac u cs:=by cases b<;>rfl
  rw[D]at t s⊢;obtain⟨BX',x,y,z,h,l,A⟩:=BA n i c H a t s (fun j F=>o j (qL _ F));subst e;have f:=o _ rB k rfl;cases b with
  |row j=>
   have:=qE r;subst this;refine⟨BX',x,⟨v,I,rfl, ?_,y⟩,fun q g=> ?_,h,l,A⟩
   . show v=BX' j;rw[h j f.1,f.2];exact G
   . rcases qG.1 g with rfl|g
     . exact rC f.1 l
     . exact z q g
  | _=>cases r
 | .fixB k::x,T,tl,b::cs,vs,p,st,BX,d,c,⟨v,O,e,M,N⟩,a,t,s,r=>by
  simp only[Df]at a;obtain⟨f,a⟩:=D8 a;have H:Ac (.fixB k::x) (b::cs)=Ac x cs:=by cases b<;>rfl
  rw[H]at t s⊢;obtain⟨BX',z,A,D,l,o,F⟩:=BA n i c N a t s (fun j I=>r j (qL _ I));subst e;have g:=r _ rB k rfl;cases b with
  |box j u=>
   cases u with
   |succ u=>cases f
   |zero=>
   have:=qE f;subst this;refine⟨BX',z,⟨v,O,rfl, ?_,A⟩,fun q h=> ?_,l,o,F⟩
   . obtain⟨y,G,J⟩:=M;exact⟨y,by rw[l j g.1,g.2];exact G,J⟩
   . rcases qG.1 h with rfl|h
     . exact rC g.1 o
     . exact D q h
  | _=>cases f
 | .val I::r,T,tl,b::cs,vs,p,st,BX,d,c,⟨v,J,e,A,D⟩,g,h,f,x=>by
  simp only[Df,bind_some,qN]at g;obtain⟨M,F,N,G,rfl⟩:=g;have y:Ac (.val I::r) (b::cs)=Ac r cs:=by cases b<;>rfl
  rw[y]at h f⊢;obtain⟨BX',j,l,o,s,t,u⟩:=BA n i c D G h f (fun H z=>x H (qL _ z));subst e;refine⟨BX',j,⟨v,J,rfl,B7w (fW A F),l⟩,fun q a=> ?_,s,t,u⟩;rcases qG.1 a with rfl|a
  . exact B3q
  . exact o q a
 | .own t h::r,T,tl,D::cs,vs,p,st,BX,d,c,⟨v,ai,e,aa,ac⟩,U,s,y,a4=>by
  simp only[Df,bind_some,qN]at U;obtain⟨M,a6,am,ad,rfl⟩:=U;subst e;obtain⟨aj,A,af,ag,ah⟩:=PW i aa a6;have ab:v.oneCell'=true:=by rcases A.2 with⟨V,_⟩ | ⟨_,_,_,V,_⟩<;>rw[V]<;>rfl
  have ak:=F5 A;have ae:∃g,Mj za w0 st2 E w Z B g (st.newL (.row t h M)) (upd BX st.nx v)/\(∀q∈Ac r cs,q∉g)/\(Ac r cs).Nodup/\(∀q,q∈Ac (.own t h::r) (D::cs)++d↔q∈Ac r cs++g):=by
   have mk:∀g,(∀q∈d,q∈g)->(∀b,root v=some b->∃q,q∈g/\A9 w (B q) (st2.L q) b)->(∀k b,root v=some b->¬A9 w (BX k) (st.L k) b)->Mj za w0 st2 E w Z B g (st.newL (.row t h M)) (upd BX st.nx v):=by
    intro g a8 o a3;refine⟨c.rel.new (v:=v) (lc:= .row t h M) ⟨aj,by rw[C3];exact AY A (rK _),af,fun b a=>by rw[C3]at a;exact⟨.inl ⟨c.rel.nms.2,(World.ownsRow.lt A b a).1⟩,ag b a⟩⟩ a3 trivial ab (fun b _ _=>by rw[n];exact rK _),fun l b f=> ?_⟩;rw[St.L_newL]at f;by_cases I:l=st.nx
    . subst I;rw[C3,qQ rfl]at f;exact o b f
    . rw[qK I,C4 _ _ _ _ I]at f;obtain⟨q,F,G⟩:=c.own l b f;exact⟨q,a8 q F,G⟩
   rcases ah with⟨q,rfl,Q,W⟩ | ⟨R,a7⟩
   . have H:Ac (.own t h::r) (.row q::cs)=q::Ac r cs:=rfl;rw[H]at s y⊢;have z:=sB.1 y;refine⟨q::d,mk _ (fun x j=>qL _ j) (fun b a=>⟨q,by simp,A9.of Q (by rw[<-W];exact a)⟩) (fun k b a=> ?_),fun x j=> ?_,z.2,fun x=>by grind⟩
     . rw[W]at a;exact c.disj i (s q (by simp)) k b (A9.of Q a)
     . intro J;rcases qG.1 J with rfl|J
       . exact z.1 j
       . exact s x (qL _ j) J
   . have H:Ac (.own t h::r) (D::cs)=Ac r cs:=by cases D<;>first|rfl|exact absurd rfl (a7 _)
     rw[H]at s y⊢;exact⟨d,mk _ (fun x j=>j) (fun b a=>by rw[R]at a;cases a) (fun k b a=>by rw[R]at a;cases a),s,y,fun x=>yN⟩
  obtain⟨g,X,a9,z,a5⟩:=ae;obtain⟨BX',N,Y,a0,O,P,a1⟩:=BA n i X ac ad a9 z (fun l f k u=>by
   obtain⟨a,b⟩:=a4 l (qL _ f) k u;exact⟨vQ a,(C4 _ _ _ _ (tT a)).trans b⟩)
  have a2:BX' st.nx=v:=by rw[O st.nx (rW _),C3]
  refine⟨BX',⟨N.rel,fun l b f=> ?_⟩,⟨v,ai,rfl,a2.symm,Y⟩,fun q o=> ?_,fun k u=> ?_,qX (uY _) P,a1⟩
  . obtain⟨q,F,G⟩:=N.own l b f;exact⟨q,(a5 q).2 F,G⟩
  . rcases qG.1 o with rfl|o
    . exact rC (rW _) P
    . exact a0 q o
  . rw[O k (vQ u),C4 _ _ _ _ (tT u)]
end
section
variable {za:Zn} {w0 w:World} {Z:Nat->Prop} {B:Nat->Value} {st st0 st2:St} {E:G2}
def UU (E:G2):List (Nat×Bool×List Wt)->List Value->List Value->Prop
 | [],b,a=>b=a
 | (s,b,shs)::l,f,d=>∃a c,f=a++c/\a.length=shs.length/\(b=true->E s= .agg a.toArray)/\(b=false->a= [E s])/\UU E l c d
def fN (za:Zn) (w0:World) (w:World) (Z:Nat->Prop) (B:Nat->Value) (st2:St):List (Nat×TypeId×List Wt)->List Value->Prop
 | [],a=>a= []
 | (k,T,shs)::l,d=>∃a c,d=a++c/\a.length=shs.length/\live (st2.L k)/\(∃b,B k= .pointer (some ⟨b,0,none⟩)/\up za w0 k b/\¬Z b/\NN w b a.toArray T)/\fN za w0 w Z B st2 l c
def cU (c:B7 za w0 st2 E w Z B):∀ {l:List (Nat×Bool×List Wt)} {r cs:List C} {a:List Value},Dw w Z B r a->gO st2 l r=some cs->∃vs,Dw w Z B cs vs/\UU E l vs a
 | [],r,cs,a,b,h=>by cases h;exact⟨a,b,rfl⟩
 | (s,b,shs)::l,r,cs,a,n,h=>by
  simp only[gO]at h;split at h
  . rename_i i j o;obtain⟨a,h⟩:=D8 h;simp only[qN]at h;obtain⟨b,k,rfl⟩:=h;simp only[qC,g0c]at a;obtain⟨b,a⟩:=a;subst b;have g:=qE a;obtain⟨b,d,f⟩:=cU c n k;have a:=c.slots s;rw[o]at a;cases i with
    |true=>
     obtain⟨c,e,a⟩:=a;exact⟨c++b,a.append d,c,b,rfl,by rw[<-g,a.len],fun _=>e,fun c=>(by cases c),f⟩
    |false=>
     have a:Dw w Z B j [E s]:=a;exact⟨[E s]++b,a.append d,[E s],b,rfl,by rw[<-g,a.len],fun c=>(by cases c),fun _=>rfl,f⟩
  . cases h
def cT (b:B7 za w0 st2 E w Z B):∀ {l:List (Nat×TypeId×List Wt)} {cs:List C},gN st2 l=some cs->∃vs,Dw w Z B cs vs/\fN za w0 w Z B st2 l vs
 | [],cs,h=>by cases h;exact⟨[],rfl,rfl⟩
 | (k,T,shs)::l,cs,h=>by
  simp only[gN]at h;split at h
  . rename_i T' a d;obtain⟨a,h⟩:=D8 h;simp only[qN]at h;obtain⟨f,c,rfl⟩:=h;simp only[qC]at a;have f:=qE a.1;subst f;have o:=qE a.2;obtain⟨f,g,i⟩:=cT b c;have c:=b.locs k;rw[d]at c;obtain⟨b,vs,e,j,k,n,a⟩:=c;exact⟨vs.toList++f,a.append g,vs.toList,f,rfl,by rw[<-o,a.len],by rw[d];trivial,⟨b,e,j,k,by simpa using n⟩,i⟩
  . cases h
def eG {k:Nat} {t:Ty} {e e':TypeId} {x:List t.den×List Nat} (a:A1n st2 t e e' k=some x):st2.L k= .nest t e e' x.1 [] x.2:=by
 unfold A1n at a;split at a
 . rename_i h d b g f c;split at a
   . rename_i b;subst b;obtain⟨b,a⟩:=D8 a;cases a;simp only[qC]at b;rw[c,qE b.1,qE b.2]
   . cases a
 . cases a
def WY {k q:Nat} {c f:Bool} {d g:Ty} {x:(LT.itM c d f g q).den} (a:A1h st2 k (.itM c d f g q)=some x):∃cur,st2.L k= .itM c d f g x.1 x.2 cur q/\q<k:=by
 simp only[A1h]at a;split at a
 . rename_i l n r s j left cur o i;obtain⟨b,a⟩:=D8 a;simp only[qC]at b;split at a
   . rename_i h;cases h;cases a;have:=qE b.1;subst this;exact⟨cur,i,qS b.2⟩
   . cases a
 . cases a
def dV {k q:Nat} {t:LT} {x:t.den} (b:A1h st2 k t=some x) (a:t.need=some q):q<k:=by
 cases t with
 |itM c d g h f=>cases a;exact(WY b).choose_spec.2
 | _=>cases a
def LA (b:B7 za w0 st2 E w Z B) {k:Nat} {t:LT} {x:t.den} (a:A1h st2 k t=some x):live (st2.L k)/\RL (up za w0 k) w Z B k (t.lc x)/\t.wf x:=by
 cases t with
 |row t e=>
  have d:=Ng a;have c:=b.locs k;rw[d]at c;refine⟨by rw[d];trivial,c, ?_⟩;obtain⟨g,d,f,_⟩:=c;exact C5.wf (Cm (Z:=fun _=>True) d (f.mono fun _ _=>C5.mono (fun _ _=>trivial) (fun _ _=>rfl)) (fun _ _=>trivial))
 |map c d f g=>
  have d:=UD a;have c:=b.locs k;rw[d]at c;refine⟨by rw[d];trivial,c, ?_⟩;obtain⟨h,j,i,e,_,_,d,g,f⟩:=c;exact C5.wf (iY (Z:=fun _=>True) d g (f.mono (fun _ _=>trivial) (fun _ _=>rfl)) trivial)
 |rows t e c=>
  obtain⟨al,d⟩:=Jb a;have f:=b.locs k;have c:=f;rw[d]at c;have c:=c.rowsR;refine⟨by rw[d];trivial,c.rl fun g h=> ?_,c.wf⟩;have i:A9 w (B k) (st2.L k) g:=by rw[d];exact(Aa fun _ _=>rfl).1 h
  obtain⟨c,d,g⟩:=f.root i;exact⟨c,g,d⟩
 |iter c d f g=>
  simp only[A1h]at a;cases d:st2.L k with
  |iter g h i j f c=>
   rw[d]at a;simp only at a;split at a
   . rename_i c;cases c;cases a;have c:=b.locs k;rw[d]at c;obtain⟨r,e,f,g,j⟩:=c;refine⟨trivial,⟨r,e,f,g,j.imp (fun h=>⟨h.1,h.2.1,rfl⟩) fun⟨m,seen,i,g,l,n,o,r,f,s⟩=>⟨m,seen,i,g,l,n,o,r,f,fun x c=>by cases c⟩⟩, ?_⟩;rcases j with⟨_,h,_⟩ | ⟨m,seen,i,g,l,n,o,r,f,s⟩
     . rw[h];intro x c;cases c
     . intro x c;obtain⟨m,_,g,h⟩:=R7.mem f c;exact⟨T6.wf' (fun _ _=>C5.wf) g,T6.wf' (fun _ _=>C5.wf) h⟩
   . cases a
  | _=>rw[d]at a;cases a
 |nest t e c=>
  have d:=eG a;have c:=b.locs k;rw[d]at c;refine⟨by rw[d];trivial,c, ?_⟩;obtain⟨f,d,_⟩:=c;rcases d.own.2 with⟨_,g⟩ | ⟨_,_,_,_,_,_,f,c,_⟩
  . show x.1.length<= _;omega
  . show x.1.length<= _;simp only[maxLen]at c;omega
 |itM c d f g q=>
  obtain⟨c,d,_⟩:=WY a;have c:=b.locs k;rw[d]at c;obtain⟨r,m,seen,h,b,f,g,a,i,j,l,n⟩:=c;refine⟨by rw[d];trivial,⟨r,m,seen,h,b,f,g,⟨a.it,a.mp,a.ok,a.all,a.rest,fun x c=>(by cases c)⟩,i,j,l,n⟩,fun y hy=> ?_⟩;obtain⟨m,_,b,c⟩:=R7.mem a.rest hy;exact⟨T6.wf' (fun _ _=>C5.wf) b,T6.wf' (fun _ _=>C5.wf) c⟩
def RL.setB {U:Nat->Prop} {B':Nat->Value} {k:Nat} {t:LT} {x:t.den} (h:RL U w Z B k (t.lc x)) (e:B' k=B k) (d:∀q,t.need=some q->B' q=B q):RL U w Z B' k (t.lc x):=by
 cases t with
 |nest t a b=>
  obtain⟨c,a,b⟩:=h;exact⟨c,⟨by rw[e];exact a.own,fun p c=>(by cases c),a.elt,a.dis,by rw[e];exact a.top⟩,by rw[e];exact b⟩
 |itM a b c f q=>
  obtain⟨r,m,seen,f,a,b,c,g⟩:=h;exact⟨r,m,seen,f,a,e.trans b,(d q rfl).trans c,g⟩
 |row t a=>obtain⟨d,a,b,c⟩:=h;exact⟨d,by rw[e];exact a,b,by rw[e];exact c⟩
 |map a b c d=>obtain⟨b,d,c,a,r⟩:=h;exact⟨b,d,c,e.trans a,r⟩
 |iter a b c d=>obtain⟨r,a,b⟩:=h;exact⟨r,e.trans a,b⟩
 |rows t a b=>
  obtain⟨g,a,⟨i,b,c⟩,d,f⟩:=h;exact⟨g,by rw[e];exact a,⟨fun p g=>(by cases g),b,c⟩,by rw[e];exact d,by rw[e];exact f⟩
def B7m (c:B7 za w0 st2 E w Z B) {k b:Nat} {t:LT} {x:t.den} (a:A1h st2 k t=some x) (h:A9 w (B k) (t.lc x) b):A9 w (B k) (st2.L k) b:=by
 cases t with
 |row t e=>exact A9.of (LA c a).1 h
 |map d f g i=>exact A9.of (LA c a).1 h
 |iter d f g i=>exact A9.of (LA c a).1 h
 |rows t e c=>
  obtain⟨al,c⟩:=Jb a;rw[c];exact(Aa fun _ _=>rfl).1 h
 |nest t e c=>rw[eG a];exact h
 |itM c d f g q=>obtain⟨d,c,_⟩:=WY a;rw[c];exact h
def YO (d:B7 za w0 st2 E w Z B) {BX:Nat->Value} {n0:Nat} (s:∀k,k<n0->BX k=B k):∀ {l:List (Nat×LT)} {x:oH l} {st:St} {c:List Nat},Mj za w0 st2 E w Z B c st BX->n0<=st.nx->A7v st2 l=some x->(∀y∈l,y.1<n0)->(∀y∈l,y.1∉c)->(l.map fun y=>y.1).Nodup->
 Mj za w0 st2 E w Z B ((l.map fun y=>y.1)++c) (putRows l x st) BX/\(putRows l x st).nx=st.nx
 | [],_,st,c,a,_,_,_,_,_=>⟨a,rfl⟩
 | (k,t)::Q,x,st,c,o,H,n,G,I,v=>by
  simp only[A7v,bind_some,qN]at n;obtain⟨l,i,R,O,rfl⟩:=n;have h:=G (k,t) (by simp);have F:=I (k,t) (by simp);simp only at h F;obtain⟨P,J,_⟩:=LA d i;have D:BX k=B k:=s k h;simp only[sA,sB]at v;have u:∀b,A9 w (BX k) (t.lc l) b->A9 w (B k) (st2.L k) b:=fun b f=>B7m d i (by rw[<-D];exact f)
  have c1:Mj za w0 st2 E w Z B (k::c) (st.setL k (t.lc l)) BX:=by
   refine⟨o.rel.addL (by omega) (J.setB D fun q N=>s q (Nat.lt_trans (dV i N) h)) (fun j b _ f a=> ?_) (by cases t<;>first|trivial|exact fun p n=>(by cases n) |exact rC (Nat.lt_trans (dV i rfl) h) H) (fun b hk f=>d.mrk.2 k b hk (u b f)),fun j b a=> ?_⟩
   . exact o.disj d F j b (u b f) a
   . rw[St.L_setL]at a;by_cases g:j=k
     . subst g;rw[qQ rfl]at a;exact⟨j,by simp,u b a⟩
     . rw[qK g]at a;obtain⟨q,A,r⟩:=o.own j b a;exact⟨q,qL _ A,r⟩
  obtain⟨z,M⟩:=YO d s c1 H O (fun y hy=>G y (qL _ hy)) (fun y hy=>by
   intro g;rcases qG.1 g with g|g
   . exact v.1 (g▸vE hy)
   . exact I y (qL _ hy) g) v.2
  refine⟨⟨z.rel,fun j b a=> ?_⟩,M⟩;obtain⟨q,A,r⟩:=z.own j b a;refine⟨q, ?_,r⟩;simp only[sA];grind
def A5a {BX:Nat->Value} :∀ {l:List (Nat×Bool×List Wt)} {cs:List C} {vs a:List Value} {st:St} {b:List Nat},Mj za w0 st2 E w Z B b st BX->Dw w Z BX cs vs->UU E l vs a->(∀c∈cs,Cr st.nx c)->
 Mj za w0 st2 E w Z B b (putS l cs st).2 BX/\Dw w Z BX (putS l cs st).1 a/\(∀c∈(putS l cs st).1,Cr st.nx c)/\(putS l cs st).2.nx=st.nx
 | [],cs,vs,a,st,b,c,d,g,f=>by rw[show vs=a from g]at d;exact⟨c,d,f,rfl⟩
 | (s,d,shs)::l,cs,vs,a,st,b,c,i,⟨o,f,e,g,j,k,n⟩,h=>by
  subst e;have a:=i.take shs.length;have f:=i.drop shs.length;rw[<-g,g2y]at a;rw[<-g,g2w]at f;rw[g]at a f;have g:RS w Z BX ⟨d,cs.take shs.length⟩ (E s):=by
   cases d with
   |true=>exact⟨o,j rfl,a⟩
   |false=>rw[k rfl]at a;exact a
  have c1:Mj za w0 st2 E w Z B b (st.setS s (.one ⟨d,cs.take shs.length⟩)) BX:=⟨c.rel.setSame s g (fun x hx=>h x (rY hx)),c.own⟩;have:=A5a (l:=l) (cs:=cs.drop shs.length) c1 f n (fun x hx=>h x (vG hx));exact this
def A4z (g:B7 za w0 st2 E w Z B) {BX:Nat->Value} {n0:Nat} (s:∀k,k<n0->BX k=B k):∀ {l:List (Nat×TypeId×List Wt)} {cs:List C} {vs:List Value} {st:St} {f:List Nat},Mj za w0 st2 E w Z B f st BX->n0<=st.nx->Dw w Z BX cs vs->fN za w0 w Z B st2 l vs->(∀c∈cs,Cr st.nx c)->(∀y∈l,y.1<n0)->(∀y∈l,y.1∉f)->(l.map fun y=>y.1).Nodup->
 B7 za w0 (putB l cs st) E w Z BX
 | [],_,_,st,f,c,_,_,_,_,_,_,_=>c.rel
 | (k,T,shs)::l,cs,vs,st,f,c,Q,F,⟨W,X,e,i,P,⟨H,I,M,R,N⟩,U⟩,u,D,G,n=>by
  subst e;have b:=F.take shs.length;have d:=F.drop shs.length;rw[<-i,g2y]at b;rw[<-i,g2w]at d;rw[i]at b d;have z:=D (k,T,shs) (by simp);have A:=G (k,T,shs) (by simp);simp only at z A;have t:BX k=B k:=s k z;simp only[sA,sB]at n;have h:∀q,A9 w (BX k) (.box T (cs.take shs.length)) q->A9 w (B k) (st2.L k) q:=fun q o=>A9.of P (by rw[<-t];exact o)
  have c1:Mj za w0 st2 E w Z B (k::f) (st.setL k (.box T (cs.take shs.length))) BX:=by
   refine⟨c.rel.addL (by omega) ⟨H,W.toArray,t.trans I,M,R,N,by simpa using b⟩ (fun j q _ o a=> ?_) (fun x r=>u x (rY r)) (fun q O J=>g.mrk.2 k q O (h q J)),fun j q a=> ?_⟩
   . exact c.disj g A j q (h q o) a
   . rw[St.L_setL]at a;by_cases v:j=k
     . subst v;rw[qQ rfl]at a;exact⟨j,by simp,h q a⟩
     . rw[qK v]at a;obtain⟨V,b,d⟩:=c.own j q a;exact⟨V,qL _ b,d⟩
  have:=A4z (l:=l) (cs:=cs.drop shs.length) g s c1 Q d U (fun x r=>u x (vG r)) (fun y hy=>D y (qL _ hy)) (fun y hy=>by
   intro a;rcases qG.1 a with a|a
   . exact n.1 (a▸vE hy)
   . exact G y (qL _ hy) a) n.2
  exact this
def Su (a:B7 za w0 st2 E w Z B):∀ {shs:List Wt} {T:Type} {tl:T} {q:T->Prop} {cs:List C} {vs:List Value} {p:shD shs T},q tl->Dw w Z B cs vs->Df st2 shs tl cs=some p->shW shs q p
 | [],_,tl,q,[],vs,p,c,_,b=>by simp only[Df,rD]at b;subst b;exact c
 | [],_,_,_,_:: _,_,_,_,_,b=>by cases b
 | .val t::r,_,_,_,[],_,_,_,_,b=>by cases b
 | .own t e::r,_,_,_,[],_,_,_,_,b=>by cases b
 | .fix k::r,_,_,_,[],_,_,_,_,b=>by cases b
 | .fixB k::r,_,_,_,[],_,_,_,_,b=>by cases b
 | .fixB k::r,_,tl,q,f::cs,vs,p,d,⟨v,h,_,g,c⟩,b=>by
  simp only[Df]at b;exact Su (shs:=r) a d c (D8 b).2
 | .fix k::r,_,tl,q,f::cs,vs,p,d,⟨v,h,_,g,c⟩,b=>by
  simp only[Df]at b;exact Su (shs:=r) a d c (D8 b).2
 | .val t::r,_,tl,q,g::cs,vs,p,f,⟨v,h,e,c,d⟩,b=>by
  simp only[Df,bind_some,qN]at b;obtain⟨y,g,z,h,rfl⟩:=b;exact⟨C5.wf (fW c g),Su a f d h⟩
 | .own t e::r,_,tl,q,f::cs,vs,p,g,⟨v,h,_,c,d⟩,b=>by
  simp only[Df,bind_some,qN]at b;obtain⟨l,f,z,h,rfl⟩:=b;obtain⟨j,b,i,_⟩:=PW a c f;exact⟨C5.wf (Cm (Z:=fun _=>True) b (i.mono fun _ _=>C5.mono (fun _ _=>trivial) (fun _ _=>rfl)) (fun _ _=>trivial)),Su a g d h⟩
def A5i (a:B7 za w0 st2 E w Z B):∀ {l:List (Nat×LT)} {x:oH l},A7v st2 l=some x->C2z l x
 | [],_,_=>trivial
 | (k,t)::r,x,b=>by
  simp only[A7v,bind_some,qN]at b;obtain⟨l,c,z,d,rfl⟩:=b;exact⟨(LA a c).2.2,A5i a d⟩
def A4b {A:HQ} {p:A.den} {a:St} (i:za.b0=0) (h:B7 za w0 st E w Z B) (b:gath A st=some (a,p)) (F:B6f za.n st0) (D:∀s∈A.keepS,a.eS s=st0.eS s) (u:∀k∈A.keepL,a.eL k=st0.eL k) (z:∀y∈A.rowL,y.1<st0.nx) (j:a.fr=st0.fr):
 A.wf p/\∃Z' B',B7 za w0 (reflect A st0 p) E w Z' B':=by
 simp only[gath,qH,bind_some]at b;obtain⟨g,_,cs,f,d,t,a,o,b⟩:=b;obtain⟨a,b⟩:=D8 b;cases b;simp only[qC,tO]at a;obtain⟨a,I⟩:=a;obtain⟨Z0,b⟩:=h.plugL i (l:=A.rowL);obtain⟨Z1,d⟩:=B7.settleSh (shs:=A.shs) (cs:=g) b;generalize settleSh (plugL A.rowL st) A.shs g=st2 at*;have a:=Gg a;simp only[HQ.cells,bind_some]at f;obtain⟨b,g,f⟩:=f;obtain⟨r,b,H⟩:=cT d g;obtain⟨g,r,J⟩:=cU d b f;refine⟨Su d (A5i d t) r o, ?_⟩;have v:=C1h d F D u j;have f:∀y∈A.rowL,y.1<A8l A.boxL st0.nx:=fun y b=>rC (z y b) (Pt _ _)
 rw[sW]at a;obtain⟨u,j,g⟩:=a;rw[sW]at j;obtain⟨M,a,u⟩:=j;rw[sW]at a;obtain⟨N,O,P⟩:=a;obtain⟨BX,a,z,D,F,j,G⟩:=BA i d v r o (fun q hq hk=>g q hk q (by simp[hq]) rfl) M (fun c hc k hk=>by
  have:=I _ hc;cases c with
  |fix i=>
   cases hk;simp only[B1g,xW]at this;obtain⟨y,b,i⟩:=this;have:=qE i;subst this;exact⟨f y b,rfl⟩
  |fixB i=>
   cases hk;simp only[B1g,xW]at this;obtain⟨y,b,i⟩:=this;have:=qE i;subst this;exact⟨ZI y b,rfl⟩
  | _=>cases hk)
 have o:∀k,k<A8l A.boxL st0.nx->BX k=B k:=F;have i:=YO d o (x:=(placeSh A.shs p (kept A st0)).2.2) a j (by rw[G];exact t) f (fun y b a=>by
  rcases qY.1 a with a|a
  . exact u y.1 a y.1 (by simp only[qY,sQ];exact .inl ⟨y,b,rfl⟩) rfl
  . exact g y.1 a y.1 (by simp only[qY,sQ];exact .inr (.inl ⟨y,b,rfl⟩)) rfl) N
 have f:=A5a (l:=A.modS) i.1 z J (by rw[i.2];exact D);refine⟨Z1,BX, ?_⟩;exact A4z d o f.1 (by rw[f.2.2.2,i.2];exact j) f.2.1 H (by rw[f.2.2.2];exact f.2.2.1) (fun y b=>ZI y b) (fun y b a=>by
  rcases qY.1 a with a|a
  . exact P y.1 a y.1 (vE b) rfl
  . rcases qY.1 a with a|a
    . exact u y.1 a y.1 (by simp only[qY,sQ];exact .inr ⟨y,b,rfl⟩) rfl
    . exact g y.1 a y.1 (by simp only[qY,sQ];exact .inr (.inr ⟨y,b,rfl⟩)) rfl) O
end
def addA (a:St) (d:Tmp) (lc:LC) (mk:Nat->C):St:=(a.newL lc).setS d (one1 (mk a.nx))
def NQ (cx:Cx) (a:St) (d:Tmp):Op->Option (Option Prop×LC×(Nat->C))
 | .alloc T=>do
  let ti<-cx.ti T
  some (none, .box T (Kw ti.ty),fun k=> .box k 0)
 | .makeSlice T c b=>do
  let ti<-cx.ti T
  let t<-slT ti.ty
  let l<-iJ a c
  let c<-iJ a b
  bif ti.nest.any (Nat.beq d)then do
   let a<-cx.ti ti.elem
   bif LR t then some (some (0<=l/\l<=c/\(ti.bytes:Int)*c<=281474976710656/\c<=9223372036854775807), .nest t ti.elem a.elem (List.replicate l.toNat t.dflt) [] (Qs t l.toNat), .row)else none
  else bif !ti.rows&&Sj t then some (some (0<=l/\l<=c/\(ti.bytes:Int)*c<=281474976710656/\c<=9223372036854775807), .row t ti.elem (List.replicate l.toNat t.dflt), .row)else none
 | _=>none
def A9n (lc:LC) (mk:Nat->C) (X:Obj) (f:Nat->Value):Prop:=
 ∀(d:Zn) (c w:World) (a:St) (E:G2) (Z:Nat->Prop) (B:Nat->Value) (h b:Nat),B7 d c a E w Z B->w.heap[b]? =some X->c.heap.size<=b->¬Z b->(∀k,¬A9 w (B k) (a.L k) b)->d.b0<=b->
  B7 d c (addA a h lc mk) (upd E h (f b)) w Z (upd B a.nx (f b))/\∀g,A9 w (f b) lc g->g=b
section
variable {za:Zn} {w0 w w':World} {st:St} {E:G2} {Z:Nat->Prop} {B:Nat->Value} {cx:Cx} {d:Tmp} {φ:Option Prop}
def C1.addA (st:St) (d:Tmp) (lc:LC) (mk:Nat->C):C1 st (addA st d lc mk):=(C1.newL _ _).trans (C1.setS _ _ _)
def B3x {a b e sz n c:Nat} {cs:Array Value} (h:w.heap[b]? =some (.cells cs e (0,0))) (g:a<=b) (d:cs.size=c*sz) (f:n<=c) (i:c<=maxLen):w.ownsRow a e sz (.slice (some ⟨b,0,none⟩) n c) n (cs.toList.take (n*sz)):=by
 refine⟨?_, .inr ⟨b,c,cs,rfl,g,h,f,i,d,rfl⟩⟩;rw[qU,sR,d];exact sX (rM _ f)
def A5u {op:Op} {lc:LC} {mk:Nat->C} (h:B7 za w0 st E w Z B) (G:H5 cx.P cx.tys=true) (a:NQ cx st d op=some (φ,lc,mk)) (H:RH φ):
 ∃(X:Obj) (f:Nat->Value),(∀ty w',Gw.E7 cx.P E ty op w' (f w'.heap.size) (w'.alloc X))/\A9n lc mk X f:=by
 unfold NQ at a;split at a
 . simp only[qH,bind_some]at a;obtain⟨ti,D,a⟩:=a;cases a;obtain⟨z,F,j⟩:=Gk (O4 (B9 G D)).2.2;rename_i T;refine⟨.cells z.cells T,fun b=> .pointer (some ⟨b,0,none⟩),fun ty w'=>A5p F,fun za w0 w st E Z B d b h i k u s o=> ?_⟩;have y:=Cw (w:=w) (Z:=Z) (B:=B) (n:=st.nx) (Dv ti.ty);have A:∀c,A9 w (.pointer (some ⟨b,0,none⟩)) (.box T (Kw ti.ty)) c->c=b:=fun c g=>by
    simp only[A9,root,rD]at g;exact g.symm
   have J:=h.new (v:= .pointer (some ⟨b,0,none⟩)) (lc:= .box T (Kw ti.ty)) ⟨b,z.cells,C3 _ _ _, .inl ⟨h.nms.2,k⟩,u,i,
    Dw.mono (n:=st.nx) (fun _=>id) (fun _ _=>rfl) (fun I r=>C4 _ _ _ _ (tT r)) y.2 (by rw[j];exact y.1)⟩
    (fun I c g r=>s I (A c g▸r)) (fun c g=>(y.2 c g).le (uY _)) rfl (fun c _ g=>by rw[A c g];exact o)
   refine⟨J.setS d (x:=one1 (.box st.nx 0)) ⟨_,[],rfl,⟨b,C3 _ _ _,rfl⟩,rfl⟩ (fun c g=> ?_),A⟩;simp at g;subst g;exact rW _
 . rename_i T J A;simp only[qH,bind_some]at a;obtain⟨ti,D,t,y,l,R,c,g,a⟩:=a;have y:=Kb y;have I:∀ {φ':Option Prop},RH (some (0<=l/\l<=c/\(ti.bytes:Int)*c<=281474976710656/\c<=9223372036854775807))->∃z:Value,z.cells.toList=Dv t/\z.cells.size=t.size/\l.toNat<=c.toNat/\c.toNat<=maxLen/\∀ty w',Gw.E7 cx.P E ty (.makeSlice T J A) w' (.slice (some ⟨w'.heap.size,0,none⟩) l.toNat c.toNat) (w'.alloc (.cells (madeCells z.cells (c.toNat*t.size)) ti.elem)):=by
    intro _ ⟨J,M,N,O⟩;obtain⟨Y,z,V,Q,F,U,j,W,i,A⟩:=Ls (B9 G D) y;obtain⟨D,y,_⟩:=h.int (F8 E) R;obtain⟨G,A,_⟩:=h.int (F8 E) g;refine⟨z,j,W,by omega,by simp only[maxLen];omega,fun ty w'=> ?_⟩;have g:=run_make (P:=cx.P) w' T ti.elem Y z V Q F D G l c J M (by rw[i];exact N) O;rw[<-U];exact fun _ _ _ _=>by simp[execOp,y,A,g]
   cases F:ti.nest.any (Nat.beq d)with
   |true=>
    simp only[F,qT,qH,bind_some]at a;obtain⟨Q,_,a⟩:=a;cases y:LR t with
    |false=>simp only[y,rF]at a;cases a
    |true=>
     simp only[y,qT]at a;cases a;obtain⟨z,j,J,M,N,g⟩:=I (φ':=none) H;obtain⟨A,D,G⟩:=eO y;rw[A]at J g;refine⟨_,fun b=> .slice (some ⟨b,0,none⟩) l.toNat c.toNat,g,fun za w0 w st E Z B d b h i k u s o=> ?_⟩;generalize A:madeCells z.cells (c.toNat*1)=g at i;have J:g.size=c.toNat*1:=by rw[<-A];simp[madeCells]
     have O:=B3x (sz:=1) i k J M N;have J:∀x∈g.toList.take (l.toNat*1),x=D:=fun x g=>by
      have g:=rY g;rw[<-A]at g;simp only[madeCells,g1m,sQ]at g;obtain⟨A,_,rfl⟩:=g;have M:z.cells.toList= [D]:=j.trans G;have N:z.cells= #[D]:=by rw[<-uX (xs:=z.cells),M]
      rw[N];simp[g4v]
     obtain⟨M,N⟩:=eP y G.symm;obtain⟨D,G⟩:=h.newNestE d (t:=t) (e':=Q.elem) (dd:=Qs t l.toNat) O (fun A x g=>by
      have:=J x (sO g);subst this;have J:A<l.toNat:=by have:=(rU.1 g).1;rw[qU]at this;omega
      exact⟨M,N _ _ _ A _ J⟩) (fun y g=>by
      simp only[Value.ownBlock,rD]at g;subst g;exact⟨u,s⟩) (fun y _ g=>by simp only[Value.ownBlock,rD]at g;subst g;exact o)
     exact⟨D,fun g r=>by have:=G g r;simp only[Value.ownBlock,rD]at this;exact this.symm⟩
   |false=>
    simp only[F,rF]at a;cases g: !ti.rows&&Sj t with
    |false=>simp only[g,rF]at a;cases a
    |true=>
     simp only[g,qT]at a;cases a;simp only[qC]at g;obtain⟨z,j,F,A,D,y⟩:=I (φ':=none) H;refine⟨_,fun b=> .slice (some ⟨b,0,none⟩) l.toNat c.toNat,y,fun za w0 w st E Z B d b h i k u s o=> ?_⟩;have y:G1 (C5 t w Z) ((madeCells z.cells (c.toNat*t.size)).toList.take (l.toNat*t.size)) (List.replicate l.toNat t.dflt):=OV j g.2 F _ _ A;generalize g:madeCells z.cells (c.toNat*t.size)=b at i y;have j:b.size=c.toNat*t.size:=by rw[<-g];simp[madeCells]
     have g:=B3x i k j A D;refine⟨h.newRowE d (t:=t) (e:=ti.elem) (l:=List.replicate l.toNat t.dflt) (by rw[rI];exact g) y (fun c b=>by
      simp only[Value.ownBlock,rD]at b;subst b;exact⟨u,s⟩) (fun c _ b=>by simp only[Value.ownBlock,rD]at b;subst b;exact o),fun b r=> ?_⟩
     have:=r;simp only[A9,root,rD]at this;exact this.symm
 . cases a
end
def HF (cx:Cx) (all:List Oper) (a:St):List Nat->(St->Prop)->St->Prop
 | [],k=>k
 |i::r,k=>fun b=>match all[i]? with
  |some o=>match NQ cx a (Gm all i) o.op with
   |some (c,lc,mk)=>bB c (HF cx all a r k (addA b (Gm all i) lc mk))
   |none=>False
  |none=>False
def A3b (all:List Oper) (f:Nat->Nat->Value) (bl:Nat->Nat):List Nat->G2->G2
 | [],E=>E
 |i::r,E=>A3b all f bl r (upd E (Gm all i) (f i (bl i)))
section
variable {za:Zn} {w0 w w':World} {Z:Nat->Prop} {cx:Cx} {all:List Oper} {st0:St} {k k':St->Prop} {f:Nat->Nat->Value} {X:Nat->Obj} {bl:Nat->Nat}
def fB:∀ {ls:List Nat} {c:St},HF cx all st0 ls k c->∀i∈ls,∃o φ lc mk,all[i]? =some o/\NQ cx st0 (Gm all i) o.op=some (φ,lc,mk)/\RH φ
 | [],_,_,_,h=>by cases h
 |i::r,c,a,j,b=>by
  simp only[HF]at a;split at a
  . rename_i o g;split at a
    . rename_i φ lc mk f;obtain⟨c,d⟩:=E1.1 a;rcases qG.1 b with rfl|b
      . exact⟨o,φ,lc,mk,g,f,c⟩
      . exact fB d j b
    . exact a.elim
  . exact a.elim
def YZ:∀ {ls:List Nat} {a:St},HF cx all st0 ls k a->(∀b,C1 a b->k b->k' b)->HF cx all st0 ls k' a
 | [],a,h,c=>c a (C1.refl a) h
 |i::r,a,h,c=>by
  simp only[HF]at h⊢;split at h
  . split at h
    . exact E1.2 ⟨(E1.1 h).1,YZ (E1.1 h).2 fun b e a=>c b ((C1.addA _ _ _ _).trans e) a⟩
    . exact h
  . exact h
def JF {x:Nat} :∀ {l:List Nat} {E:G2},x∉Bl all l->A3b all f bl l E x=E x
 | [],_,_=>rfl
 |i::l,E,h=>by
  simp only[Bl,sA,qG,g4y]at h;simp only[A3b];rw[JF h.2,C4 _ _ _ _ h.1]
def pC {i:Nat} :∀ {l:List Nat} {E:G2},(Bl all l).Nodup->i∈l->A3b all f bl l E (Gm all i)=f i (bl i)
 | [],_,_,h=>by cases h
 |j::l,E,a,h=>by
  simp only[Bl,sA]at a;obtain⟨b,c⟩:=sB.1 a;simp only[A3b];by_cases a:i∈l
  . exact pC c a
  . rcases qG.1 h with rfl|h
    . rw[JF b,C3]
    . exact absurd h a
def oM:∀ {ls:List Nat} {a:St} {E:G2} {B:Nat->Value},B7 za w0 a E w Z B->(∀i∈ls,∀o φ lc mk,all[i]? =some o->NQ cx st0 (Gm all i) o.op=some (φ,lc,mk)->A9n lc mk (X i) (f i))->
 (∀i∈ls,w.heap[bl i]? =some (X i)/\w0.heap.size<=bl i/\¬Z (bl i)/\za.b0<=bl i/\∀k,¬A9 w (B k) (a.L k) (bl i))->(∀i∈ls,∀j∈ls,i≠j->bl i≠bl j)->ls.Nodup->HF cx all st0 ls k a->∃b B',B7 za w0 b (A3b all f bl ls E) w Z B'/\k b
 | [],a,E,B,h,_,_,_,_,b=>⟨a,B,h,b⟩
 |i::D,a,E,B,x,l,d,h,c,b=>by
  simp only[HF]at b;obtain⟨z,A⟩:=sB.1 c;split at b
  . rename_i o y;split at b
    . rename_i φ lc mk g;obtain⟨_,b⟩:=E1.1 b;obtain⟨c,n,r,s,t⟩:=d i (rB);obtain⟨u,v⟩:=l i rB o φ lc mk y g za w0 w a E Z B (Gm all i) (bl i) x c n r t s;refine oM (ls:=D) (E:=upd E (Gm all i) (f i (bl i))) u (fun j c=>l j (qL _ c)) (fun j c=> ?_) (fun l g n d=>h l (qL _ g) n (qL _ d)) A b;obtain⟨c1,g,l,n,r⟩:=d j (qL _ c);refine⟨c1,g,l,n,fun q d=> ?_⟩;have g:(addA a (Gm all i) lc mk).L q=(a.newL lc).L q:=rfl;rw[g,St.L_newL]at d;by_cases g:q=a.nx
      . subst g;rw[qQ rfl,C3]at d;exact h i rB j (qL _ c) (fun e=>z (e▸c)) (v _ d).symm
      . rw[qK g,C4 _ _ _ _ g]at d;exact r q d
    . exact b.elim
  . exact b.elim
def eZ:∀(l:List Nat) (E:G2) (w:World),l.Nodup->(Bl all l).Nodup->R8 w (Gq all f X l E w).2/\∃bl:Nat->Nat,(∀i∈l,w.heap.size<=bl i/\(Gq all f X l E w).2.heap[bl i]? =some (X i)/\(Gq all f X l E w).1 (Gm all i)=f i (bl i))/\∀i∈l,∀j∈l,i≠j->bl i≠bl j
 | [],_,w,_,_=>⟨R8.refl w,fun _=>0,by simp,by simp⟩
 |i::r,E,w,d,c=>by
  obtain⟨s,o⟩:=sB.1 d;simp only[Bl,sA]at c;obtain⟨h,k⟩:=sB.1 c;obtain⟨d,bl,g,n⟩:=eZ r (upd E (Gm all i) (f i w.heap.size)) (w.alloc (X i)) o k;have c:R8 w (w.alloc (X i)):=R8.alloc w _;have o:(w.alloc (X i)).heap.size=w.heap.size+1:=Array.size_push ..;simp only[Gq];refine⟨c.trans d,fun j=>if j=i then w.heap.size else bl j,fun j c=> ?_,fun a ha b hb hab=> ?_⟩
  . rcases qG.1 c with rfl|c
    . have k:(if j=j then w.heap.size else bl j)=w.heap.size:=qQ rfl;show w.heap.size<=(if j=j then w.heap.size else bl j)/\(Gq all f X r _ _).2.heap[if j=j then w.heap.size else bl j]? = _ /\ _=f j (if j=j then w.heap.size else bl j);rw[k];refine⟨qZ _, ?_,by rw[Jc _ _ _ h,C3]⟩;rw[d.block _ (by rw[o];exact rW _)];exact heap_alloc_new w _
    . have:j≠i:=fun e=>s (e▸c)
      simp only[qK this];obtain⟨k,d,h⟩:=g j c;exact⟨by omega,d,h⟩
  . simp only;have d:∀q,q∈i::r->q≠i->q∈r:=fun q hq hqi=>(qG.1 hq).resolve_left hqi
    by_cases c:a=i
    . rw[qQ c,qK (fun e=>hab (c.trans e.symm))];have:=(g b (d b hb (fun e=>hab (c.trans e.symm)))).1;omega
    . rw[qK c];by_cases h:b=i
      . rw[qQ h];have:=(g a (d a ha c)).1;omega
      . rw[qK h];exact n a (d a ha c) b (d b hb h) hab
end
structure K where
 n:St->Prop
 x:Nat->St->Prop
 r:St->Prop
def K.at (k:K):Exit->St->Prop
 | .normal=>k.n
 | .exit i=>k.x i
 | .ret=>k.r
 | _=>fun _=>False
structure An where
 join:List (Nat×HQ):= []
 loop:List (Nat×HQ):= []
 plan:List (Nat×List Nat×List Nat×Bool×Pl):= []
def nJ:Code->Option Nat
 | .region id _ _=>some id
 | .seq a b=>match nJ a with
  |some i=>some i
  |none=>nJ b
 | .cond _ a b=>match nJ a with
  |some i=>some i
  |none=>nJ b
 | .block _ c=>nJ c
 | .loop c=>nJ c
 | _=>none
def B9w (l:List (Nat×HQ)):Option Nat->Option HQ
 |some i=>Gv i l
 |none=>none
def C8e (A:HQ) (a:St) (b:(St->Prop)->Prop) (c:St->Prop):Prop:=
 ∃J:A.den->Prop,b (OD A a J)/\∀p,A.wf p->J p->c (reflect A a p)
def C0n (A:HQ) (a:St) (d:(St->Prop)->St->Prop):Prop:=
 match gath A a with
 |some (a,f)=>bif(A.rowL.all fun x=>Nat.blt x.1 a.nx)&&(A.boxL.all fun x=>Nat.blt x.1 a.nx)then
  (∃(I:A.den->Prop) (c:A.den->Nat),I f/\∀p,A.wf p->I p->d (OD A a fun b=>I b/\c b<c p) (reflect A a p))else False
 |none=>False
def Pr (cx:Cx) (all:List Oper) (o:Oper) (k:St->Prop) (a:St):Prop:=
 match o.guard with
 |none=>match BC cx a [] o.op with
  |some (b,v)=>match o.dst with
   |some d=>bB b (k (a.setS d v))
   |none=>False
  |none=>match o.op with
   | .load T x=>match o.dst with
    |some d=>(match dX cx a d T x with
     |some b=>k b
     |none=>False)
    |none=>False
   | _=>False
 |some (j,b)=>match(all[j]?).bind (·.dst)with
  |some t=>bif Pa a 20 t then(match o.dst with
   |some d=>bif !(Nat.beq t d)then(match BC cx a (gctx a 20 t b) o.op with
    |some (c, .one s)=>bif s.cs.all (B4m a.nx)then bB (B7e (ctxP a (gctx a 20 t b)) c) (k (a.setS d (.cnd t b s)))else False
    | _=>False)else False
   |none=>False)else False
  |none=>False
def RP (cx:Cx) (all:List Oper):List Nat->(St->Prop)->St->Prop
 | [],k=>k
 |j::r,k=>fun a=>match all[j]? with
  |some o=>bif !(B3b o.op)&&B8w (eM all j) (Bl all (j::r))then Pr cx all o (RP cx all r k) a else False
  |none=>False
def Q4 (cx:Cx) (sp:H2) (all:List Oper) (tails:List Nat) (n0:Nat) (nw:Bool):Pl->Bool->Bool->(St->Prop)->St->Prop
 | .done,_,_,k=>k
 | .q i p,a,t,k=>fun b=>match all[i]? with
  |some o=>bif a|| !nw then Pr cx all o (Q4 cx sp all tails n0 nw p a t k) b else False
  |none=>False
 | .p i p,a,t,k=>fun b=>match all[i]? with
  |some o=>bif !(B3b o.op)then Pr cx all o (Q4 cx sp all tails n0 nw p a t k) b else False
  |none=>False
 | .e i p,_,t,k=>fun a=>match all[i]? with
  |some o=>bif((t||tails.contains i) || !(aT sp a o) || (nw&&frO n0 a o.op))&&(!nw||jG sp n0 a o.op)then Lb cx sp all o (Q4 cx sp all tails n0 nw p false (t||tails.contains i) k) a else False
  |none=>False
 | .or i p q,b,t,k=>fun a=>
  (match all[i]? with
  |some o=>bif((t||tails.contains i) || !(aT sp a o) || (nw&&frO n0 a o.op))&&(!nw||jG sp n0 a o.op)then Lb cx sp all o (Q4 cx sp all tails n0 nw p false (t||tails.contains i) k) a else False
  |none=>False)/\Q4 cx sp all tails n0 nw q b t k a
 | .al a b p,_,t,k=>fun c=>bif A5t all a b then HF cx all c a (RP cx all b (Q4 cx sp all tails n0 nw p false t k)) c else False
def Jh (cx:Cx) (sp:H2) (an:An):Code->K->St->Prop
 | .skip,k=>k.n
 | .label _,k=>k.n
 | .region id ops b,k=>fun a=>bif b then(match Gv id an.plan with
  |some (c,b,d,p)=>bif C0e ops.toList c b p&&cx.P.follows .mixedOrders then Q4 cx sp ops.toList b a.nx d p true false k.n a else False
  |none=>False)else ZA cx sp ops.toList ops.toList k.n a
 | .seq c b,k=>fun a=>match B9w an.join (nJ b)with
  |some A=>C8e A a (fun j=>Jh cx sp an c {k with n:=j} a) (Jh cx sp an b k)
  |none=>Jh cx sp an c {k with n:=Jh cx sp an b k} a
 | .cond d b c,k=>fun a=>match(a.ev [] d).bind QP with
  |some e=>(e=true->Jh cx sp an b k a)/\(e=false->Jh cx sp an c k a)
  |none=>False
 | .block id c,k=>Jh cx sp an c {k with x:=fun i a=>bif Nat.beq i id then k.n a else k.x i a}
 | .loop c,k=>fun a=>match B9w an.loop (nJ c)with
  |some A=>C0n A a fun j=>Jh cx sp an c {k with n:=j}
  |none=>False
 | .exit i,k=>k.x i
 | .ret,k=>k.r
 | _,_=>fun _=>False
section
variable {za:Zn} {w0:World} {cx:Cx} {sp:H2} {an:An} {all:List Oper}
def Vw {o:Oper} {k k':St->Prop} {b:St} (h:Pr cx all o k b) (a:∀c,C1 b c->k c->k' c):Pr cx all o k' b:=by
 unfold Pr at h⊢;split at h
 . split at h
   . split at h
     . exact E1.2 ⟨(E1.1 h).1,a _ (C1.setS _ _ _) (E1.1 h).2⟩
     . exact h
   . split at h
     . split at h
       . split at h
         . rename_i b;exact a _ (dY b) h
         . exact h
       . exact h
     . exact h
 . split at h
   . obtain⟨b,h⟩:=B4 h;simp only[b,qT];split at h
     . obtain⟨b,h⟩:=B4 h;simp only[b,qT];split at h
       . obtain⟨b,h⟩:=B4 h;simp only[b,qT];exact E1.2 ⟨(E1.1 h).1,a _ (C1.setS _ _ _) (E1.1 h).2⟩
       . exact h
     . exact h
   . exact h
def ZB:∀ {ls:List Nat} {k k':St->Prop} {a:St},RP cx all ls k a->(∀b,C1 a b->k b->k' b)->RP cx all ls k' a
 | [],_,_,a,h,b=>b a (C1.refl a) h
 |j::r,_,_,a,h,f=>by
  simp only[RP]at h⊢;split at h
  . obtain⟨a,h⟩:=B4 h;simp only[a,qT];exact Vw h fun b a c=>ZB c fun g b d=>f g (a.trans b) d
  . exact h
def Bg {tails:List Nat} {n0:Nat} {nw:Bool} :∀ {p:Pl} {pre t:Bool} {k k':St->Prop} {a:St},Q4 cx sp all tails n0 nw p pre t k a->(∀b,C1 a b->k b->k' b)->Q4 cx sp all tails n0 nw p pre t k' a
 | .done,_,_,_,_,a,h,b=>b a (C1.refl a) h
 | .q i p,pre,t,_,_,a,h,g=>by
  simp only[Q4]at h⊢;split at h
  . obtain⟨b,h⟩:=B4 h;simp only[b,qT]at h⊢;exact Vw h fun c b d=>Bg d fun i c f=>g i (b.trans c) f
  . exact h
 | .p i p,pre,t,_,_,a,h,g=>by
  simp only[Q4]at h⊢;split at h
  . obtain⟨b,h⟩:=B4 h;simp only[b,qT];exact Vw h fun c b d=>Bg d fun i c f=>g i (b.trans c) f
  . exact h
 | .e i p,pre,t,_,_,a,h,g=>by
  simp only[Q4]at h⊢;split at h
  . obtain⟨b,h⟩:=B4 h;simp only[b,qT];exact JB h fun c b d=>Bg d fun i c f=>g i (b.trans c) f
  . exact h
 | .or i p q,pre,t,_,_,a,h,b=>by
  simp only[Q4]at h⊢;refine⟨?_,Bg h.2 b⟩;have h:=h.1;split at h
  . obtain⟨c,h⟩:=B4 h;simp only[c,qT];exact JB h fun d c f=>Bg f fun i d g=>b i (c.trans d) g
  . exact h
 | .al b c p,pre,t,_,_,a,h,g=>by
  simp only[Q4]at h⊢;obtain⟨a,h⟩:=B4 h;simp only[a,qT];exact YZ h fun b a c=>ZB c fun f b d=>Bg d fun h c f=>g h (a.trans (b.trans c)) f
def C1.told (A:HQ) (a:St) (p:A.den):C1 a (Vc.reflect A a p):=
 ⟨qX (uY _) (C1.reflect A a p).ct,fun _ b c=>oG b c,fun _ b c=>jV b c,(C1.reflect A a p).f.le (uY _)⟩
def C1.gath {A:HQ} {a b:St} {p:A.den} (h:gath A a=some (b,p)):C1 a b:=by
 simp only[Vc.gath,qH,bind_some]at h;obtain⟨b,_,a,_,d,_,c,_,h⟩:=h;obtain⟨_,h⟩:=D8 h;cases h;exact(C1.plugL _ _).trans (C1.settleSh _ _ _)
def QA:∀ {c:Code} {k k':K} {a:St},Jh cx sp an c k a->(∀e b,C1 a b->k.at e b->k'.at e b)->Jh cx sp an c k' a:=by
 intro c
 induction c with
 |skip=>intro k k' a h d;exact d .normal a (C1.refl a) h
 |label l=>intro k k' a h d;exact d .normal a (C1.refl a) h
 |region id ops f=>
  intro k k' a h d;simp only[Jh]at h⊢;cases f with
  |true=>
   simp only[qT]at h⊢;split at h
   . obtain⟨f,h⟩:=B4 h;simp only[f,qT];exact Bg h fun b e=>d .normal b e
   . exact h
  |false=>
   simp only[rF]at h⊢;exact RO h fun b e=>d .normal b e
 |seq d f j l=>
  intro k k' a h f;simp only[Jh]at h⊢;split at h
  . rename_i A _;obtain⟨J,g,i⟩:=h;refine⟨J,j g fun e b ev d=> ?_,fun p n g=>l (i p n g) fun e b ev d=> ?_⟩
    . cases e with
      |normal=>exact d
      |exit g=>exact f (.exit g) b ev d
      |ret=>exact f .ret b ev d
      | _=>exact d
    . exact f e b ((C1.told A a p).trans ev) d
  . refine j h fun e n g d=> ?_
    cases e with
    |normal=>exact l d fun e j h i=>f e j (g.trans h) i
    |exit i=>exact f (.exit i) n g d
    |ret=>exact f .ret n g d
    | _=>exact d
 |cond c d h f g=>
  intro k k' a h d;simp only[Jh]at h⊢;split at h
  . exact⟨fun e=>f (h.1 e) d,fun e=>g (h.2 e) d⟩
  . exact h
 |block id c g=>
  intro k k' a h f;simp only[Jh]at h⊢;refine g h fun e b ev d=> ?_
  cases e with
  |exit i=>
   simp only[K.at]at d⊢;cases g:Nat.beq i id with
   |true=>simp only[g,qT]at d⊢;exact f .normal b ev d
   |false=>simp only[g,rF]at d⊢;exact f (.exit i) b ev d
  |normal=>exact f .normal b ev d
  |ret=>exact f .ret b ev d
  | _=>exact d
 |loop c o=>
  intro k k' a h g;simp only[Jh]at h⊢;split at h
  . rename_i A _;unfold C0n at h⊢;split at h
    . rename_i i d f;obtain⟨d,h⟩:=B4 h;simp only[d,qT];obtain⟨I,r,d,j⟩:=h;refine⟨I,r,d,fun p n l=>o (j p n l) fun e b ev d=> ?_⟩;cases e with
      |normal=>exact d
      |exit j=>exact g (.exit j) b ((C1.gath f).trans ((C1.told A i p).trans ev)) d
      |ret=>exact g .ret b ((C1.gath f).trans ((C1.told A i p).trans ev)) d
      | _=>exact d
    . exact h
  . exact h
 |exit i=>intro k k' a h b;exact b (.exit i) a (C1.refl a) h
 |ret=>intro k k' a h b;exact b .ret a (C1.refl a) h
 | _=>intro k k' a h b;exact h
def cM {A:HQ} (k:za.b0=0) {b c:St} {J:A.den->Prop} {E:G2} {w:World} {Z:Nat->Prop} {B:Nat->Value} (h:B7 za w0 c E w Z B) (a:OD A b J c) (v:B6f za.n b) (ev:C1 b c):∃p,A.wf p/\J p/\∃Z' B',B7 za w0 (reflect A b p) E w Z' B':=by
 unfold OD at a;split at a
 . rename_i b p d;obtain⟨b,a⟩:=B4 a;simp only[B2j,qC,tO]at b;obtain⟨⟨⟨i,j⟩,t⟩,u⟩:=b;have c:=ev.trans (C1.gath d);have b:∀ {n g:Nat},iG n g=true->g≠0/\g<=n:=fun hh=>by
    simp only[iG,qC]at hh;have o:=qS hh.1;have o:=qS hh.2;omega
   obtain⟨r,Z',B',o⟩:=A4b k h d v (fun s hs=>c.s s (b (i s hs)).1 (b (i s hs)).2) (fun q hq=>c.l q (b (j q hq)).1 (b (j q hq)).2) (fun y hy=>Zo (t y hy)) (c.f.old u);exact⟨p,r,a,Z',B',o⟩
 . exact a.elim
variable (hty:H5 cx.P cx.tys=true) (hsp:Jo cx.P sp)
include hty in
theorem JC {S:World->Prop} {o:Oper} {k:St->Prop} {b:St} {E:G2} {w:World} {Z:Nat->Prop} {B:Nat->Value} (j:∀w',S w'->(B3b o.op=true->R8 w w')) (h:B7 za w0 b E w Z B) (a:Pr cx all o k b):JA cx.P S all o (Nx za w0 k) E w:=by
 obtain⟨b,G,ty,H,A,c⟩:=o;unfold Pr at a;simp only at a j;split at a
 . split at a
   . rename_i s v r;split at a
     . rename_i d;replace a:=E1.1 a;obtain⟨u,b,c,l⟩:=ET (ty:=ty) h hty (F8 E) r a.1;exact .inl ⟨rfl,u,fun w' g=>b w' (j w' g) _ _ _ _,_,_,_,h.setS d (c _) l,a.2⟩
     . exact a.elim
   . split at a
     . rename_i T x _;split at a
       . rename_i d;split at a
         . rename_i i f;obtain⟨u,B',b,c⟩:=nL (ty:=ty) h hty f;exact .inl ⟨rfl,u,fun w' g=>b w' (j w' g rfl) _ _ _ _,_,_,_,c,a⟩
         . exact a.elim
       . exact a.elim
     . exact a.elim
 . rename_i F i;split at a
   . rename_i t v;have f:=(B4 a).1;replace a:=(B4 a).2;split at a
     . rename_i d;have f:=(B4 a).1;replace a:=(B4 a).2;have y:t≠d:=vA (by simpa using f);split at a
       . rename_i s z r;obtain⟨D,a⟩:=B4 a;replace a:=E1.1 a;rw[mX]at a;by_cases f:E t= .bool i
         . have s:=h.gctx (n:=20) f;obtain⟨u,b,c,l⟩:=ET (ty:=ty) h hty s r (a.1 (h.ctxP s));refine .inl ⟨YG v f,u,fun w' g=>b w' (j w' g) _ _ _ _,_,_,_,h.setS d (x:= .cnd t i z) (.inl ⟨?_,c E⟩) l,a.2⟩;rw[C4 _ _ _ _ y];exact f
         . have g:E5 all ⟨some d,G,ty,H,A,some (F,i)⟩ E=false:=by
            unfold E5 Du;simp only[v];cases b:E t with
            |bool c=>simp only[wG,g4l,rD];intro c;exact f (by rw[b,c])
            | _=>rfl
           refine .inr ⟨g,_,_,_,h.setS d (x:= .cnd t i z) (.inr ⟨?_,rfl⟩) (fun c b=>jT (tO.1 D c b)),a.2⟩;rw[C4 _ _ _ _ y];exact f
       . exact a.elim
     . exact a.elim
   . exact a.elim
theorem YU {P:Program} {S:World->Prop} {o:Oper} {n a:G2->World->Prop} {E:G2} {w:World} (h:JA P S all o n E w) (c:∀E',n E' w->a E' w):JA P S all o a E w:=by
 rcases h with⟨a,v,b,d⟩ | ⟨a,b⟩
 . exact .inl ⟨a,v,b,c _ d⟩
 . exact .inr ⟨a,c _ b⟩
def RW (nw:Bool) (b0:Nat) (w w':World):Prop:=bif nw then(Below b0 w w'/\True)else R8 w w'
theorem RW.of {nw:Bool} {b0:Nat} {w w':World} (a:b0<=w.heap.size) (h:R8 w w'):RW nw b0 w w':=by
 cases nw with
 |true=>exact⟨⟨h.os,h.tape,h.output,h.size,fun k b=>h.block k (rC b a)⟩,h.drw⟩
 |false=>exact h
theorem RW.refl (nw:Bool) (b0:Nat) (w:World):RW nw b0 w w:=by
 cases nw with
 |true=>exact⟨Below.refl _ _,trivial⟩
 |false=>exact R8.refl _
theorem RW.trans {nw:Bool} {b0:Nat} {a b c:World} (h:RW nw b0 a b) (d:RW nw b0 b c):RW nw b0 a c:=by
 cases nw with
 |true=>exact⟨Below.trans h.1 d.1,trivial⟩
 |false=>exact R8.trans h d
include hty hsp in
theorem A5k {nw tl:Bool} {n0:Nat} {k:St->Prop} {o:Oper} {d:St} {E:G2} {w:World} {Z:Nat->Prop} {B:Nat->Value} (i:nw=true->za.k0=n0) (s:nw=false->za.b0=0) (h:B7 za w0 d E w Z B)
 (b:((tl|| !(aT sp d o) || (nw&&frO n0 d o.op))&&(!nw||jG sp n0 d o.op))=true) (a:Lb cx sp all o k d):I5 cx.P all o (fun E' w'=>(tl=true\/RW nw za.b0 w w')/\Nx za w0 k E' w') E w:=by
 simp only[qC,uD,rO]at b;obtain⟨b,c⟩:=b;have j:za.b0=0\/jG sp za.k0 d o.op=true:=by
  cases f:nw with
  |false=>exact .inl (s f)
  |true=>rw[f]at c;exact .inr (by rw[i f];simpa using c)
 rcases b with(b|b) |b
 . refine C0 ?_ (Hn h j hty hsp a);rintro E' w' ⟨_,n⟩;exact⟨.inl b,n⟩
 . refine C0 ?_ (Hn h j hty hsp a);rintro E' w' ⟨y,n⟩;exact⟨.inr (RW.of h.mrk.1 (y b)),n⟩
 . obtain⟨v,b⟩:=b;subst v;obtain⟨l,D,H,F,A,r⟩:=o;have t:=b;unfold frO at b;split at b
   . rename_i T p z g;simp only at g;subst g;unfold Lb at a;simp only at a;cases r with
     |none=>
      simp only[BC]at a;cases l with
      |none=>
       simp only at a;have u:AK d (.store T p z)=false:=by
        rcases c with c|c
        . cases c
        . simp only[jG,qC,rO]at c;exact c.2
       rw[nR u]at a;simp only at a;split at a
       . rename_i I G x;refine C0 ?_ (fF h hty x (E1.1 a).1 (E1.1 a).2 rfl);rintro E' w' ⟨f,n⟩;exact⟨.inr (f (by rw[i rfl];exact t)),n⟩
       . exact a.elim
      |some f=>exact a.elim
     |some f=>
      obtain⟨x,u⟩:=f;simp only[BC]at a;split at a
      . obtain⟨_,a⟩:=B4 a;split at a
        . obtain⟨_,a⟩:=B4 a;exact a.elim
        . exact a.elim
      . exact a.elim
   . cases b
include hty in
theorem oN {k:St->Prop} :∀ {a:List Nat},(∀j∈a,jM all j=true)->(Bl all a).Nodup->∀ {c:St} {E:G2} {w:World} {Z:Nat->Prop} {B:Nat->Value},B7 za w0 c E w Z B->RP cx all a k c->∃F,(∀x,x∉Bl all a->F x=E x)/\AlV cx.P all a F/\Nx za w0 k F w
 | [],_,_,c,E,w,Z,B,h,b=>⟨E,fun _ _=>rfl,fun _ a=>(by cases a),c,Z,B,h,b⟩
 |j::r,g,a,c,E,w,Z,B,h,b=>by
  simp only[RP]at b;simp only[Bl,sA]at a;obtain⟨u,A⟩:=sB.1 a;split at b
  . rename_i o f;obtain⟨a,b⟩:=B4 b;simp only[qC,rO]at a;obtain⟨c,d,s⟩:=BB (g j rB) f;have v:=QC a.2;have i:=JC (S:=fun _=>True) (all:=all) hty (fun l _ hh=>by rw[hh]at a;cases a.1) h b;have z:E5 all o E=true:=by simp[E5,d]
    rcases i with⟨_,D,y,d,Z1,B1,a,t⟩ | ⟨h,_⟩
    . rw[c]at a;obtain⟨F,d,n,r⟩:=oN (fun i c=>g i (qL _ c)) A a t;have g:F (Gm all j)=D:=by rw[d _ u];exact C3 _ _ _
      refine⟨F,fun x a=> ?_,fun i c=> ?_,r⟩
      . simp only[Bl,sA,qG,g4y]at a;rw[d x a.2];exact C4 _ _ _ _ a.1
      . rcases qG.1 c with rfl|c
        . refine⟨o,f,fun l=> ?_⟩;rw[g,OL (E:=F) (E':=E) f s fun u g=> ?_]
          . exact y l trivial
          . have a:=v u g;simp only[Bl,sA,qG,g4y]at a;rw[d u a.2];exact C4 _ _ _ _ a.1
        . exact n i c
    . rw[z]at h;cases h
  . exact b.elim
theorem RW.size {nw:Bool} {b0:Nat} {a b:World} (h:RW nw b0 a b):a.heap.size<=b.heap.size:=by
 cases nw with
 |true=>exact h.1.size
 |false=>exact(show R8 a b from h).size
include hty in
theorem A8a {nw:Bool} {b c:List Nat} {k:St->Prop} {g:St} {E:G2} {w:World} {Z:Nat->Prop} {B:Nat->Value} (d:A5t all b c=true) (h:B7 za w0 g E w Z B) (z:HF cx all g b (RP cx all c k) g):∃f X,A9d cx.P (RW nw za.b0) all b c f X (Nx za w0 k) E w:=by
 simp only[A5t,qC,tO]at d;obtain⟨⟨⟨H,s⟩,a⟩,i⟩:=d;have s:=(sW.1 (Mr s)).1;have a:=Mr a;have a:(Bl all b++Bl all c).Nodup:=by simpa[Bl]using a
 obtain⟨u,D,c⟩:=sW.1 a;have t:=fB z;have A:∀i,∃x:Obj×(Nat->Value),i∈b->∀o n lc mk,all[i]? =some o->NQ cx g (Gm all i) o.op=some (n,lc,mk)->(∀d,(execOp (ev E) o).run cx.P d= .ok (.value (x.2 d.heap.size)) (d.alloc x.1))/\A9n lc mk x.1 x.2:=fun i=>by
  by_cases a:i∈b
  . obtain⟨o,n,lc,mk,l,j,v⟩:=t i a;obtain⟨X,f,r,y⟩:=A5u h hty j v;refine⟨(X,f),fun _ I J F G g c=> ?_⟩;rw[l]at g;cases g;rw[j]at c;cases c;obtain⟨F,I,c,J,g,G⟩:=o;exact⟨fun d=>r c d _ _ _ _,y⟩
  . exact⟨(.cells #[] 0 (0,0),fun _=>undef),fun c=>absurd c a⟩
 obtain⟨g,y⟩:=Classical.axiomOfChoice A;refine⟨fun i=>(g i).2,fun i=>(g i).1,⟨fun i a=> ?_,fun i a d A=>RW.of (qX h.mrk.1 A.size) (R8.alloc d _),fun r c=> ?_⟩⟩
 . obtain⟨o,n,lc,mk,l,j,v⟩:=t i a;exact⟨o,l,(y i a o n lc mk l j).1⟩
 . have F:r.Nodup:=c.nodup_iff.2 s;have v:(Bl all r).Nodup:=(c.map _).nodup_iff.2 u;obtain⟨d,bl,t,A⟩:=eZ (f:=fun i=>(g i).2) (X:=fun i=>(g i).1) r E w F v;have F:=h.more (Z':=Z) d (fun _=>id) (fun _=> .inl);obtain⟨I,B1,v,G⟩:=oM (f:=fun i=>(g i).2) (X:=fun i=>(g i).1) (bl:=bl) F (fun i a o n lc mk l j=>(y i a o n lc mk l j).2) (fun i a=>by
    obtain⟨c1,j,l⟩:=t i (c.symm.subset a);refine⟨j,qX h.ext.size c1,fun l=> ?_,qX h.mrk.1 c1,fun q j=> ?_⟩
    . have:=h.zlt _ l;omega
    . have:=((h.locs q).root (h.ft d j)).2.1;omega) (fun i a j d l=>A i (c.symm.subset a) j (c.symm.subset d) l) s z
   have l:A3b all (fun i=>(g i).2) bl b E=(Gq all (fun i=>(g i).2) (fun i=>(g i).1) r E w).1:=funext fun x=>by
    by_cases g:x∈Bl all b
    . obtain⟨i,a,e⟩:=J1.1 g;subst e;rw[pC u a,(t i (c.symm.subset a)).2.2]
    . rw[JF g,Jc _ _ _ fun a=>g ((c.map _).subset a)]
   rw[l]at v;exact oN hty (fun j d=>H j (tI _ d)) D v G
include hty hsp in
theorem Ds {za0:Zn} {tails:List Nat} {n0:Nat} {nw:Bool} {k:St->Prop} (d:nw=true->za.k0=n0) (c:nw=false->za.b0=0) (f:∀ {a:St} {E:G2} {w:World} {Z:Nat->Prop} {B:Nat->Value},B7 za w0 a E w Z B->B7 za0 w0 a E w Z B):∀ {p:Pl} {pre t:Bool} {a:St} {E:G2} {w:World} {Z:Nat->Prop} {B:Nat->Value},(nw=true->pre=true->za.b0=w.heap.size)->B7 za w0 a E w Z B->Q4 cx sp all tails n0 nw p pre t k a->VZ cx.P (RW nw za.b0) all tails (Nx za0 w0 k) p t E w
 | .done,_,_,_,_,_,_,_,_,h,b=>⟨_,_,_,f h,b⟩
 | .q g p,pre,t,a,E,w,Z,B,h,i,b=>by
  simp only[Q4]at b;split at b
  . rename_i o j;obtain⟨l,b⟩:=B4 b;refine⟨o,j,YU (JC hty (fun n g _=> ?_) i b) ?_⟩
    . cases nw with
      |false=>exact g
      |true=>
       have g:Below za.b0 w n/\True:=g;rw[h rfl (by simpa using l)]at g;exact⟨g.1,g.2⟩
    . rintro E' ⟨j,Z',B',g,i⟩;exact Ds d c f h g i
  . exact b.elim
 | .p i p,pre,t,a,E,w,Z,B,l,h,b=>by
  simp only[Q4]at b;split at b
  . rename_i o j;obtain⟨g,b⟩:=B4 b;refine⟨o,j,YU (JC hty (fun n _ i=>by rw[i]at g;cases g) h b) ?_⟩;rintro E' ⟨i,Z',B',g,h⟩;exact Ds d c f l g h
  . exact b.elim
 | .e j p,pre,t,a,E,w,Z,B,g,h,b=>by
  simp only[Q4]at b;split at b
  . rename_i o i;obtain⟨g,b⟩:=B4 b;refine⟨o,i,C0 ?_ (A5k hty hsp d c (tl:=t||tails.contains j) h g b)⟩;rintro E' l ⟨j,h,Z',B',g,i⟩;exact⟨j,Ds d c f (fun _ h=>by cases h) g i⟩
  . exact b.elim
 | .or j p q,pre,t,a,E,w,Z,B,g,h,b=>by
  simp only[Q4]at b;refine⟨?_,Ds d c f g h b.2⟩;have b:=b.1;split at b
  . rename_i o i;obtain⟨g,b⟩:=B4 b;refine⟨o,i,C0 ?_ (A5k hty hsp d c (tl:=t||tails.contains j) h g b)⟩;rintro E' l ⟨j,h,Z',B',g,i⟩;exact⟨j,Ds d c f (fun _ h=>by cases h) g i⟩
  . exact b.elim
 | .al i j p,pre,t,a,E,w,Z,B,g,h,b=>by
  simp only[Q4]at b;obtain⟨i,b⟩:=B4 b;obtain⟨g,X,a⟩:=A8a (nw:=nw) hty i h b;refine⟨g,X,a.one,a.rel,fun l j=> ?_⟩;obtain⟨F,b,g,n,Z',B',h,i⟩:=a.fin l j;exact⟨F,b,g,Ds d c f (fun _ a=>by cases a) h i⟩
theorem B7.marked {a:St} {E:G2} {w:World} {Z:Nat->Prop} {B:Nat->Value} (h:B7 za w0 a E w Z B):B7 {za with k0:=a.nx,b0:=w.heap.size} w0 a E w Z B:=
 ⟨h.ext,h.zlt,h.slots,h.locs,h.disj,h.refs,h.refl,h.fresh,h.bone,h.zin,h.nms,h.bfix,⟨qZ _,fun k d c b=>by
  have:a.L k= .none:=h.fresh k c;rw[this]at b;exact b.elim⟩,h.frs,h.frf⟩
theorem B7.unmark {k0 b0:Nat} (a:za.b0=0) {b:St} {E:G2} {w:World} {Z:Nat->Prop} {B:Nat->Value} (h:B7 {za with k0:=k0,b0:=b0} w0 b E w Z B):B7 za w0 b E w Z B:=
 ⟨h.ext,h.zlt,h.slots,h.locs,h.disj,h.refs,h.refl,h.fresh,h.bone,h.zin,h.nms,h.bfix,⟨by rw[a];exact rK _,fun k b _ _=>by rw[a];exact rK _⟩,h.frs,h.frf⟩
end
section
variable {za:Zn} {w0:World} {cx:Cx} {sp:H2} {an:An}
def B1n {A:HQ} {b c:St} {p:A.den} {E:G2} {w:World} {Z:Nat->Prop} {B:Nat->Value} (d:za.b0=0) (h:B7 za w0 b E w Z B) (a:gath A b=some (c,p)):∃Z',B7 za w0 c E w Z' B:=by
 simp only[Vc.gath,qH,bind_some]at a;obtain⟨c,_,b,_,g,_,f,_,a⟩:=a;obtain⟨_,a⟩:=D8 a;cases a;obtain⟨Z0,a⟩:=h.plugL d (l:=A.rowL);exact B7.settleSh a
def post (za:Zn) (w0:World) (k:K):Exit->G2->World->Prop:=fun e E w=>Nx za w0 (k.at e) E w
variable (hty:H5 cx.P cx.tys=true) (hsp:Jo cx.P sp)
include hty hsp in
theorem Vv (g:za.b0=0) {n:Nat} :∀ {c:Code} {k:K} {a:St} {E:G2} {w:World} {Z:Nat->Prop} {B:Nat->Value},B7 za w0 a E w Z B->Jh cx sp an c k a->Gw.Wp cx.P n c (post za w0 k) E w:=by
 intro c
 induction c with
 |skip=>intro k a E w Z B h d _ f b;exact wp_skip ⟨E,b,a,Z,B,h,d⟩
 |label l=>intro k a E w Z B h d _ f b;exact wp_label ⟨E,b,a,Z,B,h,d⟩
 |exit i=>intro k a E w Z B h d _ f b;exact wp_exit ⟨E,b,a,Z,B,h,d⟩
 |ret=>intro k a E w Z B h d _ f b;exact wp_ret ⟨E,b,a,Z,B,h,d⟩
 |region id ops z=>
  intro k a E w Z B h b j f u;simp only[X8]at j;simp only[Jh]at b;have s:ops=ops.toList.toArray:=by simp
  cases z with
  |false=>
   simp only[rF]at b;rw[s];refine wp_region ?_;have:=YH (P:=cx.P) (Q:=post za w0 k) j ops.toList 0 (by simp) f E w u (fC g hty hsp h b);simpa[g2x]using this
  |true=>
   simp only[qT]at b;split at b
   . rename_i F tails nw p _;obtain⟨d,b⟩:=B4 b;simp only[qC]at d;obtain⟨d,D⟩:=d;simp only[C0e,qC]at d;rw[s];refine wp_region_any D (aR (S:=fun _=>True) (tails:=tails) _ _ _ _ ?_);have o:G4 tails (Array.replicate ops.toList.length false)=false:=by
      unfold G4;rw[wU];intro x _;simp only[uT,xT];split<;>simp
     have l:=h.more (Z':=Z) (w':=w.drew) (R8.refl w).drew (fun _ h=>h) (fun _=> .inl);have fin:∀b0,VZ cx.P (RW nw b0) ops.toList tails (Nx za w0 k.n) p false E w.drew->Y7 cx.P ops.toList.toArray (FU n (post za w0 k)) (RW nw b0 w.drew) tails ops.toList.length (Array.replicate ops.toList.length false) f w.drew:=fun b0 hd=>
      B0y (P:=cx.P) (R:=RW nw b0) (RW.refl nw _) (fun f y=>f.trans y) (Q:=post za w0 k) j d.1.1 d.1.2 (fun c E w i=>by obtain⟨_,_,_,_,i⟩:=i;exact i) p ops.toList.length _ none d.2 ⟨lV _ _,fun v=>by rw[o]at v;cases v⟩ false o.symm f E w.drew u (fun _ i=>by cases i) hd
     cases nw with
     |true=>
      have:=fin _ (Ds (za0:=za) (nw:=true) hty hsp (n0:=a.nx) (fun _=>rfl) (fun i=>by cases i) (fun h=>h.unmark g) (fun _ _=>rfl) l.marked b);simpa using Kj (S':=fun _=>True) (fun _ _=>trivial) _ _ _ _ this
     |false=>
      have:=fin _ (Ds (za0:=za) (nw:=false) hty hsp (n0:=a.nx) (fun i=>by cases i) (fun _=>g) (fun h=>h) (fun i=>by cases i) l b);simpa using Kj (S':=fun _=>True) (fun _ _=>trivial) _ _ _ _ this
   . exact b.elim
 |seq O T y z=>
  intro k a E w Z B s l i u v;simp only[X8,qC]at i;simp only[Jh]at l;split at l
  . rename_i A _;obtain⟨J,D,G⟩:=l;have F:=QA (k':= {n:=fun d=>C1 a d/\OD A a J d,x:=k.x,r:=k.r}) D (fun e d ev j=>by
     cases e with
     |normal=>exact⟨ev,j⟩
     |exit H=>exact j
     |ret=>exact j
     | _=>exact j)
    refine wp_seq (wp_mono (y s F i.1 u v) ?_);rintro e o w' ⟨E',h,d,Z',B',f,b⟩;cases e with
    |normal=>
     obtain⟨p,N,M,Z2,B2,H⟩:=cM g f b.2 s.pure b.1;exact z H (G p N M) i.2 o h
    |exit H=>exact⟨E',h,d,Z',B',f,b⟩
    |ret=>exact⟨E',h,d,Z',B',f,b⟩
    | _=>exact b.elim
  . refine wp_seq (wp_mono (y s l i.1 u v) ?_);rintro e o w' ⟨E',h,d,Z',B',f,b⟩;cases e with
    |normal=>exact z f b i.2 o h
    |exit H=>exact⟨E',h,d,Z',B',f,b⟩
    |ret=>exact⟨E',h,d,Z',B',f,b⟩
    | _=>exact b.elim
 |cond c x z u v=>
  intro k a E w Z B h b d i f;simp only[X8,qC]at d;simp only[Jh]at b;split at b
  . rename_i e j;obtain⟨y,l,o⟩:=bind_some.1 j;have s:=Rz (h.ev (F8 E) l).1 o;refine wp_cond (t:=e) (by rw[f.ev];exact s) ?_;cases e with
    |true=>exact u h (b.1 rfl) d.1 i f
    |false=>exact v h (b.2 rfl) d.2 i f
  . exact b.elim
 |block id c v=>
  intro k a E w Z B l u o j s;refine wp_block (wp_mono (v l u o j s) ?_);rintro e z w' ⟨E',f,h,Z',B',d,b⟩;cases e with
  |normal=>exact⟨E',f,h,Z',B',d,b⟩
  |ret=>exact⟨E',f,h,Z',B',d,b⟩
  |exit y=>
   simp only[Exit.inBlock];simp only[K.at]at b;by_cases i:y=id
   . subst i;simp only[xS];simp at b;exact⟨E',f,h,Z',B',d,b⟩
   . simp only[i,yG];rw[D1 i]at b;exact⟨E',f,h,Z',B',d,b⟩
  | _=>exact b.elim
 |loop c a3=>
  intro k a E w Z B v b F a6 X;simp only[X8]at F;simp only[Jh]at b;split at b
  . rename_i A _;unfold C0n at b;split at b
    . rename_i l H D;obtain⟨z,b⟩:=B4 b;simp only[qC,tO]at z;obtain⟨I,i,M,N⟩:=b;obtain⟨Z1,G⟩:=B1n g v D;obtain⟨a2,Z2,B2,O⟩:=A4b g v D G.pure (fun _ _=>rfl) (fun _ _=>rfl) (fun a4 hy=>Zo (z.1 a4 hy)) rfl;refine wp_loop_ghost (fun m o w=>∃p E',i p=m/\Gw.C5 n o E'/\A.wf p/\I p/\∃Z B,B7 za w0 (reflect A l p) E' w Z B) (i H) ⟨H,E,rfl,X,a2,M,Z2,B2,O⟩ ?_;rintro m o w ⟨p,E',a7,Y,a0,W,Z3,B3,T⟩;have U:=QA (k':= {n:=fun d=>C1 (reflect A l p) d/\OD A l (fun h=>I h/\i h<i p) d,x:=k.x,r:=k.r}) (N p a0 W) (fun e d ev j=>by
       cases e with
       |normal=>exact⟨ev,j⟩
       |exit y=>exact j
       |ret=>exact j
       | _=>exact j)
      refine wp_mono (a3 T U F o Y) ?_;rintro e a5 w' ⟨E'',u,d,Z',B',s,f⟩;cases e with
      |normal=>
       obtain⟨h,a1,y,Z5,B5,V⟩:=cM g s f.2 G.pure ((C1.told A l p).trans f.1);exact⟨i h,by have:=y.2;omega,h,E'',rfl,u,a1,y.1,Z5,B5,V⟩
      |exit y=>exact⟨E'',u,d,Z',B',s,f⟩
      |ret=>exact⟨E'',u,d,Z',B',s,f⟩
      | _=>exact f.elim
    . exact b.elim
  . exact b.elim
 | _=>intro k a E w Z B h b;exact b.elim
end
abbrev Dc (α:Type):List α:= []
def BD (cx:Cx) (a:St):List ResultVar->Option (List SV)
 | []=>some []
 | .tmp t::r=>match a.S t with
  | .one s=>(BD cx a r).map (s:: ·)
  | _=>none
 | .cell b T::r=>do
  let ti<-cx.ti T
  match a.S b with
  | .one ⟨false,[.box k 0]⟩=>match a.L k with
   | .box _ b=>bif Nat.beq b.length ti.ty.size then(BD cx a r).map (⟨ti.agg,b⟩:: ·)else none
   | _=>none
  | _=>none
def settleR:St->List RT->List SV->St
 |c, .val _ _::a,s::b=>settleR (settle c s.cs) a b
 |c, .own _ _::a,_::b=>settleR c a b
 |a, .obox _ _::c,s::d=>settleR (match c1 s with
  |some (.box k 0)=>(match a.L k with
   | .box _ b=>settle a b
   | _=>a)
  | _=>a) c d
 |c, .rows _ _ _::a,_::b=>settleR c a b
 |a,_,_=>a
def HB (a:St):(rs:List RT)->List SV->Option (Bq rs)
 | [],[]=>some ()
 | .val b t::rs,s::c=>(Ss b t s).bind fun x=>(HB a rs c).map fun y=>(x,y)
 | .own t e::rs,s::b=>((c1 s).bind (PV a t e)).bind fun x=>(HB a rs b).map fun y=>(x,y)
 | .obox T t::rs,s::b=>((cP s).bind fun k=>bif Nat.ble a.nm k then lN a T t k else none).bind fun x=>(HB a rs b).map fun y=>(x,y)
 | .rows t e b::rs,s::c=>((RN s).bind fun k=>bif Nat.ble a.nm k then PX a t e b k else none).bind fun x=>(HB a rs c).map fun y=>(x,y)
 | _,_=>none
def Cj:List RT->List SV->List Nat
 | .own _ _::a,⟨false,[.row k]⟩::b=>k::Cj a b
 | .obox _ _::a,⟨false,[.box k 0]⟩::b=>k::Cj a b
 | .rows _ _ _::a,⟨false,[.row k]⟩::b=>k::Cj a b
 | _::a,_::b=>Cj a b
 | _,_=> []
def settleM:St->List AM->Nat->St
 |a, .box _ _::r,j=>settleM (match a.L j with| .box _ cs=>settle a cs| _=>a) r (j+1)
 |a, .row _ _::r,j=>settleM a r (j+1)
 |a, .val _ _::r,j=>settleM a r j
 |a, .fn _ _ _::r,j=>settleM a r j
 |a, .rows _ _ _::r,j=>settleM a r (j+1)
 |a,[],_=>a
def bD (a:St):(as:List AM)->Nat->Option (Om as)
 | [],_=>some ()
 | .row t e::r,j=>(BF a t e j).bind fun x=>(bD a r (j+1)).map fun y=>(x,y)
 | .box T t::r,j=>(lN a T t j).bind fun x=>(bD a r (j+1)).map fun y=>(x,y)
 | .val _ _::r,j=>bD a r j
 | .fn _ _ _::r,j=>bD a r j
 | .rows t e b::r,j=>(PX a t e b j).bind fun x=>(bD a r (j+1)).map fun y=>(x,y)
def C0c:AM->Bool
 | .row t _=>Mn t
 | .rows t _ _=>Mn t
 | .box _ t=>Mn t
 | _=>true
def C1s (s:A6) (x:A2 s.args) (r:Bq s.res) (o:Om s.args):Prop:=bif N4 s.args then s.post x r/\s.mpost x r o else s.post x r
def fin (cx:Cx) (s:A6) (c:List ResultVar) (x:A2 s.args) (a:St):Prop:=
 match BD cx a c with
 |some b=>match BD cx (settleM (settleR a s.res b) s.args 0) c with
  |some c=>match HB (settleM (settleR a s.res b) s.args 0) s.res c,bD (settleM (settleR a s.res b) s.args 0) s.args 0 with
   |some r,some o=>bif(IN (Cj s.res c)&&Nh s.res)&&(s.shared|| (s.res.all A3y&&s.args.all C0c))then C1s s x r o else False
   | _,_=>False
  |none=>False
 |none=>False
def Ig (P:Program):(as:List AM)->A2 as->Nat->Nat->List (Nat×Nat×DV)
 | [],_,_,_=> []
 | .val a t::r,x,i,j=>(i,1, .one ⟨a,explode t x.1⟩)::Ig P r x.2 (i+1) j
 | .row _ _::r,x,i,j=>(i,1, .one ⟨false,[.row j]⟩)::Ig P r x.2 (i+1) (j+1)
 | .box _ _::r,x,i,j=>(i,1, .one ⟨false,[.box j 0]⟩)::Ig P r x.2 (i+1) (j+1)
 | .rows _ _ _::r,x,i,j=>(i,1, .one ⟨false,[.row j]⟩)::Ig P r x.2 (i+1) (j+1)
 | .fn a c b::r,x,i,j=>(i,1, .one ⟨false,[.fv P a c b x.1.1 x.1.2]⟩)::Ig P r x.2 (i+1) j
def Em:(as:List AM)->A2 as->Nat->List (Nat×Nat×LC)
 | [],_,_=> []
 | .val _ _::r,x,j=>Em r x.2 j
 | .fn _ _ _::r,x,j=>Em r x.2 j
 | .row t e::r,x,j=>(j,1, .row t e x.1)::Em r x.2 (j+1)
 | .box T t::r,x,j=>(j,1, .box T (explode t x.1))::Em r x.2 (j+1)
 | .rows t e a::r,x,j=>(j,1, .rows t e a x.1 [] none)::Em r x.2 (j+1)
def Kr:List AM->Nat
 | []=>0
 | .row _ _::r=>Kr r+1
 | .box _ _::r=>Kr r+1
 | .rows _ _ _::r=>Kr r+1
 | .val _ _::r=>Kr r
 | .fn _ _ _::r=>Kr r
def WW (P:Program) (as:List AM) (x:A2 as):St:=⟨Ig P as x 0 0,Em as x 0,Kr as,1,Kr as,[]⟩
def C3b (cx:Cx) (sp:H2) (an:An) (s:A6) (a:List ResultVar) (c:Code) (x:A2 s.args):Prop:=
 Jh cx sp an c ⟨fin cx s a x,fun _ _=>False,fin cx s a x⟩ (WW cx.P s.args x)
section
variable {za:Zn} {w0 w:World} {Z:Nat->Prop} {B:Nat->Value} {st:St} {E:G2} {cx:Cx} {sp:H2} {an:An}
def bE (tmps:Array Value):ResultVar->Sem Value
 | .tmp t=>pure (tmps.getD t undef)
 | .cell a t=>do loadVar t (<-asAddr (tmps.getD a undef))
def BE (f:H5 cx.P cx.tys=true) (h:B7 za w0 st E w Z B) {tmps:Array Value} (b:∀t,tmps.getD t undef=E t):∀ {a:List ResultVar} {ss:List SV},BD cx st a=some ss->∃vs,(a.mapM (bE tmps)).run cx.P w= .ok vs w/\Rp w Z B ss vs
 | [],ss,a=>by cases a;exact⟨[],rfl,rfl⟩
 | .tmp t::r,ss,a=>by
  simp only[BD]at a;split at a
  . rename_i s i;simp only[qN]at a;obtain⟨d,c,rfl⟩:=a;obtain⟨vs,d,g⟩:=BE f h b c;have c:=h.slots t;rw[i]at c;refine⟨E t::vs, ?_,E t,vs,rfl,c,g⟩;rw[wT];simp only[bE,b,Sem.run_bind,Sem.run_pure,Result.andThen_ok,d]
  . cases a
 | .cell d T::r,ss,a=>by
  simp only[BD,qH,bind_some]at a;obtain⟨ti,x,a⟩:=a;split at a
  . rename_i u g;split at a
    . rename_i T' c r;obtain⟨c,a⟩:=D8 a;simp only[qN]at a;obtain⟨j,i,rfl⟩:=a;obtain⟨vs,n,o⟩:=BE f h b i;have s:=qE c;have c:=h.slots d;rw[g]at c;obtain⟨_,_,d,⟨k,j,l⟩,_⟩:=c;cases d;have i:=h.locs u;rw[r]at i;obtain⟨u,c,g,_,_,r,d⟩:=i;rw[j]at g;cases g;have j:c.toList.length=ti.ty.size:=by rw[<-s,d.len]
      rcases(O4 (B9 f x)).2.1 with⟨i,g⟩ | ⟨i,v,u⟩
      . refine⟨.agg c.toList.toArray::vs, ?_,_,vs,rfl,by rw[i];exact⟨c.toList,rfl,d⟩,o⟩;obtain⟨f,s⟩:=Qx (P:=cx.P) (w:=w) g;have g:=run_loadCells_list (P:=cx.P) (w:=w) ⟨k,0,none⟩ c.toList r.cellsAt;rw[j]at g;unfold loadCells at g;rw[wT];simp[bE,b,l,asAddr,loadVar,f,s,g,n,go_sem]
      . rw[u]at j
        match g:c.toList,j with
        | [u],_=>
         rw[g]at d;have c:w.cell? ⟨k,0,none⟩=some u:=by
          have:=r.cellsAt 0 u (by rw[g];rfl);rwa[K5]at this
         refine⟨u::vs, ?_,u,vs,rfl,by rw[i];exact d,o⟩;have f:=Jd (P:=cx.P) (w:=w) v;rw[wT];simp[bE,b,l,asAddr,loadVar,f,c,n,go_sem]
    . cases a
  . cases a
def B7.settleR:∀ {rs:List RT} {ss:List SV} {st:St} {Z:Nat->Prop},B7 za w0 st E w Z B->∃Z',B7 za w0 (settleR st rs ss) E w Z' B
 | .val _ _::rs,s::ss,st,Z,h=>by
  obtain⟨Z1,a⟩:=h.settle s.cs;exact B7.settleR (rs:=rs) (ss:=ss) a
 | .own _ _::rs,_::ss,st,Z,h=>B7.settleR (rs:=rs) (ss:=ss) h
 | .obox _ _::rs,s::ss,st,Z,h=>by
  simp only[Vc.settleR];split
  . split
    . obtain⟨Z1,a⟩:=h.settle _;exact B7.settleR (rs:=rs) (ss:=ss) a
    . exact B7.settleR (rs:=rs) (ss:=ss) h
  . exact B7.settleR (rs:=rs) (ss:=ss) h
 | [],_,st,Z,h=>⟨Z,h⟩
 | .val _ _:: _,[],st,Z,h=>⟨Z,h⟩
 | .own _ _:: _,[],st,Z,h=>⟨Z,h⟩
 | .obox _ _:: _,[],st,Z,h=>⟨Z,h⟩
 | .rows _ _ _::rs,_::ss,st,Z,h=>B7.settleR (rs:=rs) (ss:=ss) h
 | .rows _ _ _:: _,[],st,Z,h=>⟨Z,h⟩
def Na (h:B7 za w0 st E w Z B) {Zn:Nat->Prop} (f:∀b,Zn b->Z b):∀ {rs:List RT} {ss:List SV} {vs:List Value} {r:Bq rs},((∀b,Z b->Zn b)\/rs.all A3y=true)->Rp w Z B ss vs->HB st rs ss=some r->(Cj rs ss).Nodup->Nh rs=true->
 Oz w0.heap.size w Zn rs vs r/\∀u∈W5 rs vs,∀b,root u=some b->∃k∈Cj rs ss,A9 w (B k) (st.L k) b
 | [],[],vs,_,_,a,_,_,_=>⟨a,fun u c=>by simp[W5]at c⟩
 | [],_:: _,_,_,_,_,a,_,_=>by cases a
 | .val _ _:: _,[],_,_,_,_,a,_,_=>by cases a
 | .own _ _:: _,[],_,_,_,_,a,_,_=>by cases a
 | .obox _ _:: _,[],_,_,_,_,a,_,_=>by cases a
 | .rows _ _ _:: _,[],_,_,_,_,a,_,_=>by cases a
 | .rows t i j::rs,y::ss,_,r,c,⟨z,H,e,o,x⟩,l,n,s=>by
  simp only[HB,bind_some,qN]at l;obtain⟨v,⟨q,a,g⟩,A,d,rfl⟩:=l;subst e;obtain⟨l,g⟩:=D8 g;have A:=qS l;have l:y=⟨false,[.row q]⟩:=by
   unfold RN at a;split at a
   . cases a;rfl
   . cases a
  subst l;obtain⟨_,_,l,a,_⟩:=o;cases l;have a:z=B q:=a;subst a;obtain⟨al,o⟩:=Jb g;have a:=h.locs q;rw[o]at a;have y:=a.rowsR;have l:∀b,A9 w (B q) (.rows t i j v [] none) b->A9 w (B q) (st.L q) b:=fun b a=>by rw[o];exact(Aa fun _ _=>rfl).1 a
  simp only[Nh,Bm,Qo,qC,g0d,vZ,rO]at s;obtain⟨⟨G,o⟩,A⟩:=s;have g:Cj (.rows t i j::rs) (⟨false,[.row q]⟩::ss)=q::Cj rs ss:=rfl;rw[g]at n⊢;have z:=sB.1 n;obtain⟨n,s⟩:=Na h f (c.imp id fun g=>by simp only[sY,qC]at g;exact g.2) x d z.2 A;have x:Ky w Zn t i j (B q) v:=by
   obtain⟨I,z,A,D,F⟩:=y;refine⟨I,z,fun v i y j t=>(A v i y j t).imp fun z d=>⟨d.1, ?_⟩,D,F⟩;rcases c with c|c
   . exact d.2.mono fun _ _=>C5.mono c (fun _ _=>rfl)
   . simp only[sY,qC]at c;exact d.2.mono fun _ _ g=>C5.flat c.1 g
  refine⟨⟨B q,H,rfl,⟨x,fun b a=> ?_⟩,fun _=>⟨⟨G,fun _=>o⟩,fun b a u c=>by rw[Vr o]at c;cases c⟩,n⟩,fun u c b a=> ?_⟩
  . obtain⟨d,g,i⟩:=(h.locs q).root (l b a);refine⟨?_,fun j=>i (f b j),g⟩;rcases d with d|d
    . exact d.2
    . have:=h.nms.1;omega
  . simp only[W5,qG]at c;rcases c with rfl|c
    . exact⟨q,by simp,l b (.inl a)⟩
    . obtain⟨k,d,r⟩:=s u c b a;exact⟨k,qL _ d,r⟩
 | .val d j::rs,s::ss,_,r,a,⟨v,y,e,l,n⟩,c,g,i=>by
  simp only[Nh,qC]at i;obtain⟨t,o⟩:=i;simp only[HB,bind_some,qN]at c;obtain⟨i,t,z,x,rfl⟩:=c;have c:Cj (.val d j::rs) (s::ss)=Cj rs ss:=by
   obtain⟨i,j⟩:=s;simp only[Cj]
  rw[c]at g⊢;obtain⟨i,j⟩:=Na h f (a.imp id fun c=>by simp only[sY,qC]at c;exact c.2) n x g o;subst e;refine⟨⟨v,y,rfl, ?_,fun c=>(by cases c),i⟩,j⟩;have c:=Eu l t;rcases a with a|a
  . exact c.mono a (fun _ _=>rfl)
  . simp only[sY,qC]at a;cases d with
    |true=>obtain⟨cs,e,c⟩:=c;exact⟨cs,e,C5.flat a.1 c⟩
    |false=>exact C5.flat (cs:= [v]) a.1 c
 | .own t y::rs,s::ss,_,r,a,⟨v,N,e,g,z⟩,d,i,c=>by
  simp only[Nh,Bm,Qo,qC,g0d,vZ,g2s,g1y,Bool.and_true,rO]at c;obtain⟨H,I⟩:=c;simp only[HB,bind_some,qN]at d;obtain⟨n,⟨j,c,l⟩,o,M,rfl⟩:=d;subst e;have d:s=⟨false,[j]⟩:=by
   unfold c1 at c;split at c
   . cases c;rfl
   . cases c
  subst d;obtain⟨_,_,c,d,_⟩:=g;cases c;obtain⟨x,s,c,o,g⟩:=PW h d l;have U:=F5 s;have A:G1 (C5 t w Zn) x n:=by
   rcases a with a|a
   . exact c.mono fun _ _=>C5.mono a (fun _ _=>rfl)
   . simp only[sY,qC]at a;exact c.mono fun _ _ d=>C5.flat a.1 d
  have D:(∀b,Z b->Zn b)\/rs.all A3y=true:=a.imp id fun d=>by simp only[sY,qC]at d;exact d.2
  rcases g with⟨q,rfl,F,J⟩ | ⟨P,O⟩
  . have n:Cj (.own t y::rs) (⟨false,[.row q]⟩::ss)=q::Cj rs ss:=rfl;rw[n]at i⊢;have G:=sB.1 i;obtain⟨l,g⟩:=Na h f D z M G.2 I;refine⟨⟨v,N,rfl,⟨x,s,A,fun b a c=>o b a (f b c)⟩,fun _=>⟨⟨H,fun d=>(by cases d)⟩,fun b a u c hub=> ?_⟩,l⟩,fun u c b a=> ?_⟩
    . obtain⟨k,o,R⟩:=g u c b hub;have Q:root (B q)=some b:=by rw[<-J];exact a
      exact h.disj q k b (fun d=>G.1 (d▸o)) (A9.of F Q) R
    . simp only[W5,qG]at c;rcases c with rfl|c
      . exact⟨q,by simp,A9.of F (by rw[<-J];exact a)⟩
      . obtain⟨k,o,r⟩:=g u c b a;exact⟨k,qL _ o,r⟩
  . have n:Cj (.own t y::rs) (⟨false,[j]⟩::ss)=Cj rs ss:=by cases j<;>first|rfl|exact absurd rfl (O _)
    rw[n]at i⊢;obtain⟨l,g⟩:=Na h f D z M i I;have i:∀b,root v≠some b:=fun b a=>by rw[P]at a;cases a
    refine⟨⟨v,N,rfl,⟨x,s,A,fun b a=>absurd (U.trans a) (i b)⟩,fun _=>⟨⟨H,fun d=>(by cases d)⟩,fun b a=>absurd a (i b)⟩,l⟩,fun u c b a=> ?_⟩;simp only[W5,qG]at c;rcases c with rfl|c
    . exact absurd a (i b)
    . exact g u c b a
 | .obox T t::rs,s::ss,_,r,a,⟨J,M,e,l,z⟩,d,n,c=>by
  simp only[Nh,Bm,Qo,qC,g0d,vZ,g2s,g1y,Bool.and_true,rO]at c;obtain⟨F,G⟩:=c;simp only[HB,bind_some,qN]at d;obtain⟨N,⟨q,c,g⟩,y,I,rfl⟩:=d;subst e;obtain⟨D,g⟩:=D8 g;have d:s=⟨false,[.box q 0]⟩:=by
   unfold cP at c;split at c
   . cases c;rfl
   . cases c
  subst d;obtain⟨_,_,j,⟨d,c,i⟩,_⟩:=l;cases j;obtain⟨cs,s,A⟩:=Zp g;have l:=h.locs q;rw[s]at l;obtain⟨H,v,j,g,x,y,o⟩:=l;rw[j]at c;cases c;have c:=Hg o A;have H:C5 t w Zn v.toList N:=by
   rcases a with a|a
   . exact C5.mono a (fun _ _=>rfl) c
   . simp only[sY,qC]at a;exact C5.flat a.1 c
  have A:(∀b,Z b->Zn b)\/rs.all A3y=true:=a.imp id fun c=>by simp only[sY,qC]at c;exact c.2
  have a:Cj (.obox T t::rs) (⟨false,[.box q 0]⟩::ss)=q::Cj rs ss:=rfl;rw[a]at n⊢;have o:=sB.1 n;obtain⟨n,l⟩:=Na h f A z I o.2 G;have t:w0.heap.size<=d:=by
   rcases g with g|g
   . exact g.2
   . have:=h.nms.1;have:=qS D;omega
  have g:∀a,root (Value.pointer (some ⟨d,0,none⟩))=some a->A9 w (B q) (st.L q) a:=fun a z=>by rw[s,j];exact z
  refine⟨⟨J,M,rfl,⟨d,v,i,t,fun a=>x (f d a),y,H⟩,fun _=>⟨⟨F,fun c=>(by cases c)⟩,fun b a u d hub=> ?_⟩,n⟩,fun u d b a=> ?_⟩
  . obtain⟨k,f,j⟩:=l u d b hub;rw[i]at a;exact h.disj q k b (fun c=>o.1 (c▸f)) (g b a) j
  . simp only[W5,qG]at d;rcases d with rfl|d
    . rw[i]at a;exact⟨q,by simp,g b a⟩
    . obtain⟨k,f,r⟩:=l u d b a;exact⟨k,qL _ f,r⟩
def B7.settleM:∀ {as:List AM} {st:St} {j:Nat} {Z:Nat->Prop},B7 za w0 st E w Z B->∃Z',B7 za w0 (settleM st as j) E w Z' B
 | [],st,_,Z,h=>⟨Z,h⟩
 | .row _ _::r,st,j,Z,h=>B7.settleM (as:=r) h
 | .val _ _::r,st,j,Z,h=>B7.settleM (as:=r) h
 | .fn _ _ _::r,st,j,Z,h=>B7.settleM (as:=r) h
 | .rows _ _ _::r,st,j,Z,h=>B7.settleM (as:=r) h
 | .box _ _::r,st,j,Z,h=>by
  simp only[Vc.settleM];split
  . obtain⟨Z1,a⟩:=h.settle _;exact B7.settleM (as:=r) a
  . exact B7.settleM (as:=r) h
def Vf (h:B7 za w0 st E w Z B) {Zn:Nat->Prop} :∀ {as:List AM} {vs:List Value} {o:Om as} {j:Nat},((∀b,Z b->Zn b)\/as.all C0c=true)->(∀m u,(D3 as vs)[m]? =some u->B (j+m)=u)->(∀m p,(O8 as vs)[m]? =some p->∀b,up za w0 (j+m) b->A9 w0 p.2 (lcA p.1) b)->vs.length=as.length->bD st as j=some o->Xq w0 w Zn as vs o
 | [],_,_,_,_,_,_,_,_=>trivial
 |a::r,[],_,_,_,_,_,c,_=>by simp at c
 | .val _ _::r,v::vs,o,j,g,d,f,i,k=>Vf (as:=r) h (g.imp id fun c=>by simp only[sY,qC]at c;exact c.2) d f (by simpa using i) k
 | .fn _ _ _::r,v::vs,o,j,g,d,f,i,k=>Vf (as:=r) h (g.imp id fun c=>by simp only[sY,qC]at c;exact c.2) d f (by simpa using i) k
 | .row t e::s,v::vs,o,j,c,i,l,n,d=>by
  simp only[bD,bind_some,qN]at d;obtain⟨x,g,y,r,rfl⟩:=d;have k:B j=v:=i 0 v (by simp[D3,K8]);have f:=h.locs j;rw[Ng g]at f;obtain⟨t,d,g,_⟩:=f;rw[k]at d;refine⟨⟨t,d, ?_⟩,Vf (as:=s) h (c.imp id fun d=>by simp only[sY,qC]at d;exact d.2) (fun m u f=>by rw[show j+1+m=j+(m+1)from by omega];exact i (m+1) u (by simpa[D3,K8]using f)) (fun m p f=>by rw[show j+1+m=j+(m+1)from by omega];exact l (m+1) p (by simpa[O8,K8]using f)) (by simpa using n) r⟩;rcases c with c|c
  . exact g.mono fun _ _=>C5.mono c (fun _ _=>rfl)
  . simp only[sY,qC]at c;exact g.mono fun _ _ d=>C5.flat c.1 d
 | .box T t::x,v::vs,o,j,c,f,n,r,d=>by
  simp only[bD,bind_some,qN]at d;obtain⟨i,g,y,t,rfl⟩:=d;have l:B j=v:=f 0 v (by simp[D3,K8]);obtain⟨i,d,s⟩:=Zp g;have g:=h.locs j;rw[d]at g;obtain⟨b,v,d,_,_,i,k⟩:=g;rw[l]at d;refine⟨⟨b,v,d,i, ?_⟩,Vf (as:=x) h (c.imp id fun g=>by simp only[sY,qC]at g;exact g.2) (fun m u d=>by rw[show j+1+m=j+(m+1)from by omega];exact f (m+1) u (by simpa[D3,K8]using d)) (fun m p d=>by rw[show j+1+m=j+(m+1)from by omega];exact n (m+1) p (by simpa[O8,K8]using d)) (by simpa using r) t⟩;have:=Hg k s;rcases c with c|c
  . exact C5.mono c (fun _ _=>rfl) this
  . simp only[sY,qC]at c;exact C5.flat c.1 this
 | .rows G e y::k,v::vs,o,j,c,n,s,i,d=>by
  simp only[bD,bind_some,qN]at d;obtain⟨x,l,g,f,rfl⟩:=d;have r:B j=v:=n 0 v (by simp[D3,K8]);have d:=h.locs j;obtain⟨al,t⟩:=Jb l;rw[t]at d;have g:=d.rowsR;rw[r]at g;refine⟨⟨?_,fun b D=> ?_⟩,Vf (as:=k) h (c.imp id fun d=>by simp only[sY,qC]at d;exact d.2) (fun m u k=>by rw[show j+1+m=j+(m+1)from by omega];exact n (m+1) u (by simpa[D3,K8]using k)) (fun m p k=>by rw[show j+1+m=j+(m+1)from by omega];exact s (m+1) p (by simpa[O8,K8]using k)) (by simpa using i) f⟩
  . rcases c with c|c
    . exact g.mono c
    . simp only[sY,qC]at c;obtain⟨H,k,n,z,A⟩:=g;exact⟨H,k,fun g F x i l=>(n g F x i l).imp fun k f=>⟨f.1,f.2.mono fun _ _ d=>C5.flat c.1 d⟩,z,A⟩
  . have c:A9 w (B j) (st.L j) b:=by rw[t,r];exact(Aa fun _ _=>rfl).1 D
    exact s 0 (.rows G e y,v) (by simp[O8,K8]) b ((h.locs j).root c).1
variable {P:Program}
def Iv {n:Nat} :∀ {as:List AM} {vs:List Value} {x:A2 as} {i j s:Nat},Z8 P w Z as vs x->i<=s->(∀m u,(D3 as vs)[m]? =some u->B (j+m)=u)->j+Kr as<=n->RD w Z B E (find (0, .dead) s (Ig P as x i j)).2 ((vs[s-i]?).getD undef)/\Oo n (find (0, .dead) s (Ig P as x i j)).2
 | [],_,_,_,_,_,_,_,_,_=>⟨trivial,trivial⟩
 |a::r,_,x,i,j,s,⟨v,h,e,g,f⟩,d,b,c=>by
  subst e;by_cases d:i=s
  . subst d;cases a with
    |val a t=>
     simp only[Ig,find,xO,qT,xQ];exact⟨Bj.explode g,E2⟩
    |row t e=>
     simp only[Ig,find,xO,qT,xQ];have k:B j=v:=b 0 v (by simp[D3,K8]);exact⟨⟨v,[],rfl,k.symm,rfl⟩,fun l h=>by simp at h;subst h;simp only[Kr]at c;show j<n;omega⟩
    |box T t=>
     simp only[Ig,find,xO,qT,xQ];have o:B j=v:=b 0 v (by simp[D3,K8]);obtain⟨l,k,h,_⟩:=g;exact⟨⟨v,[],rfl,⟨l,o.trans h,h⟩,rfl⟩,fun r k=>by simp at k;subst k;simp only[Kr]at c;show j<n;omega⟩
    |rows t e h=>
     simp only[Ig,find,xO,qT,xQ];have k:B j=v:=b 0 v (by simp[D3,K8]);exact⟨⟨v,[],rfl,k.symm,rfl⟩,fun l h=>by simp at h;subst h;simp only[Kr]at c;show j<n;omega⟩
    |fn h k=>
     simp only[Ig,find,xO,qT,xQ];exact⟨⟨v,[],rfl,g,rfl⟩,fun k h=>by simp at h;subst h;trivial⟩
  . have g:s-i=(s-(i+1))+1:=by omega
    rw[g];cases a with
    |val a t=>
     simp only[Ig,find,D1 d,rF,uM];exact Iv (i:=i+1) (s:=s) f (by omega) b c
    |fn g h=>
     simp only[Ig,find,D1 d,rF,uM];exact Iv (i:=i+1) (s:=s) f (by omega) b c
    |row t e=>
     simp only[Ig,find,D1 d,rF,uM];exact Iv (i:=i+1) (s:=s) f (by omega) (fun m u g=>by rw[show j+1+m=j+(m+1)from by omega];exact b (m+1) u (by simpa[D3,K8]using g)) (by simp only[Kr]at c;omega)
    |box t e=>
     simp only[Ig,find,D1 d,rF,uM];exact Iv (i:=i+1) (s:=s) f (by omega) (fun m u g=>by rw[show j+1+m=j+(m+1)from by omega];exact b (m+1) u (by simpa[D3,K8]using g)) (by simp only[Kr]at c;omega)
    |rows t e g=>
     simp only[Ig,find,D1 d,rF,uM];exact Iv (i:=i+1) (s:=s) f (by omega) (fun m u d=>by rw[show j+1+m=j+(m+1)from by omega];exact b (m+1) u (by simpa[D3,K8]using d)) (by simp only[Kr]at c;omega)
def A1c {n:Nat} {U:Nat->Nat->Prop} :∀ {as:List AM} {vs:List Value} {x:A2 as} {j k:Nat},Z8 P w Z as vs x->(∀m p,(O8 as vs)[m]? =some p->B (j+m)=p.2/\∀b,A9 w p.2 (lcA p.1) b->U (j+m) b)->
 RL (U k) w Z B k (find (0, .none) k (Em as x j)).2/\Lw n (find (0, .none) k (Em as x j)).2/\(live (find (0, .none) k (Em as x j)).2->j<=k/\∃p,(O8 as vs)[k-j]? =some p/\∀b,A9 w (B k) (find (0, .none) k (Em as x j)).2 b->A9 w p.2 (lcA p.1) b):=by
 intro as
 induction as with
 |nil=>intro _ _ _ _ _ _;exact⟨trivial,trivial,fun h=>h.elim⟩
 |cons f r o=>
  intro vs x j k D c;obtain⟨v,y,e,h,i⟩:=D;subst e;have l:K8 f=true->j≠k->RL (U k) w Z B k (find (0, .none) k (Em r x.2 (j+1))).2/\Lw n (find (0, .none) k (Em r x.2 (j+1))).2/\(live (find (0, .none) k (Em r x.2 (j+1))).2->j<=k/\∃p,(O8 (f::r) (v::y))[k-j]? =some p/\∀b,A9 w (B k) (find (0, .none) k (Em r x.2 (j+1))).2 b->A9 w p.2 (lcA p.1) b):=fun hm a=>by
   obtain⟨t,u,g⟩:=o (vs:=y) (x:=x.2) (j:=j+1) (k:=k) i (fun m p s=>by rw[show j+1+m=j+(m+1)from by omega];exact c (m+1) p (by simpa[O8,hm]using s));refine⟨t,u,fun d=>⟨by have:=(g d).1;omega, ?_⟩⟩;obtain⟨E,p,z,A⟩:=g d;refine⟨p, ?_,A⟩;rw[show k-j=(k-(j+1))+1 from by omega];simpa[O8,hm]using z
  cases f with
  |val f t=>exact o (x:=x.2) i c
  |fn f t=>exact o (x:=x.2) i c
  |row u s=>
   simp only[Em,find];by_cases a:j=k
   . subst a;simp only[xO,qT];obtain⟨g,E⟩:=c 0 (.row u s,v) (by simp[O8,K8]);obtain⟨F,t,z,A⟩:=h;have g:B j=v:=g;refine⟨⟨F,by rw[g];exact t,z,fun b d=> ?_⟩,trivial,fun _=>⟨qZ _,(.row u s,v),by simp[O8,K8],fun b d=>by rw[g]at d;exact d⟩⟩;rw[g]at d;exact⟨E b ((F5 t).trans d),A b d⟩
   . simp only[D1 a,rF];exact l rfl a
  |box T t=>
   simp only[Em,find];by_cases a:j=k
   . subst a;simp only[xO,qT];obtain⟨d,E⟩:=c 0 (.box T t,v) (by simp[O8,K8]);obtain⟨b,F,g,u,z,A⟩:=h;have d:B j=v:=d;exact⟨⟨b,F,d.trans g,E b (by rw[g];rfl),u,z,T9 A⟩,E2,fun _=>⟨qZ _,(.box T t,v),by simp[O8,K8],fun b s=>by rw[d]at s;exact s⟩⟩
   . simp only[D1 a,rF];exact l rfl a
  |rows u s t=>
   simp only[Em,find];by_cases a:j=k
   . subst a;simp only[xO,qT];obtain⟨g,E⟩:=c 0 (.rows u s t,v) (by simp[O8,K8]);obtain⟨z,A⟩:=h;have g:B j=v:=g;refine⟨Ky.rl (by rw[g];exact z) fun b d=> ?_,fun p F=>(by cases F),fun _=>⟨qZ _,(.rows u s t,v),by simp[O8,K8],fun b d=>by rw[g]at d;exact(Aa fun _ _=>rfl).1 d⟩⟩;rw[g]at d;exact⟨E b ((Aa fun _ _=>rfl).1 d),A b d⟩
   . simp only[D1 a,rF];exact l rfl a
def Z8.len:∀ {as:List AM} {vs:List Value} {x:A2 as},Z8 P w Z as vs x->vs.length=as.length
 | [],_,_,h=>by rw[show _= _ from h];rfl
 | _:: _,_,_,⟨v,b,e,_,a⟩=>by rw[e,rE,rE,Z8.len a]
def S0:∀ {as:List AM} {vs:List Value},vs.length=as.length->(D3 as vs).length=Kr as
 | [],vs,_=>by cases vs<;>rfl
 |a::r,[],h=>by simp at h
 | .val _ _::r,v::vs,h=>S0 (as:=r) (by simpa using h)
 | .fn _ _ _::r,v::vs,h=>S0 (as:=r) (by simpa using h)
 | .row _ _::r,v::vs,h=>by simp only[D3,K8,qT,rE,Kr];rw[S0 (as:=r) (by simpa using h)]
 | .box _ _::r,v::vs,h=>by simp only[D3,K8,qT,rE,Kr];rw[S0 (as:=r) (by simpa using h)]
 | .rows _ _ _::r,v::vs,h=>by simp only[D3,K8,qT,rE,Kr];rw[S0 (as:=r) (by simpa using h)]
def Mq:∀(as:List AM) (vs:List Value),D3 as vs=(O8 as vs).map (·.2)
 | [],vs=>by cases vs<;>rfl
 | _:: _,[]=>rfl
 |a::r,v::vs=>by
  simp only[D3,O8];cases K8 a
  . exact Mq r vs
  . simp only[qT,sA,Mq r vs]
def Dis.get:∀ {l:List (AM×Value)} {m c b:Nat} {u a:AM×Value},Dis w l->m<c->l[m]? =some u->l[c]? =some a->A9 w u.2 (lcA u.1) b->¬A9 w a.2 (lcA a.1) b
 | [],_,_,_,_,_,_,_,h,_,_=>by simp at h
 |v::l,0,c+1,b,u,a,g,i,h,d,f=>by
  simp at h d;subst h;exact g.1 b f a (sO d)
 |v::l,m+1,c+1,b,u,a,g,i,h,d,f=>by
  simp at h d;exact Dis.get g.2 (by omega) h d f
 |v::l,_,0,_,_,_,_,a,_,_,_=>by omega
def XK (as:List AM) (vs:List Value):Nat->Value:=fun j=>((D3 as vs)[j]?).getD (.bool false)
def EM:∀ {as:List AM} {vs:List Value} {x:A2 as},Z8 P w Z as vs x->∀u∈D3 as vs,u.oneCell'=true
 | [],vs,_,_,u,a=>by cases vs<;>cases a
 | .val _ _::r,_,_,⟨v,c,e,_,a⟩,u,b=>by subst e;exact EM (as:=r) a u b
 | .fn _ _ _::r,_,_,⟨v,c,e,_,a⟩,u,b=>by subst e;exact EM (as:=r) a u b
 | .row t b::r,_,_,⟨v,d,e,⟨f,g,_⟩,c⟩,u,a=>by
  subst e;simp only[D3,K8,qT,qG]at a;rcases a with rfl|a
  . rcases g.2 with⟨b,_⟩ | ⟨_,_,_,b,_⟩<;>rw[b]<;>rfl
  . exact EM (as:=r) c u a
 | .rows t b d::r,_,_,⟨v,f,e,⟨⟨h,g,_⟩,_⟩,c⟩,u,a=>by
  subst e;simp only[D3,K8,qT,qG]at a;rcases a with rfl|a
  . rcases g.2 with⟨b,_⟩ | ⟨_,_,_,b,_⟩<;>rw[b]<;>rfl
  . exact EM (as:=r) c u a
 | .box t d::r,_,_,⟨v,h,e,⟨c,f,g,_⟩,b⟩,u,a=>by
  subst e;simp only[D3,K8,qT,qG]at a;rcases a with rfl|a
  . rw[g];rfl
  . exact EM (as:=r) b u a
def Iw:∀ {as:List AM} {x:A2 as} {j k:Nat},¬live (find (0, .none) k (Em as x j)).2->(find (0, .none) k (Em as x j)).2= .none
 | [],_,_,_,_=>rfl
 | .val _ _::r,x,j,k,h=>Iw (as:=r) (x:=x.2) (j:=j) h
 | .fn _ _ _::r,x,j,k,h=>Iw (as:=r) (x:=x.2) (j:=j) h
 | .row t a::r,x,j,k,h=>by
  simp only[Em,find]at h⊢;cases a:Nat.beq j k with
  |true=>rw[a]at h;exact absurd trivial h
  |false=>rw[a]at h;exact Iw (as:=r) h
 | .rows t a b::r,x,j,k,h=>by
  simp only[Em,find]at h⊢;cases a:Nat.beq j k with
  |true=>rw[a]at h;exact absurd trivial h
  |false=>rw[a]at h;exact Iw (as:=r) h
 | .box T t::r,x,j,k,h=>by
  simp only[Em,find]at h⊢;cases a:Nat.beq j k with
  |true=>rw[a]at h;exact absurd trivial h
  |false=>rw[a]at h;exact Iw (as:=r) h
def C4z (w:World) (as:List AM) (vs:List Value):Nat->Nat->Prop:=fun k b=>∃p:AM×Value,(O8 as vs)[k]? =some p/\A9 w p.2 (lcA p.1) b
def zn0 (w:World) (Z:Nat->Prop) (as:List AM) (vs:List Value):Zn:=⟨Z,nQ w as vs,Kr as,XK as vs,0,0,C4z w as vs,fun _ _ ⟨p,hp,hb⟩=>⟨p,sO hp,hb⟩,[]⟩
def A4c {as:List AM} {vs:List Value} {x:A2 as} (l:∀b,Z b->b<w.heap.size) (h:Z8 P w Z as vs x) (y:Dis w (O8 as vs)):B7 (zn0 w Z as vs) w (WW P as x) (QW vs) w Z (XK as vs):=by
 have a:=S0 (Z8.len h);have f:∀m u,(D3 as vs)[m]? =some u->XK as vs (0+m)=u:=fun m u a=>by simp only[XK,sF,a,vC]
 have g:∀(m:Nat) (p:AM×Value),(O8 as vs)[m]? =some p->(D3 as vs)[m]? =some p.2:=fun m p a=>by rw[Mq,wB,a];rfl
 have d:=fun k=>A1c (P:=P) (w:=w) (Z:=Z) (B:=XK as vs) (n:=Kr as) (U:=fun k b=>up (zn0 w Z as vs) w k b) (j:=0) (k:=k) h (fun m p a=>⟨f m p.2 (g m p a),fun b c=> .inr ⟨by have:=GW (g m p a);simp only[sF];show m<Kr as;omega,p,by simpa using a,c⟩⟩)
 have t:=fun s=>Iv (P:=P) (w:=w) (Z:=Z) (B:=XK as vs) (E:=QW vs) (n:=Kr as) (i:=0) (j:=0) (s:=s) h (rK _) f (by omega)
 refine⟨Ir.of (R8.refl w),l,fun s=>(t s).1,fun k=>(d k).1,fun k l b f o r=> ?_,fun s=>(t s).2,fun k=>(d k).2.1,fun k z=> ?_,fun k=> ?_,fun b c=> .inl c,⟨rfl,qZ _⟩,fun _ _=>rfl,⟨rK _,fun _ _ _ _=>rK _⟩,trivial,fun f c=>(by cases c)⟩
 . obtain⟨_,p,c,t⟩:=(d k).2.2 o.live;obtain⟨_,A,f,v⟩:=(d l).2.2 r.live;simp only[g2e]at c f;rcases sE k l with A|D
   . exact y.get A c f (t b o) (v b r)
   . exact y.get (by omega:l<k) f c (v b r) (t b o)
 . by_cases f:live ((WW P as x).L k)
   . obtain⟨_,p,c,_⟩:=(d k).2.2 f;simp only[g2e]at c;have:=GW (g k p c);have z:Kr as<=k:=z;omega
   . exact Iw f
 . simp only[XK];cases a:(D3 as vs)[k]? with
   |none=>rfl
   |some u=>exact EM h u (sO a)
def B2y {f:FuncId} {fn:Func} {c:Code} {s:A6} (g:cx.P.funcs[f]? =some fn) (a:fn.body=some c) (h:s.args.length<=fn.ntmps) (n:X8 fn.ntmps c=true) (D:H5 cx.P cx.tys=true) (O:Jo cx.P sp)
 (l:∀x,awf s.args x->s.pre x->C3b cx sp an s fn.results.toList c x):A8 cx.P f s:=by
 intro w Z i x o b d k;have r:i.length=s.args.length:=b.len;have N:=l x b.awf k;generalize k:zn0 w Z s.args i=za;have A:=A4c o b d;rw[k]at A;refine Zs g a (by rw[r];exact h) n (fun E l=>Nx za w (fin cx s fn.results.toList x) E l) ?_ ⟨fun J G z=> ?_⟩
 . rintro E l o Q ⟨st,Z',B',y,h⟩;unfold fin at h;split at h
   . rename_i ss b;split at h
     . rename_i b M;split at h
       . rename_i t F z I;obtain⟨g,b⟩:=B4 h;simp only[qC]at g;obtain⟨Z0,d⟩:=B7.settleR (rs:=s.res) (ss:=ss) y;obtain⟨Z1,n⟩:=B7.settleM (as:=s.args) (j:=0) d;obtain⟨v,B,H⟩:=BE D n Q M;have M:(results fn o).run cx.P l= .ok (Wy v) l:=by
          have d:(fn.results.mapM (bE o)).run cx.P l= .ok v.toArray l:=by
           rw[xH];simp[B]
          have e:results fn o=(do let i<-fn.results.mapM (bE o);pure (if y:i.size=1 then i[0]else .tuple i)):=by
           unfold results;congr 1
          rw[e];simp only[Sem.run_bind,d,Result.andThen_ok,Sem.run_pure]
          match v with
          | []=>rfl
          | [u]=>rfl
          |u::o::t=>rfl
         have B:s.post x t/\(N4 s.args=true->s.mpost x t F):=by
          unfold C1s at b;cases d:N4 s.args with
          |true=>simp only[d,qT]at b;exact⟨b.1,fun _=>b.2⟩
          |false=>simp only[d,rF]at b;exact⟨b,fun o=>by cases o⟩
         refine⟨_,M, ?_,t,F,v,(fun b=>s.shared=true/\Z1 b),B.1,B.2,rfl,fun b a=> ?_, ?_, ?_⟩
         . have:=y.ext;rw[<-k]at this;exact this
         . rcases n.zin b a.2 with o|o
           . rw[<-k]at o;exact .inr ⟨a.1,o⟩
           . exact .inl ⟨o,n.zlt b a.2⟩
         . refine(Na n (Zn:=fun b=>s.shared=true/\Z1 b) (fun b a=>a.2) ?_ H z (Gg g.1.1) g.1.2).1;cases t:s.shared with
           |true=>exact .inl fun b a=>⟨rfl,a⟩
           |false=>rw[t]at g;simp only[vZ,qC]at g;exact .inr g.2.1
         . refine Vf (Zn:=fun b=>s.shared=true/\Z1 b) n (j:=0) ?_ (fun m u d=> ?_) (fun m p d b o=> ?_) r I
           . cases t:s.shared with
             |true=>exact .inl fun b a=>⟨rfl,a⟩
             |false=>rw[t]at g;simp only[vZ,qC]at g;exact .inr g.2.2
           . have b:=GW d;rw[S0 r]at b;have:=n.bfix m (by rw[<-k];exact b);rw[sF,this, <-k];show XK s.args i m=u;simp only[XK,d,vC]
           . rw[<-k,sF]at o;rcases o with⟨o,_⟩ | ⟨_,n,g,a⟩
             . have b:=GW (show(D3 s.args i)[m]? =some p.2 by rw[Mq,wB,d];rfl);rw[S0 r]at b;have o:Kr s.args<=m:=o;omega
             . rw[d]at g;cases g;exact a
       . exact h.elim
     . exact h.elim
   . exact h.elim
 . refine wp_mono (Vv D O (by rw[<-k];rfl) A N J G z) ?_;rintro e h l ⟨E',g,d,Z',B',b,a⟩;refine⟨E',g, ?_⟩;cases e with
   |normal=>exact⟨d,Z',B',b,a⟩
   |ret=>exact⟨d,Z',B',b,a⟩
   | _=>exact a.elim
def B2z {f:FuncId} {fn:Func} {c:Code} {s:A6} {a:A2 s.args->Prop} (g:cx.P.funcs[f]? =some fn) (b:fn.body=some c) (h:s.args.length<=fn.ntmps) (i:X8 fn.ntmps c=true) (k:H5 cx.P cx.tys=true) (j:Jo cx.P sp)
 (d:∀x,C3b cx sp an s fn.results.toList c x=a x) (l:∀x,awf s.args x->s.pre x->a x):A8 cx.P f s:=
 B2y g b h i k j fun x n a=>by rw[d];exact l x n a
def B8r (P:Program) (tys:List (Nat×TI)) (sp:H2) (an:An) (s:A6) (fn:Func) (x:A2 s.args):Prop:=C3b ⟨P,tys⟩ sp an s fn.results.toList (fn.body.getD .skip) x
def B3a {P:Program} {tys:List (Nat×TI)} {sp:H2} {an:An} {f:FuncId} {fn:Func} {s:A6} {a:A2 s.args->Prop} (g:P.funcs[f]? =some fn) (b:fn.body.isSome=true) (h:Nat.ble s.args.length fn.ntmps=true) (i:X8 fn.ntmps (fn.body.getD .skip)=true) (k:H5 P tys=true) (j:Jo P sp)
 (d:∀x,B8r P tys sp an s fn x=a x) (l:∀x,awf s.args x->s.pre x->a x):A8 P f s:=by
 cases a:fn.body with
 |none=>rw[a]at b;cases b
 |some c=>
  have b:fn.body.getD .skip=c:=by rw[a];rfl
  refine B2z (cx:=⟨P,tys⟩) (an:=an) (c:=c) g a (qS h) (by rw[<-b];exact i) k j (fun x=> ?_) l;rw[<-d x, <-b];rfl
def EV (a:Nat):Nat->List SV->List (Nat×Nat×DV)
 | _,[]=> []
 |i,s::b=>(i,a, .one s)::EV a (i+1) b
def jO (st:St) (ss:List SV):St:=⟨EV (st.ct+1) 0 ss,st.lc,st.nx,st.ct+1,st.nm,st.sl::st.fr⟩
def A2g (cx:Cx) (b:List ResultVar) (k:St->List SV->Prop) (st:St):Prop:=
 match st.fr with
 |f::a=>(match BD cx st b with
  |some b=>k ⟨f,st.lc,st.nx,st.ct,st.nm,a⟩ b
  |none=>False)
 | []=>False
def OT (cx:Cx) (b:List (Nat×H2×An)) (a:List ResultVar) (c:Code) (n d:Nat) (st:St) (ss:List SV) (k:St->List SV->Prop):Prop:=
 match Gv d b with
 |some (sp,an)=>bif Nat.ble ss.length n then Jh cx sp an c ⟨A2g cx a k,fun _ _=>False,A2g cx a k⟩ (jO st ss)else False
 |none=>False
def eU {c:List ResultVar} {k k':St->List SV->Prop} {ss:List SV} {a:St} (ev:C1 (jO st ss) a) (h:A2g cx c k a) (d:∀a b,C1 st a->k a b->k' a b):A2g cx c k' a:=by
 unfold A2g at h⊢;cases b:a.fr with
 |nil=>rw[b]at h;exact h
 |cons f a=>
  rw[b]at h;simp only at h⊢;split at h
  . have e:=ev.f;rw[b]at e;have e:O1 (st.ct+1) st.sl f/\Az (st.ct+1) st.fr a:=e;refine d _ _ ⟨qX (uY _) ev.ct,fun s b a=> ?_,fun q b a=>ev.l q b (yR a),e.2.le (uY _)⟩ h;exact O1.find s e.1 (yR a)
  . exact h
def B2b (b:List (Nat×H2×An)) (i:List ResultVar) (c:Code) (n:Nat) {st:St} {d:Nat} {ss:List SV} {k k':St->List SV->Prop} (h:OT cx b i c n d st ss k) (f:∀a g,C1 st a->k a g->k' a g):OT cx b i c n d st ss k':=by
 unfold OT at h⊢;split at h
 . obtain⟨b,h⟩:=B4 h;simp only[b,qT];refine QA h fun e a ev b=> ?_
   cases e with
   |normal=>exact eU ev b f
   |ret=>exact eU ev b f
   | _=>exact b
 . exact h
def RA (cx:Cx) (a:List (Nat×H2×An)) (b:List ResultVar) (c:Code) (n:Nat):Inl:= {run:=OT cx a b c n,step:=B2b a b c n}
def LY {a s:Nat} :∀ {ss:List SV} {i:Nat},(find (0, .dead) s (EV a i ss)).2=if i<=s then(match ss[s-i]? with|some v=> .one v|none=> .dead)else .dead
 | [],i=>by simp[EV,find]
 |v::ss,i=>by
  simp only[EV,find];cases a:Nat.beq i s with
  |true=>
   have:=qE a;subst this;simp
  |false=>
   have b:i≠s:=vA a;simp only[rF,LY (ss:=ss) (i:=i+1)];by_cases a:i+1<=s
   . rw[qQ a,qQ (by omega),show s-i=(s-(i+1))+1 from by omega,uM]
   . rw[qK a,qK (by omega)]
def Rp.len {w:World} {Z:Nat->Prop} {B:Nat->Value} :∀ {ss:List SV} {vs:List Value},Rp w Z B ss vs->vs.length=ss.length
 | [],_,h=>by rw[show _= _ from h];rfl
 | _:: _,_,⟨v,b,e,_,a⟩=>by rw[e,rE,rE,Rp.len a]
def PU (h:B7 za w0 st E w Z B):∀ {a:List ResultVar} {ss:List SV},BD cx st a=some ss->∀s∈ss,Lx st.nx s
 | [],_,a=>by cases a;intro s a;cases a
 | .tmp t::r,ss,a=>by
  simp only[BD]at a;split at a
  . rename_i b d;simp only[qN]at a;obtain⟨b,c,rfl⟩:=a;intro s b;rcases qG.1 b with rfl|b
    . have:=h.refs t;rw[d]at this;exact this
    . exact PU h c s b
  . cases a
 | .cell b t::r,ss,a=>by
  simp only[BD,qH,bind_some]at a;obtain⟨ti,_,a⟩:=a;split at a
  . rename_i k _;split at a
    . rename_i T b c;obtain⟨_,a⟩:=D8 a;simp only[qN]at a;obtain⟨b,d,rfl⟩:=a;intro s b;rcases qG.1 b with rfl|b
      . have:=h.refl k;rw[c]at this;exact this
      . exact PU h d s b
    . cases a
  . cases a
def A3i (P:Program) (a:List (Nat×H2×An)):Prop:=∀x∈a,Jo P x.2.1
def dC {a:Type} {d:Nat} {x:a} :∀ {l:List (Nat×a)},Gv d l=some x->(d,x)∈l
 | [],h=>by cases h
 | (t,y)::l,h=>by
  simp only[Gv]at h;cases a:Nat.beq t d with
  |true=>
   rw[a]at h;have:=qE a;subst this;cases h;simp
  |false=>rw[a]at h;exact qL _ (dC h)
def IH {f:FuncId} {fn:Func} {c:Code} {b:List (Nat×H2×An)} (A:cx.P.funcs[f]? =some fn) (z:fn.body=some c) (H:X8 fn.ntmps c=true) (x:H5 cx.P cx.tys=true) (k:A3i cx.P b):QN cx.P f (RA cx b fn.results.toList c fn.ntmps):=by
 refine {go:= ?_};intro za w0 st E w Z B g a j o F h n I d;have d:OT cx b fn.results.toList c fn.ntmps g st a o:=d;unfold OT at d;split at d
 . rename_i sp an b;have k:=k _ (dC b);simp only at k;obtain⟨g,d⟩:=B4 d;have g:=qS g;have G:=n.len;have l:∀s,(jO st a).S s=match a[s]? with|some v=> .one v|none=> .dead:=fun s=>by
    show(find (0, .dead) s (EV (st.ct+1) 0 a)).2= _;rw[LY,qQ (rK _)];rfl
   have D:B7 {za with es:=E::za.es} w0 (jO st a) (QW j) w Z B:=by
    refine⟨h.ext,h.zlt,fun s=> ?_,h.locs,h.disj,fun s=> ?_,h.refl,h.fresh,h.bone,h.zin,h.nms,h.bfix,h.mrk,⟨h.slots,h.frs⟩,fun r b s=> ?_⟩
    . rw[l];cases i:a[s]? with
      |none=>trivial
      |some v=>
       obtain⟨u,t,y⟩:=n.get i;show RS w Z B v (QW j s);simp only[QW,t,vC];exact y
    . rw[l];cases i:a[s]? with
      |none=>trivial
      |some v=>exact I v (sO i)
    . rcases qG.1 b with rfl|b
      . exact h.refs s
      . exact h.frf r b s
   refine Zs A z (by rw[G];exact g) H (fun E' i=>Nx {za with es:=E::za.es} w0 (A2g cx fn.results.toList o) E' i) ?_ ⟨fun J v M=> ?_⟩
   . rintro E' i l I ⟨g,Z',B',a,b⟩;unfold A2g at b;have t:=a.frs;have o:=a.frf;cases n:g.fr with
     |nil=>rw[n]at b;exact b.elim
     |cons r y=>
      rw[n]at b t o;simp only at b;obtain⟨G,H⟩:=t;split at b
      . rename_i O t;obtain⟨n,z,A⟩:=BE x a I t;have N:(results fn l).run cx.P i= .ok (Wy n) i:=by
         have I:(fn.results.mapM (bE l)).run cx.P i= .ok n.toArray i:=by
          rw[xH];simp[z]
         have e:results fn l=(do let j<-fn.results.mapM (bE l);pure (if h:j.size=1 then j[0]else .tuple j)):=by
          unfold results;congr 1
         rw[e];simp only[Sem.run_bind,I,Result.andThen_ok,Sem.run_pure]
         match n with
         | []=>rfl
         | [u]=>rfl
         |u::j::h=>rfl
        exact⟨_,N,⟨r,g.lc,g.nx,g.ct,g.nm,y⟩,Z',B',O,n,⟨a.ext,a.zlt,G,a.locs,a.disj,fun s=>o r (by simp) s,a.refl,a.fresh,a.bone,a.zin,a.nms,a.bfix,a.mrk,H,fun h j s=>o h (by simp[j]) s⟩,rfl,A,PU a t,b⟩
      . exact b.elim
   . refine wp_mono (Vv x k (by exact F) D d J v M) ?_;rintro e j i ⟨E',h,g,Z',B',a,b⟩;refine⟨E',h, ?_⟩;cases e with
     |normal=>exact⟨g,Z',B',a,b⟩
     |ret=>exact⟨g,Z',B',a,b⟩
     | _=>exact b.elim
 . exact d.elim
def Gy (run:Inl):A6:= {args:= [],res:= [],pre:=fun _=>False,post:=fun _ _=>True,inl:=some run}
end
end Go.Vc
namespace Go.Proofs.YtiflhbllbgajeaaGreat
open Go.IntKind (i64 u64 u32)
def nv:List Int->Nat
 | []=>0
 |a::l=>a.toNat+4294967296*nv l
def nc (n:Nat):List Int:=if h:n=0 then []else((n%4294967296:Nat):Int)::nc (n/4294967296)
termination_by n
decreasing_by omega
def iW (x:Int):Prop:=0<=x/\x<=4294967295
def A7 (l:List Int):Prop:=∀x∈l,iW x
def O6:nc 0= []:=by rw[nc];rfl
def PD {n:Nat} (h:n≠0):nc n=((n%4294967296:Nat):Int)::nc (n/4294967296):=by rw[nc];simp[h]
def E9 (n:Nat):nv (nc n)=n:=by
 induction n using Nat.strongRecOn with
 | _ n a=>
  by_cases h:n=0
  . subst h;rw[O6];rfl
  . rw[PD h];simp only[nv,a (n/4294967296) (by omega)];omega
def J2 (n:Nat):A7 (nc n):=by
 induction n using Nat.strongRecOn with
 | _ n b=>
  by_cases h:n=0
  . subst h;rw[O6];intro x a;cases a
  . rw[PD h];intro x a;rcases qG.1 a with rfl|a
    . unfold iW;omega
    . exact b (n/4294967296) (by omega) x a
def AJ {n:Nat} :nc n= []↔n=0:=by
 constructor
 . intro h;by_cases a:n=0
   . exact a
   . rw[PD a]at h;cases h
 . rintro rfl;exact O6
def A4q (a:Int) (m:Nat) (b:iW a) (h:a≠0\/m≠0):nc (a.toNat+4294967296*m)=a::nc m:=by
 unfold iW at b;rw[PD (by omega)];congr 1
 . omega
 . congr 1;omega
def Sl (a b:List Int):nv (a++b)=nv a+4294967296^a.length*nv b:=by
 induction a with
 |nil=>simp[nv]
 |cons x a c=>
  simp only[wK,nv,c,rE,sC];rw[sZ, <-uN, <-sM,tG 4294967296 (4294967296^a.length)]
def Sm (n:Nat):nv (List.replicate n 0)=0:=by
 induction n with
 |zero=>rfl
 |succ n a=>simp[List.replicate_succ,nv,a]
def XA {a:Int} {l:List Int} :A7 (a::l)↔iW a/\A7 l:=by simp[A7]
def Ha {l:List Int} (h:A7 l):nv l<4294967296^l.length:=by
 induction l with
 |nil=>simp[nv]
 |cons b l a=>
  rw[XA]at h;have:=a h.2;have a:=h.1;unfold iW at a;simp only[nv,rE,sC];omega
def C5l {l:List Int} (h:A7 l) (c:∀x,l.getLast? =some x->x≠0):nc (nv l)=l:=by
 induction l with
 |nil=>exact O6
 |cons b l a=>
  rw[XA]at h;simp only[nv];cases l with
  |nil=>
   have:=c b rfl;rw[A4q b _ h.1 (.inl this)];simp only[nv,O6]
  |cons d l=>
   have a:=a h.2 (fun x hx=>c x (by rw[List.getLast?_cons_cons];exact hx));have f:nv (d::l)≠0:=by
    intro c;rw[c,O6]at a;cases a
   rw[A4q b _ h.1 (.inr f),a]
def A4r {l:List Int} (h:A7 l) {n:Nat} (b:n<=l.length) (d:∀i x,n<=i->l[i]? =some x->x=0) (c:n=0\/∃x,l[n-1]? =some x/\x≠0):l.take n=nc (nv l):=by
 have e:nv l=nv (l.take n):=by
  conv=>lhs;rw[<-uJ n l]
  rw[Sl];have:l.drop n=List.replicate (l.length-n) 0:=by
   apply vO;intro i;rw[xE];by_cases a:n+i<l.length
   . rw[qP a,uV,qQ (by omega)];rw[d (n+i) l[n+i] (by omega) (qP a)]
   . rw[rR (by omega),rR (by simp;omega)]
  rw[this,Sm];simp
 rw[e]
 symm
 apply C5l
 . intro x a;exact h x (rY a)
 . intro x a;rw[List.getLast?_eq_getElem?,qU,sX b]at a;rcases c with b| ⟨y,d,f⟩
   . subst b;simp at a
   . rw[rT (by
      rcases vH n with b|b
      . subst b;simp at a
      . omega),d]at a
     cases a;exact f
def Gz {n k:Nat} (h:n<4294967296^k):(nc n).length<=k:=by
 induction k generalizing n with
 |zero=>have:n=0:=by simpa using h
        subst this;rw[O6];exact qZ _
 |succ k b=>
  by_cases a:n=0
  . subst a;rw[O6];exact rK _
  . rw[PD a,rE];have:n/4294967296<4294967296^k:=by
     rw[tL (by decide)];rw[sC]at h;exact h
    have:=b this;omega
def C9 {l:List Int} (h:A7 l):(nc (nv l)).length<=l.length:=Gz (Ha h)
def B3f {n k:Nat} (h:k<(nc n).length):4294967296^k<=n:=by
 rcases sE n (4294967296^k)with a|a
 . have:=Gz a;omega
 . exact a
def J5 {m n:Nat} (h:m<=n):(nc m).length<=(nc n).length:=by
 apply Gz;have:=Ha (J2 n);rw[E9]at this;omega
def Md (n:Nat):n<4294967296^(nc n).length:=by
 have:=Ha (J2 n);rwa[E9]at this
def Qr (m n:Nat):(nc (m*n)).length<=(nc m).length+(nc n).length:=by
 apply Gz;rw[uZ];have a:=Md m;have b:=Md n;exact Nat.mul_lt_mul'' a b
def PC (m n:Nat):(nc (m+n)).length<=max (nc m).length (nc n).length+1:=by
 apply Gz;have a:=Md m;have a:=Md n;have a:4294967296^(nc m).length<=4294967296^(max (nc m).length (nc n).length):=rX (by decide) (Nat.le_max_left ..);have a:4294967296^(nc n).length<=4294967296^(max (nc m).length (nc n).length):=rX (by decide) (g4s ..);rw[sC];omega
abbrev Lj:=Bool×List Int
abbrev D7:=Lj×List Int
def Db (a b:Nat):Int:=if a<b then -1 else if b<a then 1 else 0
def K6 (a b:Int):Int:=if a<b then -1 else if b<a then 1 else 0
def iv (x:Lj):Int:=if x.1=true then -(nv x.2:Int)else(nv x.2:Int)
def ic (v:Int):Lj:=(decide (v<0),nc v.natAbs)
def C3a (x:D7):Int:=if nv x.2=0 then 0 else(iv x.1).sign
def rv (x:D7):Rat:=mkRat (iv x.1) (nv x.2)
def rc (q:Rat):D7:=(ic q.num,nc q.den)
def J0 (x:D7):Prop:=nv x.1.2<2147483648/\nv x.2<2147483648
instance (x:D7):Decidable (J0 x):=by unfold J0;infer_instance
def Sk (x:D7):Int:=if nv x.2=0 then 0 else iv x.1
def Ol (x:D7):Int:=if nv x.2=0 then 1 else(nv x.2:Int)
def zi:Lj:=(false,[])
def zr:D7:=((false,[]),[])
def ri (k:Int):D7:=(ic k,[1])
abbrev Hy (l:List Int):Prop:=l.length<=35184372088832
abbrev E3 (l:List Int):Prop:=l.length<=17592186044416
abbrev X7 (l:List Int):Prop:=l.length<=8796093022208
def E6 (x:D7):Prop:=x.1.2.length<=2199023255552/\x.2.length<=2199023255552
def Fx (a b:Lj):Rat:=Rat.divInt (iv a) (iv b)
def J8 (n:Nat):Nat:=if n=0 then 0 else Nat.log2 n+1
def C2d (A B u0 u1 v0 v1:Int) (ev:Bool):Prop:=v0=0\/∃A' B':Int,A'=(if ev then u0*A-v0*B else v0*B-u0*A)/\B'=(if ev then v1*B-u1*A else u1*A-v1*B)/\0<=B'/\B'<=A'/\A=v1*A'+v0*B'/\B=u1*A'+u0*B'/\1<=v0/\1<=v1/\0<=u0/\0<=u1
def Nv (l:List Int):Prop:=l.getD (l.length-1) 0≠0
end Go.Proofs.YtiflhbllbgajeaaGreat
namespace Go.Proofs.YtiflhbllbgajeaaGreat
open Go.Vc Go.Gw
open Go.IntKind (i64 u64 u32)
def I9 (a b:Bool):J9 a true b=(a||b):=by cases a<;>rfl
def K7 (a b:Bool):J9 a b false=(a&&b):=by cases a<;>rfl
def wr {a:Int} (b: -9223372036854775808<=a) (c:a<=9223372036854775807):i64.wrap a=a:=IntWalk.i64_in _ ⟨b,c⟩
def wv {a:Int} (h: -9223372036854775808<=a/\a<=9223372036854775807):i64.wrap a=a:=wr h.1 h.2
def I0 {a:Type} {d:a} {l:List a} {i:Int} (b:0<=i) (c:i<(l.length:Int)):gx d l i∈l:=sO (H1 b c)
def G5 {a:Type} {d:a} {l:List a} {i:Int} (b:0<=i) (c:i<(l.length:Int)):gx d l i=l.getD i.toNat d:=by
 have:=H1 (d:=d) b c;rw[qF,this];rfl
def Cv {a:Type} {d:a} {l:List a} {q:a->Prop} {i:Int} (b:0<=i) (c:i<(l.length:Int)) (f:∀x∈l.take i.toNat,q x) (g:q (gx d l i)):∀x∈l.take (i+1).toNat,q x:=by
 intro x a;rw[show(i+1).toNat=i.toNat+1 from by omega,rP,H1 (d:=d) b c]at a;simp at a;rcases a with a|rfl
 . exact f x a
 . exact g
def D4 {a:Type} {l:List a} {i:Int} (h:(l.length:Int)<=i):l.take i.toNat=l:=qW (by omega)
def UQ:u32.max=4294967295:=by decide
def UR:u32.min=0:=by decide
def FB:u64.max=18446744073709551615:=by decide
def kC:u64.min=0:=by decide
def EG:i64.max=9223372036854775807:=by decide
def Vg:i64.min= -9223372036854775808:=by decide
def A3 {l:List Int} (h:∀x∈l,u32.min<=x/\x<=u32.max):A7 l:=fun x a=>by
 have:=h x a;rw[UR,UQ]at this;exact this
def X6 {a:Int} (b:0<=a) (c:a<=18446744073709551615):u64.wrap a=a:=IntWalk.u64_in _ ⟨b,c⟩
def w32 {a:Int} (b:0<=a) (c:a<=4294967295):u32.wrap a=a:=IntWalk.u32_in _ ⟨b,c⟩
def Co (a:Int):u32.wrap a=a%4294967296:=IntKind.wrap_u32 a
def Cp (a:Int):u64.wrap a=a%18446744073709551616:=IntKind.wrap_u64 a
def Vj {l:List Int} (h:A7 l) {i:Int} (a:0<=i) (b:i<(l.length:Int)):0<=gx 0 l i/\gx 0 l i<=4294967295:=h _ (I0 a b)
def RG {v:Int} (a:0<=v) (b:v<18446744073709551616):(BitVec.ofInt 64 v).toNat=v.toNat:=by
 rw[xZ];congr 1;omega
def YI {v b:Int} {k:Nat} (v0:0<=v) (v1:v<2^k) (b0:0<=b) (c:b*2^k<18446744073709551616) (d:v<18446744073709551616):(((BitVec.ofInt 64 v|||BitVec.ofInt 64 (b*2^k)).toNat:Nat):Int)=v+b*2^k:=by
 have a:0<=b*2^k:=tJ b0 (Int.pow_nonneg (by decide));rw[BitVec.toNat_or,RG v0 d,RG a c];have e:(b*2^k).toNat=b.toNat<<<k:=by
  rw[g4u,g3p b0 (Int.pow_nonneg (by decide)),Int.toNat_pow_of_nonneg (by decide)];rfl
 have c:v.toNat<2^k:=by
  have:(v.toNat:Int)<((2^k:Nat):Int):=by rw[sN v0,xK];exact v1
  exact sP.1 this
 rw[e,Nat.or_comm, <-g0h c, <-e,wV,sN v0,sN a,Int.add_comm]
def LG {l:List Int} {i:Int} (a:0<=i) (b:i<(l.length:Int)):nv (l.take (i+1).toNat)=nv (l.take i.toNat)+4294967296^i.toNat*(gx 0 l i).toNat:=by
 rw[show(i+1).toNat=i.toNat+1 from by omega,rP,H1 (d:=(0:Int)) a b,zO,Sl,qU,sX (by omega)];simp[nv]
def W2 {l:List Int} {i:Int} (a:0<=i) (b:i<(l.length:Int)):l.drop i.toNat=gx 0 l i::l.drop (i+1).toNat:=by
 have h:=H1 (d:=(0:Int)) a b;have a:i.toNat<l.length:=by omega
 rw[qP a]at h;rw[xJ a,show(i+1).toNat=i.toNat+1 from by omega];congr 1;exact wY h
def jE {a b:List Int} (f:A7 a) (_:A7 b) (g:a.length=b.length) {i:Int} (c:0<=i) (d:i<(a.length:Int)) (h:a.drop (i+1).toNat=b.drop (i+1).toNat) (j:gx 0 a i<gx 0 b i):nv a<nv b:=by
 have g:nv a=nv (a.take i.toNat)+4294967296^i.toNat*nv (a.drop i.toNat):=by
  conv=>lhs;rw[<-uJ i.toNat a,Sl,qU,sX (by omega)]
 have g:nv b=nv (b.take i.toNat)+4294967296^i.toNat*nv (b.drop i.toNat):=by
  conv=>lhs;rw[<-uJ i.toNat b,Sl,qU,sX (by omega)]
 have g:=Vj f c d;have g:nv (a.drop i.toNat)+1<=nv (b.drop i.toNat):=by
  rw[W2 c d,W2 c (by omega),h];simp only[nv];omega
 have c:nv (a.take i.toNat)<4294967296^i.toNat:=by
  have:=Ha (l:=a.take i.toNat) fun x hx=>f x (rY hx)
  rwa[qU,sX (by omega)]at this
 have c:=sS (4294967296^i.toNat) g;rw[sZ,yW]at c;omega
def EN {m n:Nat} (h:(nc m).length<(nc n).length):m<n:=by
 rcases sE m n with a|a
 . exact a
 . have:=J5 a;omega
def Vl:nc 1= [1]:=by rw[PD (by decide)];simp[O6]
def C2p:nv [1]=1:=rfl
def jD:nv []=0:=rfl
def eF (n:Nat):Db n n=0:=by simp[Db]
def Pf {m n:Nat} (h:m<n):Db m n= -1:=by simp[Db,h]
def UG {m n:Nat} (h:n<m):Db m n=1:=by
 unfold Db;rw[qK (by omega),qQ h]
def XL {m n:Nat} :Db m n=0↔m=n:=by
 unfold Db;split
 . omega
 . split<;>omega
def R9 (v:Int):iv (ic v)=v:=by
 unfold iv ic;simp only[rS,E9];split<;>omega
def B1w {neg:Bool} {m:Nat} :ic (iv (neg,nc m))=(neg&&decide (m≠0),nc m):=by
 unfold ic iv;simp only[E9];cases neg
 . simp
 . simp only[g0e,xS,g0g,wP];constructor
   . omega
   . congr 1;omega
def C5b {x:Lj} :ic (iv x)=(x.1&&decide (nv x.2≠0),nc (nv x.2)):=by
 have:iv x=iv (x.1,nc (nv x.2)):=by unfold iv;simp only[E9]
 rw[this,B1w]
def C2x (k:Int):nv (ri k).2=1:=rfl
def jR (k:Int):rc (k:Rat)=ri k:=by
 unfold rc ri;rw[g2l,g2j,Vl]
def C5s (k:Int):rv (ri k)=(k:Rat):=by
 unfold rv;rw[C2x];show mkRat (iv (ic k)) 1= _;rw[R9];exact Rat.mkRat_one k
def E4 (q:Rat):rv (rc q)=q:=by
 unfold rv rc;simp only[R9,E9];exact g3f q
def B8l (x:D7):C3a x=(rv x).num.sign:=by
 unfold C3a rv;split
 . rename_i h;rw[h,yX];rfl
 . rename_i h;rw[Rat.num_mkRat,qK h];have b:(0:Int)<(((nv x.2).gcd (iv x.1).natAbs:Nat):Int):=by
    have:=g1u (iv x.1).natAbs (sU h);omega
   have c:(((nv x.2).gcd (iv x.1).natAbs:Nat):Int)∣iv x.1:=yA.2 (yQ ..);obtain⟨d,a⟩:=c;generalize (((nv x.2).gcd (iv x.1).natAbs:Nat):Int)=g at b a;rw[a,xU _ (by omega),g4d,tS b,Int.one_mul]
def Pe {x:Int} {d:Nat} (a:d≠0):(mkRat x d).num=x/((d.gcd x.natAbs:Nat):Int)/\(mkRat x d).den=d/d.gcd x.natAbs:=by
 rw[Rat.num_mkRat,Rat.den_mkRat,qK a,qK a];exact⟨rfl,rfl⟩
def dg (l:List Int) (i:Nat):Nat:=(l.getD i 0).toNat
def I4 (l:List Int) (i:Nat):nv (l.take (i+1))=nv (l.take i)+4294967296^i*dg l i:=by
 unfold dg;by_cases h:i<l.length
 . have:=LG (l:=l) (i:=(i:Int)) (by omega) (by omega);rw[show((i:Int)+1).toNat=i+1 from by omega,qJ]at this;rw[this,G5 (by omega) (by omega),qJ]
 . rw[qW (by omega),qW (by omega),qF,rR (by omega)];simp
def M5 {l:List Int} (h:A7 l) (i:Nat):dg l i<=4294967295:=by
 unfold dg;by_cases a:i<l.length
 . rw[qF,qP a];have:=h l[i] (wO a);unfold iW at this;simp only[vC];omega
 . rw[qF,rR (by omega)];simp
def Ge {l:List Int} (h:A7 l) {i:Int} (a:0<=i) (b:i<(l.length:Int)):gx 0 l i=(dg l i.toNat:Int):=by
 have:=Vj h a b;unfold dg;rw[<-G5 (d:=(0:Int)) a b];omega
def Z6 {l:List Int} (h:A7 l) {i:Nat} :l.getD i 0=(dg l i:Int):=by
 unfold dg;by_cases a:i<l.length
 . have:=h l[i] (wO a);unfold iW at this;rw[qF,qP a];simp only[vC];omega
 . rw[qF,rR (by omega)];rfl
def Ql {l:List Int} {i:Nat} (h:l.length<=i):dg l i=0:=by
 unfold dg;rw[qF,rR h];rfl
def S5 {l:List Int} {i:Nat} {v:Int} (h:i<l.length):nv ((l.set i v).take (i+1))=nv (l.take i)+4294967296^i*v.toNat:=by
 rw[I4,zD (qZ _)];unfold dg;rw[qF,tB h];rfl
def Ks:∀ {l:List Int} {k:Nat} {v:Int},k<l.length->nv (l.set k v)+4294967296^k*dg l k=nv l+4294967296^k*v.toNat
 | [],_,_,h=>by simp at h
 |a::l,0,v,_=>by simp[nv,dg];omega
 |a::l,k+1,v,h=>by
  have d:=Ks (l:=l) (k:=k) (v:=v) (by simpa using h);have e:dg (a::l) (k+1)=dg l k:=by simp[dg]
  rw[e];simp only[g3t,nv,sC];generalize nv (l.set k v)=A at*;have b:4294967296^k*4294967296*dg l k=4294967296*(4294967296^k*dg l k):=by rw[tG (4294967296^k) 4294967296,sM]
  have c:4294967296^k*4294967296*v.toNat=4294967296*(4294967296^k*v.toNat):=by rw[tG (4294967296^k) 4294967296,sM]
  rw[b,c,uN,uN, <-sZ, <-sZ,d]
def dW {l:List Int} {k:Nat} {v:Int} (h:A7 l) (b:iW v):A7 (l.set k v):=fun x a=>by
 rcases g1f a with a|a
 . exact h x a
 . rw[a];exact b
def Zy {l:List Int} {k i:Nat} {v:Int} (a:k<l.length):dg (l.set k v) i=if i=k then v.toNat else dg l i:=by
 unfold dg;rw[qF,wC];by_cases h:k=i
 . subst h;rw[qQ rfl,qQ a,qQ rfl];rfl
 . rw[qK h,qK (fun e=>h e.symm),qF]
def KV (n i:Nat):dg (List.replicate n 0) i=0:=by
 unfold dg;rw[qF,uV];split<;>rfl
def RE {l:List Int} {i:Nat} (h:∀j,i<=j->dg l j=0):nv (l.take i)=nv l:=by
 have b:∀k,nv (l.take (i+k))=nv (l.take i):=by
  intro k
  induction k with
  |zero=>rfl
  |succ k a=>rw[<-uN,I4,a,h (i+k) (by omega),wQ,tC]
 rw[<-b l.length,qW (by omega)]
def eJ {P A B o c a b s d:Nat} (h:o+P*c=A+B) (f:s+4294967296*d=c+a+b):(o+P*s)+(P*4294967296)*d=(A+P*a)+(B+P*b):=by
 have:=tR (P* ·) f;simp only[sZ, <-sM]at this;omega
def XM {P A B o c a b s d:Nat} (h:A+P*c=o+B) (f:a+4294967296*d=s+b+c):(A+P*a)+(P*4294967296)*d=(o+P*s)+(B+P*b):=by
 have:=tR (P* ·) f;simp only[sZ, <-sM]at this;omega
def A7o {a b:List Int} (c:A7 a) (d:A7 b):nv a+nv b<4294967296^(max a.length b.length+1):=by
 have f:=Ha c;have c:=Ha d;have c:4294967296^a.length<=4294967296^(max a.length b.length):=rX (by decide) (Nat.le_max_left ..);have c:4294967296^b.length<=4294967296^(max a.length b.length):=rX (by decide) (g4s ..);rw[sC];generalize 4294967296^(max a.length b.length)=P at*;omega
def IC {P c x:Nat} (h:P*c<=x) (a:x<P):c=0:=by
 rcases vH c with a|a
 . exact a
 . have:=sS P a;omega
def Kp (l:List Int):iv (false,l)=(nv l:Int):=rfl
def WZ (l:List Int):iv (true,l)= -(nv l:Int):=rfl
def B2g (b:Bool) (l:List Int):iv (!b,l)= -iv (b,l):=by
 cases b
 . rfl
 . show(nv l:Int)= - -(nv l:Int);omega
def Ab (v:Int):(ic v).2.length=(nc v.natAbs).length:=rfl
def A1a:ic 1=(false,[1]):=by unfold ic;rw[show(1:Int).natAbs=1 from rfl,Vl];rfl
def iF:ic 0=(false,[]):=by unfold ic;rw[show(0:Int).natAbs=0 from rfl,O6];rfl
def A5b:rc 0=((false,[]),[1]):=by
 unfold rc;rw[Rat.zero_num,Rat.zero_den,iF,Vl]
def mA {a:Lj} {b:Lj} (h:iv b=1):Fx a b=((iv a:Int):Rat):=by
 unfold Fx;rw[h];have:=g0a (iv a) 1;rw[show((1:Nat):Int)=1 from rfl]at this;rw[this];exact Rat.mkRat_one _
def A6o {a:Lj} {b:Lj} (h:iv b=0):Fx a b=0:=by
 unfold Fx;rw[h,Rat.divInt_zero]
def B8n (x:D7):Fx x.1 (false,x.2)=rv x:=by
 unfold Fx rv;rw[Kp,g0a]
end Go.Proofs.YtiflhbllbgajeaaGreat
namespace Go.Proofs.YtiflhbllbgajeaaGreat
open Go.IntKind (i64 u64 u32)
structure aU (U V v1 v2 t u2 P:Nat):Prop where
 pos:0<P
 v1p:0<v1
 v1b:v1<4294967296
 v2b:v2<4294967296
 u2b:u2<4294967296
 vlo:(v1*4294967296+v2)*P<=V
 vhi:V<(v1*4294967296+v2+1)*P
 ulo:(t*4294967296+u2)*P<=U
 uhi:U<(t*4294967296+u2+1)*P
 lt:U<V*4294967296
variable {U V v1 v2 t u2 P:Nat}
def aU.vpos (h:aU U V v1 v2 t u2 P):0<V:=by
 have a:=h.vlo;have a:0<(v1*4294967296+v2)*P:=g4w (by have:=h.v1p;omega) h.pos;omega
def aU.quo (h:aU U V v1 v2 t u2 P):U/V<4294967296:=by
 rw[tL h.vpos,tG];exact h.lt
def A4j {a b c P Q:Nat} (f:0<P) (h:a*P<=Q) (g:Q<(b+1)*P) (d:c<=a):c<=b:=by
 have f:c*P<=a*P:=rM _ d;have d:c*P<(b+1)*P:=by omega
 have:=xF d;omega
def aU.top (h:aU U V v1 v2 t u2 P):t*4294967296+u2<(v1*4294967296+v2+1)*4294967296:=by
 have a:=h.ulo;have a:=h.lt;have a:=rM 4294967296 (wE h.vhi);have a:(t*4294967296+u2)*P<((v1*4294967296+v2+1)*4294967296)*P:=by
  have b:V*4294967296<(v1*4294967296+v2+1)*P*4294967296:=xB h.vhi (by decide);rw[zN];omega
 exact xF a
def aU.t_le (h:aU U V v1 v2 t u2 P):t<=v1*4294967296+v2:=by
 have:=h.top;omega
def aU.est (h:aU U V v1 v2 t u2 P):U/V*v1<=t:=by
 have a:U/V*V<=U:=zE U V;have b:U/V*(v1*4294967296+v2)*P<=U:=by
  rw[sM];exact qX (sS _ h.vlo) a
 have a:U/V*(v1*4294967296+v2)<=t*4294967296+u2:=A4j h.pos b h.uhi (qZ _);rw[sZ, <-sM]at a;have:=h.u2b;omega
def aU.dec (h:aU U V v1 v2 t u2 P) {d r:Nat} (f:t=d*v1+r) (a:U/V<=d) (b:4294967296<=d\/r*4294967296+u2<d*v2):U/V+1<=d:=by
 rcases sE (U/V) d with a|a
 . omega
 . exfalso;have c:U/V=d:=by omega
   rcases b with b|b
   . have:=h.quo;omega
   . have a:d*V<=U:=by rw[<-c];exact zE U V
     have b:d*(v1*4294967296+v2)*P<=U:=by
      rw[sM];exact qX (sS _ h.vlo) a
     have a:d*(v1*4294967296+v2)<=t*4294967296+u2:=A4j h.pos b h.uhi (qZ _);rw[sZ, <-sM,f,uU]at a;omega
def aU.near (h:aU U V v1 v2 t u2 P) {d r:Nat} (c:t=d*v1+r) (g:d<4294967296) (a:d*v2<=r*4294967296+u2):d<=U/V+1:=by
 have a:=h.ulo;have b:d*(v1*4294967296+v2)<=t*4294967296+u2:=by
  rw[c,uU,sZ, <-sM];omega
 have c:d*(v1*4294967296+v2)*P<=U:=qX (rM _ b) a;have a:d*V<=d*((v1*4294967296+v2+1)*P):=sS _ (wE h.vhi);have b:d*((v1*4294967296+v2+1)*P)=d*(v1*4294967296+v2)*P+d*P:=by
  rw[<-sM,sZ d,yW,uU]
 have f:d*P<V:=by
  have i:d*P<4294967296*P:=xB g h.pos;have g:4294967296*P<=(v1*4294967296+v2)*P:=rM _ (by have:=h.v1p;omega);have:=h.vlo;omega
 have g:d*V<U+V:=yC (qX a (Nat.le_of_eq b)) (Nat.add_lt_add_of_le_of_lt c f);rcases vH d with a|a
 . rw[a];exact rK _
 . have a:(d-1)*V<U:=by
    have:d*V=(d-1)*V+V:=by
     conv=>lhs;rw[show d=d-1+1 from by omega,uU,xP]
    omega
   have:=(vF h.vpos).2 (wE a);omega
def aU.out (h:aU U V v1 v2 t u2 P) {d r:Nat} (c:t=d*v1+r) (b:4294967296<=r) (a:U/V<=d):d<4294967296/\d*v2<=r*4294967296+u2:=by
 have a:=h.t_le;have a:=h.v2b;have b:d<4294967296:=by
  rcases sE d 4294967296 with a|a
  . exact a
  . have:=rM v1 a;rw[tG 4294967296]at this;omega
 refine⟨b, ?_⟩;have a:d*v2<=4294967295*4294967295:=yV (by omega) (by omega);omega
end Go.Proofs.YtiflhbllbgajeaaGreat
namespace Go.Proofs.YtiflhbllbgajeaaGreat
open Go.Vc Go.Gw
open Go.IntKind (i64 u64 u32)
def DT:J8 0=0:=rfl
def gB (n:Nat):n<2^J8 n:=by
 unfold J8;split
 . rename_i h;subst h;decide
 . exact Nat.lt_log2_self
def DR {n:Nat} (h:n≠0):2^(J8 n-1)<=n/\1<=J8 n:=by
 unfold J8;rw[qK h,Nat.add_sub_cancel];exact⟨Nat.log2_self_le h,by omega⟩
def B6n {n k:Nat} (a:2^k<=n) (b:n<2^(k+1)):J8 n=k+1:=by
 have c:0<2^k:=tN (by decide);unfold J8;rw[qK (by omega)];congr 1;exact(Nat.log2_eq_iff (by omega)).2 ⟨a,b⟩
def KS {n k:Nat} (h:2^k<=n):J8 n=J8 (n/2^k)+k:=by
 have a:0<2^k:=tN (by decide);have c:n/2^k≠0:=by
  have:1<=n/2^k:=(vF a).2 (by omega);omega
 obtain⟨b,d⟩:=DR c;have c:=gB (n/2^k);have e:J8 (n/2^k)+k=(J8 (n/2^k)-1+k)+1:=by omega
 rw[e];apply B6n
 . rw[uZ];have:=(vF a).1 b;exact this
 . rw[show J8 (n/2^k)-1+k+1=J8 (n/2^k)+k from by omega,uZ];exact(tL a).1 c
def Zw (p q:Rat):Int:=if p<q then -1 else if q<p then 1 else 0
def VV {a b:Int} {c d:Nat} (f:c≠0) (g:d≠0):Zw (mkRat a c) (mkRat b d)=K6 (a*d) (b*c):=by
 have h:∀ {a b:Int} {c d:Nat},c≠0->d≠0->(mkRat a c<mkRat b d↔a*d<b*c):=fun {a b c d} f g=>by
  have i:(0:Rat)<(c:Rat):=g2k.2 (sU f);have j:(0:Rat)<(d:Rat):=g2k.2 (sU g);rw[g0b,g0b,Rat.div_lt_iff i,xD,vL,g4k _ (c:Rat), <-vL, <-xD,Rat.lt_div_iff j];have:(a:Rat)*(d:Rat)=((a*(d:Int):Int):Rat):=by rw[Rat.intCast_mul];rfl
  have i:(b:Rat)*(c:Rat)=((b*(c:Int):Int):Rat):=by rw[Rat.intCast_mul];rfl
  rw[this,i,Rat.intCast_lt_intCast]
 unfold Zw K6;simp only[h f g,h g f]
def A6d {p q:Rat} (h:p.num.sign≠q.num.sign):Zw p q=K6 p.num.sign q.num.sign:=by
 have c:=g3e p;have c:=g3e q;have e:Zw p q=K6 (p.num*q.den) (q.num*p.den):=by
  have:=VV (a:=p.num) (b:=q.num) p.den_nz q.den_nz;rwa[g3f,g3f]at this
 rw[e];have c:(p.num*(q.den:Int)).sign=p.num.sign:=by rw[g4d,tS (show(0:Int)<q.den by omega),Int.mul_one]
 have d:(q.num*(p.den:Int)).sign=q.num.sign:=by rw[g4d,tS (show(0:Int)<p.den by omega),Int.mul_one]
 rw[<-c, <-d]at h⊢;generalize p.num*(q.den:Int)=x at*;generalize q.num*(p.den:Int)=y at*;have g:∀z:Int,(z<0/\z.sign= -1)\/(z=0/\z.sign=0)\/(0<z/\z.sign=1):=fun z=>by
  rcases zT z 0 with h|h|h
  . exact .inl ⟨h,wA h⟩
  . exact .inr (.inl ⟨h,by rw[h];rfl⟩)
  . exact .inr (.inr ⟨h,tS h⟩)
 unfold K6;rcases g x with⟨d,c⟩ | ⟨d,c⟩ | ⟨d,c⟩<;>rcases g y with⟨f,d⟩ | ⟨f,d⟩ | ⟨f,d⟩<;>rw[c,d]at h⊢ <;>first|exact absurd rfl h| (split<;>(try split)<;>(try split)<;>(try split)<;>omega)
end Go.Proofs.YtiflhbllbgajeaaGreat
namespace Go.Proofs.YtiflhbllbgajeaaGreat
open Go.IntKind (i64 u64 u32)
structure Leh (X Y w x y u0 u1 u2 v0 v1 v2:Int) (ev:Bool):Prop where
 yx:y<=x
 y0:0<=y
 x0:0<x
 u10:0<=u1
 u20:0<=u2
 v10:0<=v1
 v20:1<=v2
 uv2:u2<=v2
 ex:x=if ev then v1*Y-u1*X else u1*X-v1*Y
 ey:y=if ev then u2*X-v2*Y else v2*Y-u2*X
 idX:x*v2+y*v1=X
 idY:x*u2+y*u1=Y
 det:u1*v2-u2*v1=if ev then -1 else 1
 /--At the start,or with what the cofactors before need. -/
 back:(u0=0/\u1=1/\v0=0/\v1=0/\ev=false/\u2=0/\v2=1)\/(0<=u0/\0<=v0/\u1<=v1/\v1<=x/\u0<=w/\v0<=w/\w-x>=v0+v1/\(v0=0\/u0<=v0)/\1<=v1/\
  w=(if ev then u0*X-v0*Y else v0*Y-u0*X)/\(u0*v1-u1*v0=if ev then 1 else -1))
def Leh.start {X Y:Int} (b:0<=Y) (h:Y<=X) (a:0<X):Leh X Y 0 X Y 0 1 0 0 0 1 false where
 yx:=h
 y0:=b
 x0:=a
 u10:=by decide
 u20:=by decide
 v10:=by decide
 v20:=by decide
 uv2:=by decide
 ex:=by simp
 ey:=by simp
 idX:=by omega
 idY:=by omega
 det:=by simp
 back:= .inl ⟨rfl,rfl,rfl,rfl,rfl,rfl,rfl⟩
def Leh.step {X Y w x y u0 u1 a v0 v1 v2:Int} {ev:Bool} (h:Leh X Y w x y u0 u1 a v0 v1 v2 ev) (c1:v2<=y) (G:v1+v2<=x-y):Leh X Y x y (x%y) u1 a (u1+x/y*a) v1 v2 (v1+x/y*v2) (!ev):=by
 have E:=h.v20;have j:0<y:=by omega
 have z:1<=x/y:=by
  rw[g2a j];have:=h.yx;omega
 have B:=g2f x (b:=y) (by omega);have D:=zK x j;have H:x=y*(x/y)+x%y:=(yK x y).symm;have i:x%y=x-x/y*y:=by rw[g2b (x/y)];omega
 have u:=h.idX;have v:=h.idY;have k:=h.det;have d:=h.ex;have f:=h.ey;have n:=h.u20;have l:=h.u10;have F:=h.v10;have o:=h.uv2;generalize x/y=q at*;have A:0<=q*a:=tJ (by omega) n;have J:1*v2<=q*v2:=sH z (by omega);have I:q*a<=q*v2:=tU o (by omega);refine⟨xM D,B,j,n,Int.add_nonneg l A,by omega,by omega, ?_, ?_, ?_, ?_, ?_, ?_, .inr ⟨l,F,o,c1, ?_,by omega,by omega, ?_,E, ?_, ?_⟩⟩
 . rcases h.back with⟨_,c,_,g,_,r,s⟩ | ⟨_,_,c,_⟩
   . subst r s;omega
   . omega
 . cases ev<;>simpa using f
 . rw[i];cases ev
   . simp only[g2s,xS,vX,yG]at d f⊢;rw[d,f];grind
   . simp only[g0d,xS,vX,yG]at d f⊢;rw[d,f];grind
 . rw[i, <-u];grind
 . rw[i, <-v];grind
 . have t:a*(v1+q*v2)-(u1+q*a)*v2= -(u1*v2-a*v1):=by
    grind
   rw[t,k];cases ev<;>simp
 . rcases h.back with⟨_,c,_,g,_⟩ | ⟨_,_,c,_⟩<;>omega
 . rcases h.back with⟨_,c,_,g,_⟩ | ⟨_,_,c,_⟩
   . exact .inl g
   . exact .inr c
 . cases ev<;>simpa using d
 . rw[k];cases ev<;>simp
def Leh.apply {X Y w x y u0 u1 d v0 v1 v2:Int} {ev:Bool} (h:Leh X Y w x y u0 u1 d v0 v1 v2 ev) (c:v0≠0) {P a b A B:Int} (f:0<P) (l:0<=a) (j:a<P) (n:0<=b) (k:b<P) (g:A=X*P+a) (i:B=Y*P+b):
 ∃A' B':Int,A'=(if ev then u0*A-v0*B else v0*B-u0*A)/\B'=(if ev then v1*B-u1*A else u1*A-v1*B)/\0<=B'/\B'<=A'/\A=v1*A'+v0*B'/\B=u1*A'+u0*B'/\1<=v0/\1<=v1/\0<=u0/\0<=u1:=by
 rcases h.back with⟨_,_,k,_⟩ | ⟨j,s,u,D,v,z,t,o,r,f,d⟩
 . exact absurd k c
 have k:u0<=v0:=o.resolve_left c;have k:=h.u10;refine⟨_,_,rfl,rfl, ?_, ?_, ?_, ?_,by omega,r,j,k⟩
 . --the second combination is not negative
   have c:=h.ex;have j:0<=(x-v1)*P:=tJ (by omega) (by omega);have o:0<=u1*a:=tJ k l;have r:v1*b<=v1*P:=tU (by omega) (by omega);have s:0<=v1*b:=tJ (by omega) n;have t:u1*a<=u1*P:=tU (by omega) k;have k:u1*P<=v1*P:=sH u (by omega);rw[Int.sub_mul]at j;cases ev
   . simp only[vX,yG]at c⊢;have:u1*A-v1*B=x*P+u1*a-v1*b:=by
      rw[g,i,c];grind
     omega
   . simp only[xS]at c⊢;have:v1*B-u1*A=x*P+v1*b-u1*a:=by
      rw[g,i,c];grind
     omega
 . have c:=h.ex;have j:0<=(w-x-(v0+v1))*P:=tJ (by omega) (by omega);have o:0<=(u0+u1)*a:=tJ (by omega) l;have r:(v0+v1)*b<=(v0+v1)*P:=tU (by omega) (by omega);have s:0<=(v0+v1)*b:=tJ (by omega) n;have t:(u0+u1)*a<=(u0+u1)*P:=tU (by omega) (by omega);have k:(u0+u1)*P<=(v0+v1)*P:=sH (by omega) (by omega);rw[Int.sub_mul]at j;cases ev
   . simp only[vX,yG]at c f⊢;have:v0*B-u0*A-(u1*A-v1*B)=(w-x)*P+(v0+v1)*b-(u0+u1)*a:=by
      rw[g,i,c,f];grind
     omega
   . simp only[xS]at c f⊢;have:u0*A-v0*B-(v1*B-u1*A)=(w-x)*P+(u0+u1)*a-(v0+v1)*b:=by
      rw[g,i,c,f];grind
     omega
 . cases ev
   . simp only[vX,yG]at d⊢;have:v1*(v0*B-u0*A)+v0*(u1*A-v1*B)= -(u0*v1-u1*v0)*A:=by
      grind
     rw[this,d];omega
   . simp only[xS]at d⊢;have:v1*(u0*A-v0*B)+v0*(v1*B-u1*A)=(u0*v1-u1*v0)*A:=by
      grind
     rw[this,d];omega
 . cases ev
   . simp only[vX,yG]at d⊢;have:u1*(v0*B-u0*A)+u0*(u1*A-v1*B)= -(u0*v1-u1*v0)*B:=by
      grind
     rw[this,d];omega
   . simp only[xS]at d⊢;have:u1*(u0*A-v0*B)+u0*(v1*B-u1*A)=(u0*v1-u1*v0)*B:=by
      grind
     rw[this,d];omega
def B1o {A B A' B' u0 u1 v0 v1 s t p q:Int} (a:A=v1*A'+v0*B') (b:B=u1*A'+u0*B') (c:A'=s*A+t*B) (d:B'=p*A+q*B):Int.gcd A B=Int.gcd A' B':=by
 apply Nat.dvd_antisymm
 . apply Int.dvd_gcd
   . rw[c];exact g2u (uS (zY ..)) (uS (zS ..))
   . rw[d];exact g2u (uS (zY ..)) (uS (zS ..))
 . apply Int.dvd_gcd
   . rw[a];exact g2u (uS (zY ..)) (uS (zS ..))
   . rw[b];exact g2u (uS (zY ..)) (uS (zS ..))
end Go.Proofs.YtiflhbllbgajeaaGreat
namespace Go.Proofs.YtiflhbllbgajeaaGreat
open Go.Vc Go.Gw
open Go.IntKind (i64 u64 u32)
def EY {s:Nat} (a:s<=32):4294967296=2^s*2^(32-s):=by
 rw[<-uZ,show s+(32-s)=32 from by omega]
def Mi (n:Nat):4294967296^n=2^(32*n):=by
 rw[show(4294967296:Nat)=2^32 from rfl, <-Nat.pow_mul]
def B9p {a low lo H P s:Nat} (b:0<P) (f:a=low+lo*P+H*(P*4294967296)) (g:low<P) (c:s<=31):a*2^s/(P*4294967296)=H*2^s+lo/2^(32-s):=by
 have c:0<P*4294967296:=g4w b (by decide);have d:0<2^s:=tN (by decide);have e:a*2^s=(low+lo*P)*2^s+H*2^s*(P*4294967296):=by
  rw[f,uU,zN H]
 rw[e,yM _ _ c,wD];congr 1;have c:P*4294967296=P*2^(32-s)*2^s:=by rw[sM,tG (2^(32-s)), <-EY (by omega)]
 rw[c,zW _ _ d, <-vM,yM _ _ b,uC g,sF]
def A8b {a s m:Nat} (h:s<=m):a*2^s/2^m=a/2^(m-s):=by
 have b:0<2^s:=tN (by decide)
 conv=>lhs;rw[show m=m-s+s from by omega,uZ,zW _ _ b]
def jC (l:List Int) (i:Nat) (h:i<=l.length):nv l=nv (l.take i)+4294967296^i*nv (l.drop i):=by
 conv=>lhs;rw[<-uJ i l,Sl,qU,sX h]
def U3 {l:List Int} (h:A7 l) (i:Nat):nv (l.take i)<4294967296^i:=by
 have a:=Ha (l:=l.take i) fun x hx=>h x (rY hx)
 refine rC a (rX (by decide) ?_);rw[qU];exact g2g ..
def Vn (l:List Int) {n:Nat} (h:l.length<=n+1):nv l=nv (l.take n)+4294967296^n*dg l n:=by
 conv=>lhs;rw[<-qW h,I4]
def A4u (l:List Int) {n:Nat} (h:l.length<=n+2):nv l=nv (l.take n)+4294967296^n*(dg l (n+1)*4294967296+dg l n):=by
 rw[Vn l (n:=n+1) h,I4,sC,sZ,tG (dg l (n+1)), <-sM];omega
def A4v (l:List Int) {n:Nat} (h:l.length<=n+3):nv l=nv (l.take n)+4294967296^n*((dg l (n+2)*4294967296+dg l (n+1))*4294967296+dg l n):=by
 rw[A4u l (n:=n+1) h,I4,sC];generalize 4294967296^n=P;grind
def A4k {a:List Int} (b:A7 a) {n:Nat} (c:a.length=n+1) {s:Nat} (d:s+J8 (dg a n)<=32):nv a*2^s<4294967296^(n+1):=by
 have c:=Vn a (n:=n) (by omega);have c:=U3 b n;have b:=gB (dg a n);have c:nv a<4294967296^n*2^J8 (dg a n):=by
  have:4294967296^n*(dg a n+1)<=4294967296^n*2^J8 (dg a n):=sS _ b;rw[sZ,yW]at this;omega
 have b:nv a*2^s<4294967296^n*2^J8 (dg a n)*2^s:=xB c (tN (by decide));rw[sM, <-uZ]at b;have c:2^(J8 (dg a n)+s)<=2^32:=rX (by decide) (by omega);have d:=sS (4294967296^n) c;rw[sC];exact rC b d
def eE {n:Nat} (h:n≠0):Nv (nc n):=by
 have a:(nc n).length≠0:=fun a=>h (AJ.1 (qR a))
 unfold Nv;intro a;have b:=J2 n;have e:=Vn (nc n) (n:=(nc n).length-1) (by omega);have c:dg (nc n) ((nc n).length-1)=0:=by unfold dg;rw[a];rfl
 rw[c,wQ,tC,E9]at e;have a:=U3 b ((nc n).length-1);rw[<-e]at a;have:=Gz a;omega
def QD {l:List Int} (a:A7 l) (h:Nv l):dg l (l.length-1)≠0:=by
 unfold Nv at h;have:=Z6 a (i:=l.length-1);rw[this]at h;omega
def ZJ {l:List Int} (b:A7 l) (h:Nv l):nv l≠0:=by
 have a:=QD b h;have b:l.length≠0:=fun e=>by
  rw[qR e]at a;simp[dg]at a
 have e:=Vn l (n:=l.length-1) (by omega);have b:0<4294967296^(l.length-1):=tN (by decide);have b:=sS (4294967296^(l.length-1)) (sU a);omega
def A4l {V low P x:Nat} (h:V=low+P*x) (a:low<P):x*P<=V/\V<(x+1)*P:=by
 rw[uU,xP,tG x,h];omega
def C1m {w v:List Int} (c:A7 w) (a:A7 v) {n:Nat} (b:v.length=n+2) (d:w.length=n+3) (h:dg v (n+1)≠0) (g:nv w<nv v*4294967296):aU (nv w) (nv v) (dg v (n+1)) (dg v n) (dg w (n+2)*4294967296+dg w (n+1)) (dg w n) (4294967296^n):=by
 have ev:=A4u v (n:=n) (by omega);have b:=A4v w (n:=n) (by omega);have d:=U3 a n;have f:=U3 c n;have i:=M5 a (n+1);have i:=M5 a n;have a:=M5 c n;exact⟨tN (by decide),sU h,by omega,by omega,by omega,(A4l ev d).1,(A4l ev d).2,(A4l b f).1,(A4l b f).2,g⟩
def B0v {l:List Int} (h:A7 l) (i:Nat):dg l i=nv l/4294967296^i%4294967296:=by
 have d:0<4294967296^i:=tN (by decide);by_cases a:i<l.length
 . have e:=jC l (i+1) (by omega);rw[I4]at e;have a:=U3 h i;have c:=M5 h i;have b:nv l=nv (l.take i)+(dg l i+4294967296*nv (l.drop (i+1)))*4294967296^i:=by
    rw[e,sC];generalize 4294967296^i=P;grind
   rw[b,yM _ _ d,uC a,sF,zB,tP (by omega)]
 . rw[Ql (by omega)];have a:=Ha h;have c:4294967296^l.length<=4294967296^i:=rX (by decide) (by omega);rw[uC (by omega)]
def B6m {l:List Int} (h:A7 l) (i:Nat):dg l (i/32)/2^(i%32)%2=nv l/2^i%2:=by
 rw[B0v h,Mi];have e:i=32*(i/32)+i%32:=by omega
 have a:(4294967296:Nat)=2^(i%32)*2^(32-i%32):=EY (by omega)
 conv=>rhs;rw[e,uZ, <-vM]
 generalize nv l/2^(32*(i/32))=x;rw[a,Nat.mod_mul_right_div_self];have a:2^(32-i%32)=2*2^(31-i%32):=by rw[<-Nat.pow_succ'];congr 1;omega
 rw[a,Nat.mod_mul_right_mod]
def B0c {a b i:Nat} (j:b≠0):a/2^i=2*(a/2^(i+1))+a/2^i%2/\
 a/2^i/b=2*(a/2^(i+1)/b)+(if b<=2*(a/2^(i+1)%b)+a/2^i%2 then 1 else 0)/\
 a/2^i%b=2*(a/2^(i+1)%b)+a/2^i%2-(if b<=2*(a/2^(i+1)%b)+a/2^i%2 then b else 0):=by
 have k:a/2^(i+1)=a/2^i/2:=by rw[sC,vM]
 have f:a/2^i=2*(a/2^(i+1))+a/2^i%2:=by rw[k];omega
 refine⟨f, ?_⟩;have s:a/2^i%2<2:=wF _ (by decide);generalize a/2^i%2=d at*;generalize a/2^(i+1)=h at*;rw[f];have n:=wW h b;have t:=wF h (sU j);generalize h%b=r at*;generalize h/b=q at*;have l:2*h+d=b*(2*q)+(2*r+d):=by rw[<-n];grind
 rw[l,g2h (sU j),g2i];by_cases c:b<=2*r+d
 . rw[qQ c,qQ c];have o:2*r+d=b+(2*r+d-b):=by omega
   have g:(2*r+d)/b=1:=Nat.div_eq_of_lt_le (by omega) (by omega);refine⟨by rw[g], ?_⟩;have:=wW (2*r+d) b;rw[g]at this;omega
 . rw[qK c,qK c,uC (by omega),tP (by omega)];exact⟨rfl,by omega⟩
def B8t {q:List Int} (a:A7 q) {M i:Nat} (d:nv q=M*2^(i+1)) (f:i/32<q.length):∃b:Nat,dg q (i/32)=b*2^(i%32+1)/\nv (q.set (i/32) ((dg q (i/32)+2^(i%32):Nat):Int))=(2*M+1)*2^i:=by
 have e:i=32*(i/32)+i%32:=by omega
 have c:dg q (i/32)=(M*2^(i%32+1))%4294967296:=by
  rw[B0v a,d,Mi];congr 1;have a:i+1=32*(i/32)+(i%32+1):=by omega
  rw[a,uZ,zV,xY _ (tN (by decide))]
 refine⟨M%2^(31-i%32), ?_, ?_⟩
 . rw[c];have a:(4294967296:Nat)=2^(31-i%32)*2^(i%32+1):=by
    rw[<-uZ,show 31-i%32+(i%32+1)=32 from by omega]
   conv=>lhs;rw[a]
   rw[Nat.mul_mod_mul_right]
 . have c:=Ks (l:=q) (k:=i/32) (v:=((dg q (i/32)+2^(i%32):Nat):Int)) f;rw[qJ,d,Mi,sZ]at c;have a:2^(32*(i/32))*2^(i%32)=2^i:=by rw[<-uZ, <-e]
   rw[a]at c;have a:(2*M+1)*2^i=M*2^(i+1)+2^i:=by rw[sC];grind
   rw[a];omega
def OJ {l:List Int} (h:A7 l) (i:Nat):dg l i=nv l/4294967296^i%4294967296:=by
 have d:0<4294967296^i:=tN (by decide);have a:=M5 h i;have f:=U3 h i;rcases sE i l.length with a|a
 . have b:=jC l (i+1) a;rw[I4,sC]at b;have c:nv l=nv (l.take i)+(dg l i+nv (l.drop (i+1))*4294967296)*4294967296^i:=by rw[b];grind
   rw[c,yM _ _ d,uC f,sF,Nat.add_mul_mod_self_right,tP (by omega)]
 . rw[Ql a];have b:=Ha h;have b:4294967296^l.length<=4294967296^i:=rX (by decide) a;rw[uC (by omega)]
def A8c {l:List Int} (h:A7 l) (i:Nat) {s:Nat} (a:s<=31):nv l/2^s/4294967296^i%4294967296=(dg l i+dg l (i+1)*4294967296)/2^s%4294967296:=by
 have d:0<2^s:=tN (by decide);have a:nv l/2^s/4294967296^i=nv l/4294967296^i/2^s:=by rw[vM,vM,tG]
 have b:dg l i+dg l (i+1)*4294967296=nv l/4294967296^i%(4294967296*4294967296):=by
  rw[Nat.mod_mul, <-OJ h i,vM, <-sC, <-OJ h (i+1),tG]
 rw[a,b];generalize nv l/4294967296^i=W;have c:W=W%(4294967296*4294967296)+2^s*(4294967296*(2^(32-s)*(W/(4294967296*4294967296)))):=by
  have a:=Nat.mod_add_div W (4294967296*4294967296);have b:=EY (s:=s) (by omega)
  conv=>lhs;rw[<-a]
  congr 1
  calc 4294967296*4294967296*(W/(4294967296*4294967296))=4294967296*(4294967296*(W/(4294967296*4294967296))):=sM ..
   _=(2^s*2^(32-s))*(4294967296*(W/(4294967296*4294967296))):=by rw[<-b]
   _= _:=by rw[sM,zV (2^(32-s))]
 conv=>lhs;rw[c,g2z _ _ d,zB]
def fD {l:List Int} (h:A7 l) {k s:Nat} :nv l/2^(32*k+s)=nv (l.drop k)/2^s:=by
 rw[uZ, <-Mi, <-vM];congr 1;have b:0<4294967296^k:=tN (by decide);rcases sE l.length k with a|a
 . rw[sD (by omega)];have c:=Ha h;have c:4294967296^l.length<=4294967296^k:=rX (by decide) (by omega);rw[uC (by omega)];rfl
 . have e:=jC l k a;have a:=U3 h k;rw[e,g2z _ _ b,uC a,sF]
def I8 (x:Lj):(iv x).natAbs=nv x.2:=by
 unfold iv;split<;>omega
def IM {a b:List Int} (c:A7 a) (d:A7 b):(nc (nv a*nv b)).length<=a.length+b.length:=by
 have f:=Qr (nv a) (nv b);have f:=C9 c;have c:=C9 d;omega
def IG {x y:Lj} (a:A7 x.2) (b:A7 y.2):(ic (iv x*iv y)).2.length<=x.2.length+y.2.length:=by
 rw[Ab,vS,I8,I8];exact IM a b
def WS {x y:Lj} {k:Nat} (a:A7 x.2) (b:A7 y.2) (c:x.2.length<=k) (d:y.2.length<=k):(ic (iv x+iv y)).2.length<=k+1:=by
 rw[Ab];have e:(iv x+iv y).natAbs<=nv x.2+nv y.2:=by
  have:=g1h (iv x) (iv y);rwa[I8,I8]at this
 have h:=PC (nv x.2) (nv y.2);have c:=C9 a;have a:=C9 b;have c:=J5 e;omega
def mV (v:Int):A7 (ic v).2:=J2 _
def jS {V:Int} {D:Nat} (f:D≠0):rc (mkRat V D)=((decide (V<0),nc (V.natAbs/Nat.gcd V.natAbs D)),nc (D/Nat.gcd V.natAbs D)):=by
 obtain⟨j,i⟩:=Pe (x:=V) (d:=D) f;unfold rc;rw[j,i,xA V.natAbs D];unfold ic;have g:((D.gcd V.natAbs:Nat):Int)∣V:=yA.2 (yQ ..);have b:0<D.gcd V.natAbs:=g1u _ (sU f);generalize D.gcd V.natAbs=G at g b;obtain⟨c,rfl⟩:=g;rw[xU _ (by omega)];have k:(G:Int)*c<0↔c<0:=by
  constructor
  . intro h;rcases g4c c 0 with a|a
    . exact a
    . have:=tJ (xM (sP.2 b)) a;omega
  . intro h;exact yZ (by omega) h
 rw[vS,uH,xY _ b];simp only[k]
def B8h {V:Int} {D:Nat} (a:D≠0) (h:Nat.gcd V.natAbs D=1):rc (mkRat V D)=(ic V,nc D):=by
 rw[jS a,h,g3a,g3a];rfl
def OX {a b:Int} {c d:Nat} (f:c≠0) (g:d≠0):mkRat a c+mkRat b d=mkRat (a*d+b*c) (c*d):=Rat.mkRat_add_mkRat a b f g
def A1m {a b:Int} {c:Nat} (d:c≠0):mkRat a c+mkRat b c=mkRat (a+b) c:=by
 rw[OX d d, <-Int.add_mul,Rat.mkRat_mul_right d]
def Nb {x:D7} {n:Lj} {d:List Int} (h:(nv x.2=0->n=zi/\d= [1])/\(nv x.2≠0->n=x.1/\d=x.2)):nv d≠0/\rv x=mkRat (iv n) (nv d):=by
 rcases g3z (nv x.2=0)with a|a
 . obtain⟨rfl,rfl⟩:=h.1 a;refine⟨by decide, ?_⟩;unfold rv;rw[a,yX];exact(Rat.zero_mkRat _).symm
 . obtain⟨rfl,rfl⟩:=h.2 a;exact⟨a,rfl⟩
def Iz {x:D7} {n:Lj} {d:List Int} {k:Nat} (h:(nv x.2=0->n=zi/\d= [1])/\(nv x.2≠0->n=x.1/\d=x.2)) (b:x.1.2.length<=k) (c:x.2.length<=k) (f:1<=k):n.2.length<=k/\d.length<=k:=by
 rcases g3z (nv x.2=0)with a|a
 . obtain⟨rfl,rfl⟩:=h.1 a;exact⟨by simp[zi],by simpa using f⟩
 . obtain⟨rfl,rfl⟩:=h.2 a;exact⟨b,c⟩
def C1q (A B:Nat):(A:Int)/(B:Int)=((A/B:Nat):Int)/\(A:Int)%(B:Int)=((A%B:Nat):Int):=⟨rfl,rfl⟩
def C1p {A B:Nat} (a:B≠0):(A%B=0-> -(A:Int)/(B:Int)= -((A/B:Nat):Int)/\ -(A:Int)%(B:Int)=0)/\(A%B≠0-> -(A:Int)/(B:Int)= -((A/B:Nat):Int)-1/\ -(A:Int)%(B:Int)=(B:Int)-((A%B:Nat):Int)):=by
 have b:=wW A B;have c:=wF A (sU a);have a:(A:Int)=(B:Int)*((A/B:Nat):Int)+((A%B:Nat):Int):=by
  rw[<-uP, <-wV,b]
 generalize A/B=Q at*;generalize A%B=M at*;refine⟨fun h=> ?_,fun h=> ?_⟩
 . subst h;refine(g2v (by omega)).2 ⟨?_,by omega,by omega⟩;rw[a];grind
 . refine(g2v (by omega)).2 ⟨?_,by omega,by omega⟩;rw[a];grind
def C1o {sa sb:Bool} {A B:Nat} (d:B≠0) {a b q m:Int} (c:a=if sa=true then -(A:Int)else A) (hb:b=if sb=true then -(B:Int)else B) (hq:q=if(sa !=sb)=true then -((A/B:Nat):Int)else((A/B:Nat):Int)) (hm:m=if sa=true then -((A%B:Nat):Int)else((A%B:Nat):Int)):
 (m<0->a%b=m+B/\(sb=true->a/b=q+1)/\(sb=false->a/b=q-1))/\(¬m<0->a%b=m/\a/b=q):=by
 obtain⟨f,g⟩:=C1p (A:=A) d;obtain⟨d,i⟩:=C1q A B;generalize h:A/B=Q at*;generalize h:A%B=M at*;cases sa<;>cases sb<;>simp at c hb hq hm<;>subst c hb hq hm<;>simp only[Int.ediv_neg,Int.emod_neg]
 . exact⟨fun h=>by omega,fun h=>⟨i,d⟩⟩
 . exact⟨fun h=>by omega,fun h=>⟨i,by rw[d]⟩⟩
 . refine⟨fun h=> ?_,fun h=> ?_⟩
   . obtain⟨c,d⟩:=g (by omega);exact⟨by rw[d];omega,⟨fun h=>absurd h (by decide),fun _=>c⟩⟩
   . obtain⟨c,d⟩:=f (by omega);exact⟨by rw[d];omega,c⟩
 . refine⟨fun h=> ?_,fun h=> ?_⟩
   . obtain⟨c,d⟩:=g (by omega);exact⟨by rw[d];omega,⟨fun _=>by rw[c];omega,fun h=>by cases h⟩⟩
   . obtain⟨c,d⟩:=f (by omega);exact⟨by rw[d];omega,by rw[c];omega⟩
def Nf {q:D7} {k:Nat} (f:A7 q.1.2) (g:A7 q.2) (i:q.1.2.length<=k) (a:q.2.length<=k) (h:1<=k):(ic (rv q).num).2.length<=k/\(nc (rv q).den).length<=k:=by
 unfold rv;rcases g3z (nv q.2=0)with a|a
 . rw[a,yX];have b:(0:Rat).num=0:=rfl;have c:(0:Rat).den=1:=rfl;rw[b,c,iF,Vl];exact⟨rK _,h⟩
 . obtain⟨b,c⟩:=Pe (x:=iv q.1) (d:=nv q.2) a;have a:=C9 f;have f:=C9 g;rw[b,c,Ab];refine⟨?_,qX (J5 (wX _ _)) (by omega)⟩;refine qX (J5 ?_) (qX a i);rw[<-I8];exact xI _ _
def WR {A:Int} {G:Nat} (b:0<G) (a:(G:Int)∣A):ic (A/(G:Int))=(decide (A<0),nc (A.natAbs/G)):=by
 obtain⟨c,rfl⟩:=a;rw[xU _ (by omega)];have d:(G:Int)*c<0↔c<0:=by
  constructor
  . intro h;rcases g4c c 0 with a|a
    . exact a
    . have:=tJ (xM (sP.2 b)) a;omega
  . intro h;exact yZ (by omega) h
 unfold ic;rw[vS,uH,xY _ b];simp only[d]
def ID {A B:Int} (a:0<B):Rat.divInt A B=mkRat A B.natAbs:=by
 rw[<-g0a,show((B.natAbs:Nat):Int)=B from by omega]
def mB {A B:Int} (a:B<0):Rat.divInt A B=mkRat (-A) B.natAbs:=by
 rw[<-g0a,show((B.natAbs:Nat):Int)= -B from by omega,Rat.neg_divInt_neg]
def B2w {A B:Int} (a:B≠0) {G:Nat} (b:G=Nat.gcd A.natAbs B.natAbs):0<G/\(B/(G:Int)<0↔B<0)/\(B<0->(ic (-(A/(G:Int))),(ic (-(B/(G:Int)))).2)=rc (Rat.divInt A B))/\(¬B<0->(ic (A/(G:Int)),(ic (B/(G:Int))).2)=rc (Rat.divInt A B)):=by
 have f:B.natAbs≠0:=by omega
 have a:0<G:=by rw[b];exact g1k _ (by omega)
 have d:(G:Int)∣A:=by rw[b];exact yA.2 (g4r ..)
 have c:(G:Int)∣B:=by rw[b];exact yA.2 (yQ ..)
 refine⟨a, ?_,fun h=> ?_,fun h=> ?_⟩
 . have:=tR (·.1) (WR a c);exact wP.1 this
 . rw[<-g3m d, <-g3m c,WR a (Int.dvd_neg.2 d),WR a (Int.dvd_neg.2 c),mB h,jS f,yS,yS,b]
 . rw[WR a d,WR a c,ID (by omega),jS f,b]
def mC (q:Rat):Rat.divInt (-q.num) q.den= -q:=by
 have:=g1d (-q);rwa[g1j,g3h]at this
def A0u (p q:Rat):Rat.divInt (p.num*q.den+q.num*p.den) (p.den*q.den)=p+q:=by
 have a:=g3e p;have a:=g3e q;rw[<-Rat.divInt_add_divInt _ _ (by omega) (by omega),g1d,g1d]
def A0m {n k:Nat} (h:n<2^k):J8 n<=k:=by
 rcases vH n with a|a
 . rw[a,DT];omega
 . have a:=(DR (n:=n) (by omega)).1;rcases sE k (J8 n)with a|a
   . have:2^k<=2^(J8 n-1):=rX (by decide) (by omega);omega
   . exact a
def A5z {n:Nat} (h:n≠0):J8 n=J8 (n/2)+1:=by
 rcases sE n 2 with a|a
 . have:n=1:=by omega
   subst this;decide+kernel
 . have:=KS (n:=n) (k:=1) a;rwa[Nat.pow_one]at this
def A3r {l:List Int} (h:A7 l):J8 (nv l)<=32*l.length:=by
 refine A0m ?_;rw[<-Mi];exact Ha h
def B0d {n:Nat} (h:n≠0):J8 n=J8 (dg (nc n) ((nc n).length-1))+32*((nc n).length-1):=by
 have a:(nc n).length≠0:=fun h0=>h (AJ.1 (qR h0))
 have a:4294967296^((nc n).length-1)<=n:=B3f (by omega);have b:=Md n;have c:0<4294967296^((nc n).length-1):=tN (by decide);rw[OJ (J2 n),E9,Mi,tP]
 . exact KS (by rw[<-Mi];exact a)
 . rw[<-Mi,tL c,tG, <-sC,show((nc n).length-1).succ=(nc n).length from by omega];exact b
def A5w {z:Int} (a:0<=z) (b:z<4294967296):(BitVec.ofInt 32 z&&&BitVec.ofInt 32 1).toNat=z.toNat%2:=by
 rw[BitVec.toNat_and,xZ,xZ,show((1:Int)%((2^32:Nat):Int)).toNat=1 from by decide,Nat.and_one_is_mod];rw[show z%((2^32:Nat):Int)=z from by omega]
def B3s {d b s:Nat} (a:d=b*2^(s+1)) (f:d<4294967296) (c:s<=31):(BitVec.ofInt 32 (d:Int) |||BitVec.ofInt 32 ((2^s:Nat):Int)).toNat=d+2^s/\d+2^s<4294967296:=by
 have f:2^s<=2^31:=rX (by decide) c;have e:(BitVec.ofInt 32 (d:Int) |||BitVec.ofInt 32 ((2^s:Nat):Int)).toNat=d+2^s:=by
  rw[BitVec.toNat_or,xZ,xZ];rw[show((d:Int)%((2^32:Nat):Int)).toNat=d from by omega];generalize c:2^s=z at*;rw[show((z:Int)%((2^32:Nat):Int)).toNat=z from by omega,a, <-g4u];exact(g0h (by rw[<-c];exact Nat.pow_lt_pow_right (by decide) (by omega)) b).symm
 exact⟨e,by have:=(BitVec.ofInt 32 (d:Int) |||BitVec.ofInt 32 ((2^s:Nat):Int)).isLt;omega⟩
def gT (l:List Int) (j i:Nat):dg (l.drop j) i=dg l (j+i):=by
 unfold dg;simp[List.getD,xE]
def EA {l:List Int} {k i:Nat} (h:i<k):dg (l.take k) i=dg l i:=by
 unfold dg;simp[List.getD,wM,h]
def Js {l:List Int} (h:A7 l) (k:Nat):nv (l.take k)=nv l%4294967296^k:=by
 rcases sE k l.length with a|a
 . have e:=jC l k (by omega);rw[e,zB,tP (U3 h k)]
 . rw[qW a,tP];exact rC (Ha h) (rX (by decide) a)
def nT {l:List Int} (h:A7 l) (j:Nat):nv (l.drop j)=nv l/4294967296^j:=by
 have:=fD h (k:=j) (s:=0);rw[tC,g4g,g3a, <-Mi]at this;exact this.symm
def C4r {u v:List Int} (d:A7 u) (f:A7 v) {j n:Nat} (c:n+2<=v.length) (a:nv v<4294967296^(n+2)) (k:dg v (n+1)≠0) (b:j+n+3<=u.length) (g:nv u<nv v*4294967296^(j+1)):aU (nv u/4294967296^j) (nv v) (dg v (n+1)) (dg v n) (dg u (j+n+2)*4294967296+dg u (j+n+1)) (dg u (j+n)) (4294967296^n):=by
 have c:0<4294967296^j:=tN (by decide);have b:nv u/4294967296^j<nv v*4294967296:=by
  rw[tL c,sM,tG 4294967296, <-sC];exact g
 have g:nv u/4294967296^j<4294967296^(n+3):=by
  rw[sC _ (n+2)];exact rC b (rM _ (wE a))
 have i:A7 (v.take (n+2)):=fun x hx=>f x (rY hx)
 have c:A7 (u.drop j):=fun x hx=>d x (vG hx)
 have l:A7 ((u.drop j).take (n+3)):=fun x hx=>c x (rY hx)
 have ev:nv (v.take (n+2))=nv v:=by rw[Js f,tP a]
 have a:nv ((u.drop j).take (n+3))=nv u/4294967296^j:=by rw[Js c,nT d,tP g]
 have h:=C1m (w:=(u.drop j).take (n+3)) (v:=v.take (n+2)) l i (n:=n) (by rw[qU];omega) (by rw[qU,sL];omega) (by rw[EA (by omega)];exact k) (by rw[ev,a];exact b);rw[ev,a,EA (by omega),EA (by omega),EA (by omega),EA (by omega),EA (by omega),gT,gT,gT]at h;exact h
def A8i {o b U Pk P c a D x s t v:Nat} (h:o+P*(D*x)=U+Pk*c) (g:b+Pk*t=o+Pk*s) (f:t+4294967296*a=s+(D*v+c)) {Pi:Nat} (d:Pk=P*Pi):b+P*(D*(x+Pi*v))=U+Pk*4294967296*a:=by
 subst d;have b:=tR ((P*Pi)* ·) f;simp only[sZ]at b⊢;have b:P*(D*(Pi*v))=P*Pi*(D*v):=by grind
 have b:P*Pi*(4294967296*a)=P*Pi*4294967296*a:=by grind
 omega
def A5r {o b U Pk P c a x s t v:Nat} (h:o+Pk*c=U+P*x) (g:b+Pk*t=o+Pk*s) (f:s+4294967296*a=c+(t+v)) {Pi:Nat} (d:Pk=P*Pi):b+Pk*4294967296*a=U+P*(x+Pi*v):=by
 subst d;have b:=tR ((P*Pi)* ·) f;simp only[sZ]at b⊢;have b:P*(Pi*v)=P*Pi*v:=by grind
 have b:P*Pi*(4294967296*a)=P*Pi*4294967296*a:=by grind
 omega
def B0h {D v c t:Nat} (a:D<4294967296) (d:v<4294967296) (b:c<=D):D*v+c<=18446744069414584320/\(D*v+c)/4294967296+(if t<(D*v+c)%4294967296 then 1 else 0)<=D:=by
 have a:D*v<=D*4294967295:=sS _ (by omega);generalize D*v=p at*;split<;>omega
end Go.Proofs.YtiflhbllbgajeaaGreat
namespace Go.Proofs.YtiflhbllbgajeaaGreat
open Go.IntKind (i64 u64 u32)
def B0b {B U P V e M a y z g t r o:Nat} (b:0<P) (c:0<V) (d:a+P*((e+1)*V)=U+M*B) (i:a<M*B) (h:e+1<=U/P/V+1) (k:y+M*g=a+P*V) (l:z+M*t=y+M*r) (f:t+g=r+B*o) (j:o<=1) (n:z<M*B):U/P/V=e/\z+P*(e*V)=U:=by
 have a:U/P/V<e+1:=by
  rw[tL c,tL b,tG];omega
 have a:U/P/V=e:=by omega
 have b:P*(e*V)<=U:=by
  rw[<-a,tG];exact qX (rM _ (zE _ _)) (zE _ _)
 have b:P*((e+1)*V)=P*(e*V)+P*V:=by rw[uU,xP,sZ]
 rw[b]at d;have b:M*t+M*g=M*r+M*B*o:=by rw[<-sZ,f,sZ,sM]
 have d:o=1:=by
  rcases sE o 1 with h|h
  . have c:o=0:=by omega
    subst c;simp only[wQ,tC]at b;omega
  . omega
 subst d;rw[yW]at b;exact⟨a,by omega⟩
def C5q (m:Nat):4294967296^(m+2)*4294967296=4294967296^(m+3):=(sC (n:=4294967296) (m:=m+2)).symm
end Go.Proofs.YtiflhbllbgajeaaGreat
namespace Go.Proofs.YtiflhbllbgajeaaGreat
open Go.Vc Go.Gw
open Go.IntKind (i64 u64 u32)
def qs (k:Nat) (q:Rat):Prop:=(nc q.num.natAbs).length<=k/\(nc q.den).length<=k
def sz (k:Nat) (x:D7):Prop:=x.1.2.length<=k/\x.2.length<=k
def Ia (x:D7):Prop:=A7 x.1.2/\A7 x.2
def BN {k:Nat} {q:Rat} (h:qs k q):sz k (rc q):=h
def UC (q:Rat):Ia (rc q):=⟨J2 _,J2 _⟩
def Hi {k:Nat} {x:D7} (a:Ia x) (h:sz k x) (b:1<=k):qs k (rv x):=Nf a.1 a.2 h.1 h.2 b
def N7 {j k:Nat} {q:Rat} (h:qs j q) (a:j<=k):qs k q:=⟨qX h.1 a,qX h.2 a⟩
def G3 {j k:Nat} {x:D7} (h:sz j x) (a:j<=k):sz k x:=⟨qX h.1 a,qX h.2 a⟩
def YR {V:Int} {D k:Nat} (f:D≠0) (c:(nc V.natAbs).length<=k) (d:(nc D).length<=k):qs k (mkRat V D):=by
 obtain⟨a,b⟩:=Pe (x:=V) f;unfold qs;rw[a,b];refine⟨qX (J5 ?_) c,qX (J5 (wX _ _)) d⟩;exact xI _ _
def R5 {k:Nat} (a:1<=k):qs k 0:=by
 refine⟨?_, ?_⟩
 . show(nc 0).length<=k;rw[O6];exact rK _
 . show(nc 1).length<=k;rw[Vl];exact a
def YT {k:Nat} (a:1<=k):qs k 1:=by
 refine⟨?_, ?_⟩<;>(show(nc 1).length<=k;rw[Vl];exact a)
def A2h {k:Nat} {q:Rat} (h:qs k q):1<=k:=by
 have a:=h.2;have a:nc q.den≠ []:=fun e=>q.den_nz (AJ.1 e)
 have:=vD.2 a;omega
def YS {k:Nat} {q:Rat} (h:qs k q):qs k (-q):=by
 unfold qs at h⊢;rw[g1j,g3h,yS];exact h
def PT {j k:Nat} {p q:Rat} (a:qs j p) (b:qs k q):qs (j+k) (p*q):=by
 rw[Rat.mul_def'];refine YR (zJ p.den_nz q.den_nz) ?_ ?_
 . rw[vS];exact qX (Qr _ _) (Nat.add_le_add a.1 b.1)
 . exact qX (Qr _ _) (Nat.add_le_add a.2 b.2)
def YQ {j k:Nat} {p q:Rat} (a:qs j p) (b:qs k q):qs (j+k+1) (p+q):=by
 rw[Rat.add_def'];refine YR (zJ p.den_nz q.den_nz) ?_ ?_
 . have e:(p.num*(q.den:Int)+q.num*(p.den:Int)).natAbs<=p.num.natAbs*q.den+q.num.natAbs*p.den:=by
    refine qX (g1h _ _) ?_;rw[vS,vS,uH,uH];exact qZ _
   have c:=Qr p.num.natAbs q.den;have c:=Qr q.num.natAbs p.den;have c:=PC (p.num.natAbs*q.den) (q.num.natAbs*p.den);have c:=J5 e;have:=a.1;have:=a.2;have:=b.1;have:=b.2;omega
 . have:=Qr p.den q.den;have:=a.2;have:=b.2;omega
def IZ {j k:Nat} {p q:Rat} (a:qs j p) (b:qs k q):qs (j+k+1) (p-q):=by
 rw[tD];exact YQ a (YS b)
def B4i {k:Nat} {q:Rat} (h:qs k q):qs k q⁻¹:=by
 have b:=A2h h;by_cases a:q=0
 . subst a;rw[Rat.inv_zero];exact R5 b
 have b:q.num≠0:=fun e=>a (yF.1 e)
 refine⟨?_, ?_⟩
 . rw[Rat.num_inv,vS,uH,g0u b,xP];exact h.2
 . rw[Rat.den_inv,qK b];exact h.1
def jP {j k:Nat} {p q:Rat} (a:qs j p) (b:qs k q):qs (j+k) (p/q):=by
 rw[xD];exact PT a (B4i b)
def B4h {a:Int} (h:a.natAbs<4294967296):qs 1 (a:Rat):=by
 refine⟨?_, ?_⟩
 . rw[g2l];exact Gz (by simpa using h)
 . rw[g2j,Vl];exact qZ _
abbrev K0:Nat:=1073741824
abbrev K1:Nat:=549755813888
def V4 {k:Nat} {x:D7} (h:sz k x) (a:k<=2199023255552):E6 x:=⟨qX h.1 a,qX h.2 a⟩
def R6 {k:Nat} {q:Rat} (h:qs k q) (a:k<=2199023255552):E6 (rc q):=⟨qX h.1 a,qX h.2 a⟩
def C0h {q:Rat} :q.num.sign=0↔q=0:=⟨fun h=>yF.1 (zA.1 h),fun h=>by rw[h];rfl⟩
abbrev D2:=Int×D7
def A5:List D2->Int->Rat
 | [],_=>0
 |e::v,i=>(if e.1=i then rv e.2 else 0)+A5 v i
def Hx (v:List D2):Prop:=v.Pairwise fun a b=>a.1<b.1
instance (v:List D2):Decidable (Hx v):=by unfold Hx;infer_instance
def Z9 (v:List D2):Prop:=Hx v/\∀e∈v,rv e.2≠0/\e.2=rc (rv e.2)
def M0 (v:List D2) (n:Int):Prop:=Hx v/\∀e∈v,0<=e.1/\e.1<n/\rv e.2≠0
instance (v:List D2) (n:Int):Decidable (M0 v n):=by unfold M0;infer_instance
def UM (k:Nat) (v:List D2):Prop:=∀e∈v,sz k e.2
def MA (k:Nat) (l:List D7):Prop:=∀x∈l,sz k x
def ER (k:Nat) (v:List D2):Prop:=Hx v/\UM k v/\v.length<=100000
def FV (v:List D2):Prop:=∀e∈v,Ia e.2
def AO (d:D2×D2×Unit->Prop) (φ:D2×D2×Unit->Int):Prop:=(∀a b,d (a,b,()))/\(∀a b c,¬φ (a,b,())<0->¬φ (b,c,())<0->¬φ (a,c,())<0)/\(∀a b,φ (a,b,())<0->¬φ (b,a,())<0)
def Yt (φ:D2×D2×Unit->Int) (l:List D2):Prop:=l.Pairwise fun a b=>¬φ (b,a,())<0
def cL (v:List D2):Prop:=Hx v\/(v.length<=20/\UM 65536 v)
def Pg (v:List D2):Prop:=ER K1 v\/(v.length<=20/\UM 65536 v)
def Sc (i:Int):A5 [] i=0:=rfl
def D6 {v:List D2} {i:Int} (h:∀e∈v,e.1≠i):A5 v i=0:=by
 induction v with
 |nil=>rfl
 |cons e v b=>
  rw[A5,qK (h e (rB ..)),b fun x a=>h x (qL _ a),tH]
def N2 (a b:List D2) (i:Int):A5 (a++b) i=A5 a i+A5 b i:=by
 induction a with
 |nil=>rw[vK,Sc,tH]
 |cons e a c=>rw[wK,A5,A5,c,yI]
def I3 {e:D2} {v:List D2} :Hx (e::v)↔(∀x∈v,e.1<x.1)/\Hx v:=g3s
def Gt {e:D2} {v:List D2} (h:Hx (e::v)):Hx v:=(I3.1 h).2
def M9 {e:D2} {v:List D2} (h:Hx (e::v)):A5 (e::v) e.1=rv e.2:=by
 rw[A5,qQ rfl,D6 fun x a b=>by have:=(I3.1 h).1 x a;omega,rN]
def DX {e:D2} {v:List D2} (h:Hx (e::v)) {i:Int} (a:i<e.1):A5 (e::v) i=0:=
 D6 fun x a=>by
  rcases qG.1 a with rfl|a
  . omega
  . have:=(I3.1 h).1 x a;omega
def Ce {e:D2} {v:List D2} {i:Int} (a:e.1≠i):A5 (e::v) i=A5 v i:=by
 rw[A5,qK a,tH]
def Q7 {v:List D2} (h:Hx v) {e:D2} (a:e∈v):A5 v e.1=rv e.2:=by
 induction v with
 |nil=>cases a
 |cons x v b=>
  rcases qG.1 a with rfl|a
  . exact M9 h
  . have:=(I3.1 h).1 e a;rw[Ce (by omega),b (Gt h) a]
def DY {v:List D2} {i:Int} (h:A5 v i≠0):∃e∈v,e.1=i:=
 qV fun c=>h (D6 fun e a b=>c ⟨e,a,b⟩)
def Zt:Z9 []:=⟨List.Pairwise.nil,fun _ h=>by cases h⟩
def cS {e:D2} {v:List D2} (h:Z9 (e::v)):Z9 v:=⟨Gt h.1,fun x a=>h.2 x (qL _ a)⟩
def lT:∀ {a b:List D2},Z9 a->Z9 b->(∀i,A5 a i=A5 b i)->a=b
 | [],[],_,_,_=>rfl
 | [],e::b,_,c,h=>absurd ((M9 c.1).symm.trans (h e.1).symm) (c.2 e (rB ..)).1
 |e::a,[],c,_,h=>absurd ((M9 c.1).symm.trans (h e.1)) (c.2 e (rB ..)).1
 |e::a,f::b,c,d,h=>by
  have g:=c.2 e (rB ..);have j:=d.2 f (rB ..);have k:e.1=f.1:=by
   rcases zT e.1 f.1 with hl|hl|hl
   . have:=h e.1;rw[M9 c.1,DX d.1 hl]at this;exact absurd this g.1
   . exact hl
   . have:=h f.1;rw[M9 d.1,DX c.1 hl]at this;exact absurd this.symm j.1
  have l:rv e.2=rv f.2:=by
   have:=h e.1;rw[M9 c.1,k,M9 d.1]at this;exact this
  have n:e=f:=by
   obtain⟨i,x⟩:=e;obtain⟨o,y⟩:=f;simp only at k l g j;rw[k,g.2,j.2,l]
  subst n;rw[lT (cS c) (cS d) fun i=>by
   by_cases f:e.1=i
   . subst f;rw[D6 fun x g j=>by have:=(I3.1 c.1).1 x g;omega,D6 fun x g j=>by have:=(I3.1 d.1).1 x g;omega]
   . have:=h i;rwa[Ce f,Ce f]at this]
def lJ {v:List D2} {e:D2} (h:Hx v) (d:∀x∈v,x.1<e.1):Hx (v++ [e]):=by
 unfold Hx;rw[tY];refine⟨h,zP ..,fun b c f a=> ?_⟩;rw[qO]at a;subst a;exact d b c
def Mc {v:List D2} {i:Int} {q:Rat} (h:Z9 v) (c:q≠0) (b:∀x∈v,x.1<i):Z9 (v++ [(i,rc q)]):=by
 refine⟨lJ h.1 b,fun x a=> ?_⟩;rcases qY.1 a with a|a
 . exact h.2 x a
 . rw[qO]at a;subst a;simp only[E4];exact⟨c,trivial⟩
def Gc (v:List D2) (i:Int) (q:Rat) (j:Int):A5 (v++ [(i,rc q)]) j=A5 v j+(if i=j then q else 0):=by
 rw[N2];simp only[A5,E4,rN]
def KT {v:List D2} (h:Z9 v) {k:Nat} (b:∀i,qs k (A5 v i)):UM k v:=fun e a=>by
 rw[(h.2 e a).2, <-Q7 h.1 a];exact b _
def KU {v:List D2} (h:Hx v) (d:FV v) {k:Nat} (f:UM k v) (c:1<=k) (i:Int):qs k (A5 v i):=by
 by_cases b:∃e∈v,e.1=i
 . obtain⟨e,a,rfl⟩:=b;rw[Q7 h a];exact Hi (d e a) (f e a) c
 . rw[D6 fun e a d=>b ⟨e,a,d⟩];exact R5 c
def Gr {v:List D2} {n:Int} (h:M0 v n):(v.length:Int)<=max n 0:=by
 have d:∀(v:List D2) (k n:Int),Hx v->(∀e∈v,k<=e.1/\e.1<n)->(v.length:Int)<=max (n-k) 0:=by
  intro v
  induction v with
  |nil=>intro k n _ _;simp only[xL];omega
  |cons e v c=>
   intro k n a b;have f:=b e (rB ..);have:=c (e.1+1) n (Gt a) fun x hx=>⟨by have:=(I3.1 a).1 x hx;omega,(b x (qL _ hx)).2⟩
   simp only[rE];omega
 have:=d v 0 n h.1 fun e he=>⟨(h.2 e he).1,(h.2 e he).2.1⟩
 omega
abbrev Dx:=Int×Int×List (List D2)
def el (m:Dx) (i j:Nat):Rat:=A5 (m.2.2.getD i []) (j:Int)
def F1 (m:Dx):Prop:=0<=m.1/\m.1<=16384/\0<=m.2.1/\m.2.1<=16384/\(m.2.2.length:Int)=m.1/\∀v∈m.2.2,M0 v m.2.1
instance (m:Dx):Decidable (F1 m):=by unfold F1;infer_instance
def zm:Dx:=(0,0,[])
def Qn (R C:Nat) (f:Nat->Nat->Rat) (m:Dx):Prop:=
 m.1=(R:Int)/\m.2.1=(C:Int)/\m.2.2.length=R/\∀i,i<R->Z9 (m.2.2.getD i [])/\(∀e∈m.2.2.getD i [],0<=e.1/\e.1<(C:Int))/\∀j,j<C->A5 (m.2.2.getD i []) (j:Int)=f i j
def TH (n:Nat) (f:Nat->Rat) (v:List D2):Prop:=Z9 v/\(∀e∈v,0<=e.1/\e.1<(n:Int))/\∀j,j<n->A5 v (j:Int)=f j
def KZ {n:Nat} {f:Nat->Rat} {v:List D2} (h:TH n f v) (i:Int):A5 v i=if 0<=i/\i<(n:Int)then f i.toNat else 0:=by
 by_cases a:0<=i/\i<(n:Int)
 . rw[qQ a, <-h.2.2 i.toNat (by omega)];congr 1;omega
 . rw[qK a,D6 fun e b c=>a (by rw[<-c];exact h.2.1 e b)]
def B7j {n:Nat} {f g:Nat->Rat} {a b:List D2} (c:TH n f a) (d:TH n g b) (h:∀j,j<n->f j=g j):a=b:=
 lT c.1 d.1 fun i=>by
  rw[KZ c,KZ d];split
  . exact h _ (by omega)
  . rfl
def A6x {n:Nat} {f g:Nat->Rat} {v:List D2} (h:TH n f v) (e:∀j,j<n->f j=g j):TH n g v:=⟨h.1,h.2.1,fun j a=>by rw[h.2.2 j a,e j a]⟩
def H6 {a:Type} (l:List a) (d:a) {i:Nat} (h:i<l.length):l.getD i d=l[i]:=by rw[qF,qP h];rfl
def B7i {R C:Nat} {f g:Nat->Nat->Rat} {a b:Dx} (l:Qn R C f a) (v:Qn R C g b) (h:∀i j,i<R->j<C->f i j=g i j):a=b:=by
 obtain⟨r,c,t⟩:=a;obtain⟨d,c,u⟩:=b;obtain⟨c,d,r,k⟩:=l;obtain⟨l,n,s,o⟩:=v;simp only at c d r k l n s o;subst c;subst d;subst l;subst n;have:t=u:=by
  refine g1n (by omega) fun i c d=> ?_
  have l:=k i (by omega);have k:=o i (by omega);have:=B7j l k fun j hj=>h i j (by omega) hj
  rwa[H6 _ _ c,H6 _ _ d]at this
 rw[this]
def A1f {R C:Nat} {f:Nat->Nat->Rat} {m:Dx} (h:Qn R C f m) {i j:Nat} (a:i<R) (b:j<C):el m i j=f i j:=(h.2.2.2 i a).2.2 j b
def C8 {a:Type} {l:List a} {i:Nat} {d:a} (h:i<l.length):l.getD i d∈l:=by rw[H6 _ _ h];exact wO h
def Bn {a:Type} {l:List a} {x:a} (d:a) (h:x∈l):∃i,i<l.length/\l.getD i d=x:=by
 obtain⟨i,a,e⟩:=uB.1 h;exact⟨i,a,by rw[H6 _ _ a];exact e⟩
def dM {n:Nat} {f:Nat->Rat} {v:List D2} (h:TH n f v):M0 v (n:Int):=⟨h.1.1,fun e a=>⟨(h.2.1 e a).1,(h.2.1 e a).2,(h.1.2 e a).1⟩⟩
def EH {R C:Nat} {f:Nat->Nat->Rat} {m:Dx} (h:Qn R C f m) (b:R<=16384) (a:C<=16384):F1 m:=by
 obtain⟨c,a,d,b⟩:=h;refine⟨by omega,by omega,by omega,by omega,by omega,fun v c=> ?_⟩;obtain⟨i,d,rfl⟩:=Bn [] c;rw[a];exact dM (b i (by omega))
def Ef (k:Nat) (m:Dx):Prop:=∀v∈m.2.2,UM k v
def A1i (m:Dx):Prop:=∀v∈m.2.2,FV v
def iN {R C k:Nat} {f:Nat->Nat->Rat} {m:Dx} (h:Qn R C f m) (c:1<=k) (b:∀i j,i<R->j<C->qs k (f i j)):Ef k m:=fun v d=>by
 obtain⟨i,a,rfl⟩:=Bn [] d;rw[h.2.2.1]at a;refine KT (h.2.2.2 i a).1 fun j=> ?_
 rw[KZ (h.2.2.2 i a)];split
 . exact b i _ a (by omega)
 . exact R5 c
def TG (f:Int->Rat) (v:List D2):Prop:=Z9 v/\∀i,A5 v i=f i
def dl (n:Int) (f:Int->Rat):List D7:=(List.range n.toNat).map fun j:Nat=>rc (f (j:Int))
def AF (x:D7):Prop:=∃q,qs 1 q/\x=rc q
def C7:Nat->(Nat->Rat)->Rat
 |0,_=>0
 |n+1,f=>C7 n f+f n
def B8 {n:Nat} {f g:Nat->Rat} (h:∀i,i<n->f i=g i):C7 n f=C7 n g:=by
 induction n with
 |zero=>rfl
 |succ n a=>rw[C7,C7,a fun i b=>h i (by omega),h n (by omega)]
def Ad {n:Nat} {f:Nat->Rat} (h:∀i,i<n->f i=0):C7 n f=0:=by
 induction n with
 |zero=>rfl
 |succ n a=>rw[C7,a fun i b=>h i (by omega),h n (by omega),rN]
def Ev (n:Nat) (f g:Nat->Rat):C7 n (fun i=>f i+g i)=C7 n f+C7 n g:=by
 induction n with
 |zero=>rw[C7,C7,C7,rN]
 |succ n a=>rw[C7,C7,C7,a];grind
def Ni (n:Nat) (c:Rat) (f:Nat->Rat):C7 n (fun i=>c*f i)=c*C7 n f:=by
 induction n with
 |zero=>rw[C7,C7,uK]
 |succ n a=>rw[C7,C7,a,Rat.mul_add]
def PY (n:Nat) (c:Rat) (f:Nat->Rat):C7 n (fun i=>f i*c)=C7 n f*c:=by
 induction n with
 |zero=>rw[C7,C7,tK]
 |succ n a=>rw[C7,C7,a,g3d]
def Mf (m n:Nat) (f:Nat->Nat->Rat):C7 m (fun i=>C7 n (f i))=C7 n fun j=>C7 m fun i=>f i j:=by
 induction m with
 |zero=>rw[C7];exact(Ad fun _ _=>rfl).symm
 |succ m a=>
  rw[C7,a, <-Ev];exact B8 fun j _=>rfl
def L6 {n k:Nat} {f:Nat->Rat} (a:k<n) (h:∀i,i<n->i≠k->f i=0):C7 n f=f k:=by
 induction n with
 |zero=>omega
 |succ n b=>
  rw[C7];by_cases a:k=n
  . subst a;rw[Ad fun i a=>h i (by omega) (by omega),tH]
  . rw[b (by omega) fun i a=>h i (by omega),h n (by omega) (by omega),rN]
def B8m {n k:Nat} {f:Nat->Rat} (a:∀i,i<n->qs k (f i)):qs (n*(k+1)+1) (C7 n f):=by
 induction n with
 |zero=>rw[C7];exact R5 (by omega)
 |succ n b=>
  rw[C7];refine N7 (YQ (b fun i c=>a i (by omega)) (a n (by omega))) ?_;rw[uU,xP];omega
def Vb:List D2->(Int->Rat)->Rat
 | [],_=>0
 |e::v,h=>rv e.2*h e.1+Vb v h
def mI (a b:List D2) (h:Int->Rat):Vb (a++b) h=Vb a h+Vb b h:=by
 induction a with
 |nil=>rw[vK,Vb,tH]
 |cons e a c=>rw[wK,Vb,Vb,c,yI]
def dA {d:D2} {v:List D2} {i:Int} (a:0<=i) (b:i<(v.length:Int)) (h:Int->Rat):Vb (v.take (i+1).toNat) h=Vb (v.take i.toNat) h+rv (gx d v i).2*h (gx d v i).1:=by
 rw[show(i+1).toNat=i.toNat+1 from by omega,rP,H1 (d:=d) a b,mI];simp only[zO,Vb,rN]
def A3w {v:List D2} {n:Nat} (a:∀e∈v,0<=e.1/\e.1<(n:Int)) (h:Int->Rat):Vb v h=C7 n fun j=>A5 v (j:Int)*h (j:Int):=by
 induction v with
 |nil=>rw[Vb];exact(Ad fun j _=>tK _).symm
 |cons e v c=>
  obtain⟨b,d⟩:=a e (rB ..);rw[Vb,c fun x b=>a x (qL _ b)];have a:(C7 n fun j=>A5 (e::v) (j:Int)*h (j:Int))=(C7 n fun j=>(if e.1=(j:Int)then rv e.2 else 0)*h (j:Int))+C7 n fun j=>A5 v (j:Int)*h (j:Int):=by
   rw[<-Ev];exact B8 fun j _=>by rw[A5,g3d]
  have b:(C7 n fun j=>(if e.1=(j:Int)then rv e.2 else 0)*h (j:Int))=rv e.2*h e.1:=by
   rw[L6 (k:=e.1.toNat) (by omega) fun i _ c=>by rw[qK (by omega),tK],qQ (by omega),show((e.1.toNat:Nat):Int)=e.1 from by omega]
  rw[a,b]
def fA:rv zr=0:=yX _
def put (i:Int) (x:D7) (l:List D2):List D2:=if rv x=0 then l else(i,x)::l
def I1 (φ:D7×D7×Unit->D7):List D2->List D2->List D2
 | [],[]=> []
 |e::a,[]=>put e.1 (φ (e.2,zr,())) (I1 φ a [])
 | [],f::b=>put f.1 (φ (zr,f.2,())) (I1 φ [] b)
 |e::a,f::b=>if e.1<f.1 then put e.1 (φ (e.2,zr,())) (I1 φ a (f::b))else if e.1=f.1 then put e.1 (φ (e.2,f.2,())) (I1 φ a b)else put f.1 (φ (zr,f.2,())) (I1 φ (e::a) b)
termination_by a b=>a.length+b.length
def Zx (i:Int) (q:Rat) (l:List D2) (j:Int):A5 (put i (rc q) l) j=(if i=j then q else 0)+A5 l j:=by
 unfold put;rw[E4];split
 . rename_i h;subst h;simp only[ite_self,tH]
 . rw[A5,E4]
def LV {i:Int} {x:D7} {l:List D2} {e:D2} (h:e∈put i x l):e.1=i\/e∈l:=by
 unfold put at h;split at h
 . exact .inr h
 . rcases qG.1 h with rfl|h
   . exact .inl rfl
   . exact .inr h
def Zu {i:Int} {q:Rat} {l:List D2} (h:Z9 l) (c:∀e∈l,i<e.1):Z9 (put i (rc q) l):=by
 unfold put;rw[E4];split
 . exact h
 . rename_i b;refine⟨I3.2 ⟨c,h.1⟩,fun e a=> ?_⟩;rcases qG.1 a with rfl|a
   . simp only[E4];exact⟨b,trivial⟩
   . exact h.2 e a
def QZ (φ:D7×D7×Unit->D7) (g:Rat->Rat->Rat) (h:g 0 0=0) (a b:List D2):
 (∀x y,(x=zr\/∃e∈a,e.2=x)->(y=zr\/∃e∈b,e.2=y)->φ (x,y,())=rc (g (rv x) (rv y)))->Hx a->Hx b->
 Z9 (I1 φ a b)/\(∀e∈I1 φ a b,(∃x∈a,x.1=e.1)\/∃y∈b,y.1=e.1)/\∀i,A5 (I1 φ a b) i=g (A5 a i) (A5 b i):=by
 induction a,b using I1.induct with
 |case1=>
  intro _ _ _;rw[I1];exact⟨Zt,fun e c=>(by cases c),fun i=>h.symm⟩
 |case2 e a d=>
  intro l j r;obtain⟨n,k,o⟩:=d (fun x y c hy=>l x y (c.imp id fun⟨z,d,f⟩=>⟨z,qL _ d,f⟩) hy) (Gt j) r;rw[I1,l e.2 zr (.inr ⟨e,rB ..,rfl⟩) (.inl rfl),fA];refine⟨Zu n fun x c=> ?_,fun x c=> ?_,fun i=> ?_⟩
  . rcases k x c with⟨z,d,f⟩ | ⟨z,d,_⟩
    . rw[<-f];exact(I3.1 j).1 z d
    . cases d
  . rcases LV c with c|c
    . exact .inl ⟨e,rB ..,c.symm⟩
    . exact(k x c).imp (fun⟨z,d,f⟩=>⟨z,qL _ d,f⟩) id
  . rw[Zx,o,Sc];by_cases d:e.1=i
    . subst d;rw[qQ rfl,M9 j,D6 fun x c f=>by have:=(I3.1 j).1 x c;omega,h,rN]
    . rw[qK d,Ce d,tH]
 |case3 j b d=>
  intro n s k;obtain⟨o,l,r⟩:=d (fun x y c hy=>n x y c (hy.imp id fun⟨z,d,f⟩=>⟨z,qL _ d,f⟩)) s (Gt k);rw[I1,n zr j.2 (.inl rfl) (.inr ⟨j,rB ..,rfl⟩),fA];refine⟨Zu o fun x c=> ?_,fun x c=> ?_,fun i=> ?_⟩
  . rcases l x c with⟨z,d,_⟩ | ⟨z,d,f⟩
    . cases d
    . rw[<-f];exact(I3.1 k).1 z d
  . rcases LV c with c|c
    . exact .inr ⟨j,rB ..,c.symm⟩
    . exact(l x c).imp id fun⟨z,d,f⟩=>⟨z,qL _ d,f⟩
  . rw[Zx,r,Sc];by_cases d:j.1=i
    . subst d;rw[qQ rfl,M9 k,D6 fun x c f=>by have:=(I3.1 k).1 x c;omega,h,rN]
    . rw[qK d,Ce d,tH]
 |case4 e a f b l d=>
  intro o j k;obtain⟨r,n,s⟩:=d (fun x y c hy=>o x y (c.imp id fun⟨z,d,f⟩=>⟨z,qL _ d,f⟩) hy) (Gt j) k;rw[I1,qQ l,o e.2 zr (.inr ⟨e,rB ..,rfl⟩) (.inl rfl),fA];refine⟨Zu r fun x c=> ?_,fun x c=> ?_,fun i=> ?_⟩
  . rcases n x c with⟨z,d,f⟩ | ⟨z,d,f⟩
    . rw[<-f];exact(I3.1 j).1 z d
    . rw[<-f];rcases qG.1 d with rfl|d
      . exact l
      . have:=(I3.1 k).1 z d;omega
  . rcases LV c with c|c
    . exact .inl ⟨e,rB ..,c.symm⟩
    . exact(n x c).imp (fun⟨z,d,f⟩=>⟨z,qL _ d,f⟩) id
  . rw[Zx,s];by_cases d:e.1=i
    . subst d;rw[qQ rfl,M9 j,D6 (v:=a) fun x c f=>by have:=(I3.1 j).1 x c;omega,DX k l,h,rN]
    . rw[qK d,Ce d,tH]
 |case5 e a l b u n d=>
  intro r j k;obtain⟨s,o,t⟩:=d (fun x y c hy=>r x y (c.imp id fun⟨z,d,f⟩=>⟨z,qL _ d,f⟩) (hy.imp id fun⟨z,d,f⟩=>⟨z,qL _ d,f⟩)) (Gt j) (Gt k);rw[I1,qK u,qQ n,r e.2 l.2 (.inr ⟨e,rB ..,rfl⟩) (.inr ⟨l,rB ..,rfl⟩)];refine⟨Zu s fun x c=> ?_,fun x c=> ?_,fun i=> ?_⟩
  . rcases o x c with⟨z,d,f⟩ | ⟨z,d,f⟩
    . rw[<-f];exact(I3.1 j).1 z d
    . rw[<-f,n];exact(I3.1 k).1 z d
  . rcases LV c with c|c
    . exact .inl ⟨e,rB ..,c.symm⟩
    . exact(o x c).imp (fun⟨z,d,f⟩=>⟨z,qL _ d,f⟩) fun⟨z,d,f⟩=>⟨z,qL _ d,f⟩
  . rw[Zx,t];by_cases d:e.1=i
    . subst d;have f:=M9 k;rw[<-n]at f;rw[qQ rfl,M9 j,f,D6 (v:=a) fun x c f=>by have:=(I3.1 j).1 x c;omega,D6 (v:=b) fun x c f=>by have:=(I3.1 k).1 x c;omega,h,rN]
    . rw[qK d,Ce d,Ce (e:=l) (by omega),tH]
 |case6 e a j b u t d=>
  intro o l k;obtain⟨r,n,s⟩:=d (fun x y c hy=>o x y c (hy.imp id fun⟨z,d,f⟩=>⟨z,qL _ d,f⟩)) l (Gt k);rw[I1,qK u,qK t,o zr j.2 (.inl rfl) (.inr ⟨j,rB ..,rfl⟩),fA];refine⟨Zu r fun x c=> ?_,fun x c=> ?_,fun i=> ?_⟩
  . rcases n x c with⟨z,d,f⟩ | ⟨z,d,f⟩
    . rw[<-f];rcases qG.1 d with rfl|d
      . omega
      . have:=(I3.1 l).1 z d;omega
    . rw[<-f];exact(I3.1 k).1 z d
  . rcases LV c with c|c
    . exact .inr ⟨j,rB ..,c.symm⟩
    . exact(n x c).imp id fun⟨z,d,f⟩=>⟨z,qL _ d,f⟩
  . rw[Zx,s];by_cases d:j.1=i
    . subst d;rw[qQ rfl,M9 k,D6 (v:=b) fun x c f=>by have:=(I3.1 k).1 x c;omega,DX l (by omega),h,rN]
    . rw[qK d,Ce (e:=j) d,tH]
def mW (p:Int->Bool) (l:List Int):Int:=match l.findIdx? p with
 |some i=>(i:Int)
 |none=> -1
def C5n (v:List D2):List D2:=I1 (fun x=>rc (rv x.1)) v []
def A7n {v:List D2} (h:Hx v):Z9 (C5n v)/\∀i,A5 (C5n v) i=A5 v i:=by
 obtain⟨a,_,b⟩:=QZ (fun x=>rc (rv x.1)) (fun p _=>p) rfl v [] (fun _ _ _ _=>rfl) h List.Pairwise.nil;exact⟨a,b⟩
def fill {a:Type} (n i:Nat) (F:Nat->a) (out:List a):Prop:=out.length=n/\∀j,j<i->out[j]? =some (F j)
def B2x {a:Type} {i:Int} (F:Nat->a) (b:0<=i):(List.range (i+1).toNat).map F=(List.range i.toNat).map F++ [F i.toNat]:=by
 rw[show(i+1).toNat=i.toNat+1 from by omega,wH,uF];rfl
def mJ (n i:Nat) (P:Nat->List D2->Prop) (out:List (List D2)):Prop:=out.length=n/\∀j,j<i->P j (out.getD j [])
def C1r {n:Nat} {P:Nat->List D2->Prop} {out:List (List D2)} (h:out.length=n):mJ n 0 P out:=⟨h,fun _ a=>by omega⟩
def A6q {n:Nat} {i:Int} {P:Nat->List D2->Prop} {out:List (List D2)} {x:List D2} (h:mJ n i.toNat P out) (a:0<=i) (c:i<(n:Int)) (b:P i.toNat x):mJ n (i+1).toNat P (out.set i.toNat x):=by
 refine⟨by rw[qM];exact h.1,fun j a=> ?_⟩;rw[qF,wC];by_cases a:i.toNat=j
 . rw[qQ a,qQ (by rw[h.1];omega), <-a];exact b
 . rw[qK a, <-qF];exact h.2 j (by omega)
def jX {k:Nat} {m:Dx} (a:F1 m) (b:Ef k m) {v:List D2} (h:v∈m.2.2):ER k v:=by
 refine⟨(a.2.2.2.2.2 v h).1,b v h, ?_⟩;have:=Gr (a.2.2.2.2.2 v h);have:=a.2.2.2.1;have:=a.2.2.1;omega
def B7k {n:Nat} {f:Nat->Rat} {v:List D2} {g:Int->Rat} (h:TG g v) (c:∀i,¬(0<=i/\i<(n:Int))->g i=0) (a:∀j:Nat,j<n->g (j:Int)=f j):TH n f v:=by
 refine⟨h.1,fun e b=> ?_,fun j d=>by rw[h.2,a j d]⟩;refine qV fun d=> ?_
 have a:=Q7 h.1.1 b;rw[h.2,c _ d]at a;exact(h.1.2 e b).1 a.symm
def A8t {v:List D2} {n i:Int} (h:M0 v n) (c:¬(0<=i/\i<n)):A5 v i=0:=D6 fun e a b=>c (by rw[<-b];exact⟨(h.2 e a).1,(h.2 e a).2.1⟩)
abbrev LUV:=List Int×List Int×Dx×Dx
def kM:LUV:=([],[],zm,zm)
def L9 (p:List Int) (n:Int):Prop:=(p.length:Int)=n/\(∀i∈p,0<=i/\i<n)/\p.Nodup
instance (p:List Int) (n:Int):Decidable (L9 p n):=by unfold L9;infer_instance
def sqr (m:Dx) (n:Int):Prop:=m.1=n/\m.2.1=n/\F1 m
instance (m:Dx) (n:Int):Decidable (sqr m n):=by unfold sqr;infer_instance
def Da (f:LUV) (n:Int):Prop:=L9 f.1 n/\L9 f.2.1 n/\sqr f.2.2.1 n/\sqr f.2.2.2 n/\∀i j:Nat,(i:Int)<n->(j:Int)<n->(i<j->el f.2.2.1 i j=0)/\el f.2.2.1 i i=1/\(j<i->el f.2.2.2 i j=0)/\el f.2.2.2 i i≠0
def luM (f:LUV) (n:Nat) (i j:Nat):Rat:=C7 n fun k=>el f.2.2.1 i k*el f.2.2.2 k j
def nonsing (n:Nat) (A:Nat->Nat->Rat):Prop:=∀x:Nat->Rat,(∀i,i<n->C7 n (fun j=>A i j*x j)=0)->∀j,j<n->x j=0
def sK (s:Nat):Nat->Nat
 |0=>s
 |k+1=>4*sK s k+1
def gK (s T:Nat):Nat->Nat
 |0=>T
 |k+1=>2*gK s T k+s+1
def hK (s Y:Nat):Nat->Nat
 |0=>Y
 |k+1=>2*hK s Y k+2*s+1
def ix (p:List Int) (i:Nat):Nat:=(p.getD i 0).toNat
end Go.Proofs.YtiflhbllbgajeaaGreat
namespace Go.Proofs.YtiflhbllbgajeaaGreat
open Go.IntKind (i64 u64 u32)
abbrev Ln:=Int×Int
def C2 (s:List Int) (i:Int):Int:=s.getD i.toNat 0
def KY (n:Int) (l:Ln):Prop:=0<=l.1/\l.1<n/\0<=l.2/\l.2<n
instance (n:Int) (l:Ln):Decidable (KY n l):=by unfold KY;infer_instance
def En (n:Int) (ls:List Ln):Prop:=0<=n/\n<=16384/\∀l∈ls,KY n l
def Si (n:Int) (ls:List Ln):Int:=if n<0\/16384<n then 3 else if∀l∈ls,KY n l then 0 else 12
def UF (s:List Int):Prop:=∀i:Nat,i<s.length->0<=C2 s i/\C2 s i<=i
def LW (s:List Int):Nat->Int->Int
 |0,b=>b
 |k+1,b=>if C2 s b=b then b else LW s k (C2 s b)
def root (s:List Int) (b:Int):Int:=LW s b.toNat b
def WT (n:Int):List Int:=(List.range n.toNat).map Int.ofNat
def Es (L:List Int) (l:Ln):List Int:=L.map fun x=>if x=max (C2 L l.1) (C2 L l.2)then min (C2 L l.1) (C2 L l.2)else x
def G9 (n:Int) (ls:List Ln):List Int:=ls.foldl Es (WT n)
def cnt (L:List Int):Nat:=((List.range L.length).filter fun(b:Nat)=>decide (C2 L (b:Int)=(b:Int))).length
def FC (ls:List Ln) (g:Nat->Bool):List Ln:=((List.range ls.length).filter fun i=> !(g i)).map fun i=>ls.getD i (0,0)
def kK (n:Int) (ls:List Ln) (g:Nat->Bool):Bool:=decide (cnt (G9 n ls)<cnt (G9 n (FC ls g)))
def adj (N:List (List Ln)) (i:Int) (l:Ln):List (List Ln):=
 let N1:=N.set l.1.toNat (N.getD l.1.toNat []++ [(i,l.2)])
 N1.set l.2.toNat (N1.getD l.2.toNat []++ [(i,l.1)])
def oV (n:Int) (ls:List Ln):Nat->List Int×List Int×List (List Ln)
 |0=>(WT n,[],List.replicate n.toNat [])
 |k+1=>
  let p:=oV n ls k
  let l:=ls.getD k (0,0)
  if C2 p.1 l.1=C2 p.1 l.2 then p else(Es p.1 l,p.2.1++ [(k:Int)],adj p.2.2 k l)
def ED (n:Int) (ls:List Ln):List Int:=(oV n ls ls.length).2.1
def Sa (n:Int) (ls:List Ln):List Int:=((List.range ls.length).filter fun i=>kK n ls (fun j=>j==i)).map Int.ofNat
end Go.Proofs.YtiflhbllbgajeaaGreat
namespace Go.Proofs.YtiflhbllbgajeaaGreat
open Go.Vc Go.Gw
open Go.IntKind (i64 u64 u32)
def BH (n:Nat) (f g:Nat->Rat):C7 n (fun i=>f i-g i)=C7 n f-C7 n g:=by
 induction n with
 |zero=>rw[C7,C7,C7];decide+kernel
 |succ n a=>rw[C7,C7,C7,a];grind
def BG {n:Nat} {f:Nat->Rat} (h:∀i,i<n->0<=f i):0<=C7 n f:=by
 induction n with
 |zero=>exact g4x
 |succ n a=>
  rw[C7];exact Rat.add_nonneg (a fun i b=>h i (by omega)) (h n (by omega))
def PZ {n:Nat} {f:Nat->Rat} (h:∀i,i<n->0<=f i) (a:C7 n f=0):∀i,i<n->f i=0:=by
 induction n with
 |zero=>intro i b;omega
 |succ n g=>
  rw[C7]at a;have a:=BG (n:=n) fun i a=>h i (by omega)
  have b:=h n (by omega);have c:f n=0:=by grind
  have b:C7 n f=0:=by grind
  intro i a;by_cases d:i=n
  . subst d;exact c
  . exact g (fun i a=>h i (by omega)) b i (by omega)
def OF (fr to:Nat->Nat) (b i:Nat):Rat:=(if fr i=b then 1 else 0)-(if to i=b then 1 else 0)
def WC (m:Nat) (fr to:Nat->Nat) (f:Nat->Rat) (b:Nat):Rat:=C7 m fun i=>OF fr to b i*f i
variable {n m:Nat} {fr to:Nat->Nat}
def Nc {φ:Nat->Rat} {a:Nat} (h:a<n):C7 n (fun b=>(if a=b then 1 else 0)*φ b)=φ a:=by
 rw[L6 h fun i _ c=>by rw[qK (Ne.symm c),tK],qQ rfl,xR]
def A3s {φ:Nat->Rat} {i:Nat} (a:fr i<n) (c:to i<n):C7 n (fun b=>OF fr to b i*φ b)=φ (fr i)-φ (to i):=by
 rw[B8 (g:=fun b=>(if fr i=b then 1 else 0)*φ b-(if to i=b then 1 else 0)*φ b) fun b _=>by unfold OF;grind,BH,Nc a,Nc c]
def C3g {φ D:Nat->Rat} (h:∀i,i<m->fr i<n/\to i<n):C7 m (fun i=>D i*(φ (fr i)-φ (to i)))=C7 n (fun b=>φ b*WC m fr to D b):=by
 rw[B8 (g:=fun i=>C7 n fun b=>D i*(OF fr to b i*φ b)) fun i a=>by rw[Ni,A3s (h i a).1 (h i a).2],Mf];refine B8 fun b _=> ?_
 unfold WC;rw[<-Ni];exact B8 fun i _=>by grind
def B7v {φ D s:Nat->Rat} (h:∀i,i<m->fr i<n/\to i<n) (g:∀i,i<m->0<s i) (d:∀i,i<m->D i=s i*(φ (fr i)-φ (to i))) (c:∀b,b<n->φ b=0\/WC m fr to D b=0):∀i,i<m->φ (fr i)-φ (to i)=0:=by
 have j:C7 m (fun i=>D i*(φ (fr i)-φ (to i)))=0:=by
  rw[C3g h];exact Ad fun b k=>by rcases c b k with e|e<;>rw[e]<;>grind
 have k:∀x:Rat,0<=x*x:=fun x=>by
  rcases(Rat.le_total (a:=0) (b:=x))with h|h
  . exact yY h h
  . have c:0<= -x:=by grind
    have:=yY c c;grind
 have:=PZ (f:=fun i=>D i*(φ (fr i)-φ (to i))) (fun i c=>by
  show 0<=D i*(φ (fr i)-φ (to i));rw[d i c,vL];exact yY (g4j (g i c)) (k _)) j
 intro i c;have e:=this i c;rw[d i c,vL]at e;rcases wZ.1 e with e|e
 . have:=g i c;rw[e]at this;exact absurd this (yJ)
 . rcases wZ.1 e with e|e<;>exact e
def flw (fr to:Nat->Nat) (s h a:Nat->Rat) (i:Nat):Rat:=s i*(a (fr i)-a (to i)+h i)
def B6v (f g:Nat->Rat) (b:Nat):WC m fr to (fun i=>f i-g i) b=WC m fr to f b-WC m fr to g b:=by
 unfold WC;rw[<-BH];exact B8 fun i _=>by grind
def B6u (f g:Nat->Rat) (w:Rat) (b:Nat):WC m fr to (fun i=>f i+w*g i) b=WC m fr to f b+w*WC m fr to g b:=by
 unfold WC;rw[<-Ni, <-Ev];exact B8 fun i _=>by grind
def OK {f g:Nat->Rat} (h:∀i,i<m->f i=g i) (b:Nat):WC m fr to f b=WC m fr to g b:=B8 fun i a=>by rw[h i a]
def WX {f:Nat->Rat} {lab:Nat->Nat} (a:∀i,i<m->fr i<n/\to i<n) (c:∀i,i<m->lab (fr i)=lab (to i)) (t:Nat):C7 n (fun b=>(if lab b=t then 1 else 0)*WC m fr to f b)=0:=by
 rw[<-C3g a];exact Ad fun i a=>by rw[c i a];grind
end Go.Proofs.YtiflhbllbgajeaaGreat
