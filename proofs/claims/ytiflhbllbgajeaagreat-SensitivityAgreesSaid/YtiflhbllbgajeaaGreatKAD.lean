/- Part. -/
import Derived.Test.YtiflhbllbgajeaaGreatKAC
set_option linter.all false
namespace Go.Vc
open Go Go.RowKit Go.Gw
open Go.IntKind (i64 u64 u32)
section
variable {za:Zn} {w0 w:World} {Z:Nat->Prop} {B:Nat->Value} {st st0 st2:St} {E:G8}
def C1.setSame (h:C1 za w0 st E w Z B) (s:Nat) {x:DV} (c:RD w Z B E x (E s)) (b:Qf st.nx x):C1 za w0 (st.setS s x) E w Z B:=by
 have e:upd E s (E s)=E:=by
  funext t;by_cases a:t=s
  . subst a;exact C5 _ _ _
  . exact C6 _ _ _ _ a
 have:=h.setS s (x:=x) (v:=E s) (by rw[e];exact c) b;rwa[e]at this
def C2q {A:JM} (a:C1 za w0 st2 E w Z B) (d:B7p za.n st0) (c:∀s∈A.keepS,st2.eS s=st0.eS s) (b:∀k∈A.keepL,st2.eL k=st0.eL k) (j:st2.fr=st0.fr):Nm za w0 st2 E w Z B A.keepL (kept A st0) B:=by
 have eS:∀s,(kept A st0).S s=if s∈A.keepS then st2.S s else .dead:=fun s=>by
  show((kept A st0).eS s).2= _;rw[lD];split
  . rename_i f;rw[<-c s f];rfl
  . rfl
 have eL:∀k,(kept A st0).L k=if k∈A.keepL then st2.L k else .none:=fun k=>by
  show((kept A st0).eL k).2= _;rw[lC];split
  . rename_i c;rw[<-b k c];rfl
  . rfl
 have i:∀s,(kept A st0).S s=if s∈A.keepS then st0.S s else .dead:=fun s=>by
  show((kept A st0).eS s).2= _;rw[lD];split<;>rfl
 have g:∀k,(kept A st0).L k=if k∈A.keepL then st0.L k else .none:=fun s=>by
  show((kept A st0).eL s).2= _;rw[lC];split<;>rfl
 have f:∀k b,B8 w (B k) ((kept A st0).L k) b->k∈A.keepL/\B8 w (B k) (st2.L k) b:=fun k b c=>by
  rw[eL]at c;split at c
  . rename_i h;exact⟨h,c⟩
  . exact c.elim
 refine⟨⟨a.ext,a.zlt,fun s=> ?_,fun k=> ?_,fun k h b l o r=>a.disj k h b l (f k b o).2 (f h b r).2,fun s=> ?_,fun k=> ?_,fun k c=> ?_,a.bone,a.zin,⟨d.nms.1,qW d.nms.2 (Qz _ _)⟩,a.bfix,⟨a.mrk.1,fun k b c h=>a.mrk.2 k b c (f k b h).2⟩,(by have:=a.frs;rw[j]at this;exact this),d.frf.le (Qz _ _)⟩,fun j b h=>⟨j,(f j b h).1,(f j b h).2⟩⟩
 . rw[eS];split
   . exact a.slots s
   . trivial
 . rw[eL];split
   . exact a.locs k
   . trivial
 . rw[i];split
   . exact(d.refs s).le (Qz _ _)
   . trivial
 . rw[g];split
   . exact(d.refl k).le (Qz _ _)
   . trivial
 . rw[g];split
   . exact d.fresh k (qW (Qz _ _) c)
   . rfl
def SJ (j:C1 za w0 st2 E w Z B) {t:Ty} {e:TypeId} {c:C} {l:List t.den} {v:Value} (o:RC w Z B c v) (a:SI st2 t e c=some l):
 ∃xs,w.ownsRow w0.heap.size e t.size v l.length xs/\G7 (C7 t w Z) xs l/\(∀b,v.ownBlock=some b->¬Z b)/\((∃q,c= .row q/\live (st2.L q)/\v=B q)\/(root v=none/\∀q,c≠ .row q)):=by
 unfold SI at a;split at a
 . rename_i q;split at a
   . rename_i G A F f;split at a
     . rename_i x;subst x;obtain⟨g,a⟩:=E4 a;cases a;simp only[qC]at g;have D:=qT g.2;have u:=qE g.1;subst u;have n:=j.locs q;rw[f]at n;obtain⟨xs,r,s,k⟩:=n;have h:v=B q:=o;subst h;have z:∀b,(B q).ownBlock=some b->w0.heap.size<=b:=fun b d=>by
        rcases(k b d).1 with i|i
        . exact i.2
        . have:=j.nms.1;omega
       exact⟨xs,A4b r z,s,fun b d=>(k b d).2, .inl ⟨q,rfl,by rw[f];trivial,rfl⟩⟩
     . cases a
   . cases a
 . obtain⟨y,a⟩:=E4 a;cases a;have h:v= .slice none 0 0:=by rw[o.1];exact Wx y
   subst h;exact⟨[],World.ownsRow_nil _ _ _ _,rfl,fun b d=>(by cases d), .inr ⟨rfl,fun q f=>(by cases f)⟩⟩
 . cases a
def B9l {t:Ty} {v:Value} {x:t.den} (h:C7 t w Z [v] x):RC w Z B (C3w t x) v:=by
 cases t with
 |ptr t=>
  obtain⟨b,o,a,e,r⟩:=h;simp only[sJ,vM]at e;exact⟨b,o,a,by rw[e];rfl,r⟩
 | _=>exact h
def B5o {n:Nat} {t:Ty} {x:t.den} :Dj n (C3w t x):=by cases t<;>trivial
def DD (n:za.b0=0) (i:C1 za w0 st2 E w Z B):∀ {shs:List Ym} {T:Type} {tl:T} {cs:List C} {vs:List Value} {p:shD shs T} {st:St} {BX:Nat->Value} {d:List Nat},Nm za w0 st2 E w Z B d st BX->Ev w Z B cs vs->Dw st2 shs tl cs=some p->(∀q∈Aw shs cs,q∉d)->(Aw shs cs).Nodup->(∀c∈shs,∀k,c.pin=some k->k<st.nx/\BX k=B k)->
 ∃BX',Nm za w0 st2 E w Z B (Aw shs cs++d) (placeSh shs p st).2.1 BX'/\Ev w Z BX' (placeSh shs p st).1 vs/\(∀c∈(placeSh shs p st).1,Dj (placeSh shs p st).2.1.nx c)/\(∀k,k<st.nx->BX' k=BX k)/\st.nx<=(placeSh shs p st).2.1.nx/\(placeSh shs p st).2.2=tl
 | [],_,tl,[],vs,p,st,BX,d,c,b,a,_,_,_=>by
  simp only[Dw,rG]at a;exact⟨BX,c,b,by simp[placeSh],fun _ _=>rfl,qZ _,a.symm⟩
 | [],_,_,_:: _,_,_,_,_,_,_,_,a,_,_,_=>by cases a
 | .val t::r,_,_,[],_,_,_,_,_,_,_,a,_,_,_=>by cases a
 | .own t e::r,_,_,[],_,_,_,_,_,_,_,a,_,_,_=>by cases a
 | .fix k::r,_,_,[],_,_,_,_,_,_,_,a,_,_,_=>by cases a
 | .fixB k::r,_,_,[],_,_,_,_,_,_,_,a,_,_,_=>by cases a
 | .fix k::u,T,tl,b::cs,vs,p,st,BX,d,c,⟨v,I,e,G,H⟩,a,t,s,o=>by
  simp only[Dw]at a;obtain⟨r,a⟩:=E4 a;have D:Aw (.fix k::u) (b::cs)=Aw u cs:=by cases b<;>rfl
  rw[D]at t s⊢;obtain⟨BX',x,y,z,h,l,A⟩:=DD n i c H a t s (fun j F=>o j (qM _ F));subst e;have f:=o _ rB k rfl;cases b with
  |row j=>
   have:=qE r;subst this;refine⟨BX',x,⟨v,I,rfl, ?_,y⟩,fun q g=> ?_,h,l,A⟩
   . show v=BX' j;rw[h j f.1,f.2];exact G
   . rcases qI.1 g with rfl|g
     . exact rF f.1 l
     . exact z q g
  | _=>cases r
 | .fixB k::x,T,tl,b::cs,vs,p,st,BX,d,c,⟨v,O,e,M,N⟩,a,t,s,r=>by
  simp only[Dw]at a;obtain⟨f,a⟩:=E4 a;have H:Aw (.fixB k::x) (b::cs)=Aw x cs:=by cases b<;>rfl
  rw[H]at t s⊢;obtain⟨BX',z,A,D,l,o,F⟩:=DD n i c N a t s (fun j I=>r j (qM _ I));subst e;have g:=r _ rB k rfl;cases b with
  |box j u=>
   cases u with
   |succ u=>cases f
   |zero=>
   have:=qE f;subst this;refine⟨BX',z,⟨v,O,rfl, ?_,A⟩,fun q h=> ?_,l,o,F⟩
   . obtain⟨y,G,J⟩:=M;exact⟨y,by rw[l j g.1,g.2];exact G,J⟩
   . rcases qI.1 h with rfl|h
     . exact rF g.1 o
     . exact D q h
  | _=>cases f
 | .val I::r,T,tl,b::cs,vs,p,st,BX,d,c,⟨v,J,e,A,D⟩,g,h,f,x=>by
  simp only[Dw,bind_some,qN]at g;obtain⟨M,F,N,G,rfl⟩:=g;have y:Aw (.val I::r) (b::cs)=Aw r cs:=by cases b<;>rfl
  rw[y]at h f⊢;obtain⟨BX',j,l,o,s,t,u⟩:=DD n i c D G h f (fun H z=>x H (qM _ z));subst e;refine⟨BX',j,⟨v,J,rfl,B9l (jQ A F),l⟩,fun q a=> ?_,s,t,u⟩;rcases qI.1 a with rfl|a
  . exact B5o
  . exact o q a
 | .own t h::r,T,tl,D::cs,vs,p,st,BX,d,c,⟨v,ai,e,aa,ac⟩,U,s,y,a4=>by
  simp only[Dw,bind_some,qN]at U;obtain⟨M,a6,am,ad,rfl⟩:=U;subst e;obtain⟨aj,A,af,ag,ah⟩:=SJ i aa a6;have ab:v.oneCell'=true:=by rcases A.2 with⟨V,_⟩ | ⟨_,_,_,V,_⟩<;>rw[V]<;>rfl
  have ak:=F9 A;have ae:∃g,Nm za w0 st2 E w Z B g (st.newL (.row t h M)) (upd BX st.nx v)/\(∀q∈Aw r cs,q∉g)/\(Aw r cs).Nodup/\(∀q,q∈Aw (.own t h::r) (D::cs)++d↔q∈Aw r cs++g):=by
   have mk:∀g,(∀q∈d,q∈g)->(∀b,root v=some b->∃q,q∈g/\B8 w (B q) (st2.L q) b)->(∀k b,root v=some b->¬B8 w (BX k) (st.L k) b)->Nm za w0 st2 E w Z B g (st.newL (.row t h M)) (upd BX st.nx v):=by
    intro g a8 o a3;refine⟨c.rel.new (v:=v) (lc:= .row t h M) ⟨aj,by rw[C5];exact CZ A (rM _),af,fun b a=>by rw[C5]at a;exact⟨.inl ⟨c.rel.nms.2,(World.ownsRow.lt A b a).1⟩,ag b a⟩⟩ a3 trivial ab (fun b _ _=>by rw[n];exact rM _),fun l b f=> ?_⟩;rw[St.L_newL]at f;by_cases I:l=st.nx
    . subst I;rw[C5,qP rfl]at f;exact o b f
    . rw[qL I,C6 _ _ _ _ I]at f;obtain⟨q,F,G⟩:=c.own l b f;exact⟨q,a8 q F,G⟩
   rcases ah with⟨q,rfl,Q,W⟩ | ⟨R,a7⟩
   . have H:Aw (.own t h::r) (.row q::cs)=q::Aw r cs:=rfl;rw[H]at s y⊢;have z:=sG.1 y;refine⟨q::d,mk _ (fun x j=>qM _ j) (fun b a=>⟨q,by simp,B8.of Q (by rw[<-W];exact a)⟩) (fun k b a=> ?_),fun x j=> ?_,z.2,fun x=>by grind⟩
     . rw[W]at a;exact c.disj i (s q (by simp)) k b (B8.of Q a)
     . intro J;rcases qI.1 J with rfl|J
       . exact z.1 j
       . exact s x (qM _ j) J
   . have H:Aw (.own t h::r) (D::cs)=Aw r cs:=by cases D<;>first|rfl|exact absurd rfl (a7 _)
     rw[H]at s y⊢;exact⟨d,mk _ (fun x j=>j) (fun b a=>by rw[R]at a;cases a) (fun k b a=>by rw[R]at a;cases a),s,y,fun x=>yH⟩
  obtain⟨g,X,a9,z,a5⟩:=ae;obtain⟨BX',N,Y,a0,O,P,a1⟩:=DD n i X ac ad a9 z (fun l f k u=>by
   obtain⟨a,b⟩:=a4 l (qM _ f) k u;exact⟨vP a,(C6 _ _ _ _ (tS a)).trans b⟩)
  have a2:BX' st.nx=v:=by rw[O st.nx (rW _),C5]
  refine⟨BX',⟨N.rel,fun l b f=> ?_⟩,⟨v,ai,rfl,a2.symm,Y⟩,fun q o=> ?_,fun k u=> ?_,qW (uS _) P,a1⟩
  . obtain⟨q,F,G⟩:=N.own l b f;exact⟨q,(a5 q).2 F,G⟩
  . rcases qI.1 o with rfl|o
    . exact rF (rW _) P
    . exact a0 q o
  . rw[O k (vP u),C6 _ _ _ _ (tS u)]
end
section
variable {za:Zn} {w0 w:World} {Z:Nat->Prop} {B:Nat->Value} {st st0 st2:St} {E:G8}
def XD (E:G8):List (Nat×Bool×List Ym)->List Value->List Value->Prop
 | [],b,a=>b=a
 | (s,b,shs)::l,f,d=>∃a c,f=a++c/\a.length=shs.length/\(b=true->E s= .agg a.toArray)/\(b=false->a= [E s])/\XD E l c d
def jH (za:Zn) (w0:World) (w:World) (Z:Nat->Prop) (B:Nat->Value) (st2:St):List (Nat×TypeId×List Ym)->List Value->Prop
 | [],a=>a= []
 | (k,T,shs)::l,d=>∃a c,d=a++c/\a.length=shs.length/\live (st2.L k)/\(∃b,B k= .pointer (some ⟨b,0,none⟩)/\up za w0 k b/\¬Z b/\PV w b a.toArray T)/\jH za w0 w Z B st2 l c
def fP (f:C1 za w0 st2 E w Z B):∀ {l:List (Nat×Bool×List Ym)} {r cs:List C} {b:List Value},Ev w Z B r b->kG st2 l r=some cs->∃vs,Ev w Z B cs vs/\XD E l vs b
 | [],r,cs,b,a,h=>by cases h;exact⟨b,a,rfl⟩
 | (s,z,shs)::l,r,cs,b,x,h=>by
  simp only[kG]at h;split at h
  . rename_i n o y;obtain⟨c,h⟩:=E4 h;simp only[qN]at h;obtain⟨A,t,rfl⟩:=h;simp only[qC,g1b]at c;obtain⟨u,c⟩:=c;subst u;have j:=qE c;obtain⟨d,g,i⟩:=fP f x t;have a:=f.slots s;rw[y]at a;cases n with
    |true=>
     obtain⟨k,e,a⟩:=a;exact⟨k++d,a.append g,k,d,rfl,by rw[<-j,a.len],fun _=>e,fun v=>(by cases v),i⟩
    |false=>
     have a:Ev w Z B o [E s]:=a;exact⟨[E s]++d,a.append g,[E s],d,rfl,by rw[<-j,a.len],fun k=>(by cases k),fun _=>rfl,i⟩
  . cases h
def fO (b:C1 za w0 st2 E w Z B):∀ {l:List (Nat×TypeId×List Ym)} {cs:List C},kF st2 l=some cs->∃vs,Ev w Z B cs vs/\jH za w0 w Z B st2 l vs
 | [],cs,h=>by cases h;exact⟨[],rfl,rfl⟩
 | (v,T,shs)::l,cs,h=>by
  simp only[kF]at h;split at h
  . rename_i T' x f;obtain⟨a,h⟩:=E4 h;simp only[qN]at h;obtain⟨y,j,rfl⟩:=h;simp only[qC]at a;have t:=qE a.1;subst t;have u:=qE a.2;obtain⟨g,k,n⟩:=fO b j;have d:=b.locs v;rw[f]at d;obtain⟨i,vs,e,o,r,s,c⟩:=d;exact⟨vs.toList++g,c.append k,vs.toList,g,rfl,by rw[<-u,c.len],by rw[f];trivial,⟨i,e,o,r,by simpa using s⟩,n⟩
  . cases h
def gY {k:Nat} {t:Ty} {e e':TypeId} {x:List t.den×List Nat} (a:A3n st2 t e e' k=some x):st2.L k= .nest t e e' x.1 [] x.2:=by
 unfold A3n at a;split at a
 . rename_i j f g i h d;split at a
   . rename_i c;subst c;obtain⟨b,a⟩:=E4 a;cases a;simp only[qC]at b;rw[d,qE b.1,qE b.2]
   . cases a
 . cases a
def ZF {k q:Nat} {c f:Bool} {d g:Ty} {x:(LT.itM c d f g q).den} (a:A3j st2 k (.itM c d f g q)=some x):∃cur,st2.L k= .itM c d f g x.1 x.2 cur q/\q<k:=by
 simp only[A3j]at a;split at a
 . rename_i l n r s j left cur o i;obtain⟨b,a⟩:=E4 a;simp only[qC]at b;split at a
   . rename_i h;cases h;cases a;have:=qE b.1;subst this;exact⟨cur,i,qT b.2⟩
   . cases a
 . cases a
def gO {k q:Nat} {t:LT} {x:t.den} (b:A3j st2 k t=some x) (a:t.need=some q):q<k:=by
 cases t with
 |itM c d g h f=>cases a;exact(ZF b).choose_spec.2
 | _=>cases a
def NO (b:C1 za w0 st2 E w Z B) {k:Nat} {t:LT} {x:t.den} (a:A3j st2 k t=some x):live (st2.L k)/\RL (up za w0 k) w Z B k (t.lc x)/\t.wf x:=by
 cases t with
 |row t e=>
  have d:=Oo a;have c:=b.locs k;rw[d]at c;refine⟨by rw[d];trivial,c, ?_⟩;obtain⟨h,f,g,_⟩:=c;exact C7.wf (Df (Z:=fun _=>True) f (g.mono fun _ _=>C7.mono (fun _ _=>trivial) (fun _ _=>rfl)) (fun _ _=>trivial))
 |map n o r s=>
  have d:=WP a;have c:=b.locs k;rw[d]at c;refine⟨by rw[d];trivial,c, ?_⟩;obtain⟨i,l,j,e,_,_,f,h,g⟩:=c;exact C7.wf (lH (Z:=fun _=>True) f h (g.mono (fun _ _=>trivial) (fun _ _=>rfl)) trivial)
 |rows t e o=>
  obtain⟨al,d⟩:=Jv a;have f:=b.locs k;have c:=f;rw[d]at c;have c:=c.rowsR;refine⟨by rw[d];trivial,c.rl fun j l=> ?_,c.wf⟩;have n:B8 w (B k) (st2.L k) j:=by rw[d];exact(Aq fun _ _=>rfl).1 l
  obtain⟨g,h,i⟩:=f.root n;exact⟨g,i,h⟩
 |iter J N P R=>
  simp only[A3j]at a;cases d:st2.L k with
  |iter M O Q T I H=>
   rw[d]at a;simp only at a;split at a
   . rename_i D;cases D;cases a;have l:=b.locs k;rw[d]at l;obtain⟨G,e,z,A,j⟩:=l;refine⟨trivial,⟨G,e,z,A,j.imp (fun h=>⟨h.1,h.2.1,rfl⟩) fun⟨m,seen,i,g,n,o,r,s,f,F⟩=>⟨m,seen,i,g,n,o,r,s,f,fun x c=>by cases c⟩⟩, ?_⟩;rcases j with⟨_,h,_⟩ | ⟨m,seen,i,g,n,o,r,s,f,F⟩
     . rw[h];intro x c;cases c
     . intro x c;obtain⟨m,_,u,v⟩:=T7.mem f c;exact⟨V5.wf' (fun _ _=>C7.wf) u,V5.wf' (fun _ _=>C7.wf) v⟩
   . cases a
  | _=>rw[d]at a;cases a
 |nest t e h=>
  have d:=gY a;have c:=b.locs k;rw[d]at c;refine⟨by rw[d];trivial,c, ?_⟩;obtain⟨l,g,_⟩:=c;rcases g.own.2 with⟨_,j⟩ | ⟨_,_,_,_,_,_,i,f,_⟩
  . show x.1.length<= _;omega
  . show x.1.length<= _;simp only[maxLen]at f;omega
 |itM D F G H q=>
  obtain⟨A,f,_⟩:=ZF a;have d:=b.locs k;rw[f]at d;obtain⟨z,m,seen,j,g,h,i,c,o,r,s,u⟩:=d;refine⟨by rw[f];trivial,⟨z,m,seen,j,g,h,i,⟨c.it,c.mp,c.ok,c.all,c.rest,fun x v=>(by cases v)⟩,o,r,s,u⟩,fun y hy=> ?_⟩;obtain⟨m,_,l,n⟩:=T7.mem c.rest hy;exact⟨V5.wf' (fun _ _=>C7.wf) l,V5.wf' (fun _ _=>C7.wf) n⟩
def RL.setB {U:Nat->Prop} {B':Nat->Value} {k:Nat} {t:LT} {x:t.den} (h:RL U w Z B k (t.lc x)) (e:B' k=B k) (d:∀q,t.need=some q->B' q=B q):RL U w Z B' k (t.lc x):=by
 cases t with
 |nest t g i=>
  obtain⟨f,a,b⟩:=h;exact⟨f,⟨by rw[e];exact a.own,fun p c=>(by cases c),a.elt,a.dis,by rw[e];exact a.top⟩,by rw[e];exact b⟩
 |itM i j l n q=>
  obtain⟨r,m,seen,f,a,b,c,g⟩:=h;exact⟨r,m,seen,f,a,e.trans b,(d q rfl).trans c,g⟩
 |row t g=>obtain⟨f,a,b,c⟩:=h;exact⟨f,by rw[e];exact a,b,by rw[e];exact c⟩
 |map g i j l=>obtain⟨b,f,c,a,r⟩:=h;exact⟨b,f,c,e.trans a,r⟩
 |iter c f g i=>obtain⟨r,a,b⟩:=h;exact⟨r,e.trans a,b⟩
 |rows t l n=>
  obtain⟨j,a,⟨o,b,c⟩,f,g⟩:=h;exact⟨j,by rw[e];exact a,⟨fun p i=>(by cases i),b,c⟩,by rw[e];exact f,by rw[e];exact g⟩
def B8x (c:C1 za w0 st2 E w Z B) {k b:Nat} {t:LT} {x:t.den} (a:A3j st2 k t=some x) (h:B8 w (B k) (t.lc x) b):B8 w (B k) (st2.L k) b:=by
 cases t with
 |row t e=>exact B8.of (NO c a).1 h
 |map d f g i=>exact B8.of (NO c a).1 h
 |iter d f g i=>exact B8.of (NO c a).1 h
 |rows t e f=>
  obtain⟨al,d⟩:=Jv a;rw[d];exact(Aq fun _ _=>rfl).1 h
 |nest t e d=>rw[gY a];exact h
 |itM g i j l q=>obtain⟨f,d,_⟩:=ZF a;rw[d];exact h
def aU (d:C1 za w0 st2 E w Z B) {BX:Nat->Value} {n0:Nat} (s:∀k,k<n0->BX k=B k):∀ {l:List (Nat×LT)} {x:A0o l} {st:St} {c:List Nat},Nm za w0 st2 E w Z B c st BX->n0<=st.nx->A9w st2 l=some x->(∀y∈l,y.1<n0)->(∀y∈l,y.1∉c)->(l.map fun y=>y.1).Nodup->
 Nm za w0 st2 E w Z B ((l.map fun y=>y.1)++c) (putRows l x st) BX/\(putRows l x st).nx=st.nx
 | [],_,st,c,a,_,_,_,_,_=>⟨a,rfl⟩
 | (k,t)::Q,x,st,c,o,H,n,G,I,v=>by
  simp only[A9w,bind_some,qN]at n;obtain⟨l,i,R,O,rfl⟩:=n;have h:=G (k,t) (by simp);have F:=I (k,t) (by simp);simp only at h F;obtain⟨P,J,_⟩:=NO d i;have D:BX k=B k:=s k h;simp only[rZ,sG]at v;have u:∀b,B8 w (BX k) (t.lc l) b->B8 w (B k) (st2.L k) b:=fun b f=>B8x d i (by rw[<-D];exact f)
  have c1:Nm za w0 st2 E w Z B (k::c) (st.setL k (t.lc l)) BX:=by
   refine⟨o.rel.addL (by omega) (J.setB D fun q N=>s q (Nat.lt_trans (gO i N) h)) (fun j b _ f a=> ?_) (by cases t<;>first|trivial|exact fun p n=>(by cases n) |exact rF (Nat.lt_trans (gO i rfl) h) H) (fun b hk f=>d.mrk.2 k b hk (u b f)),fun j b a=> ?_⟩
   . exact o.disj d F j b (u b f) a
   . rw[St.L_setL]at a;by_cases g:j=k
     . subst g;rw[qP rfl]at a;exact⟨j,by simp,u b a⟩
     . rw[qL g]at a;obtain⟨q,A,r⟩:=o.own j b a;exact⟨q,qM _ A,r⟩
  obtain⟨z,M⟩:=aU d s c1 H O (fun y hy=>G y (qM _ hy)) (fun y hy=>by
   intro g;rcases qI.1 g with g|g
   . exact v.1 (g▸vB hy)
   . exact I y (qM _ hy) g) v.2
  refine⟨⟨z.rel,fun j b a=> ?_⟩,M⟩;obtain⟨q,A,r⟩:=z.own j b a;refine⟨q, ?_,r⟩;simp only[rZ];grind
def A6z {BX:Nat->Value} :∀ {l:List (Nat×Bool×List Ym)} {cs:List C} {vs d:List Value} {st:St} {b:List Nat},Nm za w0 st2 E w Z B b st BX->Ev w Z BX cs vs->XD E l vs d->(∀c∈cs,Dj st.nx c)->
 Nm za w0 st2 E w Z B b (putS l cs st).2 BX/\Ev w Z BX (putS l cs st).1 d/\(∀c∈(putS l cs st).1,Dj st.nx c)/\(putS l cs st).2.nx=st.nx
 | [],cs,vs,d,st,b,c,a,g,f=>by rw[show vs=d from g]at a;exact⟨c,a,f,rfl⟩
 | (s,f,shs)::l,cs,vs,d,st,b,c,j,⟨t,u,e,h,n,o,r⟩,i=>by
  subst e;have a:=j.take shs.length;have g:=j.drop shs.length;rw[<-h,g2v]at a;rw[<-h,g2t]at g;rw[h]at a g;have k:RS w Z BX ⟨f,cs.take shs.length⟩ (E s):=by
   cases f with
   |true=>exact⟨t,n rfl,a⟩
   |false=>rw[o rfl]at a;exact a
  have c1:Nm za w0 st2 E w Z B b (st.setS s (.one ⟨f,cs.take shs.length⟩)) BX:=⟨c.rel.setSame s k (fun x hx=>i x (rS hx)),c.own⟩;have:=A6z (l:=l) (cs:=cs.drop shs.length) c1 g r (fun x hx=>i x (vF hx));exact this
def A6y (g:C1 za w0 st2 E w Z B) {BX:Nat->Value} {n0:Nat} (s:∀k,k<n0->BX k=B k):∀ {l:List (Nat×TypeId×List Ym)} {cs:List C} {vs:List Value} {st:St} {f:List Nat},Nm za w0 st2 E w Z B f st BX->n0<=st.nx->Ev w Z BX cs vs->jH za w0 w Z B st2 l vs->(∀c∈cs,Dj st.nx c)->(∀y∈l,y.1<n0)->(∀y∈l,y.1∉f)->(l.map fun y=>y.1).Nodup->
 C1 za w0 (putB l cs st) E w Z BX
 | [],_,_,st,f,c,_,_,_,_,_,_,_=>c.rel
 | (k,T,shs)::l,cs,vs,st,f,c,Q,F,⟨W,X,e,i,P,⟨H,I,M,R,N⟩,U⟩,u,D,G,n=>by
  subst e;have b:=F.take shs.length;have d:=F.drop shs.length;rw[<-i,g2v]at b;rw[<-i,g2t]at d;rw[i]at b d;have z:=D (k,T,shs) (by simp);have A:=G (k,T,shs) (by simp);simp only at z A;have t:BX k=B k:=s k z;simp only[rZ,sG]at n;have h:∀q,B8 w (BX k) (.box T (cs.take shs.length)) q->B8 w (B k) (st2.L k) q:=fun q o=>B8.of P (by rw[<-t];exact o)
  have c1:Nm za w0 st2 E w Z B (k::f) (st.setL k (.box T (cs.take shs.length))) BX:=by
   refine⟨c.rel.addL (by omega) ⟨H,W.toArray,t.trans I,M,R,N,by simpa using b⟩ (fun j q _ o a=> ?_) (fun x r=>u x (rS r)) (fun q O J=>g.mrk.2 k q O (h q J)),fun j q a=> ?_⟩
   . exact c.disj g A j q (h q o) a
   . rw[St.L_setL]at a;by_cases v:j=k
     . subst v;rw[qP rfl]at a;exact⟨j,by simp,h q a⟩
     . rw[qL v]at a;obtain⟨V,b,d⟩:=c.own j q a;exact⟨V,qM _ b,d⟩
  have:=A6y (l:=l) (cs:=cs.drop shs.length) g s c1 Q d U (fun x r=>u x (vF r)) (fun y hy=>D y (qM _ hy)) (fun y hy=>by
   intro a;rcases qI.1 a with a|a
   . exact n.1 (a▸vB hy)
   . exact G y (qM _ hy) a) n.2
  exact this
def Uk (a:C1 za w0 st2 E w Z B):∀ {shs:List Ym} {T:Type} {tl:T} {q:T->Prop} {cs:List C} {vs:List Value} {p:shD shs T},q tl->Ev w Z B cs vs->Dw st2 shs tl cs=some p->shW shs q p
 | [],_,tl,q,[],vs,p,c,_,b=>by simp only[Dw,rG]at b;subst b;exact c
 | [],_,_,_,_:: _,_,_,_,_,b=>by cases b
 | .val t::r,_,_,_,[],_,_,_,_,b=>by cases b
 | .own t e::r,_,_,_,[],_,_,_,_,b=>by cases b
 | .fix k::r,_,_,_,[],_,_,_,_,b=>by cases b
 | .fixB k::r,_,_,_,[],_,_,_,_,b=>by cases b
 | .fixB k::r,_,tl,q,f::cs,vs,p,d,⟨v,h,_,g,c⟩,b=>by
  simp only[Dw]at b;exact Uk (shs:=r) a d c (E4 b).2
 | .fix k::r,_,tl,q,f::cs,vs,p,d,⟨v,h,_,g,c⟩,b=>by
  simp only[Dw]at b;exact Uk (shs:=r) a d c (E4 b).2
 | .val t::r,_,tl,q,i::cs,vs,p,f,⟨v,j,e,c,d⟩,b=>by
  simp only[Dw,bind_some,qN]at b;obtain⟨y,g,z,h,rfl⟩:=b;exact⟨C7.wf (jQ c g),Uk a f d h⟩
 | .own t e::r,_,tl,q,k::cs,vs,p,g,⟨v,n,_,c,d⟩,b=>by
  simp only[Dw,bind_some,qN]at b;obtain⟨l,f,z,h,rfl⟩:=b;obtain⟨o,i,j,_⟩:=SJ a c f;exact⟨C7.wf (Df (Z:=fun _=>True) i (j.mono fun _ _=>C7.mono (fun _ _=>trivial) (fun _ _=>rfl)) (fun _ _=>trivial)),Uk a g d h⟩
def A7h (a:C1 za w0 st2 E w Z B):∀ {l:List (Nat×LT)} {x:A0o l},A9w st2 l=some x->C4d l x
 | [],_,_=>trivial
 | (k,t)::r,x,b=>by
  simp only[A9w,bind_some,qN]at b;obtain⟨l,c,z,d,rfl⟩:=b;exact⟨(NO a c).2.2,A7h a d⟩
def A5z {A:JM} {p:A.den} {o:St} (F:za.b0=0) (h:C1 za w0 st E w Z B) (g:gath A st=some (o,p)) (ab:B7p za.n st0) (a0:∀s∈A.keepS,o.eS s=st0.eS s) (X:∀k∈A.keepL,o.eL k=st0.eL k) (Y:∀y∈A.rowL,y.1<st0.nx) (W:o.fr=st0.fr):
 A.wf p/\∃Z' B',C1 za w0 (reflect A st0 p) E w Z' B':=by
 simp only[gath,qK,bind_some]at g;obtain⟨u,_,cs,j,ag,I,af,G,g⟩:=g;obtain⟨f,g⟩:=E4 g;cases g;simp only[qC,tP]at f;obtain⟨f,a5⟩:=f;obtain⟨Z0,V⟩:=h.plugL F (l:=A.rowL);obtain⟨Z1,d⟩:=C1.settleSh (shs:=A.shs) (cs:=u) V;generalize settleSh (plugL A.rowL st) A.shs u=st2 at*;have f:=He f;simp only[JM.cells,bind_some]at j;obtain⟨ac,a4,j⟩:=j;obtain⟨ah,a2,a3⟩:=fO d a4;obtain⟨ai,H,a6⟩:=fP d a2 j;refine⟨Uk d (A7h d I) H G, ?_⟩;have O:=C2q d ab a0 X W;have D:∀y∈A.rowL,y.1<B0n A.boxL st0.nx:=fun y b=>rF (Y y b) (Qz _ _)
 rw[sX]at f;obtain⟨ae,J,r⟩:=f;rw[sX]at J;obtain⟨a7,M,N⟩:=J;rw[sX]at M;obtain⟨a8,a9,aa⟩:=M;obtain⟨BX,P,Q,R,T,v,U⟩:=DD F d O H G (fun q hq hk=>r q hk q (by simp[hq]) rfl) a7 (fun c hc k hk=>by
  have:=a5 _ hc;cases c with
  |fix ad=>
   cases hk;simp only[B3k,xT]at this;obtain⟨y,b,a1⟩:=this;have:=qE a1;subst this;exact⟨D y b,rfl⟩
  |fixB ad=>
   cases hk;simp only[B3k,xT]at this;obtain⟨y,b,a1⟩:=this;have:=qE a1;subst this;exact⟨bQ y b,rfl⟩
  | _=>cases hk)
 have z:∀k,k<B0n A.boxL st0.nx->BX k=B k:=T;have t:=aU d z (x:=(placeSh A.shs p (kept A st0)).2.2) P v (by rw[U];exact I) D (fun y b a=>by
  rcases rA.1 a with a|a
  . exact N y.1 a y.1 (by simp only[rA,sQ];exact .inl ⟨y,b,rfl⟩) rfl
  . exact r y.1 a y.1 (by simp only[rA,sQ];exact .inr (.inl ⟨y,b,rfl⟩)) rfl) a8
 have i:=A6z (l:=A.modS) t.1 Q a6 (by rw[t.2];exact R);refine⟨Z1,BX, ?_⟩;exact A6y d z i.1 (by rw[i.2.2.2,t.2];exact v) i.2.1 a3 (by rw[i.2.2.2];exact i.2.2.1) (fun y b=>bQ y b) (fun y b a=>by
  rcases rA.1 a with a|a
  . exact aa y.1 a y.1 (vB b) rfl
  . rcases rA.1 a with a|a
    . exact N y.1 a y.1 (by simp only[rA,sQ];exact .inr ⟨y,b,rfl⟩) rfl
    . exact r y.1 a y.1 (by simp only[rA,sQ];exact .inr (.inr ⟨y,b,rfl⟩)) rfl) a9
end
def addA (a:St) (d:Tmp) (lc:LC) (mk:Nat->C):St:=(a.newL lc).setS d (one1 (mk a.nx))
def PZ (cx:Cx) (a:St) (d:Tmp):Op->Option (Option Prop×LC×(Nat->C))
 | .alloc T=>do
  let ti<-cx.ti T
  some (none, .box T (Ly ti.ty),fun k=> .box k 0)
 | .makeSlice T c b=>do
  let ti<-cx.ti T
  let t<-slT ti.ty
  let l<-kW a c
  let c<-kW a b
  bif ti.nest.any (Nat.beq d)then do
   let a<-cx.ti ti.elem
   bif OD t then some (some (0<=l/\l<=c/\(ti.bytes:Int)*c<=281474976710656/\c<=9223372036854775807), .nest t ti.elem a.elem (List.replicate l.toNat t.dflt) [] (Sd t l.toNat), .row)else none
  else bif !ti.rows&&Tu t then some (some (0<=l/\l<=c/\(ti.bytes:Int)*c<=281474976710656/\c<=9223372036854775807), .row t ti.elem (List.replicate l.toNat t.dflt), .row)else none
 | _=>none
def B1r (lc:LC) (mk:Nat->C) (X:Obj) (f:Nat->Value):Prop:=
 ∀(d:Zn) (c w:World) (a:St) (E:G8) (Z:Nat->Prop) (B:Nat->Value) (h b:Nat),C1 d c a E w Z B->w.heap[b]? =some X->c.heap.size<=b->¬Z b->(∀k,¬B8 w (B k) (a.L k) b)->d.b0<=b->
  C1 d c (addA a h lc mk) (upd E h (f b)) w Z (upd B a.nx (f b))/\∀g,B8 w (f b) lc g->g=b
section
variable {za:Zn} {w0 w w':World} {st:St} {E:G8} {Z:Nat->Prop} {B:Nat->Value} {cx:Cx} {d:Tmp} {φ:Option Prop}
def C4.addA (st:St) (d:Tmp) (lc:LC) (mk:Nat->C):C4 st (addA st d lc mk):=(C4.newL _ _).trans (C4.setS _ _ _)
def B5t {a b e sz n c:Nat} {cs:Array Value} (h:w.heap[b]? =some (.cells cs e (0,0))) (g:a<=b) (d:cs.size=c*sz) (f:n<=c) (i:c<=maxLen):w.ownsRow a e sz (.slice (some ⟨b,0,none⟩) n c) n (cs.toList.take (n*sz)):=by
 refine⟨?_, .inr ⟨b,c,cs,rfl,g,h,f,i,d,rfl⟩⟩;rw[qU,sR,d];exact sW (rJ _ f)
def A7u {op:Op} {lc:LC} {mk:Nat->C} (h:C1 za w0 st E w Z B) (U:I1 cx.P cx.tys=true) (a:PZ cx st d op=some (φ,lc,mk)) (Y:TR φ):
 ∃(X:Obj) (f:Nat->Value),(∀ty w',Gw.F1 cx.P E ty op w' (f w'.heap.size) (w'.alloc X))/\B1r lc mk X f:=by
 unfold PZ at a;split at a
 . simp only[qK,bind_some]at a;obtain⟨ti,I,a⟩:=a;cases a;obtain⟨z,J,k⟩:=Hi (P9 (C2 U I)).2.2;rename_i T;refine⟨.cells z.cells T,fun b=> .pointer (some ⟨b,0,none⟩),fun ty w'=>A7p J,fun za w0 w st E Z B d b h i o A y s=> ?_⟩;have F:=Dr (w:=w) (Z:=Z) (B:=B) (n:=st.nx) (Eu ti.ty);have G:∀c,B8 w (.pointer (some ⟨b,0,none⟩)) (.box T (Ly ti.ty)) c->c=b:=fun c g=>by
    simp only[B8,root,rG]at g;exact g.symm
   have a7:=h.new (v:= .pointer (some ⟨b,0,none⟩)) (lc:= .box T (Ly ti.ty)) ⟨b,z.cells,C5 _ _ _, .inl ⟨h.nms.2,o⟩,A,i,
    Ev.mono (n:=st.nx) (fun _=>id) (fun _ _=>rfl) (fun a0 aa=>C6 _ _ _ _ (tS aa)) F.2 (by rw[k];exact F.1)⟩
    (fun a0 c g u=>y a0 (G c g▸u)) (fun c g=>(F.2 c g).le (uS _)) rfl (fun c _ g=>by rw[G c g];exact s)
   refine⟨a7.setS d (x:=one1 (.box st.nx 0)) ⟨_,[],rfl,⟨b,C5 _ _ _,rfl⟩,rfl⟩ (fun c g=> ?_),G⟩;simp at g;subst g;exact rW _
 . rename_i T ai a4;simp only[qK,bind_some]at a;obtain⟨ti,I,t,H,l,ab,c,g,a⟩:=a;have H:=Kx H;have a1:∀ {φ':Option Prop},TR (some (0<=l/\l<=c/\(ti.bytes:Int)*c<=281474976710656/\c<=9223372036854775807))->∃z:Value,z.cells.toList=Eu t/\z.cells.size=t.size/\l.toNat<=c.toNat/\c.toNat<=maxLen/\∀ty w',Gw.F1 cx.P E ty (.makeSlice T ai a4) w' (.slice (some ⟨w'.heap.size,0,none⟩) l.toNat c.toNat) (w'.alloc (.cells (madeCells z.cells (c.toNat*t.size)) ti.elem)):=by
    intro _ ⟨D,M,N,O⟩;obtain⟨a5,z,a2,Q,J,W,k,a3,i,a9⟩:=Mt (C2 U I) H;obtain⟨a6,j,_⟩:=h.int (G4 E) ab;obtain⟨a8,r,_⟩:=h.int (G4 E) g;refine⟨z,k,a3,by omega,by simp only[maxLen];omega,fun ty w'=> ?_⟩;have V:=run_make (P:=cx.P) w' T ti.elem a5 z a2 Q J a6 a8 l c D M (by rw[i];exact N) O;rw[<-W];exact fun _ _ _ _=>by simp[execOp,j,r,V]
   cases R:ti.nest.any (Nat.beq d)with
   |true=>
    simp only[R,qV,qK,bind_some]at a;obtain⟨aj,_,a⟩:=a;cases D:OD t with
    |false=>simp only[D,rI]at a;cases a
    |true=>
     simp only[D,qV]at a;cases a;obtain⟨z,k,ah,ac,ad,W⟩:=a1 (φ':=none) Y;obtain⟨ag,N,V⟩:=iI D;rw[ag]at ah W;refine⟨_,fun b=> .slice (some ⟨b,0,none⟩) l.toNat c.toNat,W,fun za w0 w st E Z B d b h i o A y s=> ?_⟩;generalize Q:madeCells z.cells (c.toNat*1)=O at i;have a8:O.size=c.toNat*1:=by rw[<-Q];simp[madeCells]
     have af:=B5t (sz:=1) i o a8 ac ad;have ae:∀x∈O.toList.take (l.toNat*1),x=N:=fun x j=>by
      have j:=rS j;rw[<-Q]at j;simp only[madeCells,g1l,sQ]at j;obtain⟨M,_,rfl⟩:=j;have r:z.cells.toList= [N]:=k.trans V;have a2:z.cells= #[N]:=by rw[<-uU (xs:=z.cells),r]
      rw[a2];simp[g4q]
     obtain⟨ak,am⟩:=iJ D V.symm;obtain⟨a5,a6⟩:=h.newNestE d (t:=t) (e':=aj.elem) (dd:=Sd t l.toNat) af (fun M x j=>by
      have:=ae x (sU j);subst this;have a9:M<l.toNat:=by have:=(sC.1 j).1;rw[qU]at this;omega
      exact⟨ak,am _ _ _ M _ a9⟩) (fun a2 r=>by
      simp only[Value.ownBlock,rG]at r;subst r;exact⟨A,y⟩) (fun a2 _ r=>by simp only[Value.ownBlock,rG]at r;subst r;exact s)
     exact⟨a5,fun a3 u=>by have:=a6 a3 u;simp only[Value.ownBlock,rG]at this;exact this.symm⟩
   |false=>
    simp only[R,rI]at a;cases r: !ti.rows&&Tu t with
    |false=>simp only[r,rI]at a;cases a
    |true=>
     simp only[r,qV]at a;cases a;simp only[qC]at r;obtain⟨z,k,a5,M,W,a3⟩:=a1 (φ':=none) Y;refine⟨_,fun b=> .slice (some ⟨b,0,none⟩) l.toNat c.toNat,a3,fun za w0 w st E Z B d b h i o A y s=> ?_⟩;have D:G7 (C7 t w Z) ((madeCells z.cells (c.toNat*t.size)).toList.take (l.toNat*t.size)) (List.replicate l.toNat t.dflt):=RH k r.2 a5 _ _ M;generalize Q:madeCells z.cells (c.toNat*t.size)=O at i D;have V:O.size=c.toNat*t.size:=by rw[<-Q];simp[madeCells]
     have a2:=B5t i o V M W;refine⟨h.newRowE d (t:=t) (e:=ti.elem) (l:=List.replicate l.toNat t.dflt) (by rw[rC];exact a2) D (fun N j=>by
      simp only[Value.ownBlock,rG]at j;subst j;exact⟨A,y⟩) (fun N _ j=>by simp only[Value.ownBlock,rG]at j;subst j;exact s),fun a6 u=> ?_⟩
     have:=u;simp only[B8,root,rG]at this;exact this.symm
 . cases a
end
def JB (cx:Cx) (all:List Oper) (a:St):List Nat->(St->Prop)->St->Prop
 | [],k=>k
 |i::r,k=>fun b=>match all[i]? with
  |some o=>match PZ cx a (Hk all i) o.op with
   |some (c,lc,mk)=>dO c (JB cx all a r k (addA b (Hk all i) lc mk))
   |none=>False
  |none=>False
def A4y (all:List Oper) (f:Nat->Nat->Value) (bl:Nat->Nat):List Nat->G8->G8
 | [],E=>E
 |i::r,E=>A4y all f bl r (upd E (Hk all i) (f i (bl i)))
section
variable {za:Zn} {w0 w w':World} {Z:Nat->Prop} {cx:Cx} {all:List Oper} {st0:St} {k k':St->Prop} {f:Nat->Nat->Value} {X:Nat->Obj} {bl:Nat->Nat}
def iU:∀ {ls:List Nat} {c:St},JB cx all st0 ls k c->∀i∈ls,∃o φ lc mk,all[i]? =some o/\PZ cx st0 (Hk all i) o.op=some (φ,lc,mk)/\TR φ
 | [],_,_,_,h=>by cases h
 |i::r,c,a,j,b=>by
  simp only[JB]at a;split at a
  . rename_i o h;split at a
    . rename_i φ lc mk g;obtain⟨d,f⟩:=E6.1 a;rcases qI.1 b with rfl|b
      . exact⟨o,φ,lc,mk,h,g,d⟩
      . exact iU f j b
    . exact a.elim
  . exact a.elim
def bG:∀ {ls:List Nat} {a:St},JB cx all st0 ls k a->(∀b,C4 a b->k b->k' b)->JB cx all st0 ls k' a
 | [],a,h,c=>c a (C4.refl a) h
 |i::r,a,h,c=>by
  simp only[JB]at h⊢;split at h
  . split at h
    . exact E6.2 ⟨(E6.1 h).1,bG (E6.1 h).2 fun b e a=>c b ((C4.addA _ _ _ _).trans e) a⟩
    . exact h
  . exact h
def LI {x:Nat} :∀ {l:List Nat} {E:G8},x∉Ce all l->A4y all f bl l E x=E x
 | [],_,_=>rfl
 |i::l,E,h=>by
  simp only[Ce,rZ,qI,g4u]at h;simp only[A4y];rw[LI h.2,C6 _ _ _ _ h.1]
def A1j {i:Nat} :∀ {l:List Nat} {E:G8},(Ce all l).Nodup->i∈l->A4y all f bl l E (Hk all i)=f i (bl i)
 | [],_,_,h=>by cases h
 |j::l,E,b,h=>by
  simp only[Ce,rZ]at b;obtain⟨c,d⟩:=sG.1 b;simp only[A4y];by_cases a:i∈l
  . exact A1j d a
  . rcases qI.1 h with rfl|h
    . rw[LI c,C5]
    . exact absurd h a
def A0u:∀ {ls:List Nat} {a:St} {E:G8} {B:Nat->Value},C1 za w0 a E w Z B->(∀i∈ls,∀o φ lc mk,all[i]? =some o->PZ cx st0 (Hk all i) o.op=some (φ,lc,mk)->B1r lc mk (X i) (f i))->
 (∀i∈ls,w.heap[bl i]? =some (X i)/\w0.heap.size<=bl i/\¬Z (bl i)/\za.b0<=bl i/\∀k,¬B8 w (B k) (a.L k) (bl i))->(∀i∈ls,∀j∈ls,i≠j->bl i≠bl j)->ls.Nodup->JB cx all st0 ls k a->∃s B',C1 za w0 s (A4y all f bl ls E) w Z B'/\k s
 | [],a,E,B,h,_,_,_,_,b=>⟨a,B,h,b⟩
 |i::T,a,E,B,M,r,g,n,O,b=>by
  simp only[JB]at b;obtain⟨Q,R⟩:=sG.1 O;split at b
  . rename_i o P;split at b
    . rename_i φ lc mk h;obtain⟨_,b⟩:=E6.1 b;obtain⟨v,x,y,z,A⟩:=g i (rB);obtain⟨I,J⟩:=r i rB o φ lc mk P h za w0 w a E Z B (Hk all i) (bl i) M v x y A z;refine A0u (ls:=T) (E:=upd E (Hk all i) (f i (bl i))) I (fun j c=>r j (qM _ c)) (fun j c=> ?_) (fun t h u g=>n t (qM _ h) u (qM _ g)) R b;obtain⟨c1,D,F,G,H⟩:=g j (qM _ c);refine⟨c1,D,F,G,fun q d=> ?_⟩;have N:(addA a (Hk all i) lc mk).L q=(a.newL lc).L q:=rfl;rw[N,St.L_newL]at d;by_cases l:q=a.nx
      . subst l;rw[qP rfl,C5]at d;exact n i rB j (qM _ c) (fun e=>Q (e▸c)) (J _ d).symm
      . rw[qL l,C6 _ _ _ _ l]at d;exact H q d
    . exact b.elim
  . exact b.elim
def iT:∀(l:List Nat) (E:G8) (w:World),l.Nodup->(Ce all l).Nodup->T8 w (Hm all f X l E w).2/\∃bl:Nat->Nat,(∀i∈l,w.heap.size<=bl i/\(Hm all f X l E w).2.heap[bl i]? =some (X i)/\(Hm all f X l E w).1 (Hk all i)=f i (bl i))/\∀i∈l,∀j∈l,i≠j->bl i≠bl j
 | [],_,w,_,_=>⟨T8.refl w,fun _=>0,by simp,by simp⟩
 |i::r,E,w,z,o=>by
  obtain⟨D,F⟩:=sG.1 z;simp only[Ce,rZ]at o;obtain⟨s,t⟩:=sG.1 o;obtain⟨n,bl,h,x⟩:=iT r (upd E (Hk all i) (f i w.heap.size)) (w.alloc (X i)) F t;have B:T8 w (w.alloc (X i)):=T8.alloc w _;have A:(w.alloc (X i)).heap.size=w.heap.size+1:=Array.size_push ..;simp only[Hm];refine⟨B.trans n,fun j=>if j=i then w.heap.size else bl j,fun j d=> ?_,fun a ha b hb hab=> ?_⟩
  . rcases qI.1 d with rfl|d
    . have y:(if j=j then w.heap.size else bl j)=w.heap.size:=qP rfl;show w.heap.size<=(if j=j then w.heap.size else bl j)/\(Hm all f X r _ _).2.heap[if j=j then w.heap.size else bl j]? = _ /\ _=f j (if j=j then w.heap.size else bl j);rw[y];refine⟨qZ _, ?_,by rw[Jx _ _ _ s,C5]⟩;rw[n.block _ (by rw[A];exact rW _)];exact heap_alloc_new w _
    . have:j≠i:=fun e=>D (e▸d)
      simp only[qL this];obtain⟨G,u,v⟩:=h j d;exact⟨by omega,u,v⟩
  . simp only;have g:∀q,q∈i::r->q≠i->q∈r:=fun q hq hqi=>(qI.1 hq).resolve_left hqi
    by_cases c:a=i
    . rw[qP c,qL (fun e=>hab (c.trans e.symm))];have:=(h b (g b hb (fun e=>hab (c.trans e.symm)))).1;omega
    . rw[qL c];by_cases k:b=i
      . rw[qP k];have:=(h a (g a ha c)).1;omega
      . rw[qL k];exact x a (g a ha c) b (g b hb k) hab
end
structure K where
 n:St->Prop
 x:Nat->St->Prop
 r:St->Prop
def K.at (k:K):Exit->St->Prop
 | .normal=>k.n
 | .exit i=>k.x i
 | .ret=>k.r
 | _=>fun _=>False
structure An where
 join:List (Nat×JM):= []
 loop:List (Nat×JM):= []
 plan:List (Nat×List Nat×List Nat×Bool×Pl):= []
def pQ:Code->Option Nat
 | .region id _ _=>some id
 | .seq a b=>match pQ a with
  |some i=>some i
  |none=>pQ b
 | .cond _ a b=>match pQ a with
  |some i=>some i
  |none=>pQ b
 | .block _ c=>pQ c
 | .loop c=>pQ c
 | _=>none
def C1e (l:List (Nat×JM)):Option Nat->Option JM
 |some i=>Hp i l
 |none=>none
def C9j (A:JM) (a:St) (b:(St->Prop)->Prop) (c:St->Prop):Prop:=
 ∃J:A.den->Prop,b (QM A a J)/\∀p,A.wf p->J p->c (reflect A a p)
def C1y (A:JM) (a:St) (d:(St->Prop)->St->Prop):Prop:=
 match gath A a with
 |some (a,f)=>bif(A.rowL.all fun x=>Nat.blt x.1 a.nx)&&(A.boxL.all fun x=>Nat.blt x.1 a.nx)then
  (∃(I:A.den->Prop) (c:A.den->Nat),I f/\∀p,A.wf p->I p->d (QM A a fun b=>I b/\c b<c p) (reflect A a p))else False
 |none=>False
def Qx (cx:Cx) (all:List Oper) (o:Oper) (k:St->Prop) (a:St):Prop:=
 match o.guard with
 |none=>match DG cx a [] o.op with
  |some (b,v)=>match o.dst with
   |some d=>dO b (k (a.setS d v))
   |none=>False
  |none=>match o.op with
   | .load T x=>match o.dst with
    |some d=>(match gS cx a d T x with
     |some b=>k b
     |none=>False)
    |none=>False
   | _=>False
 |some (j,b)=>match(all[j]?).bind (·.dst)with
  |some t=>bif Qk a 20 t then(match o.dst with
   |some d=>bif !(Nat.beq t d)then(match DG cx a (gctx a 20 t b) o.op with
    |some (c, .one s)=>bif s.cs.all (B6i a.nx)then dO (B8p (ctxP a (gctx a 20 t b)) c) (k (a.setS d (.cnd t b s)))else False
    | _=>False)else False
   |none=>False)else False
  |none=>False
def TY (cx:Cx) (all:List Oper):List Nat->(St->Prop)->St->Prop
 | [],k=>k
 |j::r,k=>fun a=>match all[j]? with
  |some o=>bif !(B5a o.op)&&C0i (iF all j) (Ce all (j::r))then Qx cx all o (TY cx all r k) a else False
  |none=>False
def R6 (cx:Cx) (sp:H8) (all:List Oper) (tails:List Nat) (n0:Nat) (nw:Bool):Pl->Bool->Bool->(St->Prop)->St->Prop
 | .done,_,_,k=>k
 | .q i p,a,t,k=>fun b=>match all[i]? with
  |some o=>bif a|| !nw then Qx cx all o (R6 cx sp all tails n0 nw p a t k) b else False
  |none=>False
 | .p i p,a,t,k=>fun b=>match all[i]? with
  |some o=>bif !(B5a o.op)then Qx cx all o (R6 cx sp all tails n0 nw p a t k) b else False
  |none=>False
 | .e i p,_,t,k=>fun a=>match all[i]? with
  |some o=>bif((t||tails.contains i) || !(dG sp a o) || (nw&&frO n0 a o.op))&&(!nw||lW sp n0 a o.op)then Mf cx sp all o (R6 cx sp all tails n0 nw p false (t||tails.contains i) k) a else False
  |none=>False
 | .or i p q,b,t,k=>fun a=>
  (match all[i]? with
  |some o=>bif((t||tails.contains i) || !(dG sp a o) || (nw&&frO n0 a o.op))&&(!nw||lW sp n0 a o.op)then Mf cx sp all o (R6 cx sp all tails n0 nw p false (t||tails.contains i) k) a else False
  |none=>False)/\R6 cx sp all tails n0 nw q b t k a
 | .al a b p,_,t,k=>fun c=>bif A7t all a b then JB cx all c a (TY cx all b (R6 cx sp all tails n0 nw p false t k)) c else False
def Kc (cx:Cx) (sp:H8) (an:An):Code->K->St->Prop
 | .skip,k=>k.n
 | .label _,k=>k.n
 | .region id ops b,k=>fun a=>bif b then(match Hp id an.plan with
  |some (c,b,d,p)=>bif C1p ops.toList c b p&&cx.P.follows .mixedOrders then R6 cx sp ops.toList b a.nx d p true false k.n a else False
  |none=>False)else bH cx sp ops.toList ops.toList k.n a
 | .seq c b,k=>fun a=>match C1e an.join (pQ b)with
  |some A=>C9j A a (fun j=>Kc cx sp an c {k with n:=j} a) (Kc cx sp an b k)
  |none=>Kc cx sp an c {k with n:=Kc cx sp an b k} a
 | .cond d b c,k=>fun a=>match(a.ev [] d).bind TE with
  |some e=>(e=true->Kc cx sp an b k a)/\(e=false->Kc cx sp an c k a)
  |none=>False
 | .block id c,k=>Kc cx sp an c {k with x:=fun i a=>bif Nat.beq i id then k.n a else k.x i a}
 | .loop c,k=>fun a=>match C1e an.loop (pQ c)with
  |some A=>C1y A a fun j=>Kc cx sp an c {k with n:=j}
  |none=>False
 | .exit i,k=>k.x i
 | .ret,k=>k.r
 | _,_=>fun _=>False
section
variable {za:Zn} {w0:World} {cx:Cx} {sp:H8} {an:An} {all:List Oper}
def Xq {o:Oper} {k k':St->Prop} {b:St} (h:Qx cx all o k b) (a:∀c,C4 b c->k c->k' c):Qx cx all o k' b:=by
 unfold Qx at h⊢;split at h
 . split at h
   . split at h
     . exact E6.2 ⟨(E6.1 h).1,a _ (C4.setS _ _ _) (E6.1 h).2⟩
     . exact h
   . split at h
     . split at h
       . split at h
         . rename_i b;exact a _ (gT b) h
         . exact h
       . exact h
     . exact h
 . split at h
   . obtain⟨b,h⟩:=B9 h;simp only[b,qV];split at h
     . obtain⟨b,h⟩:=B9 h;simp only[b,qV];split at h
       . obtain⟨b,h⟩:=B9 h;simp only[b,qV];exact E6.2 ⟨(E6.1 h).1,a _ (C4.setS _ _ _) (E6.1 h).2⟩
       . exact h
     . exact h
   . exact h
def bI:∀ {ls:List Nat} {k k':St->Prop} {a:St},TY cx all ls k a->(∀b,C4 a b->k b->k' b)->TY cx all ls k' a
 | [],_,_,a,h,b=>b a (C4.refl a) h
 |j::r,_,_,a,h,f=>by
  simp only[TY]at h⊢;split at h
  . obtain⟨a,h⟩:=B9 h;simp only[a,qV];exact Xq h fun b a c=>bI c fun g b d=>f g (a.trans b) d
  . exact h
def Cc {tails:List Nat} {n0:Nat} {nw:Bool} :∀ {p:Pl} {pre t:Bool} {k k':St->Prop} {a:St},R6 cx sp all tails n0 nw p pre t k a->(∀b,C4 a b->k b->k' b)->R6 cx sp all tails n0 nw p pre t k' a
 | .done,_,_,_,_,a,h,b=>b a (C4.refl a) h
 | .q i p,pre,t,_,_,a,h,g=>by
  simp only[R6]at h⊢;split at h
  . obtain⟨b,h⟩:=B9 h;simp only[b,qV]at h⊢;exact Xq h fun c b d=>Cc d fun i c f=>g i (b.trans c) f
  . exact h
 | .p i p,pre,t,_,_,a,h,g=>by
  simp only[R6]at h⊢;split at h
  . obtain⟨b,h⟩:=B9 h;simp only[b,qV];exact Xq h fun c b d=>Cc d fun i c f=>g i (b.trans c) f
  . exact h
 | .e i p,pre,t,_,_,a,h,g=>by
  simp only[R6]at h⊢;split at h
  . obtain⟨b,h⟩:=B9 h;simp only[b,qV];exact LE h fun c b d=>Cc d fun i c f=>g i (b.trans c) f
  . exact h
 | .or i p q,pre,t,_,_,a,h,b=>by
  simp only[R6]at h⊢;refine⟨?_,Cc h.2 b⟩;have h:=h.1;split at h
  . obtain⟨c,h⟩:=B9 h;simp only[c,qV];exact LE h fun d c f=>Cc f fun i d g=>b i (c.trans d) g
  . exact h
 | .al b c p,pre,t,_,_,a,h,g=>by
  simp only[R6]at h⊢;obtain⟨a,h⟩:=B9 h;simp only[a,qV];exact bG h fun b a c=>bI c fun f b d=>Cc d fun h c f=>g h (a.trans (b.trans c)) f
def C4.told (A:JM) (a:St) (p:A.den):C4 a (Vc.reflect A a p):=
 ⟨qW (uS _) (C4.reflect A a p).ct,fun _ b c=>A0n b c,fun _ b c=>mI b c,(C4.reflect A a p).f.le (uS _)⟩
def C4.gath {A:JM} {a b:St} {p:A.den} (h:gath A a=some (b,p)):C4 a b:=by
 simp only[Vc.gath,qK,bind_some]at h;obtain⟨d,_,c,_,g,_,f,_,h⟩:=h;obtain⟨_,h⟩:=E4 h;cases h;exact(C4.plugL _ _).trans (C4.settleSh _ _ _)
def SN:∀ {c:Code} {k k':K} {a:St},Kc cx sp an c k a->(∀e b,C4 a b->k.at e b->k'.at e b)->Kc cx sp an c k' a:=by
 intro c
 induction c with
 |skip=>intro k k' a h d;exact d .normal a (C4.refl a) h
 |label l=>intro k k' a h d;exact d .normal a (C4.refl a) h
 |region id ops f=>
  intro k k' a h d;simp only[Kc]at h⊢;cases f with
  |true=>
   simp only[qV]at h⊢;split at h
   . obtain⟨g,h⟩:=B9 h;simp only[g,qV];exact Cc h fun b e=>d .normal b e
   . exact h
  |false=>
   simp only[rI]at h⊢;exact TX h fun b e=>d .normal b e
 |seq v w j l=>
  intro k k' a h f;simp only[Kc]at h⊢;split at h
  . rename_i A _;obtain⟨J,r,i⟩:=h;refine⟨J,j r fun e b ev d=> ?_,fun p t s=>l (i p t s) fun e b ev d=> ?_⟩
    . cases e with
      |normal=>exact d
      |exit o=>exact f (.exit o) b ev d
      |ret=>exact f .ret b ev d
      | _=>exact d
    . exact f e b ((C4.told A a p).trans ev) d
  . refine j h fun e n g d=> ?_
    cases e with
    |normal=>exact l d fun e u o i=>f e u (g.trans o) i
    |exit o=>exact f (.exit o) n g d
    |ret=>exact f .ret n g d
    | _=>exact d
 |cond c i j f g=>
  intro k k' a h d;simp only[Kc]at h⊢;split at h
  . exact⟨fun e=>f (h.1 e) d,fun e=>g (h.2 e) d⟩
  . exact h
 |block id c j=>
  intro k k' a h f;simp only[Kc]at h⊢;refine j h fun e b ev d=> ?_
  cases e with
  |exit i=>
   simp only[K.at]at d⊢;cases g:Nat.beq i id with
   |true=>simp only[g,qV]at d⊢;exact f .normal b ev d
   |false=>simp only[g,rI]at d⊢;exact f (.exit i) b ev d
  |normal=>exact f .normal b ev d
  |ret=>exact f .ret b ev d
  | _=>exact d
 |loop c t=>
  intro k k' a h g;simp only[Kc]at h⊢;split at h
  . rename_i A _;unfold C1y at h⊢;split at h
    . rename_i i v f;obtain⟨o,h⟩:=B9 h;simp only[o,qV];obtain⟨I,u,j,l⟩:=h;refine⟨I,u,j,fun p r n=>t (l p r n) fun e b ev d=> ?_⟩;cases e with
      |normal=>exact d
      |exit s=>exact g (.exit s) b ((C4.gath f).trans ((C4.told A i p).trans ev)) d
      |ret=>exact g .ret b ((C4.gath f).trans ((C4.told A i p).trans ev)) d
      | _=>exact d
    . exact h
  . exact h
 |exit i=>intro k k' a h d;exact d (.exit i) a (C4.refl a) h
 |ret=>intro k k' a h d;exact d .ret a (C4.refl a) h
 | _=>intro k k' a h d;exact h
def fG {A:JM} (k:za.b0=0) {b c:St} {J:A.den->Prop} {E:G8} {w:World} {Z:Nat->Prop} {B:Nat->Value} (h:C1 za w0 c E w Z B) (a:QM A b J c) (v:B7p za.n b) (ev:C4 b c):∃p,A.wf p/\J p/\∃Z' B',C1 za w0 (reflect A b p) E w Z' B':=by
 unfold QM at a;split at a
 . rename_i b p d;obtain⟨b,a⟩:=B9 a;simp only[B4l,qC,tP]at b;obtain⟨⟨⟨i,j⟩,t⟩,u⟩:=b;have c:=ev.trans (C4.gath d);have b:∀ {n g:Nat},kT n g=true->g≠0/\g<=n:=fun hh=>by
    simp only[kT,qC]at hh;have o:=qT hh.1;have o:=qT hh.2;omega
   obtain⟨r,Z',B',o⟩:=A5z k h d v (fun s hs=>c.s s (b (i s hs)).1 (b (i s hs)).2) (fun q hq=>c.l q (b (j q hq)).1 (b (j q hq)).2) (fun y hy=>BM (t y hy)) (c.f.old u);exact⟨p,r,a,Z',B',o⟩
 . exact a.elim
variable (hty:I1 cx.P cx.tys=true) (hsp:Ki cx.P sp)
include hty in
theorem LF {S:World->Prop} {o:Oper} {k:St->Prop} {A:St} {E:G8} {w:World} {Z:Nat->Prop} {B:Nat->Value} (j:∀w',S w'->(B5a o.op=true->T8 w w')) (h:C1 za w0 A E w Z B) (a:Qx cx all o k A):LD cx.P S all o (Nx za w0 k) E w:=by
 obtain⟨X,R,ty,U,D,Y⟩:=o;unfold Qx at a;simp only at a j;split at a
 . split at a
   . rename_i V a2 r;split at a
     . rename_i d;replace a:=E6.1 a;obtain⟨u,b,c,l⟩:=GV (ty:=ty) h hty (G4 E) r a.1;exact .inl ⟨rfl,u,fun w' g=>b w' (j w' g) _ _ _ _,_,_,_,h.setS d (c _) l,a.2⟩
     . exact a.elim
   . split at a
     . rename_i T x _;split at a
       . rename_i d;split at a
         . rename_i a1 J;obtain⟨u,B',b,c⟩:=pR (ty:=ty) h hty J;exact .inl ⟨rfl,u,fun w' g=>b w' (j w' g rfl) _ _ _ _,_,_,_,c,a⟩
         . exact a.elim
       . exact a.elim
     . exact a.elim
 . rename_i Q i;split at a
   . rename_i t v;have a0:=(B9 a).1;replace a:=(B9 a).2;split at a
     . rename_i d;have O:=(B9 a).1;replace a:=(B9 a).2;have y:t≠d:=uW (by simpa using O);split at a
       . rename_i V z r;obtain⟨N,a⟩:=B9 a;replace a:=E6.1 a;rw[pF]at a;by_cases f:E t= .bool i
         . have s:=h.gctx (n:=20) f;obtain⟨u,b,c,l⟩:=GV (ty:=ty) h hty s r (a.1 (h.ctxP s));refine .inl ⟨aM v f,u,fun w' g=>b w' (j w' g) _ _ _ _,_,_,_,h.setS d (x:= .cnd t i z) (.inl ⟨?_,c E⟩) l,a.2⟩;rw[C6 _ _ _ _ y];exact f
         . have M:E9 all ⟨some d,R,ty,U,D,some (Q,i)⟩ E=false:=by
            unfold E9 Et;simp only[v];cases G:E t with
            |bool W=>simp only[wE,g4s,rG];intro I;exact f (by rw[G,I])
            | _=>rfl
           refine .inr ⟨M,_,_,_,h.setS d (x:= .cnd t i z) (.inr ⟨?_,rfl⟩) (fun F H=>mG (tP.1 N F H)),a.2⟩;rw[C6 _ _ _ _ y];exact f
       . exact a.elim
     . exact a.elim
   . exact a.elim
theorem aY {P:Program} {S:World->Prop} {o:Oper} {n a:G8->World->Prop} {E:G8} {w:World} (h:LD P S all o n E w) (c:∀E',n E' w->a E' w):LD P S all o a E w:=by
 rcases h with⟨a,v,b,d⟩ | ⟨a,b⟩
 . exact .inl ⟨a,v,b,c _ d⟩
 . exact .inr ⟨a,c _ b⟩
def RW (nw:Bool) (b0:Nat) (w w':World):Prop:=bif nw then(Below b0 w w'/\True)else T8 w w'
theorem RW.of {nw:Bool} {b0:Nat} {w w':World} (a:b0<=w.heap.size) (h:T8 w w'):RW nw b0 w w':=by
 cases nw with
 |true=>exact⟨⟨h.os,h.tape,h.output,h.size,fun k b=>h.block k (rF b a)⟩,h.drw⟩
 |false=>exact h
theorem RW.refl (nw:Bool) (b0:Nat) (w:World):RW nw b0 w w:=by
 cases nw with
 |true=>exact⟨Below.refl _ _,trivial⟩
 |false=>exact T8.refl _
theorem RW.trans {nw:Bool} {b0:Nat} {a b c:World} (h:RW nw b0 a b) (d:RW nw b0 b c):RW nw b0 a c:=by
 cases nw with
 |true=>exact⟨Below.trans h.1 d.1,trivial⟩
 |false=>exact T8.trans h d
include hty hsp in
theorem A7j {nw tl:Bool} {n0:Nat} {k:St->Prop} {o:Oper} {d:St} {E:G8} {w:World} {Z:Nat->Prop} {B:Nat->Value} (i:nw=true->za.k0=n0) (s:nw=false->za.b0=0) (h:C1 za w0 d E w Z B)
 (b:((tl|| !(dG sp d o) || (nw&&frO n0 d o.op))&&(!nw||lW sp n0 d o.op))=true) (a:Mf cx sp all o k d):J2 cx.P all o (fun E' w'=>(tl=true\/RW nw za.b0 w w')/\Nx za w0 k E' w') E w:=by
 simp only[qC,uC,rO]at b;obtain⟨b,c⟩:=b;have j:za.b0=0\/lW sp za.k0 d o.op=true:=by
  cases f:nw with
  |false=>exact .inl (s f)
  |true=>rw[f]at c;exact .inr (by rw[i f];simpa using c)
 rcases b with(b|b) |b
 . refine C3 ?_ (Ih h j hty hsp a);rintro E' w' ⟨_,n⟩;exact⟨.inl b,n⟩
 . refine C3 ?_ (Ih h j hty hsp a);rintro E' w' ⟨y,n⟩;exact⟨.inr (RW.of h.mrk.1 (y b)),n⟩
 . obtain⟨v,b⟩:=b;subst v;obtain⟨l,D,H,F,A,r⟩:=o;have t:=b;unfold frO at b;split at b
   . rename_i T p z g;simp only at g;subst g;unfold Mf at a;simp only at a;cases r with
     |none=>
      simp only[DG]at a;cases l with
      |none=>
       simp only at a;have u:CM d (.store T p z)=false:=by
        rcases c with c|c
        . cases c
        . simp only[lW,qC,rO]at c;exact c.2
       rw[pX u]at a;simp only at a;split at a
       . rename_i I G x;refine C3 ?_ (iZ h hty x (E6.1 a).1 (E6.1 a).2 rfl);rintro E' w' ⟨f,n⟩;exact⟨.inr (f (by rw[i rfl];exact t)),n⟩
       . exact a.elim
      |some f=>exact a.elim
     |some f=>
      obtain⟨x,u⟩:=f;simp only[DG]at a;split at a
      . obtain⟨_,a⟩:=B9 a;split at a
        . obtain⟨_,a⟩:=B9 a;exact a.elim
        . exact a.elim
      . exact a.elim
   . cases b
include hty in
theorem A0v {k:St->Prop} :∀ {d:List Nat},(∀j∈d,mB all j=true)->(Ce all d).Nodup->∀ {f:St} {E:G8} {w:World} {Z:Nat->Prop} {B:Nat->Value},C1 za w0 f E w Z B->TY cx all d k f->∃F,(∀x,x∉Ce all d->F x=E x)/\AlV cx.P all d F/\Nx za w0 k F w
 | [],_,_,f,E,w,Z,B,h,b=>⟨E,fun _ _=>rfl,fun _ a=>(by cases a),f,Z,B,h,b⟩
 |j::W,r,o,f,E,w,Z,B,A,b=>by
  simp only[TY]at b;simp only[Ce,rZ]at o;obtain⟨T,U⟩:=sG.1 o;split at b
  . rename_i t i;obtain⟨g,b⟩:=B9 b;simp only[qC,rO]at g;obtain⟨G,H,I⟩:=DF (r j rB) i;have N:=SP g.2;have J:=LF (S:=fun _=>True) (all:=all) hty (fun v _ hh=>by rw[hh]at g;cases g.1) A b;have R:E9 all t E=true:=by simp[E9,H]
    rcases J with⟨_,V,Q,X,Z1,B1,n,M⟩ | ⟨s,_⟩
    . rw[G]at n;obtain⟨F,h,y,z⟩:=A0v (fun l c=>r l (qM _ c)) U n M;have D:F (Hk all j)=V:=by rw[h _ T];exact C5 _ _ _
      refine⟨F,fun x a=> ?_,fun l c=> ?_,z⟩
      . simp only[Ce,rZ,qI,g4u]at a;rw[h x a.2];exact C6 _ _ _ _ a.1
      . rcases qI.1 c with rfl|c
        . refine⟨t,i,fun v=> ?_⟩;rw[D,QV (E:=F) (E':=E) i I fun u O=> ?_]
          . exact Q v trivial
          . have a:=N u O;simp only[Ce,rZ,qI,g4u]at a;rw[h u a.2];exact C6 _ _ _ _ a.1
        . exact y l c
    . rw[R]at s;cases s
  . exact b.elim
theorem RW.size {nw:Bool} {b0:Nat} {a b:World} (h:RW nw b0 a b):a.heap.size<=b.heap.size:=by
 cases nw with
 |true=>exact h.1.size
 |false=>exact(show T8 a b from h).size
include hty in
theorem B0b {nw:Bool} {b s:List Nat} {k:St->Prop} {v:St} {E:G8} {w:World} {Z:Nat->Prop} {B:Nat->Value} (N:A7t all b s=true) (h:C1 za w0 v E w Z B) (M:JB cx all v b (TY cx all s k) v):∃f X,B1h cx.P (RW nw za.b0) all b s f X (Nx za w0 k) E w:=by
 simp only[A7t,qC,tP]at N;obtain⟨⟨⟨a6,u⟩,r⟩,ah⟩:=N;have u:=(sX.1 (Nz u)).1;have r:=Nz r;have r:(Ce all b++Ce all s).Nodup:=by simpa[Ce]using r
 obtain⟨F,T,a9⟩:=sX.1 r;have I:=iU M;have a1:∀i,∃x:Obj×(Nat->Value),i∈b->∀o n lc mk,all[i]? =some o->PZ cx v (Hk all i) o.op=some (n,lc,mk)->(∀d,(execOp (ev E) o).run cx.P d= .ok (.value (x.2 d.heap.size)) (d.alloc x.1))/\B1r lc mk x.1 x.2:=fun i=>by
  by_cases a:i∈b
  . obtain⟨o,n,lc,mk,l,j,Q⟩:=I i a;obtain⟨X,f,U,V⟩:=A7u h hty j Q;refine⟨(X,f),fun _ ae aj ac ad J z=> ?_⟩;rw[l]at J;cases J;rw[j]at z;cases z;obtain⟨aa,af,a7,ag,a8,ab⟩:=o;exact⟨fun d=>U a7 d _ _ _ _,V⟩
  . exact⟨(.cells #[] 0 (0,0),fun _=>undef),fun a2=>absurd a2 a⟩
 obtain⟨g,H⟩:=Classical.axiomOfChoice a1;refine⟨fun i=>(g i).2,fun i=>(g i).1,⟨fun i a=> ?_,fun i a d a5=>RW.of (qW h.mrk.1 a5.size) (T8.alloc d _),fun t c=> ?_⟩⟩
 . obtain⟨o,n,lc,mk,l,j,Q⟩:=I i a;exact⟨o,l,(H i a o n lc mk l j).1⟩
 . have a4:t.Nodup:=c.nodup_iff.2 u;have a3:(Ce all t).Nodup:=(c.map _).nodup_iff.2 F;obtain⟨O,bl,D,R⟩:=iT (f:=fun i=>(g i).2) (X:=fun i=>(g i).1) t E w a4 a3;have W:=h.more (Z':=Z) O (fun _=>id) (fun _=> .inl);obtain⟨ai,B1,G,Y⟩:=A0u (f:=fun i=>(g i).2) (X:=fun i=>(g i).1) (bl:=bl) W (fun i a o n lc mk l j=>(H i a o n lc mk l j).2) (fun i a=>by
    obtain⟨c1,z,a2⟩:=D i (c.symm.subset a);refine⟨z,qW h.ext.size c1,fun V=> ?_,qW h.mrk.1 c1,fun q U=> ?_⟩
    . have:=h.zlt _ V;omega
    . have:=((h.locs q).root (h.ft O U)).2.1;omega) (fun i a A y J=>R i (c.symm.subset a) A (c.symm.subset y) J) u M
   have a0:A4y all (fun i=>(g i).2) bl b E=(Hm all (fun i=>(g i).2) (fun i=>(g i).1) t E w).1:=funext fun x=>by
    by_cases z:x∈Ce all b
    . obtain⟨i,a,e⟩:=K5.1 z;subst e;rw[A1j F a,(D i (c.symm.subset a)).2.2]
    . rw[LI z,Jx _ _ _ fun J=>z ((c.map _).subset J)]
   rw[a0]at G;exact A0v hty (fun A y=>a6 A (tJ _ y)) T G Y
include hty hsp in
theorem Ep {za0:Zn} {tails:List Nat} {n0:Nat} {nw:Bool} {k:St->Prop} (d:nw=true->za.k0=n0) (c:nw=false->za.b0=0) (f:∀ {a:St} {E:G8} {w:World} {Z:Nat->Prop} {B:Nat->Value},C1 za w0 a E w Z B->C1 za0 w0 a E w Z B):∀ {p:Pl} {pre t:Bool} {a:St} {E:G8} {w:World} {Z:Nat->Prop} {B:Nat->Value},(nw=true->pre=true->za.b0=w.heap.size)->C1 za w0 a E w Z B->R6 cx sp all tails n0 nw p pre t k a->YI cx.P (RW nw za.b0) all tails (Nx za0 w0 k) p t E w
 | .done,_,_,_,_,_,_,_,_,h,b=>⟨_,_,_,f h,b⟩
 | .q u p,pre,t,a,E,w,Z,B,h,i,b=>by
  simp only[R6]at b;split at b
  . rename_i r n;obtain⟨o,b⟩:=B9 b;refine⟨r,n,aY (LF hty (fun s g _=> ?_) i b) ?_⟩
    . cases nw with
      |false=>exact g
      |true=>
       have g:Below za.b0 w s/\True:=g;rw[h rfl (by simpa using o)]at g;exact⟨g.1,g.2⟩
    . rintro E' ⟨v,Z',B',j,l⟩;exact Ep d c f h j l
  . exact b.elim
 | .p s p,pre,t,a,E,w,Z,B,o,h,b=>by
  simp only[R6]at b;split at b
  . rename_i r n;obtain⟨g,b⟩:=B9 b;refine⟨r,n,aY (LF hty (fun v _ j=>by rw[j]at g;cases g) h b) ?_⟩;rintro E' ⟨u,Z',B',i,l⟩;exact Ep d c f o i l
  . exact b.elim
 | .e r p,pre,t,a,E,w,Z,B,u,h,b=>by
  simp only[R6]at b;split at b
  . rename_i s n;obtain⟨l,b⟩:=B9 b;refine⟨s,n,C3 ?_ (A7j hty hsp d c (tl:=t||tails.contains r) h l b)⟩;rintro E' x ⟨o,v,Z',B',g,j⟩;exact⟨o,Ep d c f (fun _ i=>by cases i) g j⟩
  . exact b.elim
 | .or s p q,pre,t,a,E,w,Z,B,o,h,b=>by
  simp only[R6]at b;refine⟨?_,Ep d c f o h b.2⟩;have b:=b.1;split at b
  . rename_i u n;obtain⟨l,b⟩:=B9 b;refine⟨u,n,C3 ?_ (A7j hty hsp d c (tl:=t||tails.contains s) h l b)⟩;rintro E' x ⟨r,v,Z',B',g,j⟩;exact⟨r,Ep d c f (fun _ i=>by cases i) g j⟩
  . exact b.elim
 | .al y z p,pre,t,a,E,w,Z,B,x,l,b=>by
  simp only[R6]at b;obtain⟨u,b⟩:=B9 b;obtain⟨h,X,g⟩:=B0b (nw:=nw) hty u l b;refine⟨h,X,g.one,g.rel,fun v s=> ?_⟩;obtain⟨F,i,j,A,Z',B',n,r⟩:=g.fin v s;exact⟨F,i,j,Ep d c f (fun _ o=>by cases o) n r⟩
theorem C1.marked {a:St} {E:G8} {w:World} {Z:Nat->Prop} {B:Nat->Value} (h:C1 za w0 a E w Z B):C1 {za with k0:=a.nx,b0:=w.heap.size} w0 a E w Z B:=
 ⟨h.ext,h.zlt,h.slots,h.locs,h.disj,h.refs,h.refl,h.fresh,h.bone,h.zin,h.nms,h.bfix,⟨qZ _,fun k d c b=>by
  have:a.L k= .none:=h.fresh k c;rw[this]at b;exact b.elim⟩,h.frs,h.frf⟩
theorem C1.unmark {k0 b0:Nat} (a:za.b0=0) {b:St} {E:G8} {w:World} {Z:Nat->Prop} {B:Nat->Value} (h:C1 {za with k0:=k0,b0:=b0} w0 b E w Z B):C1 za w0 b E w Z B:=
 ⟨h.ext,h.zlt,h.slots,h.locs,h.disj,h.refs,h.refl,h.fresh,h.bone,h.zin,h.nms,h.bfix,⟨by rw[a];exact rM _,fun k b _ _=>by rw[a];exact rM _⟩,h.frs,h.frf⟩
end
section
variable {za:Zn} {w0:World} {cx:Cx} {sp:H8} {an:An}
def B3r {A:JM} {b c:St} {p:A.den} {E:G8} {w:World} {Z:Nat->Prop} {B:Nat->Value} (f:za.b0=0) (h:C1 za w0 b E w Z B) (a:gath A b=some (c,p)):∃Z',C1 za w0 c E w Z' B:=by
 simp only[Vc.gath,qK,bind_some]at a;obtain⟨i,_,g,_,k,_,j,_,a⟩:=a;obtain⟨_,a⟩:=E4 a;cases a;obtain⟨Z0,d⟩:=h.plugL f (l:=A.rowL);exact C1.settleSh d
def post (za:Zn) (w0:World) (k:K):Exit->G8->World->Prop:=fun e E w=>Nx za w0 (k.at e) E w
variable (hty:I1 cx.P cx.tys=true) (hsp:Ki cx.P sp)
include hty hsp in
theorem Xp (g:za.b0=0) {n:Nat} :∀ {c:Code} {k:K} {a:St} {E:G8} {w:World} {Z:Nat->Prop} {B:Nat->Value},C1 za w0 a E w Z B->Kc cx sp an c k a->Gw.Wp cx.P n c (post za w0 k) E w:=by
 intro c
 induction c with
 |skip=>intro k a E w Z B h d _ f b;exact wp_skip ⟨E,b,a,Z,B,h,d⟩
 |label l=>intro k a E w Z B h d _ f b;exact wp_label ⟨E,b,a,Z,B,h,d⟩
 |exit i=>intro k a E w Z B h d _ f b;exact wp_exit ⟨E,b,a,Z,B,h,d⟩
 |ret=>intro k a E w Z B h d _ f b;exact wp_ret ⟨E,b,a,Z,B,h,d⟩
 |region id ops z=>
  intro k a E w Z B h b j f u;simp only[Af]at j;simp only[Kc]at b;have s:ops=ops.toList.toArray:=by simp
  cases z with
  |false=>
   simp only[rI]at b;rw[s];refine wp_region ?_;have:=aN (P:=cx.P) (Q:=post za w0 k) j ops.toList 0 (by simp) f E w u (iV g hty hsp h b);simpa[g2u]using this
  |true=>
   simp only[qV]at b;split at b
   . rename_i F tails nw p _;obtain⟨d,b⟩:=B9 b;simp only[qC]at d;obtain⟨d,D⟩:=d;simp only[C1p,qC]at d;rw[s];refine wp_region_any D (dD (S:=fun _=>True) (tails:=tails) _ _ _ _ ?_);have o:G9 tails (Array.replicate ops.toList.length false)=false:=by
      unfold G9;rw[wV];intro x _;simp only[uR,xQ];split<;>simp
     have l:=h.more (Z':=Z) (w':=w.drew) (T8.refl w).drew (fun _ h=>h) (fun _=> .inl);have fin:∀b0,YI cx.P (RW nw b0) ops.toList tails (Nx za w0 k.n) p false E w.drew->Ai cx.P ops.toList.toArray (HR n (post za w0 k)) (RW nw b0 w.drew) tails ops.toList.length (Array.replicate ops.toList.length false) f w.drew:=fun b0 hd=>
      B2z (P:=cx.P) (R:=RW nw b0) (RW.refl nw _) (fun f y=>f.trans y) (Q:=post za w0 k) j d.1.1 d.1.2 (fun c E w i=>by obtain⟨_,_,_,_,i⟩:=i;exact i) p ops.toList.length _ none d.2 ⟨oC _ _,fun v=>by rw[o]at v;cases v⟩ false o.symm f E w.drew u (fun _ i=>by cases i) hd
     cases nw with
     |true=>
      have:=fin _ (Ep (za0:=za) (nw:=true) hty hsp (n0:=a.nx) (fun _=>rfl) (fun i=>by cases i) (fun h=>h.unmark g) (fun _ _=>rfl) l.marked b);simpa using Li (S':=fun _=>True) (fun _ _=>trivial) _ _ _ _ this
     |false=>
      have:=fin _ (Ep (za0:=za) (nw:=false) hty hsp (n0:=a.nx) (fun i=>by cases i) (fun _=>g) (fun h=>h) (fun i=>by cases i) l b);simpa using Li (S':=fun _=>True) (fun _ _=>trivial) _ _ _ _ this
   . exact b.elim
 |seq O T y z=>
  intro k a E w Z B s l i u v;simp only[Af,qC]at i;simp only[Kc]at l;split at l
  . rename_i A _;obtain⟨J,D,G⟩:=l;have F:=SN (k':= {n:=fun d=>C4 a d/\QM A a J d,x:=k.x,r:=k.r}) D (fun e d ev j=>by
     cases e with
     |normal=>exact⟨ev,j⟩
     |exit H=>exact j
     |ret=>exact j
     | _=>exact j)
    refine wp_seq (wp_mono (y s F i.1 u v) ?_);rintro e o w' ⟨E',h,d,Z',B',f,b⟩;cases e with
    |normal=>
     obtain⟨p,N,M,Z2,B2,H⟩:=fG g f b.2 s.pure b.1;exact z H (G p N M) i.2 o h
    |exit H=>exact⟨E',h,d,Z',B',f,b⟩
    |ret=>exact⟨E',h,d,Z',B',f,b⟩
    | _=>exact b.elim
  . refine wp_seq (wp_mono (y s l i.1 u v) ?_);rintro e o w' ⟨E',h,d,Z',B',f,b⟩;cases e with
    |normal=>exact z f b i.2 o h
    |exit H=>exact⟨E',h,d,Z',B',f,b⟩
    |ret=>exact⟨E',h,d,Z',B',f,b⟩
    | _=>exact b.elim
 |cond c x z u v=>
  intro k a E w Z B h b d i f;simp only[Af,qC]at d;simp only[Kc]at b;split at b
  . rename_i e j;obtain⟨y,l,o⟩:=bind_some.1 j;have s:=Tk (h.ev (G4 E) l).1 o;refine wp_cond (t:=e) (by rw[f.ev];exact s) ?_;cases e with
    |true=>exact u h (b.1 rfl) d.1 i f
    |false=>exact v h (b.2 rfl) d.2 i f
  . exact b.elim
 |block id c v=>
  intro k a E w Z B l u o j s;refine wp_block (wp_mono (v l u o j s) ?_);rintro e z w' ⟨E',f,h,Z',B',d,b⟩;cases e with
  |normal=>exact⟨E',f,h,Z',B',d,b⟩
  |ret=>exact⟨E',f,h,Z',B',d,b⟩
  |exit y=>
   simp only[Exit.inBlock];simp only[K.at]at b;by_cases i:y=id
   . subst i;simp only[xP];simp at b;exact⟨E',f,h,Z',B',d,b⟩
   . simp only[i,yC];rw[D3 i]at b;exact⟨E',f,h,Z',B',d,b⟩
  | _=>exact b.elim
 |loop c a3=>
  intro k a E w Z B v b F a6 X;simp only[Af]at F;simp only[Kc]at b;split at b
  . rename_i A _;unfold C1y at b;split at b
    . rename_i l H D;obtain⟨z,b⟩:=B9 b;simp only[qC,tP]at z;obtain⟨I,i,M,N⟩:=b;obtain⟨Z1,G⟩:=B3r g v D;obtain⟨a2,Z2,B2,O⟩:=A5z g v D G.pure (fun _ _=>rfl) (fun _ _=>rfl) (fun a4 hy=>BM (z.1 a4 hy)) rfl;refine wp_loop_ghost (fun m o w=>∃p E',i p=m/\Gw.C7 n o E'/\A.wf p/\I p/\∃Z B,C1 za w0 (reflect A l p) E' w Z B) (i H) ⟨H,E,rfl,X,a2,M,Z2,B2,O⟩ ?_;rintro m o w ⟨p,E',a7,Y,a0,W,Z3,B3,T⟩;have U:=SN (k':= {n:=fun d=>C4 (reflect A l p) d/\QM A l (fun h=>I h/\i h<i p) d,x:=k.x,r:=k.r}) (N p a0 W) (fun e d ev j=>by
       cases e with
       |normal=>exact⟨ev,j⟩
       |exit y=>exact j
       |ret=>exact j
       | _=>exact j)
      refine wp_mono (a3 T U F o Y) ?_;rintro e a5 w' ⟨E'',u,d,Z',B',s,f⟩;cases e with
      |normal=>
       obtain⟨h,a1,y,Z5,B5,V⟩:=fG g s f.2 G.pure ((C4.told A l p).trans f.1);exact⟨i h,by have:=y.2;omega,h,E'',rfl,u,a1,y.1,Z5,B5,V⟩
      |exit y=>exact⟨E'',u,d,Z',B',s,f⟩
      |ret=>exact⟨E'',u,d,Z',B',s,f⟩
      | _=>exact f.elim
    . exact b.elim
  . exact b.elim
 | _=>intro k a E w Z B h b;exact b.elim
end
abbrev O8 (α:Type):List α:= []
def DI (cx:Cx) (a:St):List ResultVar->Option (List SV)
 | []=>some []
 | .tmp t::r=>match a.S t with
  | .one s=>(DI cx a r).map (s:: ·)
  | _=>none
 | .cell b T::r=>do
  let ti<-cx.ti T
  match a.S b with
  | .one ⟨false,[.box k 0]⟩=>match a.L k with
   | .box _ b=>bif Nat.beq b.length ti.ty.size then(DI cx a r).map (⟨ti.agg,b⟩:: ·)else none
   | _=>none
  | _=>none
def settleR:St->List RT->List SV->St
 |c, .val _ _::a,s::b=>settleR (settle c s.cs) a b
 |c, .own _ _::a,_::b=>settleR c a b
 |a, .obox _ _::c,s::d=>settleR (match c1 s with
  |some (.box k 0)=>(match a.L k with
   | .box _ b=>settle a b
   | _=>a)
  | _=>a) c d
 |c, .rows _ _ _::a,_::b=>settleR c a b
 |a,_,_=>a
def IY (a:St):(rs:List RT)->List SV->Option (Ci rs)
 | [],[]=>some ()
 | .val b t::rs,s::c=>(Uj b t s).bind fun x=>(IY a rs c).map fun y=>(x,y)
 | .own t e::rs,s::b=>((c1 s).bind (SI a t e)).bind fun x=>(IY a rs b).map fun y=>(x,y)
 | .obox T t::rs,s::b=>((fJ s).bind fun k=>bif Nat.ble a.nm k then nX a T t k else none).bind fun x=>(IY a rs b).map fun y=>(x,y)
 | .rows t e b::rs,s::c=>((TW s).bind fun k=>bif Nat.ble a.nm k then SK a t e b k else none).bind fun x=>(IY a rs c).map fun y=>(x,y)
 | _,_=>none
def Dc:List RT->List SV->List Nat
 | .own _ _::a,⟨false,[.row k]⟩::b=>k::Dc a b
 | .obox _ _::a,⟨false,[.box k 0]⟩::b=>k::Dc a b
 | .rows _ _ _::a,⟨false,[.row k]⟩::b=>k::Dc a b
 | _::a,_::b=>Dc a b
 | _,_=> []
def settleM:St->List AM->Nat->St
 |a, .box _ _::r,j=>settleM (match a.L j with| .box _ cs=>settle a cs| _=>a) r (j+1)
 |a, .row _ _::r,j=>settleM a r (j+1)
 |a, .val _ _::r,j=>settleM a r j
 |a, .fn _ _ _::r,j=>settleM a r j
 |a, .rows _ _ _::r,j=>settleM a r (j+1)
 |a,[],_=>a
def dS (a:St):(as:List AM)->Nat->Option (Qe as)
 | [],_=>some ()
 | .row t e::r,j=>(DL a t e j).bind fun x=>(dS a r (j+1)).map fun y=>(x,y)
 | .box T t::r,j=>(nX a T t j).bind fun x=>(dS a r (j+1)).map fun y=>(x,y)
 | .val _ _::r,j=>dS a r j
 | .fn _ _ _::r,j=>dS a r j
 | .rows t e b::r,j=>(SK a t e b j).bind fun x=>(dS a r (j+1)).map fun y=>(x,y)
def C1m:AM->Bool
 | .row t _=>Nt t
 | .rows t _ _=>Nt t
 | .box _ t=>Nt t
 | _=>true
def C3b (s:A6) (x:A2 s.args) (r:Ci s.res) (o:Qe s.args):Prop:=bif O6 s.args then s.post x r/\s.mpost x r o else s.post x r
def fin (cx:Cx) (s:A6) (c:List ResultVar) (x:A2 s.args) (a:St):Prop:=
 match DI cx a c with
 |some b=>match DI cx (settleM (settleR a s.res b) s.args 0) c with
  |some c=>match IY (settleM (settleR a s.res b) s.args 0) s.res c,dS (settleM (settleR a s.res b) s.args 0) s.args 0 with
   |some r,some o=>bif(KO (Dc s.res c)&&Oq s.res)&&(s.shared|| (s.res.all A5w&&s.args.all C1m))then C3b s x r o else False
   | _,_=>False
  |none=>False
 |none=>False
def Jd (P:Program):(as:List AM)->A2 as->Nat->Nat->List (Nat×Nat×DV)
 | [],_,_,_=> []
 | .val a t::r,x,i,j=>(i,1, .one ⟨a,explode t x.1⟩)::Jd P r x.2 (i+1) j
 | .row _ _::r,x,i,j=>(i,1, .one ⟨false,[.row j]⟩)::Jd P r x.2 (i+1) (j+1)
 | .box _ _::r,x,i,j=>(i,1, .one ⟨false,[.box j 0]⟩)::Jd P r x.2 (i+1) (j+1)
 | .rows _ _ _::r,x,i,j=>(i,1, .one ⟨false,[.row j]⟩)::Jd P r x.2 (i+1) (j+1)
 | .fn a c b::r,x,i,j=>(i,1, .one ⟨false,[.fv P a c b x.1.1 x.1.2]⟩)::Jd P r x.2 (i+1) j
def Fl:(as:List AM)->A2 as->Nat->List (Nat×Nat×LC)
 | [],_,_=> []
 | .val _ _::r,x,j=>Fl r x.2 j
 | .fn _ _ _::r,x,j=>Fl r x.2 j
 | .row t e::r,x,j=>(j,1, .row t e x.1)::Fl r x.2 (j+1)
 | .box T t::r,x,j=>(j,1, .box T (explode t x.1))::Fl r x.2 (j+1)
 | .rows t e a::r,x,j=>(j,1, .rows t e a x.1 [] none)::Fl r x.2 (j+1)
def Lt:List AM->Nat
 | []=>0
 | .row _ _::r=>Lt r+1
 | .box _ _::r=>Lt r+1
 | .rows _ _ _::r=>Lt r+1
 | .val _ _::r=>Lt r
 | .fn _ _ _::r=>Lt r
def ZD (P:Program) (as:List AM) (x:A2 as):St:=⟨Jd P as x 0 0,Fl as x 0,Lt as,1,Lt as,[]⟩
def C4f (cx:Cx) (sp:H8) (an:An) (s:A6) (a:List ResultVar) (c:Code) (x:A2 s.args):Prop:=
 Kc cx sp an c ⟨fin cx s a x,fun _ _=>False,fin cx s a x⟩ (ZD cx.P s.args x)
section
variable {za:Zn} {w0 w:World} {Z:Nat->Prop} {B:Nat->Value} {st:St} {E:G8} {cx:Cx} {sp:H8} {an:An}
def dU (tmps:Array Value):ResultVar->Sem Value
 | .tmp t=>pure (tmps.getD t undef)
 | .cell a t=>do loadVar t (<-asAddr (tmps.getD a undef))
def DJ (j:I1 cx.P cx.tys=true) (h:C1 za w0 st E w Z B) {tmps:Array Value} (b:∀t,tmps.getD t undef=E t):∀ {A:List ResultVar} {ss:List SV},DI cx st A=some ss->∃vs,(A.mapM (dU tmps)).run cx.P w= .ok vs w/\Tc w Z B ss vs
 | [],ss,a=>by cases a;exact⟨[],rfl,rfl⟩
 | .tmp t::r,ss,a=>by
  simp only[DI]at a;split at a
  . rename_i s g;simp only[qN]at a;obtain⟨k,i,rfl⟩:=a;obtain⟨vs,d,f⟩:=DJ j h b i;have c:=h.slots t;rw[g]at c;refine⟨E t::vs, ?_,E t,vs,rfl,c,f⟩;rw[wR];simp only[dU,b,Sem.run_bind,Sem.run_pure,Result.andThen_ok,d]
  . cases a
 | .cell D T::a1,ss,a=>by
  simp only[DI,qK,bind_some]at a;obtain⟨ti,W,a⟩:=a;split at a
  . rename_i X N;split at a
    . rename_i T' a0 O;obtain⟨J,a⟩:=E4 a;simp only[qN]at a;obtain⟨a2,R,rfl⟩:=a;obtain⟨vs,r,s⟩:=DJ j h b R;have Q:=qE J;have y:=h.slots D;rw[N]at y;obtain⟨_,_,F,⟨l,G,n⟩,_⟩:=y;cases F;have v:=h.locs X;rw[O]at v;obtain⟨Y,c,o,_,_,x,d⟩:=v;rw[G]at o;cases o;have k:c.toList.length=ti.ty.size:=by rw[<-Q,d.len]
      rcases(P9 (C2 j W)).2.1 with⟨i,I⟩ | ⟨i,V,U⟩
      . refine⟨.agg c.toList.toArray::vs, ?_,_,vs,rfl,by rw[i];exact⟨c.toList,rfl,d⟩,s⟩;obtain⟨f,H⟩:=Sj (P:=cx.P) (w:=w) I;have g:=run_loadCells_list (P:=cx.P) (w:=w) ⟨l,0,none⟩ c.toList x.cellsAt;rw[k]at g;unfold loadCells at g;rw[wR];simp[dU,b,n,asAddr,loadVar,f,H,g,r,go_sem]
      . rw[U]at k
        match z:c.toList,k with
        | [u],_=>
         rw[z]at d;have M:w.cell? ⟨l,0,none⟩=some u:=by
          have:=x.cellsAt 0 u (by rw[z];rfl);rwa[L9]at this
         refine⟨u::vs, ?_,u,vs,rfl,by rw[i];exact d,s⟩;have f:=Jy (P:=cx.P) (w:=w) V;rw[wR];simp[dU,b,n,asAddr,loadVar,f,M,r,go_sem]
    . cases a
  . cases a
def C1.settleR:∀ {rs:List RT} {ss:List SV} {st:St} {Z:Nat->Prop},C1 za w0 st E w Z B->∃Z',C1 za w0 (settleR st rs ss) E w Z' B
 | .val _ _::rs,s::ss,st,Z,h=>by
  obtain⟨Z1,a⟩:=h.settle s.cs;exact C1.settleR (rs:=rs) (ss:=ss) a
 | .own _ _::rs,_::ss,st,Z,h=>C1.settleR (rs:=rs) (ss:=ss) h
 | .obox _ _::rs,s::ss,st,Z,h=>by
  simp only[Vc.settleR];split
  . split
    . obtain⟨Z1,a⟩:=h.settle _;exact C1.settleR (rs:=rs) (ss:=ss) a
    . exact C1.settleR (rs:=rs) (ss:=ss) h
  . exact C1.settleR (rs:=rs) (ss:=ss) h
 | [],_,st,Z,h=>⟨Z,h⟩
 | .val _ _:: _,[],st,Z,h=>⟨Z,h⟩
 | .own _ _:: _,[],st,Z,h=>⟨Z,h⟩
 | .obox _ _:: _,[],st,Z,h=>⟨Z,h⟩
 | .rows _ _ _::rs,_::ss,st,Z,h=>C1.settleR (rs:=rs) (ss:=ss) h
 | .rows _ _ _:: _,[],st,Z,h=>⟨Z,h⟩
def Oj (h:C1 za w0 st E w Z B) {Zn:Nat->Prop} (f:∀b,Zn b->Z b):∀ {rs:List RT} {ss:List SV} {vs:List Value} {r:Ci rs},((∀b,Z b->Zn b)\/rs.all A5w=true)->Tc w Z B ss vs->IY st rs ss=some r->(Dc rs ss).Nodup->Oq rs=true->
 Qj w0.heap.size w Zn rs vs r/\∀u∈Y7 rs vs,∀b,root u=some b->∃k∈Dc rs ss,B8 w (B k) (st.L k) b
 | [],[],vs,_,_,a,_,_,_=>⟨a,fun u c=>by simp[Y7]at c⟩
 | [],_:: _,_,_,_,_,a,_,_=>by cases a
 | .val _ _:: _,[],_,_,_,_,a,_,_=>by cases a
 | .own _ _:: _,[],_,_,_,_,a,_,_=>by cases a
 | .obox _ _:: _,[],_,_,_,_,a,_,_=>by cases a
 | .rows _ _ _:: _,[],_,_,_,_,a,_,_=>by cases a
 | .rows v n o::rs,ac::ss,_,r,c,⟨ad,ae,e,Q,R⟩,A,z,F=>by
  simp only[IY,bind_some,qN]at A;obtain⟨G,⟨q,l,s⟩,ai,g,rfl⟩:=A;subst e;obtain⟨a2,s⟩:=E4 s;have ah:=qT a2;have X:ac=⟨false,[.row q]⟩:=by
   unfold TW at l;split at l
   . cases l;rfl
   . cases l
  subst X;obtain⟨_,_,N,t,_⟩:=Q;cases N;have t:ad=B q:=t;subst t;obtain⟨al,D⟩:=Jv s;have x:=h.locs q;rw[D]at x;have U:=x.rowsR;have y:∀b,B8 w (B q) (.rows v n o G [] none) b->B8 w (B q) (st.L q) b:=fun b a=>by rw[D];exact(Aq fun _ _=>rfl).1 a
  simp only[Oq,Cf,Rz,qC,yZ,vR,rO]at F;obtain⟨⟨aa,H⟩,ab⟩:=F;have Y:Dc (.rows v n o::rs) (⟨false,[.row q]⟩::ss)=q::Dc rs ss:=rfl;rw[Y]at z⊢;have a1:=sG.1 z;obtain⟨O,P⟩:=Oj h f (c.imp id fun j=>by simp only[tA,qC]at j;exact j.2) R g a1.2 ab;have V:Ma w Zn v n o (B q) G:=by
   obtain⟨ag,a6,a7,a8,a9⟩:=U;refine⟨ag,a6,fun a5 I af W a3=>(a7 a5 I af W a3).imp fun aj g=>⟨g.1, ?_⟩,a8,a9⟩;rcases c with c|c
   . exact g.2.mono fun _ _=>C7.mono c (fun _ _=>rfl)
   . simp only[tA,qC]at c;exact g.2.mono fun _ _ j=>C7.flat c.1 j
  refine⟨⟨B q,ae,rfl,⟨V,fun b a=> ?_⟩,fun _=>⟨⟨aa,fun _=>H⟩,fun b a u d=>by rw[Xj H]at d;cases d⟩,O⟩,fun u d b a=> ?_⟩
  . obtain⟨i,J,M⟩:=(h.locs q).root (y b a);refine⟨?_,fun a4=>M (f b a4),J⟩;rcases i with i|i
    . exact i.2
    . have:=h.nms.1;omega
  . simp only[Y7,qI]at d;rcases d with rfl|d
    . exact⟨q,by simp,y b (.inl a)⟩
    . obtain⟨k,a0,r⟩:=P u d b a;exact⟨k,qM _ a0,r⟩
 | .val g F::rs,s::ss,_,r,a,⟨v,G,e,t,x⟩,j,i,l=>by
  simp only[Oq,qC]at l;obtain⟨H,z⟩:=l;simp only[IY,bind_some,qN]at j;obtain⟨M,A,N,D,rfl⟩:=j;have y:Dc (.val g F::rs) (s::ss)=Dc rs ss:=by
   obtain⟨I,J⟩:=s;simp only[Dc]
  rw[y]at i⊢;obtain⟨n,o⟩:=Oj h f (a.imp id fun d=>by simp only[tA,qC]at d;exact d.2) x D i z;subst e;refine⟨⟨v,G,rfl, ?_,fun d=>(by cases d),n⟩,o⟩;have c:=Fv t A;rcases a with a|a
  . exact c.mono a (fun _ _=>rfl)
  . simp only[tA,qC]at a;cases g with
    |true=>obtain⟨cs,e,c⟩:=c;exact⟨cs,e,C7.flat a.1 c⟩
    |false=>exact C7.flat (cs:= [v]) a.1 c
 | .own y D::rs,ab::ss,_,r,g,⟨z,V,e,X,F⟩,M,l,P=>by
  simp only[Oq,Cf,Rz,qC,yZ,vR,g0p,g0l,Bool.and_true,rO]at P;obtain⟨N,O⟩:=P;simp only[IY,bind_some,qN]at M;obtain⟨a8,⟨n,j,a0⟩,ac,R,rfl⟩:=M;subst e;have Y:ab=⟨false,[n]⟩:=by
   unfold c1 at j;split at j
   . cases j;rfl
   . cases j
  subst Y;obtain⟨_,_,W,a4,_⟩:=X;cases W;obtain⟨A,x,U,a9,aa⟩:=SJ h a4 a0;have a6:=F9 x;have G:G7 (C7 y w Zn) A a8:=by
   rcases g with g|g
   . exact U.mono fun _ _=>C7.mono g (fun _ _=>rfl)
   . simp only[tA,qC]at g;exact U.mono fun _ _ d=>C7.flat g.1 d
  have H:(∀b,Z b->Zn b)\/rs.all A5w=true:=g.imp id fun d=>by simp only[tA,qC]at d;exact d.2
  rcases aa with⟨q,rfl,I,Q⟩ | ⟨a2,a1⟩
  . have s:Dc (.own y D::rs) (⟨false,[.row q]⟩::ss)=q::Dc rs ss:=rfl;rw[s]at l⊢;have J:=sG.1 l;obtain⟨o,i⟩:=Oj h f H F R J.2 O;refine⟨⟨z,V,rfl,⟨A,x,G,fun b a a7=>a9 b a (f b a7)⟩,fun _=>⟨⟨N,fun d=>(by cases d)⟩,fun b a u c hub=> ?_⟩,o⟩,fun u c b a=> ?_⟩
    . obtain⟨k,t,a5⟩:=i u c b hub;have a3:root (B q)=some b:=by rw[<-Q];exact a
      exact h.disj q k b (fun d=>J.1 (d▸t)) (B8.of I a3) a5
    . simp only[Y7,qI]at c;rcases c with rfl|c
      . exact⟨q,by simp,B8.of I (by rw[<-Q];exact a)⟩
      . obtain⟨k,t,r⟩:=i u c b a;exact⟨k,qM _ t,r⟩
  . have s:Dc (.own y D::rs) (⟨false,[n]⟩::ss)=Dc rs ss:=by cases n<;>first|rfl|exact absurd rfl (a1 _)
    rw[s]at l⊢;obtain⟨o,i⟩:=Oj h f H F R l O;have v:∀b,root z≠some b:=fun b a=>by rw[a2]at a;cases a
    refine⟨⟨z,V,rfl,⟨A,x,G,fun b a=>absurd (a6.trans a) (v b)⟩,fun _=>⟨⟨N,fun d=>(by cases d)⟩,fun b a=>absurd a (v b)⟩,o⟩,fun u c b a=> ?_⟩;simp only[Y7,qI]at c;rcases c with rfl|c
    . exact absurd a (v b)
    . exact i u c b a
 | .obox T M::rs,ab::ss,_,r,a,⟨ac,ad,e,V,W⟩,G,D,J=>by
  simp only[Oq,Cf,Rz,qC,yZ,vR,g0p,g0l,Bool.and_true,rO]at J;obtain⟨a5,a6⟩:=J;simp only[IY,bind_some,qN]at G;obtain⟨ae,⟨q,l,t⟩,ag,a9,rfl⟩:=G;subst e;obtain⟨a3,t⟩:=E4 t;have a0:ab=⟨false,[.box q 0]⟩:=by
   unfold fJ at l;split at l
   . cases l;rfl
   . cases l
  subst a0;obtain⟨_,_,R,⟨i,x,o⟩,_⟩:=V;cases R;obtain⟨cs,H,a4⟩:=BN t;have z:=h.locs q;rw[H]at z;obtain⟨af,N,v,j,O,P,Q⟩:=z;rw[v]at x;cases x;have I:=Hz Q a4;have a7:C7 M w Zn N.toList ae:=by
   rcases a with a|a
   . exact C7.mono a (fun _ _=>rfl) I
   . simp only[tA,qC]at a;exact C7.flat a.1 I
  have a1:(∀b,Z b->Zn b)\/rs.all A5w=true:=a.imp id fun d=>by simp only[tA,qC]at d;exact d.2
  have a2:Dc (.obox T M::rs) (⟨false,[.box q 0]⟩::ss)=q::Dc rs ss:=rfl;rw[a2]at D⊢;have F:=sG.1 D;obtain⟨U,y⟩:=Oj h f a1 W a9 F.2 a6;have X:w0.heap.size<=i:=by
   rcases j with j|j
   . exact j.2
   . have:=h.nms.1;have:=qT a3;omega
  have A:∀n,root (Value.pointer (some ⟨i,0,none⟩))=some n->B8 w (B q) (st.L q) n:=fun n Y=>by rw[H,v];exact Y
  refine⟨⟨ac,ad,rfl,⟨i,N,o,X,fun aa=>O (f i aa),P,a7⟩,fun _=>⟨⟨a5,fun d=>(by cases d)⟩,fun b c u g hub=> ?_⟩,U⟩,fun u g b c=> ?_⟩
  . obtain⟨k,s,a8⟩:=y u g b hub;rw[o]at c;exact h.disj q k b (fun d=>F.1 (d▸s)) (A b c) a8
  . simp only[Y7,qI]at g;rcases g with rfl|g
    . rw[o]at c;exact⟨q,by simp,A b c⟩
    . obtain⟨k,s,r⟩:=y u g b c;exact⟨k,qM _ s,r⟩
def C1.settleM:∀ {as:List AM} {st:St} {j:Nat} {Z:Nat->Prop},C1 za w0 st E w Z B->∃Z',C1 za w0 (settleM st as j) E w Z' B
 | [],st,_,Z,h=>⟨Z,h⟩
 | .row _ _::r,st,j,Z,h=>C1.settleM (as:=r) h
 | .val _ _::r,st,j,Z,h=>C1.settleM (as:=r) h
 | .fn _ _ _::r,st,j,Z,h=>C1.settleM (as:=r) h
 | .rows _ _ _::r,st,j,Z,h=>C1.settleM (as:=r) h
 | .box _ _::r,st,j,Z,h=>by
  simp only[Vc.settleM];split
  . obtain⟨Z1,a⟩:=h.settle _;exact C1.settleM (as:=r) a
  . exact C1.settleM (as:=r) h
def Wu (h:C1 za w0 st E w Z B) {Zn:Nat->Prop} :∀ {as:List AM} {vs:List Value} {o:Qe as} {j:Nat},((∀b,Z b->Zn b)\/as.all C1m=true)->(∀m u,(E1 as vs)[m]? =some u->B (j+m)=u)->(∀m p,(Q5 as vs)[m]? =some p->∀b,up za w0 (j+m) b->B8 w0 p.2 (lcA p.1) b)->vs.length=as.length->dS st as j=some o->Zq w0 w Zn as vs o
 | [],_,_,_,_,_,_,_,_=>trivial
 |a::r,[],_,_,_,_,_,c,_=>by simp at c
 | .val _ _::r,v::vs,o,j,g,d,f,i,k=>Wu (as:=r) h (g.imp id fun c=>by simp only[tA,qC]at c;exact c.2) d f (by simpa using i) k
 | .fn _ _ _::r,v::vs,o,j,g,d,f,i,k=>Wu (as:=r) h (g.imp id fun c=>by simp only[tA,qC]at c;exact c.2) d f (by simpa using i) k
 | .row D e::z,v::vs,o,j,c,k,s,t,n=>by
  simp only[dS,bind_some,qN]at n;obtain⟨F,x,G,y,rfl⟩:=n;have r:B j=v:=k 0 v (by simp[E1,M6]);have l:=h.locs j;rw[Oo x]at l;obtain⟨A,g,i,_⟩:=l;rw[r]at g;refine⟨⟨A,g, ?_⟩,Wu (as:=z) h (c.imp id fun d=>by simp only[tA,qC]at d;exact d.2) (fun m u f=>by rw[show j+1+m=j+(m+1)from by omega];exact k (m+1) u (by simpa[E1,M6]using f)) (fun m p f=>by rw[show j+1+m=j+(m+1)from by omega];exact s (m+1) p (by simpa[Q5,M6]using f)) (by simpa using t) y⟩;rcases c with c|c
  . exact i.mono fun _ _=>C7.mono c (fun _ _=>rfl)
  . simp only[tA,qC]at c;exact i.mono fun _ _ d=>C7.flat c.1 d
 | .box T I::F,v::vs,o,j,c,g,t,y,l=>by
  simp only[dS,bind_some,qN]at l;obtain⟨J,A,M,D,rfl⟩:=l;have s:B j=v:=g 0 v (by simp[E1,M6]);obtain⟨H,x,z⟩:=BN A;have i:=h.locs j;rw[x]at i;obtain⟨b,G,f,_,_,n,r⟩:=i;rw[s]at f;refine⟨⟨b,G,f,n, ?_⟩,Wu (as:=F) h (c.imp id fun k=>by simp only[tA,qC]at k;exact k.2) (fun m u d=>by rw[show j+1+m=j+(m+1)from by omega];exact g (m+1) u (by simpa[E1,M6]using d)) (fun m p d=>by rw[show j+1+m=j+(m+1)from by omega];exact t (m+1) p (by simpa[Q5,M6]using d)) (by simpa using y) D⟩;have:=Hz r z;rcases c with c|c
  . exact C7.mono c (fun _ _=>rfl) this
  . simp only[tA,qC]at c;exact C7.flat c.1 this
 | .rows P e A::O,v::vs,o,j,c,n,t,i,y=>by
  simp only[dS,bind_some,qN]at y;obtain⟨z,l,R,f,rfl⟩:=y;have r:B j=v:=n 0 v (by simp[E1,M6]);have s:=h.locs j;obtain⟨al,x⟩:=Jv l;rw[x]at s;have g:=s.rowsR;rw[r]at g;refine⟨⟨?_,fun b I=> ?_⟩,Wu (as:=O) h (c.imp id fun d=>by simp only[tA,qC]at d;exact d.2) (fun m u k=>by rw[show j+1+m=j+(m+1)from by omega];exact n (m+1) u (by simpa[E1,M6]using k)) (fun m p k=>by rw[show j+1+m=j+(m+1)from by omega];exact t (m+1) p (by simpa[Q5,M6]using k)) (by simpa using i) f⟩
  . rcases c with c|c
    . exact g.mono c
    . simp only[tA,qC]at c;obtain⟨Q,D,F,G,H⟩:=g;exact⟨Q,D,fun M N z i l=>(F M N z i l).imp fun U f=>⟨f.1,f.2.mono fun _ _ d=>C7.flat c.1 d⟩,G,H⟩
  . have J:B8 w (B j) (st.L j) b:=by rw[x,r];exact(Aq fun _ _=>rfl).1 I
    exact t 0 (.rows P e A,v) (by simp[Q5,M6]) b ((h.locs j).root J).1
variable {P:Program}
def Jq {n:Nat} :∀ {as:List AM} {vs:List Value} {x:A2 as} {i j s:Nat},Ap P w Z as vs x->i<=s->(∀m u,(E1 as vs)[m]? =some u->B (j+m)=u)->j+Lt as<=n->RD w Z B E (find (0, .dead) s (Jd P as x i j)).2 ((vs[s-i]?).getD undef)/\Qf n (find (0, .dead) s (Jd P as x i j)).2
 | [],_,_,_,_,_,_,_,_,_=>⟨trivial,trivial⟩
 |a::z,_,x,i,j,s,⟨v,F,e,g,f⟩,y,b,c=>by
  subst e;by_cases d:i=s
  . subst d;cases a with
    |val a t=>
     simp only[Jd,find,xN,qV,xO];exact⟨Cd.explode g,E7⟩
    |row t e=>
     simp only[Jd,find,xN,qV,xO];have k:B j=v:=b 0 v (by simp[E1,M6]);exact⟨⟨v,[],rfl,k.symm,rfl⟩,fun l h=>by simp at h;subst h;simp only[Lt]at c;show j<n;omega⟩
    |box T A=>
     simp only[Jd,find,xN,qV,xO];have o:B j=v:=b 0 v (by simp[E1,M6]);obtain⟨l,D,h,_⟩:=g;exact⟨⟨v,[],rfl,⟨l,o.trans h,h⟩,rfl⟩,fun t k=>by simp at k;subst k;simp only[Lt]at c;show j<n;omega⟩
    |rows t e o=>
     simp only[Jd,find,xN,qV,xO];have k:B j=v:=b 0 v (by simp[E1,M6]);exact⟨⟨v,[],rfl,k.symm,rfl⟩,fun l h=>by simp at h;subst h;simp only[Lt]at c;show j<n;omega⟩
    |fn k o=>
     simp only[Jd,find,xN,qV,xO];exact⟨⟨v,[],rfl,g,rfl⟩,fun l h=>by simp at h;subst h;trivial⟩
  . have r:s-i=(s-(i+1))+1:=by omega
    rw[r];cases a with
    |val a t=>
     simp only[Jd,find,D3 d,rI,uI];exact Jq (i:=i+1) (s:=s) f (by omega) b c
    |fn h k=>
     simp only[Jd,find,D3 d,rI,uI];exact Jq (i:=i+1) (s:=s) f (by omega) b c
    |row t e=>
     simp only[Jd,find,D3 d,rI,uI];exact Jq (i:=i+1) (s:=s) f (by omega) (fun m u h=>by rw[show j+1+m=j+(m+1)from by omega];exact b (m+1) u (by simpa[E1,M6]using h)) (by simp only[Lt]at c;omega)
    |box t e=>
     simp only[Jd,find,D3 d,rI,uI];exact Jq (i:=i+1) (s:=s) f (by omega) (fun m u h=>by rw[show j+1+m=j+(m+1)from by omega];exact b (m+1) u (by simpa[E1,M6]using h)) (by simp only[Lt]at c;omega)
    |rows t e k=>
     simp only[Jd,find,D3 d,rI,uI];exact Jq (i:=i+1) (s:=s) f (by omega) (fun m u h=>by rw[show j+1+m=j+(m+1)from by omega];exact b (m+1) u (by simpa[E1,M6]using h)) (by simp only[Lt]at c;omega)
def A3e {n:Nat} {U:Nat->Nat->Prop} :∀ {as:List AM} {vs:List Value} {x:A2 as} {j k:Nat},Ap P w Z as vs x->(∀m p,(Q5 as vs)[m]? =some p->B (j+m)=p.2/\∀b,B8 w p.2 (lcA p.1) b->U (j+m) b)->
 RL (U k) w Z B k (find (0, .none) k (Fl as x j)).2/\Mw n (find (0, .none) k (Fl as x j)).2/\(live (find (0, .none) k (Fl as x j)).2->j<=k/\∃p,(Q5 as vs)[k-j]? =some p/\∀b,B8 w (B k) (find (0, .none) k (Fl as x j)).2 b->B8 w p.2 (lcA p.1) b):=by
 intro as
 induction as with
 |nil=>intro _ _ _ _ _ _;exact⟨trivial,trivial,fun h=>h.elim⟩
 |cons f r o=>
  intro vs x j k D c;obtain⟨v,y,e,h,i⟩:=D;subst e;have l:M6 f=true->j≠k->RL (U k) w Z B k (find (0, .none) k (Fl r x.2 (j+1))).2/\Mw n (find (0, .none) k (Fl r x.2 (j+1))).2/\(live (find (0, .none) k (Fl r x.2 (j+1))).2->j<=k/\∃p,(Q5 (f::r) (v::y))[k-j]? =some p/\∀b,B8 w (B k) (find (0, .none) k (Fl r x.2 (j+1))).2 b->B8 w p.2 (lcA p.1) b):=fun hm a=>by
   obtain⟨t,u,g⟩:=o (vs:=y) (x:=x.2) (j:=j+1) (k:=k) i (fun m p s=>by rw[show j+1+m=j+(m+1)from by omega];exact c (m+1) p (by simpa[Q5,hm]using s));refine⟨t,u,fun d=>⟨by have:=(g d).1;omega, ?_⟩⟩;obtain⟨E,p,z,A⟩:=g d;refine⟨p, ?_,A⟩;rw[show k-j=(k-(j+1))+1 from by omega];simpa[Q5,hm]using z
  cases f with
  |val f t=>exact o (x:=x.2) i c
  |fn f t=>exact o (x:=x.2) i c
  |row u s=>
   simp only[Fl,find];by_cases a:j=k
   . subst a;simp only[xN,qV];obtain⟨g,E⟩:=c 0 (.row u s,v) (by simp[Q5,M6]);obtain⟨F,t,z,A⟩:=h;have g:B j=v:=g;refine⟨⟨F,by rw[g];exact t,z,fun b d=> ?_⟩,trivial,fun _=>⟨qZ _,(.row u s,v),by simp[Q5,M6],fun b d=>by rw[g]at d;exact d⟩⟩;rw[g]at d;exact⟨E b ((F9 t).trans d),A b d⟩
   . simp only[D3 a,rI];exact l rfl a
  |box T t=>
   simp only[Fl,find];by_cases a:j=k
   . subst a;simp only[xN,qV];obtain⟨d,E⟩:=c 0 (.box T t,v) (by simp[Q5,M6]);obtain⟨b,F,g,u,z,A⟩:=h;have d:B j=v:=d;exact⟨⟨b,F,d.trans g,E b (by rw[g];rfl),u,z,V8 A⟩,E7,fun _=>⟨qZ _,(.box T t,v),by simp[Q5,M6],fun b s=>by rw[d]at s;exact s⟩⟩
   . simp only[D3 a,rI];exact l rfl a
  |rows u s t=>
   simp only[Fl,find];by_cases a:j=k
   . subst a;simp only[xN,qV];obtain⟨g,E⟩:=c 0 (.rows u s t,v) (by simp[Q5,M6]);obtain⟨z,A⟩:=h;have g:B j=v:=g;refine⟨Ma.rl (by rw[g];exact z) fun b d=> ?_,fun p F=>(by cases F),fun _=>⟨qZ _,(.rows u s t,v),by simp[Q5,M6],fun b d=>by rw[g]at d;exact(Aq fun _ _=>rfl).1 d⟩⟩;rw[g]at d;exact⟨E b ((Aq fun _ _=>rfl).1 d),A b d⟩
   . simp only[D3 a,rI];exact l rfl a
def Ap.len:∀ {as:List AM} {vs:List Value} {x:A2 as},Ap P w Z as vs x->vs.length=as.length
 | [],_,_,h=>by rw[show _= _ from h];rfl
 | _:: _,_,_,⟨v,b,e,_,a⟩=>by rw[e,rH,rH,Ap.len a]
def U2:∀ {as:List AM} {vs:List Value},vs.length=as.length->(E1 as vs).length=Lt as
 | [],vs,_=>by cases vs<;>rfl
 |a::r,[],h=>by simp at h
 | .val _ _::r,v::vs,h=>U2 (as:=r) (by simpa using h)
 | .fn _ _ _::r,v::vs,h=>U2 (as:=r) (by simpa using h)
 | .row _ _::r,v::vs,h=>by simp only[E1,M6,qV,rH,Lt];rw[U2 (as:=r) (by simpa using h)]
 | .box _ _::r,v::vs,h=>by simp only[E1,M6,qV,rH,Lt];rw[U2 (as:=r) (by simpa using h)]
 | .rows _ _ _::r,v::vs,h=>by simp only[E1,M6,qV,rH,Lt];rw[U2 (as:=r) (by simpa using h)]
def Ny:∀(as:List AM) (vs:List Value),E1 as vs=(Q5 as vs).map (·.2)
 | [],vs=>by cases vs<;>rfl
 | _:: _,[]=>rfl
 |a::r,v::vs=>by
  simp only[E1,Q5];cases M6 a
  . exact Ny r vs
  . simp only[qV,rZ,Ny r vs]
def Dis.get:∀ {l:List (AM×Value)} {m c b:Nat} {u a:AM×Value},Dis w l->m<c->l[m]? =some u->l[c]? =some a->B8 w u.2 (lcA u.1) b->¬B8 w a.2 (lcA a.1) b
 | [],_,_,_,_,_,_,_,h,_,_=>by simp at h
 |v::l,0,c+1,b,u,a,g,i,h,d,f=>by
  simp at h d;subst h;exact g.1 b f a (sU d)
 |v::l,m+1,c+1,b,u,a,g,i,h,d,f=>by
  simp at h d;exact Dis.get g.2 (by omega) h d f
 |v::l,_,0,_,_,_,_,d,_,_,_=>by omega
def ZR (as:List AM) (vs:List Value):Nat->Value:=fun j=>((E1 as vs)[j]?).getD (.bool false)
def GO:∀ {as:List AM} {vs:List Value} {x:A2 as},Ap P w Z as vs x->∀u∈E1 as vs,u.oneCell'=true
 | [],vs,_,_,u,a=>by cases vs<;>cases a
 | .val _ _::r,_,_,⟨v,c,e,_,a⟩,u,b=>by subst e;exact GO (as:=r) a u b
 | .fn _ _ _::r,_,_,⟨v,c,e,_,a⟩,u,b=>by subst e;exact GO (as:=r) a u b
 | .row t d::r,_,_,⟨v,f,e,⟨h,g,_⟩,c⟩,u,a=>by
  subst e;simp only[E1,M6,qV,qI]at a;rcases a with rfl|a
  . rcases g.2 with⟨b,_⟩ | ⟨_,_,_,b,_⟩<;>rw[b]<;>rfl
  . exact GO (as:=r) c u a
 | .rows t d f::r,_,_,⟨v,h,e,⟨⟨i,g,_⟩,_⟩,c⟩,u,a=>by
  subst e;simp only[E1,M6,qV,qI]at a;rcases a with rfl|a
  . rcases g.2 with⟨b,_⟩ | ⟨_,_,_,b,_⟩<;>rw[b]<;>rfl
  . exact GO (as:=r) c u a
 | .box t d::r,_,_,⟨v,h,e,⟨c,f,g,_⟩,b⟩,u,a=>by
  subst e;simp only[E1,M6,qV,qI]at a;rcases a with rfl|a
  . rw[g];rfl
  . exact GO (as:=r) b u a
def Jr:∀ {as:List AM} {x:A2 as} {j k:Nat},¬live (find (0, .none) k (Fl as x j)).2->(find (0, .none) k (Fl as x j)).2= .none
 | [],_,_,_,_=>rfl
 | .val _ _::r,x,j,k,h=>Jr (as:=r) (x:=x.2) (j:=j) h
 | .fn _ _ _::r,x,j,k,h=>Jr (as:=r) (x:=x.2) (j:=j) h
 | .row t b::r,x,j,k,h=>by
  simp only[Fl,find]at h⊢;cases a:Nat.beq j k with
  |true=>rw[a]at h;exact absurd trivial h
  |false=>rw[a]at h;exact Jr (as:=r) h
 | .rows t b c::r,x,j,k,h=>by
  simp only[Fl,find]at h⊢;cases a:Nat.beq j k with
  |true=>rw[a]at h;exact absurd trivial h
  |false=>rw[a]at h;exact Jr (as:=r) h
 | .box T t::r,x,j,k,h=>by
  simp only[Fl,find]at h⊢;cases a:Nat.beq j k with
  |true=>rw[a]at h;exact absurd trivial h
  |false=>rw[a]at h;exact Jr (as:=r) h
def C6f (w:World) (as:List AM) (vs:List Value):Nat->Nat->Prop:=fun k b=>∃p:AM×Value,(Q5 as vs)[k]? =some p/\B8 w p.2 (lcA p.1) b
def zn0 (w:World) (Z:Nat->Prop) (as:List AM) (vs:List Value):Zn:=⟨Z,pW w as vs,Lt as,ZR as vs,0,0,C6f w as vs,fun _ _ ⟨p,hp,hb⟩=>⟨p,sU hp,hb⟩,[]⟩
def A6a {as:List AM} {vs:List Value} {x:A2 as} (J:∀b,Z b->b<w.heap.size) (h:Ap P w Z as vs x) (D:Dis w (Q5 as vs)):C1 (zn0 w Z as vs) w (ZD P as x) (TJ vs) w Z (ZR as vs):=by
 have O:=U2 (Ap.len h);have z:∀m u,(E1 as vs)[m]? =some u->ZR as vs (0+m)=u:=fun m u a=>by simp only[ZR,sF,a,uZ]
 have g:∀(m:Nat) (p:AM×Value),(Q5 as vs)[m]? =some p->(E1 as vs)[m]? =some p.2:=fun m p a=>by rw[Ny,vD,a];rfl
 have d:=fun k=>A3e (P:=P) (w:=w) (Z:=Z) (B:=ZR as vs) (n:=Lt as) (U:=fun k b=>up (zn0 w Z as vs) w k b) (j:=0) (k:=k) h (fun m p a=>⟨z m p.2 (g m p a),fun b l=> .inr ⟨by have:=IR (g m p a);simp only[sF];show m<Lt as;omega,p,by simpa using a,l⟩⟩)
 have A:=fun s=>Jq (P:=P) (w:=w) (Z:=Z) (B:=ZR as vs) (E:=TJ vs) (n:=Lt as) (i:=0) (j:=0) (s:=s) h (rM _) z (by omega)
 refine⟨Jo.of (T8.refl w),J,fun s=>(A s).1,fun k=>(d k).1,fun k o b Q r t=> ?_,fun s=>(A s).2,fun k=>(d k).2.1,fun k F=> ?_,fun k=> ?_,fun b l=> .inl l,⟨rfl,qZ _⟩,fun _ _=>rfl,⟨rM _,fun _ _ _ _=>rM _⟩,trivial,fun M H=>(by cases H)⟩
 . obtain⟨_,p,c,v⟩:=(d k).2.2 r.live;obtain⟨_,R,f,y⟩:=(d o).2.2 t.live;simp only[g2b]at c f;rcases sE k o with I|N
   . exact D.get I c f (v b r) (y b t)
   . exact D.get (by omega:o<k) f c (y b t) (v b r)
 . by_cases G:live ((ZD P as x).L k)
   . obtain⟨_,p,c,_⟩:=(d k).2.2 G;simp only[g2b]at c;have:=IR (g k p c);have F:Lt as<=k:=F;omega
   . exact Jr G
 . simp only[ZR];cases a:(E1 as vs)[k]? with
   |none=>rfl
   |some u=>exact GO h u (sU a)
def B4x {f:FuncId} {fn:Func} {c:Code} {s:A6} (a0:cx.P.funcs[f]? =some fn) (a:fn.body=some c) (a1:s.args.length<=fn.ntmps) (a3:Af fn.ntmps c=true) (Q:I1 cx.P cx.tys=true) (a9:Ki cx.P sp)
 (ac:∀x,awf s.args x->s.pre x->C4f cx sp an s fn.results.toList c x):A7 cx.P f s:=by
 intro w Z i x ad H Y a5;have v:i.length=s.args.length:=H.len;have a8:=ac x H.awf a5;generalize k:zn0 w Z s.args i=za;have M:=A6a ad H Y;rw[k]at M;refine BP a0 a (by rw[v];exact a1) a3 (fun E l=>Nx za w (fin cx s fn.results.toList x) E l) ?_ ⟨fun a4 U G=> ?_⟩
 . rintro E l A ab ⟨st,Z',B',D,h⟩;unfold fin at h;split at h
   . rename_i ss af;split at h
     . rename_i ah aa;split at h
       . rename_i z R G a2;obtain⟨g,r⟩:=B9 h;simp only[qC]at g;obtain⟨Z0,X⟩:=C1.settleR (rs:=s.res) (ss:=ss) D;obtain⟨Z1,n⟩:=C1.settleM (as:=s.args) (j:=0) X;obtain⟨B,V,W⟩:=DJ Q n ab aa;have a7:(results fn A).run cx.P l= .ok (Yt B) l:=by
          have d:(fn.results.mapM (dU A)).run cx.P l= .ok B.toArray l:=by
           rw[xG];simp[V]
          have e:results fn A=(do let i<-fn.results.mapM (dU A);pure (if D:i.size=1 then i[0]else .tuple i)):=by
           unfold results;congr 1
          rw[e];simp only[Sem.run_bind,d,Result.andThen_ok,Sem.run_pure]
          match B with
          | []=>rfl
          | [u]=>rfl
          |u::ai::z=>rfl
         have O:s.post x z/\(O6 s.args=true->s.mpost x z R):=by
          unfold C3b at r;cases d:O6 s.args with
          |true=>simp only[d,qV]at r;exact⟨r.1,fun _=>r.2⟩
          |false=>simp only[d,rI]at r;exact⟨r,fun o=>by cases o⟩
         refine⟨_,a7, ?_,z,R,B,(fun b=>s.shared=true/\Z1 b),O.1,O.2,rfl,fun b a=> ?_, ?_, ?_⟩
         . have:=D.ext;rw[<-k]at this;exact this
         . rcases n.zin b a.2 with o|o
           . rw[<-k]at o;exact .inr ⟨a.1,o⟩
           . exact .inl ⟨o,n.zlt b a.2⟩
         . refine(Oj n (Zn:=fun b=>s.shared=true/\Z1 b) (fun b a=>a.2) ?_ W G (He g.1.1) g.1.2).1;cases I:s.shared with
           |true=>exact .inl fun b a=>⟨rfl,a⟩
           |false=>rw[I]at g;simp only[vR,qC]at g;exact .inr g.2.1
         . refine Wu (Zn:=fun b=>s.shared=true/\Z1 b) n (j:=0) ?_ (fun m u d=> ?_) (fun m p d b t=> ?_) v a2
           . cases I:s.shared with
             |true=>exact .inl fun b a=>⟨rfl,a⟩
             |false=>rw[I]at g;simp only[vR,qC]at g;exact .inr g.2.2
           . have y:=IR d;rw[U2 v]at y;have:=n.bfix m (by rw[<-k];exact y);rw[sF,this, <-k];show ZR s.args i m=u;simp only[ZR,d,uZ]
           . rw[<-k,sF]at t;rcases t with⟨t,_⟩ | ⟨_,ag,N,a⟩
             . have y:=IR (show(E1 s.args i)[m]? =some p.2 by rw[Ny,vD,d];rfl);rw[U2 v]at y;have t:Lt s.args<=m:=t;omega
             . rw[d]at N;cases N;exact a
       . exact h.elim
     . exact h.elim
   . exact h.elim
 . refine wp_mono (Xp Q a9 (by rw[<-k];rfl) M a8 a4 U G) ?_;rintro e ae l ⟨E',a6,T,Z',B',J,F⟩;refine⟨E',a6, ?_⟩;cases e with
   |normal=>exact⟨T,Z',B',J,F⟩
   |ret=>exact⟨T,Z',B',J,F⟩
   | _=>exact F.elim
def B4y {f:FuncId} {fn:Func} {c:Code} {s:A6} {a:A2 s.args->Prop} (g:cx.P.funcs[f]? =some fn) (b:fn.body=some c) (h:s.args.length<=fn.ntmps) (i:Af fn.ntmps c=true) (k:I1 cx.P cx.tys=true) (j:Ki cx.P sp)
 (d:∀x,C4f cx sp an s fn.results.toList c x=a x) (l:∀x,awf s.args x->s.pre x->a x):A7 cx.P f s:=
 B4x g b h i k j fun x n a=>by rw[d];exact l x n a
def C0e (P:Program) (tys:List (Nat×TI)) (sp:H8) (an:An) (s:A6) (fn:Func) (x:A2 s.args):Prop:=C4f ⟨P,tys⟩ sp an s fn.results.toList (fn.body.getD .skip) x
def B4z {P:Program} {tys:List (Nat×TI)} {sp:H8} {an:An} {f:FuncId} {fn:Func} {s:A6} {g:A2 s.args->Prop} (i:P.funcs[f]? =some fn) (b:fn.body.isSome=true) (j:Nat.ble s.args.length fn.ntmps=true) (k:Af fn.ntmps (fn.body.getD .skip)=true) (n:I1 P tys=true) (l:Ki P sp)
 (h:∀x,C0e P tys sp an s fn x=g x) (o:∀x,awf s.args x->s.pre x->g x):A7 P f s:=by
 cases a:fn.body with
 |none=>rw[a]at b;cases b
 |some c=>
  have d:fn.body.getD .skip=c:=by rw[a];rfl
  refine B4y (cx:=⟨P,tys⟩) (an:=an) (c:=c) i a (qT j) (by rw[<-d];exact k) n l (fun x=> ?_) o;rw[<-h x, <-d];rfl
def GW (a:Nat):Nat->List SV->List (Nat×Nat×DV)
 | _,[]=> []
 |i,s::b=>(i,a, .one s)::GW a (i+1) b
def mC (st:St) (ss:List SV):St:=⟨GW (st.ct+1) 0 ss,st.lc,st.nx,st.ct+1,st.nm,st.sl::st.fr⟩
def A4e (cx:Cx) (b:List ResultVar) (k:St->List SV->Prop) (st:St):Prop:=
 match st.fr with
 |f::a=>(match DI cx st b with
  |some b=>k ⟨f,st.lc,st.nx,st.ct,st.nm,a⟩ b
  |none=>False)
 | []=>False
def RE (cx:Cx) (b:List (Nat×H8×An)) (a:List ResultVar) (c:Code) (n d:Nat) (st:St) (ss:List SV) (k:St->List SV->Prop):Prop:=
 match Hp d b with
 |some (sp,an)=>bif Nat.ble ss.length n then Kc cx sp an c ⟨A4e cx a k,fun _ _=>False,A4e cx a k⟩ (mC st ss)else False
 |none=>False
def iM {g:List ResultVar} {k k':St->List SV->Prop} {ss:List SV} {a:St} (ev:C4 (mC st ss) a) (h:A4e cx g k a) (n:∀a f,C4 st a->k a f->k' a f):A4e cx g k' a:=by
 unfold A4e at h⊢;cases c:a.fr with
 |nil=>rw[c]at h;exact h
 |cons i j=>
  rw[c]at h;simp only at h⊢;split at h
  . have e:=ev.f;rw[c]at e;have e:P6 (st.ct+1) st.sl i/\Bt (st.ct+1) st.fr j:=e;refine n _ _ ⟨qW (uS _) ev.ct,fun s d b=> ?_,fun q d b=>ev.l q d (yL b),e.2.le (uS _)⟩ h;exact P6.find s e.1 (yL b)
  . exact h
def B4e (f:List (Nat×H8×An)) (j:List ResultVar) (c:Code) (n:Nat) {st:St} {d:Nat} {ss:List SV} {k k':St->List SV->Prop} (h:RE cx f j c n d st ss k) (g:∀a i,C4 st a->k a i->k' a i):RE cx f j c n d st ss k':=by
 unfold RE at h⊢;split at h
 . obtain⟨l,h⟩:=B9 h;simp only[l,qV];refine SN h fun e a ev b=> ?_
   cases e with
   |normal=>exact iM ev b g
   |ret=>exact iM ev b g
   | _=>exact b
 . exact h
def TN (cx:Cx) (a:List (Nat×H8×An)) (b:List ResultVar) (c:Code) (n:Nat):Inl:= {run:=RE cx a b c n,step:=B4e a b c n}
def OJ {c s:Nat} :∀ {ss:List SV} {i:Nat},(find (0, .dead) s (GW c i ss)).2=if i<=s then(match ss[s-i]? with|some v=> .one v|none=> .dead)else .dead
 | [],i=>by simp[GW,find]
 |v::ss,i=>by
  simp only[GW,find];cases b:Nat.beq i s with
  |true=>
   have:=qE b;subst this;simp
  |false=>
   have d:i≠s:=uW b;simp only[rI,OJ (ss:=ss) (i:=i+1)];by_cases a:i+1<=s
   . rw[qP a,qP (by omega),show s-i=(s-(i+1))+1 from by omega,uI]
   . rw[qL a,qL (by omega)]
def Tc.len {w:World} {Z:Nat->Prop} {B:Nat->Value} :∀ {ss:List SV} {vs:List Value},Tc w Z B ss vs->vs.length=ss.length
 | [],_,h=>by rw[show _= _ from h];rfl
 | _:: _,_,⟨v,b,e,_,a⟩=>by rw[e,rH,rH,Tc.len a]
def SH (h:C1 za w0 st E w Z B):∀ {f:List ResultVar} {ss:List SV},DI cx st f=some ss->∀s∈ss,Mx st.nx s
 | [],_,a=>by cases a;intro s a;cases a
 | .tmp t::r,ss,a=>by
  simp only[DI]at a;split at a
  . rename_i g d;simp only[qN]at a;obtain⟨i,c,rfl⟩:=a;intro s b;rcases qI.1 b with rfl|b
    . have:=h.refs t;rw[d]at this;exact this
    . exact SH h c s b
  . cases a
 | .cell g t::r,ss,a=>by
  simp only[DI,qK,bind_some]at a;obtain⟨ti,_,a⟩:=a;split at a
  . rename_i k _;split at a
    . rename_i T i c;obtain⟨_,a⟩:=E4 a;simp only[qN]at a;obtain⟨j,d,rfl⟩:=a;intro s b;rcases qI.1 b with rfl|b
      . have:=h.refl k;rw[c]at this;exact this
      . exact SH h d s b
    . cases a
  . cases a
def A5d (P:Program) (a:List (Nat×H8×An)):Prop:=∀x∈a,Ki P x.2.1
def fV {b:Type} {d:Nat} {x:b} :∀ {l:List (Nat×b)},Hp d l=some x->(d,x)∈l
 | [],h=>by cases h
 | (t,y)::l,h=>by
  simp only[Hp]at h;cases a:Nat.beq t d with
  |true=>
   rw[a]at h;have:=qE a;subst this;cases h;simp
  |false=>rw[a]at h;exact qM _ (fV h)
def KF {f:FuncId} {fn:Func} {c:Code} {r:List (Nat×H8×An)} (X:cx.P.funcs[f]? =some fn) (V:fn.body=some c) (a5:Af fn.ntmps c=true) (I:I1 cx.P cx.tys=true) (l:A5d cx.P r):TC cx.P f (TN cx r fn.results.toList c fn.ntmps):=by
 refine {go:= ?_};intro za w0 st E w Z B N i k J W h G a9 d;have d:RE cx r fn.results.toList c fn.ntmps N st i J:=d;unfold RE at d;split at d
 . rename_i sp an a1;have l:=l _ (fV a1);simp only at l;obtain⟨x,d⟩:=B9 d;have x:=qT x;have a3:=G.len;have A:∀s,(mC st i).S s=match i[s]? with|some v=> .one v|none=> .dead:=fun s=>by
    show(find (0, .dead) s (GW (st.ct+1) 0 i)).2= _;rw[OJ,qP (rM _)];rfl
   have U:C1 {za with es:=E::za.es} w0 (mC st i) (TJ k) w Z B:=by
    refine⟨h.ext,h.zlt,fun s=> ?_,h.locs,h.disj,fun s=> ?_,h.refl,h.fresh,h.bone,h.zin,h.nms,h.bfix,h.mrk,⟨h.slots,h.frs⟩,fun H o s=> ?_⟩
    . rw[A];cases z:i[s]? with
      |none=>trivial
      |some v=>
       obtain⟨u,O,Q⟩:=G.get z;show RS w Z B v (TJ k s);simp only[TJ,O,uZ];exact Q
    . rw[A];cases z:i[s]? with
      |none=>trivial
      |some v=>exact a9 v (sU z)
    . rcases qI.1 o with rfl|o
      . exact h.refs s
      . exact h.frf H o s
   refine BP X V (by rw[a3];exact x) a5 (fun E' j=>Nx {za with es:=E::za.es} w0 (A4e cx fn.results.toList J) E' j) ?_ ⟨fun a6 M a7=> ?_⟩
   . rintro E' j n ab ⟨g,Z',B',a,b⟩;unfold A4e at b;have F:=a.frs;have t:=a.frf;cases D:g.fr with
     |nil=>rw[D]at b;exact b.elim
     |cons z O=>
      rw[D]at b F t;simp only at b;obtain⟨Y,a0⟩:=F;split at b
      . rename_i ac H;obtain⟨o,R,T⟩:=DJ I a ab H;have aa:(results fn n).run cx.P j= .ok (Yt o) j:=by
         have a4:(fn.results.mapM (dU n)).run cx.P j= .ok o.toArray j:=by
          rw[xG];simp[R]
         have e:results fn n=(do let k<-fn.results.mapM (dU n);pure (if h:k.size=1 then k[0]else .tuple k)):=by
          unfold results;congr 1
         rw[e];simp only[Sem.run_bind,a4,Result.andThen_ok,Sem.run_pure]
         match o with
         | []=>rfl
         | [u]=>rfl
         |u::af::ae=>rfl
        exact⟨_,aa,⟨z,g.lc,g.nx,g.ct,g.nm,O⟩,Z',B',ac,o,⟨a.ext,a.zlt,Y,a.locs,a.disj,fun s=>t z (by simp) s,a.refl,a.fresh,a.bone,a.zin,a.nms,a.bfix,a.mrk,a0,fun Q a2 s=>t Q (by simp[a2]) s⟩,rfl,T,SH a H,b⟩
      . exact b.elim
   . refine wp_mono (Xp I l (by exact W) U d a6 M a7) ?_;rintro e ad j ⟨E',a8,g,Z',B',a,y⟩;refine⟨E',a8, ?_⟩;cases e with
     |normal=>exact⟨g,Z',B',a,y⟩
     |ret=>exact⟨g,Z',B',a,y⟩
     | _=>exact y.elim
 . exact d.elim
def Hq (run:Inl):A6:= {args:= [],res:= [],pre:=fun _=>False,post:=fun _ _=>True,inl:=some run}
end
end Go.Vc
namespace Go.Proofs.YtiflhbllbgajeaaGreat
open Go.IntKind (i64 u64 u32)
abbrev Xr:=List Int
def nv:Xr->Nat
 | []=>0
 |a::l=>a.toNat+4294967296*nv l
def nc (n:Nat):Xr:=if h:n=0 then []else((n%4294967296:Nat):Int)::nc (n/4294967296)
termination_by n
decreasing_by omega
def lG (x:Int):Prop:=0<=x/\x<=4294967295
def A8 (l:Xr):Prop:=∀x∈l,lG x
def Q4:nc 0= []:=by rw[nc];rfl
def RQ {n:Nat} (h:n≠0):nc n=((n%4294967296:Nat):Int)::nc (n/4294967296):=by rw[nc];simp[h]
def F4 (n:Nat):nv (nc n)=n:=by
 induction n using Nat.strongRecOn with
 | _ n a=>
  by_cases h:n=0
  . subst h;rw[Q4];rfl
  . rw[RQ h];simp only[nv,a (n/4294967296) (by omega)];omega
def K6 (n:Nat):A8 (nc n):=by
 induction n using Nat.strongRecOn with
 | _ n b=>
  by_cases h:n=0
  . subst h;rw[Q4];intro x a;cases a
  . rw[RQ h];intro x a;rcases qI.1 a with rfl|a
    . unfold lG;omega
    . exact b (n/4294967296) (by omega) x a
def CL {n:Nat} :nc n= []↔n=0:=by
 constructor
 . intro h;by_cases a:n=0
   . exact a
   . rw[RQ a]at h;cases h
 . rintro rfl;exact Q4
def A6p (a:Int) (m:Nat) (b:lG a) (h:a≠0\/m≠0):nc (a.toNat+4294967296*m)=a::nc m:=by
 unfold lG at b;rw[RQ (by omega)];congr 1
 . omega
 . congr 1;omega
def Tw (a b:Xr):nv (a++b)=nv a+4294967296^a.length*nv b:=by
 induction a with
 |nil=>simp[nv]
 |cons x a c=>
  simp only[wJ,nv,c,rH,sA];rw[sY, <-uK, <-sO,tF 4294967296 (4294967296^a.length)]
def Tx (n:Nat):nv (List.replicate n 0)=0:=by
 induction n with
 |zero=>rfl
 |succ n a=>simp[List.replicate_succ,nv,a]
def ZH {a:Int} {l:Xr} :A8 (a::l)↔lG a/\A8 l:=by simp[A8]
def Ht {l:Xr} (h:A8 l):nv l<4294967296^l.length:=by
 induction l with
 |nil=>simp[nv]
 |cons b l a=>
  rw[ZH]at h;have:=a h.2;have a:=h.1;unfold lG at a;simp only[nv,rH,sA];omega
def C6r {l:Xr} (h:A8 l) (c:∀x,l.getLast? =some x->x≠0):nc (nv l)=l:=by
 induction l with
 |nil=>exact Q4
 |cons b l a=>
  rw[ZH]at h;simp only[nv];cases l with
  |nil=>
   have:=c b rfl;rw[A6p b _ h.1 (.inl this)];simp only[nv,Q4]
  |cons d l=>
   have a:=a h.2 (fun x hx=>c x (by rw[List.getLast?_cons_cons];exact hx));have g:nv (d::l)≠0:=by
    intro f;rw[f,Q4]at a;cases a
   rw[A6p b _ h.1 (.inr g),a]
def A6q {l:Xr} (h:A8 l) {n:Nat} (f:n<=l.length) (k:∀i x,n<=i->l[i]? =some x->x=0) (d:n=0\/∃x,l[n-1]? =some x/\x≠0):l.take n=nc (nv l):=by
 have e:nv l=nv (l.take n):=by
  conv=>lhs;rw[<-uG n l]
  rw[Tw];have:l.drop n=List.replicate (l.length-n) 0:=by
   apply vN;intro i;rw[xD];by_cases c:n+i<l.length
   . rw[qO c,tX,qP (by omega)];rw[k (n+i) l[n+i] (by omega) (qO c)]
   . rw[rQ (by omega),rQ (by simp;omega)]
  rw[this,Tx];simp
 rw[e]
 symm
 apply C6r
 . intro x a;exact h x (rS a)
 . intro x a;rw[List.getLast?_eq_getElem?,qU,sW f]at a;rcases d with b| ⟨y,g,j⟩
   . subst b;simp at a
   . rw[rU (by
      rcases vG n with b|b
      . subst b;simp at a
      . omega),g]at a
     cases a;exact j
def Hs {n k:Nat} (h:n<4294967296^k):(nc n).length<=k:=by
 induction k generalizing n with
 |zero=>have:n=0:=by simpa using h
        subst this;rw[Q4];exact qZ _
 |succ k b=>
  by_cases a:n=0
  . subst a;rw[Q4];exact rM _
  . rw[RQ a,rH];have:n/4294967296<4294967296^k:=by
     rw[tN (by decide)];rw[sA]at h;exact h
    have:=b this;omega
def D2 {l:Xr} (h:A8 l):(nc (nv l)).length<=l.length:=Hs (Ht h)
def B5e {n k:Nat} (h:k<(nc n).length):4294967296^k<=n:=by
 rcases sE n (4294967296^k)with a|a
 . have:=Hs a;omega
 . exact a
def L2 {m n:Nat} (h:m<=n):(nc m).length<=(nc n).length:=by
 apply Hs;have:=Ht (K6 n);rw[F4]at this;omega
def Ng (n:Nat):n<4294967296^(nc n).length:=by
 have:=Ht (K6 n);rwa[F4]at this
def Sc (m n:Nat):(nc (m*n)).length<=(nc m).length+(nc n).length:=by
 apply Hs;rw[uV];have a:=Ng m;have b:=Ng n;exact Nat.mul_lt_mul'' a b
def RP (m n:Nat):(nc (m+n)).length<=max (nc m).length (nc n).length+1:=by
 apply Hs;have a:=Ng m;have a:=Ng n;have a:4294967296^(nc m).length<=4294967296^(max (nc m).length (nc n).length):=rX (by decide) (Nat.le_max_left ..);have a:4294967296^(nc n).length<=4294967296^(max (nc m).length (nc n).length):=rX (by decide) (g4l ..);rw[sA];omega
abbrev Mn:=Bool×Xr
abbrev C0:=Mn×Xr
def Dt (a b:Nat):Int:=if a<b then -1 else if b<a then 1 else 0
def M0 (a b:Int):Int:=if a<b then -1 else if b<a then 1 else 0
def iv (x:Mn):Int:=if x.1=true then -(nv x.2:Int)else(nv x.2:Int)
def ic (v:Int):Mn:=(decide (v<0),nc v.natAbs)
def C4e (x:C0):Int:=if nv x.2=0 then 0 else(iv x.1).sign
def rv (x:C0):Rat:=mkRat (iv x.1) (nv x.2)
def rc (q:Rat):C0:=(ic q.num,nc q.den)
def J9 (x:C0):Prop:=nv x.1.2<2147483648/\nv x.2<2147483648
instance (x:C0):Decidable (J9 x):=by unfold J9;infer_instance
def Tv (x:C0):Int:=if nv x.2=0 then 0 else iv x.1
def Qa (x:C0):Int:=if nv x.2=0 then 1 else(nv x.2:Int)
def zi:Mn:=(false,[])
def zr:C0:=((false,[]),[])
def ri (k:Int):C0:=(ic k,[1])
abbrev Iu (l:Xr):Prop:=l.length<=35184372088832
abbrev E8 (l:Xr):Prop:=l.length<=17592186044416
abbrev Ad (l:Xr):Prop:=l.length<=8796093022208
def D8 (x:C0):Prop:=x.1.2.length<=2199023255552/\x.2.length<=2199023255552
def Gq (a b:Mn):Rat:=Rat.divInt (iv a) (iv b)
def L6 (n:Nat):Nat:=if n=0 then 0 else Nat.log2 n+1
def C3l (A B u0 u1 v0 v1:Int) (ev:Bool):Prop:=v0=0\/∃A' B':Int,A'=(if ev then u0*A-v0*B else v0*B-u0*A)/\B'=(if ev then v1*B-u1*A else u1*A-v1*B)/\0<=B'/\B'<=A'/\A=v1*A'+v0*B'/\B=u1*A'+u0*B'/\1<=v0/\1<=v1/\0<=u0/\0<=u1
def Pj (l:Xr):Prop:=l.getD (l.length-1) 0≠0
open Go.Vc Go.Gw
def J1 (a b:Bool):L8 a true b=(a||b):=by cases a<;>rfl
def J6 (a b:Bool):L8 a b false=(a&&b):=by cases a<;>rfl
def wr {a:Int} (b: -9223372036854775808<=a) (c:a<=9223372036854775807):i64.wrap a=a:=IntWalk.i64_in _ ⟨b,c⟩
def wv {a:Int} (h: -9223372036854775808<=a/\a<=9223372036854775807):i64.wrap a=a:=wr h.1 h.2
def H6 {a:Type} {d:a} {l:List a} {i:Int} (b:0<=i) (c:i<(l.length:Int)):gx d l i∈l:=sU (H1 b c)
def E5 {a:Type} {d:a} {l:List a} {i:Int} (b:0<=i) (c:i<(l.length:Int)):gx d l i=l.getD i.toNat d:=by
 have:=H1 (d:=d) b c;rw[qF,this];rfl
def Gy {b:Type} {d:b} {l:List b} {q:b->Prop} {i:Int} (c:0<=i) (f:i<(l.length:Int)) (g:∀x∈l.take i.toNat,q x) (h:q (gx d l i)):∀x∈l.take (i+1).toNat,q x:=by
 intro x a;rw[show(i+1).toNat=i.toNat+1 from by omega,rP,H1 (d:=d) c f]at a;simp at a;rcases a with a|rfl
 . exact g x a
 . exact h
def D4 {a:Type} {l:List a} {i:Int} (h:(l.length:Int)<=i):l.take i.toNat=l:=qX (by omega)
def XA:u32.max=4294967295:=by decide
def XB:u32.min=0:=by decide
def HD:u64.max=18446744073709551615:=by decide
def mQ:u64.min=0:=by decide
def GK:i64.max=9223372036854775807:=by decide
def Wv:i64.min= -9223372036854775808:=by decide
def A4 {l:Xr} (h:∀x∈l,u32.min<=x/\x<=u32.max):A8 l:=fun x a=>by
 have:=h x a;rw[XB,XA]at this;exact this
def Ac {a:Int} (b:0<=a) (c:a<=18446744073709551615):u64.wrap a=a:=IntWalk.u64_in _ ⟨b,c⟩
def w32 {a:Int} (b:0<=a) (c:a<=4294967295):u32.wrap a=a:=IntWalk.u32_in _ ⟨b,c⟩
def Dg (a:Int):u32.wrap a=a%4294967296:=IntKind.wrap_u32 a
def Dh (a:Int):u64.wrap a=a%18446744073709551616:=IntKind.wrap_u64 a
def Xa {l:Xr} (h:A8 l) {i:Int} (a:0<=i) (b:i<(l.length:Int)):0<=gx 0 l i/\gx 0 l i<=4294967295:=h _ (H6 a b)
def TQ {v:Int} (a:0<=v) (b:v<18446744073709551616):(BitVec.ofInt 64 v).toNat=v.toNat:=by
 rw[xX];congr 1;omega
def aO {v b:Int} {k:Nat} (v0:0<=v) (v1:v<2^k) (b0:0<=b) (c:b*2^k<18446744073709551616) (d:v<18446744073709551616):(((BitVec.ofInt 64 v|||BitVec.ofInt 64 (b*2^k)).toNat:Nat):Int)=v+b*2^k:=by
 have a:0<=b*2^k:=tK b0 (Int.pow_nonneg (by decide));rw[BitVec.toNat_or,TQ v0 d,TQ a c];have e:(b*2^k).toNat=b.toNat<<<k:=by
  rw[g4n,g3k b0 (Int.pow_nonneg (by decide)),Int.toNat_pow_of_nonneg (by decide)];rfl
 have c:v.toNat<2^k:=by
  have:(v.toNat:Int)<((2^k:Nat):Int):=by rw[sP v0,xK];exact v1
  exact sB.1 this
 rw[e,Nat.or_comm, <-g0a c, <-e,wW,sP v0,sP a,Int.add_comm]
def NT {l:Xr} {i:Int} (a:0<=i) (b:i<(l.length:Int)):nv (l.take (i+1).toNat)=nv (l.take i.toNat)+4294967296^i.toNat*(gx 0 l i).toNat:=by
 rw[show(i+1).toNat=i.toNat+1 from by omega,rP,H1 (d:=(0:Int)) a b,g0x,Tw,qU,sW (by omega)];simp[nv]
def Y4 {l:Xr} {i:Int} (a:0<=i) (b:i<(l.length:Int)):l.drop i.toNat=gx 0 l i::l.drop (i+1).toNat:=by
 have h:=H1 (d:=(0:Int)) a b;have a:i.toNat<l.length:=by omega
 rw[qO a]at h;rw[xI a,show(i+1).toNat=i.toNat+1 from by omega];congr 1;exact vX h
def lS {a b:Xr} (f:A8 a) (_:A8 b) (r:a.length=b.length) {i:Int} (c:0<=i) (d:i<(a.length:Int)) (j:a.drop (i+1).toNat=b.drop (i+1).toNat) (t:gx 0 a i<gx 0 b i):nv a<nv b:=by
 have k:nv a=nv (a.take i.toNat)+4294967296^i.toNat*nv (a.drop i.toNat):=by
  conv=>lhs;rw[<-uG i.toNat a,Tw,qU,sW (by omega)]
 have n:nv b=nv (b.take i.toNat)+4294967296^i.toNat*nv (b.drop i.toNat):=by
  conv=>lhs;rw[<-uG i.toNat b,Tw,qU,sW (by omega)]
 have s:=Xa f c d;have g:nv (a.drop i.toNat)+1<=nv (b.drop i.toNat):=by
  rw[Y4 c d,Y4 c (by omega),j];simp only[nv];omega
 have o:nv (a.take i.toNat)<4294967296^i.toNat:=by
  have:=Ht (l:=a.take i.toNat) fun x hx=>f x (rS hx)
  rwa[qU,sW (by omega)]at this
 have h:=sS (4294967296^i.toNat) g;rw[sY,xW]at h;omega
def GP {m n:Nat} (h:(nc m).length<(nc n).length):m<n:=by
 rcases sE m n with a|a
 . exact a
 . have:=L2 a;omega
def Xc:nc 1= [1]:=by rw[RQ (by decide)];simp[Q4]
def C3u:nv [1]=1:=rfl
def lR:nv []=0:=rfl
def gX (n:Nat):Dt n n=0:=by simp[Dt]
def Qp {m n:Nat} (h:m<n):Dt m n= -1:=by simp[Dt,h]
def WR {m n:Nat} (h:n<m):Dt m n=1:=by
 unfold Dt;rw[qL (by omega),qP h]
def ZS {m n:Nat} :Dt m n=0↔m=n:=by
 unfold Dt;split
 . omega
 . split<;>omega
def T9 (v:Int):iv (ic v)=v:=by
 unfold iv ic;simp only[rT,F4];split<;>omega
def B3z {neg:Bool} {m:Nat} :ic (iv (neg,nc m))=(neg&&decide (m≠0),nc m):=by
 unfold ic iv;simp only[F4];cases neg
 . simp
 . simp only[zX,xP,zY,vL];constructor
   . omega
   . congr 1;omega
def C6h {x:Mn} :ic (iv x)=(x.1&&decide (nv x.2≠0),nc (nv x.2)):=by
 have:iv x=iv (x.1,nc (nv x.2)):=by unfold iv;simp only[F4]
 rw[this,B3z]
def C4c (k:Int):nv (ri k).2=1:=rfl
def aZ (k:Int):rc (k:Rat)=ri k:=by
 unfold rc ri;rw[g2j,g2h,Xc]
def C6z (k:Int):rv (ri k)=(k:Rat):=by
 unfold rv;rw[C4c];show mkRat (iv (ic k)) 1= _;rw[T9];exact Rat.mkRat_one k
def D7 (q:Rat):rv (rc q)=q:=by
 unfold rv rc;simp only[T9,F4];exact g3b q
def B9z (x:C0):C4e x=(rv x).num.sign:=by
 unfold C4e rv;split
 . rename_i h;rw[h,yP];rfl
 . rename_i h;rw[Rat.num_mkRat,qL h];have b:(0:Int)<(((nv x.2).gcd (iv x.1).natAbs:Nat):Int):=by
    have:=g1q (iv x.1).natAbs (sV h);omega
   have c:(((nv x.2).gcd (iv x.1).natAbs:Nat):Int)∣iv x.1:=xY.2 (yK ..);obtain⟨d,a⟩:=c;generalize (((nv x.2).gcd (iv x.1).natAbs:Nat):Int)=g at b a;rw[a,xR _ (by omega),g3x,uO b,Int.one_mul]
def Qo {x:Int} {d:Nat} (a:d≠0):(mkRat x d).num=x/((d.gcd x.natAbs:Nat):Int)/\(mkRat x d).den=d/d.gcd x.natAbs:=by
 rw[Rat.num_mkRat,Rat.den_mkRat,qL a,qL a];exact⟨rfl,rfl⟩
def dg (l:Xr) (i:Nat):Nat:=(l.getD i 0).toNat
def J0 (l:Xr) (i:Nat):nv (l.take (i+1))=nv (l.take i)+4294967296^i*dg l i:=by
 unfold dg;by_cases h:i<l.length
 . have:=NT (l:=l) (i:=(i:Int)) (by omega) (by omega);rw[show((i:Int)+1).toNat=i+1 from by omega,qH]at this;rw[this,E5 (by omega) (by omega),qH]
 . rw[qX (by omega),qX (by omega),qF,rQ (by omega)];simp
def N6 {l:Xr} (h:A8 l) (i:Nat):dg l i<=4294967295:=by
 unfold dg;by_cases a:i<l.length
 . rw[qF,qO a];have:=h l[i] (wM a);unfold lG at this;simp only[uZ];omega
 . rw[qF,rQ (by omega)];simp
def Hc {l:Xr} (h:A8 l) {i:Int} (a:0<=i) (b:i<(l.length:Int)):gx 0 l i=(dg l i.toNat:Int):=by
 have:=Xa h a b;unfold dg;rw[<-E5 (d:=(0:Int)) a b];omega
def Ao {l:Xr} (h:A8 l) {i:Nat} :l.getD i 0=(dg l i:Int):=by
 unfold dg;by_cases a:i<l.length
 . have:=h l[i] (wM a);unfold lG at this;rw[qF,qO a];simp only[uZ];omega
 . rw[qF,rQ (by omega)];rfl
def Ry {l:Xr} {i:Nat} (h:l.length<=i):dg l i=0:=by
 unfold dg;rw[qF,rQ h];rfl
def U5 {l:Xr} {i:Nat} {v:Int} (h:i<l.length):nv ((l.set i v).take (i+1))=nv (l.take i)+4294967296^i*v.toNat:=by
 rw[J0,yW (qZ _)];unfold dg;rw[qF,tC h];rfl
def Lu:∀ {l:Xr} {k:Nat} {v:Int},k<l.length->nv (l.set k v)+4294967296^k*dg l k=nv l+4294967296^k*v.toNat
 | [],_,_,h=>by simp at h
 |a::l,0,v,_=>by simp[nv,dg];omega
 |a::l,k+1,v,h=>by
  have d:=Lu (l:=l) (k:=k) (v:=v) (by simpa using h);have e:dg (a::l) (k+1)=dg l k:=by simp[dg]
  rw[e];simp only[g3q,nv,sA];generalize nv (l.set k v)=A at*;have b:4294967296^k*4294967296*dg l k=4294967296*(4294967296^k*dg l k):=by rw[tF (4294967296^k) 4294967296,sO]
  have c:4294967296^k*4294967296*v.toNat=4294967296*(4294967296^k*v.toNat):=by rw[tF (4294967296^k) 4294967296,sO]
  rw[b,c,uK,uK, <-sY, <-sY,d]
def gR {l:Xr} {k:Nat} {v:Int} (h:A8 l) (b:lG v):A8 (l.set k v):=fun x a=>by
 rcases g1c a with a|a
 . exact h x a
 . rw[a];exact b
def BV {l:Xr} {k i:Nat} {v:Int} (a:k<l.length):dg (l.set k v) i=if i=k then v.toNat else dg l i:=by
 unfold dg;rw[qF,vE];by_cases h:k=i
 . subst h;rw[qP rfl,qP a,qP rfl];rfl
 . rw[qL h,qL (fun e=>h e.symm),qF]
def NK (n i:Nat):dg (List.replicate n 0) i=0:=by
 unfold dg;rw[qF,tX];split<;>rfl
def TP {l:Xr} {i:Nat} (h:∀j,i<=j->dg l j=0):nv (l.take i)=nv l:=by
 have b:∀k,nv (l.take (i+k))=nv (l.take i):=by
  intro k
  induction k with
  |zero=>rfl
  |succ k a=>rw[<-uK,J0,a,h (i+k) (by omega),wN,tD]
 rw[<-b l.length,qX (by omega)]
def iD {P A B o c a b s d:Nat} (h:o+P*c=A+B) (f:s+4294967296*d=c+a+b):(o+P*s)+(P*4294967296)*d=(A+P*a)+(B+P*b):=by
 have:=tL (P* ·) f;simp only[sY, <-sO]at this;omega
def ZT {P A B o c a b s d:Nat} (h:A+P*c=o+B) (f:a+4294967296*d=s+b+c):(A+P*a)+(P*4294967296)*d=(o+P*s)+(B+P*b):=by
 have:=tL (P* ·) f;simp only[sY, <-sO]at this;omega
def A9q {a b:Xr} (c:A8 a) (d:A8 b):nv a+nv b<4294967296^(max a.length b.length+1):=by
 have f:=Ht c;have h:=Ht d;have g:4294967296^a.length<=4294967296^(max a.length b.length):=rX (by decide) (Nat.le_max_left ..);have i:4294967296^b.length<=4294967296^(max a.length b.length):=rX (by decide) (g4l ..);rw[sA];generalize 4294967296^(max a.length b.length)=P at*;omega
def KA {P c x:Nat} (h:P*c<=x) (a:x<P):c=0:=by
 rcases vG c with a|a
 . exact a
 . have:=sS P a;omega
def Lr (l:Xr):iv (false,l)=(nv l:Int):=rfl
def ZG (l:Xr):iv (true,l)= -(nv l:Int):=rfl
def B4j (b:Bool) (l:Xr):iv (!b,l)= -iv (b,l):=by
 cases b
 . rfl
 . show(nv l:Int)= - -(nv l:Int);omega
def Ar (v:Int):(ic v).2.length=(nc v.natAbs).length:=rfl
def A3c:ic 1=(false,[1]):=by unfold ic;rw[show(1:Int).natAbs=1 from rfl,Xc];rfl
def kS:ic 0=(false,[]):=by unfold ic;rw[show(0:Int).natAbs=0 from rfl,Q4];rfl
def A7a:rc 0=((false,[]),[1]):=by
 unfold rc;rw[Rat.zero_num,Rat.zero_den,kS,Xc]
def oH {a:Mn} {b:Mn} (h:iv b=1):Gq a b=((iv a:Int):Rat):=by
 unfold Gq;rw[h];have:=zV (iv a) 1;rw[show((1:Nat):Int)=1 from rfl]at this;rw[this];exact Rat.mkRat_one _
def A8n {a:Mn} {b:Mn} (h:iv b=0):Gq a b=0:=by
 unfold Gq;rw[h,Rat.divInt_zero]
def C0a (x:C0):Gq x.1 (false,x.2)=rv x:=by
 unfold Gq rv;rw[Lr,zV]
structure dH (U V v1 v2 t u2 P:Nat):Prop where
 pos:0<P
 v1p:0<v1
 v1b:v1<4294967296
 v2b:v2<4294967296
 u2b:u2<4294967296
 vlo:(v1*4294967296+v2)*P<=V
 vhi:V<(v1*4294967296+v2+1)*P
 ulo:(t*4294967296+u2)*P<=U
 uhi:U<(t*4294967296+u2+1)*P
 lt:U<V*4294967296
variable {U V v1 v2 t u2 P:Nat}
def dH.vpos (h:dH U V v1 v2 t u2 P):0<V:=by
 have a:=h.vlo;have a:0<(v1*4294967296+v2)*P:=g4r (by have:=h.v1p;omega) h.pos;omega
def dH.quo (h:dH U V v1 v2 t u2 P):U/V<4294967296:=by
 rw[tN h.vpos,tF];exact h.lt
def A6h {a b c P Q:Nat} (f:0<P) (h:a*P<=Q) (g:Q<(b+1)*P) (d:c<=a):c<=b:=by
 have f:c*P<=a*P:=rJ _ d;have d:c*P<(b+1)*P:=by omega
 have:=xE d;omega
def dH.top (h:dH U V v1 v2 t u2 P):t*4294967296+u2<(v1*4294967296+v2+1)*4294967296:=by
 have a:=h.ulo;have a:=h.lt;have a:=rJ 4294967296 (wC h.vhi);have a:(t*4294967296+u2)*P<((v1*4294967296+v2+1)*4294967296)*P:=by
  have b:V*4294967296<(v1*4294967296+v2+1)*P*4294967296:=xA h.vhi (by decide);rw[zI];omega
 exact xE a
def dH.t_le (h:dH U V v1 v2 t u2 P):t<=v1*4294967296+v2:=by
 have:=h.top;omega
def dH.est (h:dH U V v1 v2 t u2 P):U/V*v1<=t:=by
 have a:U/V*V<=U:=yX U V;have b:U/V*(v1*4294967296+v2)*P<=U:=by
  rw[sO];exact qW (sS _ h.vlo) a
 have a:U/V*(v1*4294967296+v2)<=t*4294967296+u2:=A6h h.pos b h.uhi (qZ _);rw[sY, <-sO]at a;have:=h.u2b;omega
def dH.dec (h:dH U V v1 v2 t u2 P) {d r:Nat} (f:t=d*v1+r) (a:U/V<=d) (b:4294967296<=d\/r*4294967296+u2<d*v2):U/V+1<=d:=by
 rcases sE (U/V) d with a|a
 . omega
 . exfalso;have c:U/V=d:=by omega
   rcases b with b|b
   . have:=h.quo;omega
   . have a:d*V<=U:=by rw[<-c];exact yX U V
     have b:d*(v1*4294967296+v2)*P<=U:=by
      rw[sO];exact qW (sS _ h.vlo) a
     have a:d*(v1*4294967296+v2)<=t*4294967296+u2:=A6h h.pos b h.uhi (qZ _);rw[sY, <-sO,f,uJ]at a;omega
def dH.near (h:dH U V v1 v2 t u2 P) {d r:Nat} (c:t=d*v1+r) (g:d<4294967296) (a:d*v2<=r*4294967296+u2):d<=U/V+1:=by
 have a:=h.ulo;have b:d*(v1*4294967296+v2)<=t*4294967296+u2:=by
  rw[c,uJ,sY, <-sO];omega
 have c:d*(v1*4294967296+v2)*P<=U:=qW (rJ _ b) a;have a:d*V<=d*((v1*4294967296+v2+1)*P):=sS _ (wC h.vhi);have b:d*((v1*4294967296+v2+1)*P)=d*(v1*4294967296+v2)*P+d*P:=by
  rw[<-sO,sY d,xW,uJ]
 have f:d*P<V:=by
  have i:d*P<4294967296*P:=xA g h.pos;have g:4294967296*P<=(v1*4294967296+v2)*P:=rJ _ (by have:=h.v1p;omega);have:=h.vlo;omega
 have g:d*V<U+V:=xZ (qW a (g4a b)) (Nat.add_lt_add_of_le_of_lt c f);rcases vG d with a|a
 . rw[a];exact rM _
 . have a:(d-1)*V<U:=by
    have:d*V=(d-1)*V+V:=by
     conv=>lhs;rw[show d=d-1+1 from by omega,uJ,wT]
    omega
   have:=(vC h.vpos).2 (wC a);omega
def dH.out (h:dH U V v1 v2 t u2 P) {d r:Nat} (c:t=d*v1+r) (b:4294967296<=r) (a:U/V<=d):d<4294967296/\d*v2<=r*4294967296+u2:=by
 have a:=h.t_le;have a:=h.v2b;have b:d<4294967296:=by
  rcases sE d 4294967296 with a|a
  . exact a
  . have:=rJ v1 a;rw[tF 4294967296]at this;omega
 refine⟨b, ?_⟩;have a:d*v2<=4294967295*4294967295:=yO (by omega) (by omega);omega
def FZ:L6 0=0:=rfl
def jV (n:Nat):n<2^L6 n:=by
 unfold L6;split
 . rename_i h;subst h;decide
 . exact Nat.lt_log2_self
def FY {n:Nat} (h:n≠0):2^(L6 n-1)<=n/\1<=L6 n:=by
 unfold L6;rw[qL h,Nat.add_sub_cancel];exact⟨Nat.log2_self_le h,by omega⟩
def B7x {n k:Nat} (a:2^k<=n) (b:n<2^(k+1)):L6 n=k+1:=by
 have c:0<2^k:=tO (by decide);unfold L6;rw[qL (by omega)];congr 1;exact(Nat.log2_eq_iff (by omega)).2 ⟨a,b⟩
def NH {n k:Nat} (h:2^k<=n):L6 n=L6 (n/2^k)+k:=by
 have a:0<2^k:=tO (by decide);have c:n/2^k≠0:=by
  have:1<=n/2^k:=(vC a).2 (by omega);omega
 obtain⟨b,d⟩:=FY c;have c:=jV (n/2^k);have e:L6 (n/2^k)+k=(L6 (n/2^k)-1+k)+1:=by omega
 rw[e];apply B7x
 . rw[uV];have:=(vC a).1 b;exact this
 . rw[show L6 (n/2^k)-1+k+1=L6 (n/2^k)+k from by omega,uV];exact(tN a).1 c
def YD (p q:Rat):Int:=if p<q then -1 else if q<p then 1 else 0
def YE {a b:Int} {c d:Nat} (f:c≠0) (g:d≠0):YD (mkRat a c) (mkRat b d)=M0 (a*d) (b*c):=by
 have h:∀ {a b:Int} {c d:Nat},c≠0->d≠0->(mkRat a c<mkRat b d↔a*d<b*c):=fun {a b c d} f g=>by
  have i:(0:Rat)<(c:Rat):=g2i.2 (sV f);have j:(0:Rat)<(d:Rat):=g2i.2 (sV g);rw[zW,zW,Rat.div_lt_iff i,xB,wO,g4e _ (c:Rat), <-wO, <-xB,Rat.lt_div_iff j];have:(a:Rat)*(d:Rat)=((a*(d:Int):Int):Rat):=by rw[Rat.intCast_mul];rfl
  have i:(b:Rat)*(c:Rat)=((b*(c:Int):Int):Rat):=by rw[Rat.intCast_mul];rfl
  rw[this,i,Rat.intCast_lt_intCast]
 unfold YD M0;simp only[h f g,h g f]
def A8d {p q:Rat} (h:p.num.sign≠q.num.sign):YD p q=M0 p.num.sign q.num.sign:=by
 have l:=g3a p;have n:=g3a q;have e:YD p q=M0 (p.num*q.den) (q.num*p.den):=by
  have:=YE (a:=p.num) (b:=q.num) p.den_nz q.den_nz;rwa[g3b,g3b]at this
 rw[e];have j:(p.num*(q.den:Int)).sign=p.num.sign:=by rw[g3x,uO (show(0:Int)<q.den by omega),Int.mul_one]
 have k:(q.num*(p.den:Int)).sign=q.num.sign:=by rw[g3x,uO (show(0:Int)<p.den by omega),Int.mul_one]
 rw[<-j, <-k]at h⊢;generalize p.num*(q.den:Int)=x at*;generalize q.num*(p.den:Int)=y at*;have i:∀z:Int,(z<0/\z.sign= -1)\/(z=0/\z.sign=0)\/(0<z/\z.sign=1):=fun z=>by
  rcases zM z 0 with h|h|h
  . exact .inl ⟨h,xC h⟩
  . exact .inr (.inl ⟨h,by rw[h];rfl⟩)
  . exact .inr (.inr ⟨h,uO h⟩)
 unfold M0;rcases i x with⟨f,c⟩ | ⟨f,c⟩ | ⟨f,c⟩<;>rcases i y with⟨g,d⟩ | ⟨g,d⟩ | ⟨g,d⟩<;>rw[c,d]at h⊢ <;>first|exact absurd rfl h| (split<;>(try split)<;>(try split)<;>(try split)<;>omega)
structure Leh (X Y w x y u0 u1 u2 v0 v1 v2:Int) (ev:Bool):Prop where
 yx:y<=x
 y0:0<=y
 x0:0<x
 u10:0<=u1
 u20:0<=u2
 v10:0<=v1
 v20:1<=v2
 uv2:u2<=v2
 ex:x=if ev then v1*Y-u1*X else u1*X-v1*Y
 ey:y=if ev then u2*X-v2*Y else v2*Y-u2*X
 idX:x*v2+y*v1=X
 idY:x*u2+y*u1=Y
 det:u1*v2-u2*v1=if ev then -1 else 1
 /--At the start,or with what the cofactors before need. -/
 back:(u0=0/\u1=1/\v0=0/\v1=0/\ev=false/\u2=0/\v2=1)\/(0<=u0/\0<=v0/\u1<=v1/\v1<=x/\u0<=w/\v0<=w/\w-x>=v0+v1/\(v0=0\/u0<=v0)/\1<=v1/\
  w=(if ev then u0*X-v0*Y else v0*Y-u0*X)/\(u0*v1-u1*v0=if ev then 1 else -1))
def Leh.start {X Y:Int} (b:0<=Y) (h:Y<=X) (a:0<X):Leh X Y 0 X Y 0 1 0 0 0 1 false where
 yx:=h
 y0:=b
 x0:=a
 u10:=by decide
 u20:=by decide
 v10:=by decide
 v20:=by decide
 uv2:=by decide
 ex:=by simp
 ey:=by simp
 idX:=by omega
 idY:=by omega
 det:=by simp
 back:= .inl ⟨rfl,rfl,rfl,rfl,rfl,rfl,rfl⟩
def Leh.step {X Y w x y u0 u1 a v0 v1 v2:Int} {ev:Bool} (h:Leh X Y w x y u0 u1 a v0 v1 v2 ev) (c1:v2<=y) (G:v1+v2<=x-y):Leh X Y x y (x%y) u1 a (u1+x/y*a) v1 v2 (v1+x/y*v2) (!ev):=by
 have E:=h.v20;have j:0<y:=by omega
 have z:1<=x/y:=by
  rw[g1x j];have:=h.yx;omega
 have B:=g2d x (b:=y) (by omega);have D:=zF x j;have H:x=y*(x/y)+x%y:=(yF x y).symm;have i:x%y=x-x/y*y:=by rw[g1y (x/y)];omega
 have u:=h.idX;have v:=h.idY;have k:=h.det;have d:=h.ex;have f:=h.ey;have n:=h.u20;have l:=h.u10;have F:=h.v10;have o:=h.uv2;generalize x/y=q at*;have A:0<=q*a:=tK (by omega) n;have J:1*v2<=q*v2:=sI z (by omega);have I:q*a<=q*v2:=tT o (by omega);refine⟨xM D,B,j,n,Int.add_nonneg l A,by omega,by omega, ?_, ?_, ?_, ?_, ?_, ?_, .inr ⟨l,F,o,c1, ?_,by omega,by omega, ?_,E, ?_, ?_⟩⟩
 . rcases h.back with⟨_,c,_,g,_,r,s⟩ | ⟨_,_,c,_⟩
   . subst r s;omega
   . omega
 . cases ev<;>simpa using f
 . rw[i];cases ev
   . simp only[g0p,xP,vY,yC]at d f⊢;rw[d,f];grind
   . simp only[yZ,xP,vY,yC]at d f⊢;rw[d,f];grind
 . rw[i, <-u];grind
 . rw[i, <-v];grind
 . have t:a*(v1+q*v2)-(u1+q*a)*v2= -(u1*v2-a*v1):=by
    grind
   rw[t,k];cases ev<;>simp
 . rcases h.back with⟨_,c,_,g,_⟩ | ⟨_,_,c,_⟩<;>omega
 . rcases h.back with⟨_,c,_,g,_⟩ | ⟨_,_,c,_⟩
   . exact .inl g
   . exact .inr c
 . cases ev<;>simpa using d
 . rw[k];cases ev<;>simp
def Leh.apply {X Y w x y u0 u1 F v0 v1 v2:Int} {ev:Bool} (h:Leh X Y w x y u0 u1 F v0 v1 v2 ev) (o:v0≠0) {P a b A B:Int} (M:0<P) (l:0<=a) (N:a<P) (n:0<=b) (O:b<P) (g:A=X*P+a) (i:B=Y*P+b):
 ∃A' B':Int,A'=(if ev then u0*A-v0*B else v0*B-u0*A)/\B'=(if ev then v1*B-u1*A else u1*A-v1*B)/\0<=B'/\B'<=A'/\A=v1*A'+v0*B'/\B=u1*A'+u0*B'/\1<=v0/\1<=v1/\0<=u0/\0<=u1:=by
 rcases h.back with⟨_,_,s,_⟩ | ⟨r,I,G,U,R,T,J,E,H,f,d⟩
 . exact absurd s o
 have Q:u0<=v0:=E.resolve_left o;have k:=h.u10;refine⟨_,_,rfl,rfl, ?_, ?_, ?_, ?_,by omega,H,r,k⟩
 . --the second combination is not negative
   have c:=h.ex;have j:0<=(x-v1)*P:=tK (by omega) (by omega);have t:0<=u1*a:=tK k l;have u:v1*b<=v1*P:=tT (by omega) (by omega);have v:0<=v1*b:=tK (by omega) n;have z:u1*a<=u1*P:=tT (by omega) k;have D:u1*P<=v1*P:=sI G (by omega);rw[Int.sub_mul]at j;cases ev
   . simp only[vY,yC]at c⊢;have:u1*A-v1*B=x*P+u1*a-v1*b:=by
      rw[g,i,c];grind
     omega
   . simp only[xP]at c⊢;have:v1*B-u1*A=x*P+v1*b-u1*a:=by
      rw[g,i,c];grind
     omega
 . have c:=h.ex;have j:0<=(w-x-(v0+v1))*P:=tK (by omega) (by omega);have t:0<=(u0+u1)*a:=tK (by omega) l;have u:(v0+v1)*b<=(v0+v1)*P:=tT (by omega) (by omega);have v:0<=(v0+v1)*b:=tK (by omega) n;have z:(u0+u1)*a<=(u0+u1)*P:=tT (by omega) (by omega);have D:(u0+u1)*P<=(v0+v1)*P:=sI (by omega) (by omega);rw[Int.sub_mul]at j;cases ev
   . simp only[vY,yC]at c f⊢;have:v0*B-u0*A-(u1*A-v1*B)=(w-x)*P+(v0+v1)*b-(u0+u1)*a:=by
      rw[g,i,c,f];grind
     omega
   . simp only[xP]at c f⊢;have:u0*A-v0*B-(v1*B-u1*A)=(w-x)*P+(u0+u1)*a-(v0+v1)*b:=by
      rw[g,i,c,f];grind
     omega
 . cases ev
   . simp only[vY,yC]at d⊢;have:v1*(v0*B-u0*A)+v0*(u1*A-v1*B)= -(u0*v1-u1*v0)*A:=by
      grind
     rw[this,d];omega
   . simp only[xP]at d⊢;have:v1*(u0*A-v0*B)+v0*(v1*B-u1*A)=(u0*v1-u1*v0)*A:=by
      grind
     rw[this,d];omega
 . cases ev
   . simp only[vY,yC]at d⊢;have:u1*(v0*B-u0*A)+u0*(u1*A-v1*B)= -(u0*v1-u1*v0)*B:=by
      grind
     rw[this,d];omega
   . simp only[xP]at d⊢;have:u1*(u0*A-v0*B)+u0*(v1*B-u1*A)=(u0*v1-u1*v0)*B:=by
      grind
     rw[this,d];omega
def B3s {A B A' B' u0 u1 v0 v1 s t p q:Int} (a:A=v1*A'+v0*B') (b:B=u1*A'+u0*B') (c:A'=s*A+t*B) (d:B'=p*A+q*B):Int.gcd A B=Int.gcd A' B':=by
 apply Nat.dvd_antisymm
 . apply Int.dvd_gcd
   . rw[c];exact g2r (uQ (zT ..)) (uQ (zL ..))
   . rw[d];exact g2r (uQ (zT ..)) (uQ (zL ..))
 . apply Int.dvd_gcd
   . rw[a];exact g2r (uQ (zT ..)) (uQ (zL ..))
   . rw[b];exact g2r (uQ (zT ..)) (uQ (zL ..))
def HA {s:Nat} (a:s<=32):4294967296=2^s*2^(32-s):=by
 rw[<-uV,show s+(32-s)=32 from by omega]
def Nl (n:Nat):4294967296^n=2^(32*n):=by
 rw[show(4294967296:Nat)=2^32 from rfl, <-Nat.pow_mul]
def C0x {a low lo H P s:Nat} (b:0<P) (f:a=low+lo*P+H*(P*4294967296)) (g:low<P) (c:s<=31):a*2^s/(P*4294967296)=H*2^s+lo/2^(32-s):=by
 have c:0<P*4294967296:=g4r b (by decide);have d:0<2^s:=tO (by decide);have e:a*2^s=(low+lo*P)*2^s+H*2^s*(P*4294967296):=by
  rw[f,uJ,zI H]
 rw[e,yG _ _ c,wB];congr 1;have c:P*4294967296=P*2^(32-s)*2^s:=by rw[sO,tF (2^(32-s)), <-HA (by omega)]
 rw[c,zR _ _ d, <-vK,yG _ _ b,uB g,sF]
def B0e {a s m:Nat} (h:s<=m):a*2^s/2^m=a/2^(m-s):=by
 have b:0<2^s:=tO (by decide)
 conv=>lhs;rw[show m=m-s+s from by omega,uV,zR _ _ b]
def lO (l:Xr) (i:Nat) (h:i<=l.length):nv l=nv (l.take i)+4294967296^i*nv (l.drop i):=by
 conv=>lhs;rw[<-uG i l,Tw,qU,sW h]
def V9 {l:Xr} (h:A8 l) (i:Nat):nv (l.take i)<4294967296^i:=by
 have a:=Ht (l:=l.take i) fun x hx=>h x (rS hx)
 refine rF a (rX (by decide) ?_);rw[qU];exact g2e ..
def Xe (l:Xr) {n:Nat} (h:l.length<=n+1):nv l=nv (l.take n)+4294967296^n*dg l n:=by
 conv=>lhs;rw[<-qX h,J0]
def A6t (l:Xr) {n:Nat} (h:l.length<=n+2):nv l=nv (l.take n)+4294967296^n*(dg l (n+1)*4294967296+dg l n):=by
 rw[Xe l (n:=n+1) h,J0,sA,sY,tF (dg l (n+1)), <-sO];omega
def A6u (l:Xr) {n:Nat} (h:l.length<=n+3):nv l=nv (l.take n)+4294967296^n*((dg l (n+2)*4294967296+dg l (n+1))*4294967296+dg l n):=by
 rw[A6t l (n:=n+1) h,J0,sA];generalize 4294967296^n=P;grind
def A6i {a:Xr} (b:A8 a) {n:Nat} (c:a.length=n+1) {s:Nat} (d:s+L6 (dg a n)<=32):nv a*2^s<4294967296^(n+1):=by
 have c:=Xe a (n:=n) (by omega);have c:=V9 b n;have b:=jV (dg a n);have c:nv a<4294967296^n*2^L6 (dg a n):=by
  have:4294967296^n*(dg a n+1)<=4294967296^n*2^L6 (dg a n):=sS _ b;rw[sY,xW]at this;omega
 have b:nv a*2^s<4294967296^n*2^L6 (dg a n)*2^s:=xA c (tO (by decide));rw[sO, <-uV]at b;have c:2^(L6 (dg a n)+s)<=2^32:=rX (by decide) (by omega);have d:=sS (4294967296^n) c;rw[sA];exact rF b d
def gW {n:Nat} (h:n≠0):Pj (nc n):=by
 have a:(nc n).length≠0:=fun a=>h (CL.1 (qS a))
 unfold Pj;intro a;have b:=K6 n;have e:=Xe (nc n) (n:=(nc n).length-1) (by omega);have c:dg (nc n) ((nc n).length-1)=0:=by unfold dg;rw[a];rfl
 rw[c,wN,tD,F4]at e;have a:=V9 b ((nc n).length-1);rw[<-e]at a;have:=Hs a;omega
def SQ {l:Xr} (a:A8 l) (h:Pj l):dg l (l.length-1)≠0:=by
 unfold Pj at h;have:=Ao a (i:=l.length-1);rw[this]at h;omega
def bR {l:Xr} (b:A8 l) (h:Pj l):nv l≠0:=by
 have a:=SQ b h;have b:l.length≠0:=fun e=>by
  rw[qS e]at a;simp[dg]at a
 have e:=Xe l (n:=l.length-1) (by omega);have b:0<4294967296^(l.length-1):=tO (by decide);have b:=sS (4294967296^(l.length-1)) (sV a);omega
def A6j {V low P x:Nat} (h:V=low+P*x) (a:low<P):x*P<=V/\V<(x+1)*P:=by
 rw[uJ,wT,tF x,h];omega
def C2v {w v:Xr} (c:A8 w) (a:A8 v) {n:Nat} (b:v.length=n+2) (d:w.length=n+3) (h:dg v (n+1)≠0) (g:nv w<nv v*4294967296):dH (nv w) (nv v) (dg v (n+1)) (dg v n) (dg w (n+2)*4294967296+dg w (n+1)) (dg w n) (4294967296^n):=by
 have ev:=A6t v (n:=n) (by omega);have b:=A6u w (n:=n) (by omega);have d:=V9 a n;have f:=V9 c n;have i:=N6 a (n+1);have i:=N6 a n;have a:=N6 c n;exact⟨tO (by decide),sV h,by omega,by omega,by omega,(A6j ev d).1,(A6j ev d).2,(A6j b f).1,(A6j b f).2,g⟩
def B2w {l:Xr} (h:A8 l) (i:Nat):dg l i=nv l/4294967296^i%4294967296:=by
 have d:0<4294967296^i:=tO (by decide);by_cases a:i<l.length
 . have e:=lO l (i+1) (by omega);rw[J0]at e;have a:=V9 h i;have c:=N6 h i;have b:nv l=nv (l.take i)+(dg l i+4294967296*nv (l.drop (i+1)))*4294967296^i:=by
    rw[e,sA];generalize 4294967296^i=P;grind
   rw[b,yG _ _ d,uB a,sF,yT,tR (by omega)]
 . rw[Ry (by omega)];have a:=Ht h;have c:4294967296^l.length<=4294967296^i:=rX (by decide) (by omega);rw[uB (by omega)]
def B7w {l:Xr} (h:A8 l) (i:Nat):dg l (i/32)/2^(i%32)%2=nv l/2^i%2:=by
 rw[B2w h,Nl];have e:i=32*(i/32)+i%32:=by omega
 have a:(4294967296:Nat)=2^(i%32)*2^(32-i%32):=HA (by omega)
 conv=>rhs;rw[e,uV, <-vK]
 generalize nv l/2^(32*(i/32))=x;rw[a,Nat.mod_mul_right_div_self];have a:2^(32-i%32)=2*2^(31-i%32):=by rw[<-Nat.pow_succ'];congr 1;omega
 rw[a,Nat.mod_mul_right_mod]
def B2f {a b i:Nat} (j:b≠0):a/2^i=2*(a/2^(i+1))+a/2^i%2/\
 a/2^i/b=2*(a/2^(i+1)/b)+(if b<=2*(a/2^(i+1)%b)+a/2^i%2 then 1 else 0)/\
 a/2^i%b=2*(a/2^(i+1)%b)+a/2^i%2-(if b<=2*(a/2^(i+1)%b)+a/2^i%2 then b else 0):=by
 have k:a/2^(i+1)=a/2^i/2:=by rw[sA,vK]
 have f:a/2^i=2*(a/2^(i+1))+a/2^i%2:=by rw[k];omega
 refine⟨f, ?_⟩;have s:a/2^i%2<2:=wD _ (by decide);generalize a/2^i%2=d at*;generalize a/2^(i+1)=h at*;rw[f];have n:=wX h b;have t:=wD h (sV j);generalize h%b=r at*;generalize h/b=q at*;have l:2*h+d=b*(2*q)+(2*r+d):=by rw[<-n];grind
 rw[l,g2f (sV j),g2g];by_cases c:b<=2*r+d
 . rw[qP c,qP c];have o:2*r+d=b+(2*r+d-b):=by omega
   have g:(2*r+d)/b=1:=Nat.div_eq_of_lt_le (by omega) (by omega);refine⟨by rw[g], ?_⟩;have:=wX (2*r+d) b;rw[g]at this;omega
 . rw[qL c,qL c,uB (by omega),tR (by omega)];exact⟨rfl,by omega⟩
def C0g {q:Xr} (a:A8 q) {M i:Nat} (d:nv q=M*2^(i+1)) (f:i/32<q.length):∃b:Nat,dg q (i/32)=b*2^(i%32+1)/\nv (q.set (i/32) ((dg q (i/32)+2^(i%32):Nat):Int))=(2*M+1)*2^i:=by
 have e:i=32*(i/32)+i%32:=by omega
 have c:dg q (i/32)=(M*2^(i%32+1))%4294967296:=by
  rw[B2w a,d,Nl];congr 1;have a:i+1=32*(i/32)+(i%32+1):=by omega
  rw[a,uV,zQ,xV _ (tO (by decide))]
 refine⟨M%2^(31-i%32), ?_, ?_⟩
 . rw[c];have a:(4294967296:Nat)=2^(31-i%32)*2^(i%32+1):=by
    rw[<-uV,show 31-i%32+(i%32+1)=32 from by omega]
   conv=>lhs;rw[a]
   rw[Nat.mul_mod_mul_right]
 . have c:=Lu (l:=q) (k:=i/32) (v:=((dg q (i/32)+2^(i%32):Nat):Int)) f;rw[qH,d,Nl,sY]at c;have a:2^(32*(i/32))*2^(i%32)=2^i:=by rw[<-uV, <-e]
   rw[a]at c;have a:(2*M+1)*2^i=M*2^(i+1)+2^i:=by rw[sA];grind
   rw[a];omega
def QT {l:Xr} (h:A8 l) (i:Nat):dg l i=nv l/4294967296^i%4294967296:=by
 have d:0<4294967296^i:=tO (by decide);have a:=N6 h i;have f:=V9 h i;rcases sE i l.length with a|a
 . have b:=lO l (i+1) a;rw[J0,sA]at b;have c:nv l=nv (l.take i)+(dg l i+nv (l.drop (i+1))*4294967296)*4294967296^i:=by rw[b];grind
   rw[c,yG _ _ d,uB f,sF,Nat.add_mul_mod_self_right,tR (by omega)]
 . rw[Ry a];have b:=Ht h;have b:4294967296^l.length<=4294967296^i:=rX (by decide) a;rw[uB (by omega)]
def B0f {l:Xr} (h:A8 l) (i:Nat) {s:Nat} (a:s<=31):nv l/2^s/4294967296^i%4294967296=(dg l i+dg l (i+1)*4294967296)/2^s%4294967296:=by
 have d:0<2^s:=tO (by decide);have a:nv l/2^s/4294967296^i=nv l/4294967296^i/2^s:=by rw[vK,vK,tF]
 have b:dg l i+dg l (i+1)*4294967296=nv l/4294967296^i%(4294967296*4294967296):=by
  rw[Nat.mod_mul, <-QT h i,vK, <-sA, <-QT h (i+1),tF]
 rw[a,b];generalize nv l/4294967296^i=W;have c:W=W%(4294967296*4294967296)+2^s*(4294967296*(2^(32-s)*(W/(4294967296*4294967296)))):=by
  have a:=Nat.mod_add_div W (4294967296*4294967296);have b:=HA (s:=s) (by omega)
  conv=>lhs;rw[<-a]
  congr 1
  calc 4294967296*4294967296*(W/(4294967296*4294967296))=4294967296*(4294967296*(W/(4294967296*4294967296))):=sO ..
   _=(2^s*2^(32-s))*(4294967296*(W/(4294967296*4294967296))):=by rw[<-b]
   _= _:=by rw[sO,zQ (2^(32-s))]
 conv=>lhs;rw[c,g2w _ _ d,yT]
def iW {l:Xr} (h:A8 l) {k s:Nat} :nv l/2^(32*k+s)=nv (l.drop k)/2^s:=by
 rw[uV, <-Nl, <-vK];congr 1;have b:0<4294967296^k:=tO (by decide);rcases sE l.length k with a|a
 . rw[sD (by omega)];have c:=Ht h;have c:4294967296^l.length<=4294967296^k:=rX (by decide) (by omega);rw[uB (by omega)];rfl
 . have e:=lO l k a;have a:=V9 h k;rw[e,g2w _ _ b,uB a,sF]
def J5 (x:Mn):(iv x).natAbs=nv x.2:=by
 unfold iv;split<;>omega
def KM {a b:Xr} (c:A8 a) (d:A8 b):(nc (nv a*nv b)).length<=a.length+b.length:=by
 have f:=Sc (nv a) (nv b);have f:=D2 c;have c:=D2 d;omega
def KE {x y:Mn} (a:A8 x.2) (b:A8 y.2):(ic (iv x*iv y)).2.length<=x.2.length+y.2.length:=by
 rw[Ar,vS,J5,J5];exact KM a b
def ZA {x y:Mn} {k:Nat} (a:A8 x.2) (b:A8 y.2) (c:x.2.length<=k) (d:y.2.length<=k):(ic (iv x+iv y)).2.length<=k+1:=by
 rw[Ar];have e:(iv x+iv y).natAbs<=nv x.2+nv y.2:=by
  have:=g1e (iv x) (iv y);rwa[J5,J5]at this
 have h:=RP (nv x.2) (nv y.2);have c:=D2 a;have a:=D2 b;have c:=L2 e;omega
def pB (v:Int):A8 (ic v).2:=K6 _
def mF {V:Int} {D:Nat} (f:D≠0):rc (mkRat V D)=((decide (V<0),nc (V.natAbs/Nat.gcd V.natAbs D)),nc (D/Nat.gcd V.natAbs D)):=by
 obtain⟨j,i⟩:=Qo (x:=V) (d:=D) f;unfold rc;rw[j,i,wZ V.natAbs D];unfold ic;have g:((D.gcd V.natAbs:Nat):Int)∣V:=xY.2 (yK ..);have b:0<D.gcd V.natAbs:=g1q _ (sV f);generalize D.gcd V.natAbs=G at g b;obtain⟨c,rfl⟩:=g;rw[xR _ (by omega)];have k:(G:Int)*c<0↔c<0:=by
  constructor
  . intro h;rcases g3w c 0 with a|a
    . exact a
    . have:=tK (xM (sB.2 b)) a;omega
  . intro h;exact yR (by omega) h
 rw[vS,uE,xV _ b];simp only[k]
def B9v {V:Int} {D:Nat} (a:D≠0) (h:Nat.gcd V.natAbs D=1):rc (mkRat V D)=(ic V,nc D):=by
 rw[mF a,h,g2x,g2x];rfl
def RJ {a b:Int} {c d:Nat} (f:c≠0) (g:d≠0):mkRat a c+mkRat b d=mkRat (a*d+b*c) (c*d):=Rat.mkRat_add_mkRat a b f g
def A3m {a b:Int} {c:Nat} (d:c≠0):mkRat a c+mkRat b c=mkRat (a+b) c:=by
 rw[RJ d d, <-Int.add_mul,Rat.mkRat_mul_right d]
def Ol {x:C0} {n:Mn} {d:Xr} (h:(nv x.2=0->n=zi/\d= [1])/\(nv x.2≠0->n=x.1/\d=x.2)):nv d≠0/\rv x=mkRat (iv n) (nv d):=by
 rcases g3t (nv x.2=0)with a|a
 . obtain⟨rfl,rfl⟩:=h.1 a;refine⟨by decide, ?_⟩;unfold rv;rw[a,yP];exact(Rat.zero_mkRat _).symm
 . obtain⟨rfl,rfl⟩:=h.2 a;exact⟨a,rfl⟩
def Js {x:C0} {n:Mn} {d:Xr} {k:Nat} (h:(nv x.2=0->n=zi/\d= [1])/\(nv x.2≠0->n=x.1/\d=x.2)) (b:x.1.2.length<=k) (c:x.2.length<=k) (f:1<=k):n.2.length<=k/\d.length<=k:=by
 rcases g3t (nv x.2=0)with a|a
 . obtain⟨rfl,rfl⟩:=h.1 a;exact⟨by simp[zi],by simpa using f⟩
 . obtain⟨rfl,rfl⟩:=h.2 a;exact⟨b,c⟩
def C2z (A B:Nat):(A:Int)/(B:Int)=((A/B:Nat):Int)/\(A:Int)%(B:Int)=((A%B:Nat):Int):=⟨rfl,rfl⟩
def C2y {A B:Nat} (c:B≠0):(A%B=0-> -(A:Int)/(B:Int)= -((A/B:Nat):Int)/\ -(A:Int)%(B:Int)=0)/\(A%B≠0-> -(A:Int)/(B:Int)= -((A/B:Nat):Int)-1/\ -(A:Int)%(B:Int)=(B:Int)-((A%B:Nat):Int)):=by
 have b:=wX A B;have d:=wD A (sV c);have a:(A:Int)=(B:Int)*((A/B:Nat):Int)+((A%B:Nat):Int):=by
  rw[<-uL, <-wW,b]
 generalize A/B=Q at*;generalize A%B=M at*;refine⟨fun h=> ?_,fun h=> ?_⟩
 . subst h;refine(g2s (by omega)).2 ⟨?_,by omega,by omega⟩;rw[a];grind
 . refine(g2s (by omega)).2 ⟨?_,by omega,by omega⟩;rw[a];grind
def C2x {sa sb:Bool} {A B:Nat} (l:B≠0) {a b q m:Int} (f:a=if sa=true then -(A:Int)else A) (hb:b=if sb=true then -(B:Int)else B) (hq:q=if(sa !=sb)=true then -((A/B:Nat):Int)else((A/B:Nat):Int)) (hm:m=if sa=true then -((A%B:Nat):Int)else((A%B:Nat):Int)):
 (m<0->a%b=m+B/\(sb=true->a/b=q+1)/\(sb=false->a/b=q-1))/\(¬m<0->a%b=m/\a/b=q):=by
 obtain⟨g,i⟩:=C2y (A:=A) l;obtain⟨j,k⟩:=C2z A B;generalize o:A/B=Q at*;generalize n:A%B=M at*;cases sa<;>cases sb<;>simp at f hb hq hm<;>subst f hb hq hm<;>simp only[Int.ediv_neg,Int.emod_neg]
 . exact⟨fun h=>by omega,fun h=>⟨k,j⟩⟩
 . exact⟨fun h=>by omega,fun h=>⟨k,by rw[j]⟩⟩
 . refine⟨fun h=> ?_,fun h=> ?_⟩
   . obtain⟨c,d⟩:=i (by omega);exact⟨by rw[d];omega,⟨fun h=>absurd h (by decide),fun _=>c⟩⟩
   . obtain⟨c,d⟩:=g (by omega);exact⟨by rw[d];omega,c⟩
 . refine⟨fun h=> ?_,fun h=> ?_⟩
   . obtain⟨c,d⟩:=i (by omega);exact⟨by rw[d];omega,⟨fun _=>by rw[c];omega,fun h=>by cases h⟩⟩
   . obtain⟨c,d⟩:=g (by omega);exact⟨by rw[d];omega,by rw[c];omega⟩
def Om {q:C0} {k:Nat} (f:A8 q.1.2) (g:A8 q.2) (i:q.1.2.length<=k) (a:q.2.length<=k) (h:1<=k):(ic (rv q).num).2.length<=k/\(nc (rv q).den).length<=k:=by
 unfold rv;rcases g3t (nv q.2=0)with a|a
 . rw[a,yP];have b:(0:Rat).num=0:=rfl;have c:(0:Rat).den=1:=rfl;rw[b,c,kS,Xc];exact⟨rM _,h⟩
 . obtain⟨b,c⟩:=Qo (x:=iv q.1) (d:=nv q.2) a;have a:=D2 f;have f:=D2 g;rw[b,c,Ar];refine⟨?_,qW (L2 (wY _ _)) (by omega)⟩;refine qW (L2 ?_) (qW a i);rw[<-J5];exact xH _ _
def YZ {A:Int} {G:Nat} (b:0<G) (d:(G:Int)∣A):ic (A/(G:Int))=(decide (A<0),nc (A.natAbs/G)):=by
 obtain⟨c,rfl⟩:=d;rw[xR _ (by omega)];have f:(G:Int)*c<0↔c<0:=by
  constructor
  . intro h;rcases g3w c 0 with a|a
    . exact a
    . have:=tK (xM (sB.2 b)) a;omega
  . intro h;exact yR (by omega) h
 unfold ic;rw[vS,uE,xV _ b];simp only[f]
def KB {A B:Int} (a:0<B):Rat.divInt A B=mkRat A B.natAbs:=by
 rw[<-zV,show((B.natAbs:Nat):Int)=B from by omega]
def oI {A B:Int} (a:B<0):Rat.divInt A B=mkRat (-A) B.natAbs:=by
 rw[<-zV,show((B.natAbs:Nat):Int)= -B from by omega,Rat.neg_divInt_neg]
def B4v {A B:Int} (a:B≠0) {G:Nat} (b:G=Nat.gcd A.natAbs B.natAbs):0<G/\(B/(G:Int)<0↔B<0)/\(B<0->(ic (-(A/(G:Int))),(ic (-(B/(G:Int)))).2)=rc (Rat.divInt A B))/\(¬B<0->(ic (A/(G:Int)),(ic (B/(G:Int))).2)=rc (Rat.divInt A B)):=by
 have f:B.natAbs≠0:=by omega
 have a:0<G:=by rw[b];exact g1j _ (by omega)
 have d:(G:Int)∣A:=by rw[b];exact xY.2 (g4k ..)
 have c:(G:Int)∣B:=by rw[b];exact xY.2 (yK ..)
 refine⟨a, ?_,fun h=> ?_,fun h=> ?_⟩
 . have:=tL (·.1) (YZ a c);exact vL.1 this
 . rw[<-g3h d, <-g3h c,YZ a (Int.dvd_neg.2 d),YZ a (Int.dvd_neg.2 c),oI h,mF f,yM,yM,b]
 . rw[YZ a d,YZ a c,KB (by omega),mF f,b]
def oJ (q:Rat):Rat.divInt (-q.num) q.den= -q:=by
 have:=g1a (-q);rwa[g1g,g3e]at this
def A2v (p q:Rat):Rat.divInt (p.num*q.den+q.num*p.den) (p.den*q.den)=p+q:=by
 have a:=g3a p;have a:=g3a q;rw[<-Rat.divInt_add_divInt _ _ (by omega) (by omega),g1a,g1a]
def A2o {n k:Nat} (h:n<2^k):L6 n<=k:=by
 rcases vG n with a|a
 . rw[a,FZ];omega
 . have a:=(FY (n:=n) (by omega)).1;rcases sE k (L6 n)with a|a
   . have:2^k<=2^(L6 n-1):=rX (by decide) (by omega);omega
   . exact a
def A7z {n:Nat} (h:n≠0):L6 n=L6 (n/2)+1:=by
 rcases sE n 2 with a|a
 . have:n=1:=by omega
   subst this;decide+kernel
 . have:=NH (n:=n) (k:=1) a;rwa[Nat.pow_one]at this
def A5o {l:Xr} (h:A8 l):L6 (nv l)<=32*l.length:=by
 refine A2o ?_;rw[<-Nl];exact Ht h
def B2g {n:Nat} (h:n≠0):L6 n=L6 (dg (nc n) ((nc n).length-1))+32*((nc n).length-1):=by
 have a:(nc n).length≠0:=fun h0=>h (CL.1 (qS h0))
 have a:4294967296^((nc n).length-1)<=n:=B5e (by omega);have b:=Ng n;have c:0<4294967296^((nc n).length-1):=tO (by decide);rw[QT (K6 n),F4,Nl,tR]
 . exact NH (by rw[<-Nl];exact a)
 . rw[<-Nl,tN c,tF, <-sA,show((nc n).length-1).succ=(nc n).length from by omega];exact b
def A7w {z:Int} (a:0<=z) (b:z<4294967296):(BitVec.ofInt 32 z&&&BitVec.ofInt 32 1).toNat=z.toNat%2:=by
 rw[BitVec.toNat_and,xX,xX,show((1:Int)%((2^32:Nat):Int)).toNat=1 from by decide,Nat.and_one_is_mod];rw[show z%((2^32:Nat):Int)=z from by omega]
def B5q {d b s:Nat} (a:d=b*2^(s+1)) (g:d<4294967296) (c:s<=31):(BitVec.ofInt 32 (d:Int) |||BitVec.ofInt 32 ((2^s:Nat):Int)).toNat=d+2^s/\d+2^s<4294967296:=by
 have h:2^s<=2^31:=rX (by decide) c;have e:(BitVec.ofInt 32 (d:Int) |||BitVec.ofInt 32 ((2^s:Nat):Int)).toNat=d+2^s:=by
  rw[BitVec.toNat_or,xX,xX];rw[show((d:Int)%((2^32:Nat):Int)).toNat=d from by omega];generalize f:2^s=z at*;rw[show((z:Int)%((2^32:Nat):Int)).toNat=z from by omega,a, <-g4n];exact(g0a (by rw[<-f];exact Nat.pow_lt_pow_right (by decide) (by omega)) b).symm
 exact⟨e,by have:=(BitVec.ofInt 32 (d:Int) |||BitVec.ofInt 32 ((2^s:Nat):Int)).isLt;omega⟩
def kJ (l:Xr) (j i:Nat):dg (l.drop j) i=dg l (j+i):=by
 unfold dg;simp[List.getD,xD]
def GF {l:Xr} {k i:Nat} (h:i<k):dg (l.take k) i=dg l i:=by
 unfold dg;simp[List.getD,wK,h]
def Kn {l:Xr} (h:A8 l) (k:Nat):nv (l.take k)=nv l%4294967296^k:=by
 rcases sE k l.length with a|a
 . have e:=lO l k (by omega);rw[e,yT,tR (V9 h k)]
 . rw[qX a,tR];exact rF (Ht h) (rX (by decide) a)
def pZ {l:Xr} (h:A8 l) (j:Nat):nv (l.drop j)=nv l/4294967296^j:=by
 have:=iW h (k:=j) (s:=0);rw[tD,g4b,g2x, <-Nl]at this;exact this.symm
def C5y {u v:Xr} (d:A8 u) (f:A8 v) {j n:Nat} (c:n+2<=v.length) (a:nv v<4294967296^(n+2)) (k:dg v (n+1)≠0) (b:j+n+3<=u.length) (g:nv u<nv v*4294967296^(j+1)):dH (nv u/4294967296^j) (nv v) (dg v (n+1)) (dg v n) (dg u (j+n+2)*4294967296+dg u (j+n+1)) (dg u (j+n)) (4294967296^n):=by
 have c:0<4294967296^j:=tO (by decide);have b:nv u/4294967296^j<nv v*4294967296:=by
  rw[tN c,sO,tF 4294967296, <-sA];exact g
 have g:nv u/4294967296^j<4294967296^(n+3):=by
  rw[sA _ (n+2)];exact rF b (rJ _ (wC a))
 have i:A8 (v.take (n+2)):=fun x hx=>f x (rS hx)
 have c:A8 (u.drop j):=fun x hx=>d x (vF hx)
 have l:A8 ((u.drop j).take (n+3)):=fun x hx=>c x (rS hx)
 have ev:nv (v.take (n+2))=nv v:=by rw[Kn f,tR a]
 have a:nv ((u.drop j).take (n+3))=nv u/4294967296^j:=by rw[Kn c,pZ d,tR g]
 have h:=C2v (w:=(u.drop j).take (n+3)) (v:=v.take (n+2)) l i (n:=n) (by rw[qU];omega) (by rw[qU,sN];omega) (by rw[GF (by omega)];exact k) (by rw[ev,a];exact b);rw[ev,a,GF (by omega),GF (by omega),GF (by omega),GF (by omega),GF (by omega),kJ,kJ,kJ]at h;exact h
def B0k {o b U Pk P c a D x s t v:Nat} (h:o+P*(D*x)=U+Pk*c) (k:b+Pk*t=o+Pk*s) (g:t+4294967296*a=s+(D*v+c)) {Pi:Nat} (f:Pk=P*Pi):b+P*(D*(x+Pi*v))=U+Pk*4294967296*a:=by
 subst f;have d:=tL ((P*Pi)* ·) g;simp only[sY]at d⊢;have i:P*(D*(Pi*v))=P*Pi*(D*v):=by grind
 have j:P*Pi*(4294967296*a)=P*Pi*4294967296*a:=by grind
 omega
def A7r {o b U Pk P c a x s t v:Nat} (h:o+Pk*c=U+P*x) (k:b+Pk*t=o+Pk*s) (g:s+4294967296*a=c+(t+v)) {Pi:Nat} (f:Pk=P*Pi):b+Pk*4294967296*a=U+P*(x+Pi*v):=by
 subst f;have d:=tL ((P*Pi)* ·) g;simp only[sY]at d⊢;have i:P*(Pi*v)=P*Pi*v:=by grind
 have j:P*Pi*(4294967296*a)=P*Pi*4294967296*a:=by grind
 omega
def B2j {D v c t:Nat} (b:D<4294967296) (f:v<4294967296) (d:c<=D):D*v+c<=18446744069414584320/\(D*v+c)/4294967296+(if t<(D*v+c)%4294967296 then 1 else 0)<=D:=by
 have a:D*v<=D*4294967295:=sS _ (by omega);generalize D*v=p at*;split<;>omega
def B2e {B U P V e M a y z g t r o:Nat} (f:0<P) (i:0<V) (j:a+P*((e+1)*V)=U+M*B) (w:a<M*B) (v:e+1<=U/P/V+1) (A:y+M*g=a+P*V) (D:z+M*t=y+M*r) (l:t+g=r+B*o) (x:o<=1) (E:z<M*B):U/P/V=e/\z+P*(e*V)=U:=by
 have s:U/P/V<e+1:=by
  rw[tN i,tN f,tF];omega
 have b:U/P/V=e:=by omega
 have u:P*(e*V)<=U:=by
  rw[<-b,tF];exact qW (rJ _ (yX _ _)) (yX _ _)
 have k:P*((e+1)*V)=P*(e*V)+P*V:=by rw[uJ,wT,sY]
 rw[k]at j;have c:M*t+M*g=M*r+M*B*o:=by rw[<-sY,l,sY,sO]
 have n:o=1:=by
  rcases sE o 1 with h|h
  . have d:o=0:=by omega
    subst d;simp only[wN,tD]at c;omega
  . omega
 subst n;rw[xW]at c;exact⟨b,by omega⟩
def C6x (m:Nat):4294967296^(m+2)*4294967296=4294967296^(m+3):=(sA (n:=4294967296) (m:=m+2)).symm
def qs (k:Nat) (q:Rat):Prop:=(nc q.num.natAbs).length<=k/\(nc q.den).length<=k
def sz (k:Nat) (x:C0):Prop:=x.1.2.length<=k/\x.2.length<=k
def Av (x:C0):Prop:=A8 x.1.2/\A8 x.2
def Vm {k:Nat} {q:Rat} (h:qs k q):sz k (rc q):=h
def WO (q:Rat):Av (rc q):=⟨K6 _,K6 _⟩
def U4 {k:Nat} {x:C0} (a:Av x) (h:sz k x) (b:1<=k):qs k (rv x):=Om a.1 a.2 h.1 h.2 b
def F8 {j k:Nat} {q:Rat} (h:qs j q) (a:j<=k):qs k q:=⟨qW h.1 a,qW h.2 a⟩
def F5 {j k:Nat} {x:C0} (h:sz j x) (a:j<=k):sz k x:=⟨qW h.1 a,qW h.2 a⟩
def aW {V:Int} {D k:Nat} (f:D≠0) (c:(nc V.natAbs).length<=k) (d:(nc D).length<=k):qs k (mkRat V D):=by
 obtain⟨a,b⟩:=Qo (x:=V) f;unfold qs;rw[a,b];refine⟨qW (L2 ?_) c,qW (L2 (wY _ _)) d⟩;exact xH _ _
def N3 {k:Nat} (a:1<=k):qs k 0:=by
 refine⟨?_, ?_⟩
 . show(nc 0).length<=k;rw[Q4];exact rM _
 . show(nc 1).length<=k;rw[Xc];exact a
def aX {k:Nat} (a:1<=k):qs k 1:=by
 refine⟨?_, ?_⟩<;>(show(nc 1).length<=k;rw[Xc];exact a)
def A4f {k:Nat} {q:Rat} (h:qs k q):1<=k:=by
 have a:=h.2;have a:nc q.den≠ []:=fun e=>q.den_nz (CL.1 e)
 have:=vA.2 a;omega
def SG {k:Nat} {q:Rat} (h:qs k q):qs k (-q):=by
 unfold qs at h⊢;rw[g1g,g3e,yM];exact h
def Ju {j k:Nat} {p q:Rat} (a:qs j p) (b:qs k q):qs (j+k) (p*q):=by
 rw[Rat.mul_def'];refine aW (zE p.den_nz q.den_nz) ?_ ?_
 . rw[vS];exact qW (Sc _ _) (Nat.add_le_add a.1 b.1)
 . exact qW (Sc _ _) (Nat.add_le_add a.2 b.2)
def Sg {j k:Nat} {p q:Rat} (a:qs j p) (b:qs k q):qs (j+k+1) (p+q):=by
 rw[Rat.add_def'];refine aW (zE p.den_nz q.den_nz) ?_ ?_
 . have e:(p.num*(q.den:Int)+q.num*(p.den:Int)).natAbs<=p.num.natAbs*q.den+q.num.natAbs*p.den:=by
    refine qW (g1e _ _) ?_;rw[vS,vS,uE,uE];exact qZ _
   have c:=Sc p.num.natAbs q.den;have c:=Sc q.num.natAbs p.den;have c:=RP (p.num.natAbs*q.den) (q.num.natAbs*p.den);have c:=L2 e;have:=a.1;have:=a.2;have:=b.1;have:=b.2;omega
 . have:=Sc p.den q.den;have:=a.2;have:=b.2;omega
def Si {j k:Nat} {p q:Rat} (a:qs j p) (b:qs k q):qs (j+k+1) (p-q):=by
 rw[tH];exact Sg a (SG b)
def B6e {k:Nat} {q:Rat} (h:qs k q):qs k q⁻¹:=by
 have c:=A4f h;by_cases a:q=0
 . subst a;rw[Rat.inv_zero];exact N3 c
 have b:q.num≠0:=fun e=>a (g0f.1 e)
 refine⟨?_, ?_⟩
 . rw[Rat.num_inv,vS,uE,g0q b,wT];exact h.2
 . rw[Rat.den_inv,qL b];exact h.1
def mD {j k:Nat} {p q:Rat} (a:qs j p) (b:qs k q):qs (j+k) (p/q):=by
 rw[xB];exact Ju a (B6e b)
def B6d {a:Int} (h:a.natAbs<4294967296):qs 1 (a:Rat):=by
 refine⟨?_, ?_⟩
 . rw[g2j];exact Hs (by simpa using h)
 . rw[g2h,Xc];exact qZ _
abbrev K0:Nat:=1073741824
abbrev K1:Nat:=549755813888
def J8 {k:Nat} {x:C0} (h:sz k x) (a:k<=2199023255552):D8 x:=⟨qW h.1 a,qW h.2 a⟩
def J7 {k:Nat} {q:Rat} (h:qs k q) (a:k<=2199023255552):D8 (rc q):=⟨qW h.1 a,qW h.2 a⟩
def B6l {q:Rat} :q.num.sign=0↔q=0:=⟨fun h=>g0f.1 (yS.1 h),fun h=>by rw[h];rfl⟩
abbrev D6:=Int×C0
def A5:List D6->Int->Rat
 | [],_=>0
 |e::v,i=>(if e.1=i then rv e.2 else 0)+A5 v i
def Ir (v:List D6):Prop:=v.Pairwise fun a b=>a.1<b.1
instance (v:List D6):Decidable (Ir v):=by unfold Ir;infer_instance
def Ae (v:List D6):Prop:=Ir v/\∀e∈v,rv e.2≠0/\e.2=rc (rv e.2)
def N0 (v:List D6) (n:Int):Prop:=Ir v/\∀e∈v,0<=e.1/\e.1<n/\rv e.2≠0
instance (v:List D6) (n:Int):Decidable (N0 v n):=by unfold N0;infer_instance
def VZ (k:Nat) (v:List D6):Prop:=∀e∈v,sz k e.2
def Db (k:Nat) (l:List C0):Prop:=∀x∈l,sz k x
def KP (k:Nat) (v:List D6):Prop:=Ir v/\VZ k v/\v.length<=100000
def CK (v:List D6):Prop:=∀e∈v,Av e.2
def CP (d:D6×D6×Unit->Prop) (φ:D6×D6×Unit->Int):Prop:=(∀a b,d (a,b,()))/\(∀a b c,¬φ (a,b,())<0->¬φ (b,c,())<0->¬φ (a,c,())<0)/\(∀a b,φ (a,b,())<0->¬φ (b,a,())<0)
def AP (φ:D6×D6×Unit->Int) (l:List D6):Prop:=l.Pairwise fun a b=>¬φ (b,a,())<0
def fF (v:List D6):Prop:=Ir v\/(v.length<=20/\VZ 65536 v)
def Qq (v:List D6):Prop:=KP K1 v\/(v.length<=20/\VZ 65536 v)
def Tn (i:Int):A5 [] i=0:=rfl
def E3 {v:List D6} {i:Int} (h:∀e∈v,e.1≠i):A5 v i=0:=by
 induction v with
 |nil=>rfl
 |cons e v b=>
  rw[A5,qL (h e (rB ..)),b fun x a=>h x (qM _ a),tG]
def O2 (a b:List D6) (i:Int):A5 (a++b) i=A5 a i+A5 b i:=by
 induction a with
 |nil=>rw[vJ,Tn,tG]
 |cons e a c=>rw[wJ,A5,A5,c,yE]
def I9 {e:D6} {v:List D6} :Ir (e::v)↔(∀x∈v,e.1<x.1)/\Ir v:=g3p
def Hn {e:D6} {v:List D6} (h:Ir (e::v)):Ir v:=(I9.1 h).2
def O1 {e:D6} {v:List D6} (h:Ir (e::v)):A5 (e::v) e.1=rv e.2:=by
 rw[A5,qP rfl,E3 fun x a b=>by have:=(I9.1 h).1 x a;omega,rL]
def GC {e:D6} {v:List D6} (h:Ir (e::v)) {i:Int} (b:i<e.1):A5 (e::v) i=0:=
 E3 fun x a=>by
  rcases qI.1 a with rfl|a
  . omega
  . have:=(I9.1 h).1 x a;omega
def Cu {e:D6} {v:List D6} {i:Int} (a:e.1≠i):A5 (e::v) i=A5 v i:=by
 rw[A5,qL a,tG]
def R9 {v:List D6} (h:Ir v) {e:D6} (a:e∈v):A5 v e.1=rv e.2:=by
 induction v with
 |nil=>cases a
 |cons x v b=>
  rcases qI.1 a with rfl|a
  . exact O1 h
  . have:=(I9.1 h).1 e a;rw[Cu (by omega),b (Hn h) a]
def GD {v:List D6} {i:Int} (h:A5 v i≠0):∃e∈v,e.1=i:=
 qQ fun c=>h (E3 fun e a b=>c ⟨e,a,b⟩)
def BQ:Ae []:=⟨List.Pairwise.nil,fun _ h=>by cases h⟩
def fN {e:D6} {v:List D6} (h:Ae (e::v)):Ae v:=⟨Hn h.1,fun x a=>h.2 x (qM _ a)⟩
def oB:∀ {a b:List D6},Ae a->Ae b->(∀i,A5 a i=A5 b i)->a=b
 | [],[],_,_,_=>rfl
 | [],e::b,_,c,h=>absurd ((O1 c.1).symm.trans (h e.1).symm) (c.2 e (rB ..)).1
 |e::a,[],c,_,h=>absurd ((O1 c.1).symm.trans (h e.1)) (c.2 e (rB ..)).1
 |e::a,f::b,c,d,h=>by
  have g:=c.2 e (rB ..);have j:=d.2 f (rB ..);have k:e.1=f.1:=by
   rcases zM e.1 f.1 with hl|hl|hl
   . have:=h e.1;rw[O1 c.1,GC d.1 hl]at this;exact absurd this g.1
   . exact hl
   . have:=h f.1;rw[O1 d.1,GC c.1 hl]at this;exact absurd this.symm j.1
  have o:rv e.2=rv f.2:=by
   have:=h e.1;rw[O1 c.1,k,O1 d.1]at this;exact this
  have r:e=f:=by
   obtain⟨i,x⟩:=e;obtain⟨l,y⟩:=f;simp only at k o g j;rw[k,g.2,j.2,o]
  subst r;rw[oB (fN c) (fN d) fun i=>by
   by_cases l:e.1=i
   . subst l;rw[E3 fun x n s=>by have:=(I9.1 c.1).1 x n;omega,E3 fun x n s=>by have:=(I9.1 d.1).1 x n;omega]
   . have:=h i;rwa[Cu l,Cu l]at this]
def nV {v:List D6} {e:D6} (h:Ir v) (d:∀x∈v,x.1<e.1):Ir (v++ [e]):=by
 unfold Ir;rw[tW];refine⟨h,zJ ..,fun b c f a=> ?_⟩;rw[qR]at a;subst a;exact d b c
def Nc {v:List D6} {i:Int} {q:Rat} (h:Ae v) (c:q≠0) (b:∀x∈v,x.1<i):Ae (v++ [(i,rc q)]):=by
 refine⟨nV h.1 b,fun x a=> ?_⟩;rcases rA.1 a with a|a
 . exact h.2 x a
 . rw[qR]at a;subst a;simp only[D7];exact⟨c,trivial⟩
def Ha (v:List D6) (i:Int) (q:Rat) (j:Int):A5 (v++ [(i,rc q)]) j=A5 v j+(if i=j then q else 0):=by
 rw[O2];simp only[A5,D7,rL]
def NI {v:List D6} (h:Ae v) {k:Nat} (b:∀i,qs k (A5 v i)):VZ k v:=fun e a=>by
 rw[(h.2 e a).2, <-R9 h.1 a];exact b _
def NJ {v:List D6} (h:Ir v) (f:CK v) {k:Nat} (g:VZ k v) (c:1<=k) (i:Int):qs k (A5 v i):=by
 by_cases b:∃e∈v,e.1=i
 . obtain⟨e,a,rfl⟩:=b;rw[R9 h a];exact U4 (f e a) (g e a) c
 . rw[E3 fun e a d=>b ⟨e,a,d⟩];exact N3 c
def Gk {v:List D6} {n:Int} (h:N0 v n):(v.length:Int)<=max n 0:=by
 have d:∀(v:List D6) (k n:Int),Ir v->(∀e∈v,k<=e.1/\e.1<n)->(v.length:Int)<=max (n-k) 0:=by
  intro v
  induction v with
  |nil=>intro k n _ _;simp only[xL];omega
  |cons e v c=>
   intro k n a b;have f:=b e (rB ..);have:=c (e.1+1) n (Hn a) fun x hx=>⟨by have:=(I9.1 a).1 x hx;omega,(b x (qM _ hx)).2⟩
   simp only[rH];omega
 have:=d v 0 n h.1 fun e he=>⟨(h.2 e he).1,(h.2 e he).2.1⟩
 omega
abbrev Dn:=Int×Int×List (List D6)
def el (m:Dn) (i j:Nat):Rat:=A5 (m.2.2.getD i []) (j:Int)
def D1 (m:Dn):Prop:=0<=m.1/\m.1<=16384/\0<=m.2.1/\m.2.1<=16384/\(m.2.2.length:Int)=m.1/\∀v∈m.2.2,N0 v m.2.1
instance (m:Dn):Decidable (D1 m):=by unfold D1;infer_instance
def zm:Dn:=(0,0,[])
def Qm (R C:Nat) (f:Nat->Nat->Rat) (m:Dn):Prop:=
 m.1=(R:Int)/\m.2.1=(C:Int)/\m.2.2.length=R/\∀i,i<R->Ae (m.2.2.getD i [])/\(∀e∈m.2.2.getD i [],0<=e.1/\e.1<(C:Int))/\∀j,j<C->A5 (m.2.2.getD i []) (j:Int)=f i j
def VP (n:Nat) (f:Nat->Rat) (v:List D6):Prop:=Ae v/\(∀e∈v,0<=e.1/\e.1<(n:Int))/\∀j,j<n->A5 v (j:Int)=f j
def NN {n:Nat} {f:Nat->Rat} {v:List D6} (h:VP n f v) (i:Int):A5 v i=if 0<=i/\i<(n:Int)then f i.toNat else 0:=by
 by_cases a:0<=i/\i<(n:Int)
 . rw[qP a, <-h.2.2 i.toNat (by omega)];congr 1;omega
 . rw[qL a,E3 fun e b c=>a (by rw[<-c];exact h.2.1 e b)]
def B8u {n:Nat} {f g:Nat->Rat} {a b:List D6} (c:VP n f a) (d:VP n g b) (h:∀j,j<n->f j=g j):a=b:=
 oB c.1 d.1 fun i=>by
  rw[NN c,NN d];split
  . exact h _ (by omega)
  . rfl
def A8y {n:Nat} {f g:Nat->Rat} {v:List D6} (h:VP n f v) (e:∀j,j<n->f j=g j):VP n g v:=⟨h.1,h.2.1,fun j a=>by rw[h.2.2 j a,e j a]⟩
def G5 {a:Type} (l:List a) (d:a) {i:Nat} (h:i<l.length):l.getD i d=l[i]:=by rw[qF,qO h];rfl
def B8t {R C:Nat} {f g:Nat->Nat->Rat} {a b:Dn} (x:Qm R C f a) (y:Qm R C g b) (h:∀i j,i<R->j<C->f i j=g i j):a=b:=by
 obtain⟨E,B,t⟩:=a;obtain⟨F,D,u⟩:=b;obtain⟨c,d,r,k⟩:=x;obtain⟨l,n,s,o⟩:=y;simp only at c d r k l n s o;subst c;subst d;subst l;subst n;have:t=u:=by
  refine yQ (by omega) fun i v w=> ?_
  have z:=k i (by omega);have A:=o i (by omega);have:=B8u z A fun j hj=>h i j (by omega) hj
  rwa[G5 _ _ v,G5 _ _ w]at this
 rw[this]
def CH {R C:Nat} {f:Nat->Nat->Rat} {m:Dn} (h:Qm R C f m) {i j:Nat} (a:i<R) (b:j<C):el m i j=f i j:=(h.2.2.2 i a).2.2 j b
def B4 {a:Type} {l:List a} {i:Nat} {d:a} (h:i<l.length):l.getD i d∈l:=by rw[G5 _ _ h];exact wM h
def P3 {a:Type} {l:List a} {x:a} (d:a) (h:x∈l):∃i,i<l.length/\l.getD i d=x:=by
 obtain⟨i,a,e⟩:=uA.1 h;exact⟨i,a,by rw[G5 _ _ a];exact e⟩
def gF {n:Nat} {f:Nat->Rat} {v:List D6} (h:VP n f v):N0 v (n:Int):=⟨h.1.1,fun e a=>⟨(h.2.1 e a).1,(h.2.1 e a).2,(h.1.2 e a).1⟩⟩
def Nf {R C:Nat} {f:Nat->Nat->Rat} {m:Dn} (h:Qm R C f m) (k:R<=16384) (j:C<=16384):D1 m:=by
 obtain⟨d,a,g,b⟩:=h;refine⟨by omega,by omega,by omega,by omega,by omega,fun v c=> ?_⟩;obtain⟨i,l,rfl⟩:=P3 [] c;rw[a];exact gF (b i (by omega))
def X0 (k:Nat) (m:Dn):Prop:=∀v∈m.2.2,VZ k v
def dW (m:Dn):Prop:=∀v∈m.2.2,CK v
def KG {R C k:Nat} {f:Nat->Nat->Rat} {m:Dn} (h:Qm R C f m) (c:1<=k) (b:∀i j,i<R->j<C->qs k (f i j)):X0 k m:=fun v d=>by
 obtain⟨i,a,rfl⟩:=P3 [] d;rw[h.2.2.1]at a;refine NI (h.2.2.2 i a).1 fun j=> ?_
 rw[NN (h.2.2.2 i a)];split
 . exact b i _ a (by omega)
 . exact N3 c
def C1k {m:Dn} {k:Nat} (f:D1 m) (c:dW m) (d:X0 k m) (b:1<=k) (i j:Nat):qs k (el m i j):=by
 unfold el;by_cases a:i<m.2.2.length
 . exact NJ (f.2.2.2.2.2 _ (B4 a)).1 (c _ (B4 a)) (d _ (B4 a)) b _
 . rw[qF,rQ (by omega)];exact N3 b
def VO (f:Int->Rat) (v:List D6):Prop:=Ae v/\∀i,A5 v i=f i
def dl (n:Int) (f:Int->Rat):List C0:=(List.range n.toNat).map fun j:Nat=>rc (f (j:Int))
def Qc (x:C0):Prop:=∃q,qs 1 q/\x=rc q
def B7:Nat->(Nat->Rat)->Rat
 |0,_=>0
 |n+1,f=>B7 n f+f n
def B6 {n:Nat} {f g:Nat->Rat} (h:∀i,i<n->f i=g i):B7 n f=B7 n g:=by
 induction n with
 |zero=>rfl
 |succ n a=>rw[B7,B7,a fun i b=>h i (by omega),h n (by omega)]
def X6 {n:Nat} {f:Nat->Rat} (h:∀i,i<n->f i=0):B7 n f=0:=by
 induction n with
 |zero=>rfl
 |succ n a=>rw[B7,a fun i b=>h i (by omega),h n (by omega),rL]
def Ax (n:Nat) (f g:Nat->Rat):B7 n (fun i=>f i+g i)=B7 n f+B7 n g:=by
 induction n with
 |zero=>rw[B7,B7,B7,rL]
 |succ n a=>rw[B7,B7,B7,a];grind
def Dy (n:Nat) (c:Rat) (f:Nat->Rat):B7 n (fun i=>c*f i)=c*B7 n f:=by
 induction n with
 |zero=>rw[B7,B7,uX]
 |succ n a=>rw[B7,B7,a,Rat.mul_add]
def SL (n:Nat) (c:Rat) (f:Nat->Rat):B7 n (fun i=>f i*c)=B7 n f*c:=by
 induction n with
 |zero=>rw[B7,B7,sZ]
 |succ n a=>rw[B7,B7,a,g2z]
def Jw (m n:Nat) (f:Nat->Nat->Rat):B7 m (fun i=>B7 n (f i))=B7 n fun j=>B7 m fun i=>f i j:=by
 induction m with
 |zero=>rw[B7];exact(X6 fun _ _=>rfl).symm
 |succ m a=>
  rw[B7,a, <-Ax];exact B6 fun j _=>rfl
def O4 {n k:Nat} {f:Nat->Rat} (d:k<n) (h:∀i,i<n->i≠k->f i=0):B7 n f=f k:=by
 induction n with
 |zero=>omega
 |succ n c=>
  rw[B7];by_cases a:k=n
  . subst a;rw[X6 fun i b=>h i (by omega) (by omega),tG]
  . rw[c (by omega) fun i b=>h i (by omega),h n (by omega) (by omega),rL]
def OH {n k:Nat} {f:Nat->Rat} (a:∀i,i<n->qs k (f i)):qs (n*(k+1)+1) (B7 n f):=by
 induction n with
 |zero=>rw[B7];exact N3 (by omega)
 |succ n b=>
  rw[B7];refine F8 (Sg (b fun i c=>a i (by omega)) (a n (by omega))) ?_;rw[uJ,wT];omega
def Mp:List D6->(Int->Rat)->Rat
 | [],_=>0
 |e::v,h=>rv e.2*h e.1+Mp v h
def oP (a b:List D6) (h:Int->Rat):Mp (a++b) h=Mp a h+Mp b h:=by
 induction a with
 |nil=>rw[vJ,Mp,tG]
 |cons e a c=>rw[wJ,Mp,Mp,c,yE]
def QU {d:D6} {v:List D6} {i:Int} (a:0<=i) (b:i<(v.length:Int)) (h:Int->Rat):Mp (v.take (i+1).toNat) h=Mp (v.take i.toNat) h+rv (gx d v i).2*h (gx d v i).1:=by
 rw[show(i+1).toNat=i.toNat+1 from by omega,rP,H1 (d:=d) a b,oP];simp only[g0x,Mp,rL]
def kL {v:List D6} {n:Nat} (a:∀e∈v,0<=e.1/\e.1<(n:Int)) (h:Int->Rat):Mp v h=B7 n fun j=>A5 v (j:Int)*h (j:Int):=by
 induction v with
 |nil=>rw[Mp];exact(X6 fun j _=>sZ _).symm
 |cons e v c=>
  obtain⟨b,d⟩:=a e (rB ..);rw[Mp,c fun x b=>a x (qM _ b)];have a:(B7 n fun j=>A5 (e::v) (j:Int)*h (j:Int))=(B7 n fun j=>(if e.1=(j:Int)then rv e.2 else 0)*h (j:Int))+B7 n fun j=>A5 v (j:Int)*h (j:Int):=by
   rw[<-Ax];exact B6 fun j _=>by rw[A5,g2z]
  have b:(B7 n fun j=>(if e.1=(j:Int)then rv e.2 else 0)*h (j:Int))=rv e.2*h e.1:=by
   rw[O4 (k:=e.1.toNat) (by omega) fun i _ c=>by rw[qL (by omega),sZ],qP (by omega),show((e.1.toNat:Nat):Int)=e.1 from by omega]
  rw[a,b]
def B8i {v:List D6} {h:Int->Rat} {j k:Nat} (c:CK v) (d:VZ j v) (f:1<=j) (b:∀e∈v,qs k (h e.1)):qs (v.length*(j+k+1)+1) (Mp v h):=by
 induction v with
 |nil=>rw[Mp];exact N3 (by omega)
 |cons e v g=>
  rw[Mp];refine F8 (Sg (Ju (U4 (c e (rB ..)) (d e (rB ..)) f) (b e (rB ..))) (g (fun x a=>c x (qM _ a)) (fun x a=>d x (qM _ a)) fun x a=>b x (qM _ a))) ?_;rw[rH,uJ,wT];omega
def bE:rv zr=0:=yP _
def put (i:Int) (x:C0) (l:List D6):List D6:=if rv x=0 then l else(i,x)::l
def I7 (φ:C0×C0×Unit->C0):List D6->List D6->List D6
 | [],[]=> []
 |e::a,[]=>put e.1 (φ (e.2,zr,())) (I7 φ a [])
 | [],f::b=>put f.1 (φ (zr,f.2,())) (I7 φ [] b)
 |e::a,f::b=>if e.1<f.1 then put e.1 (φ (e.2,zr,())) (I7 φ a (f::b))else if e.1=f.1 then put e.1 (φ (e.2,f.2,())) (I7 φ a b)else put f.1 (φ (zr,f.2,())) (I7 φ (e::a) b)
termination_by a b=>a.length+b.length
def BU (i:Int) (q:Rat) (l:List D6) (j:Int):A5 (put i (rc q) l) j=(if i=j then q else 0)+A5 l j:=by
 unfold put;rw[D7];split
 . rename_i h;subst h;simp only[ite_self,tG]
 . rw[A5,D7]
def OF {i:Int} {x:C0} {l:List D6} {e:D6} (h:e∈put i x l):e.1=i\/e∈l:=by
 unfold put at h;split at h
 . exact .inr h
 . rcases qI.1 h with rfl|h
   . exact .inl rfl
   . exact .inr h
def BR {i:Int} {q:Rat} {l:List D6} (h:Ae l) (c:∀e∈l,i<e.1):Ae (put i (rc q) l):=by
 unfold put;rw[D7];split
 . exact h
 . rename_i b;refine⟨I9.2 ⟨c,h.1⟩,fun e a=> ?_⟩;rcases qI.1 a with rfl|a
   . simp only[D7];exact⟨b,trivial⟩
   . exact h.2 e a
def TM (φ:C0×C0×Unit->C0) (g:Rat->Rat->Rat) (h:g 0 0=0) (a b:List D6):
 (∀x y,(x=zr\/∃e∈a,e.2=x)->(y=zr\/∃e∈b,e.2=y)->φ (x,y,())=rc (g (rv x) (rv y)))->Ir a->Ir b->
 Ae (I7 φ a b)/\(∀e∈I7 φ a b,(∃x∈a,x.1=e.1)\/∃y∈b,y.1=e.1)/\∀i,A5 (I7 φ a b) i=g (A5 a i) (A5 b i):=by
 induction a,b using I7.induct with
 |case1=>
  intro _ _ _;rw[I7];exact⟨BQ,fun e c=>(by cases c),fun i=>h.symm⟩
 |case2 e a t=>
  intro n j s;obtain⟨o,l,r⟩:=t (fun x y c hy=>n x y (c.imp id fun⟨z,d,f⟩=>⟨z,qM _ d,f⟩) hy) (Hn j) s;rw[I7,n e.2 zr (.inr ⟨e,rB ..,rfl⟩) (.inl rfl),bE];refine⟨BR o fun x c=> ?_,fun x c=> ?_,fun i=> ?_⟩
  . rcases l x c with⟨z,d,f⟩ | ⟨z,d,_⟩
    . rw[<-f];exact(I9.1 j).1 z d
    . cases d
  . rcases OF c with c|c
    . exact .inl ⟨e,rB ..,c.symm⟩
    . exact(l x c).imp (fun⟨z,d,f⟩=>⟨z,qM _ d,f⟩) id
  . rw[BU,r,Tn];by_cases k:e.1=i
    . subst k;rw[qP rfl,O1 j,E3 fun x c u=>by have:=(I9.1 j).1 x c;omega,h,rL]
    . rw[qL k,Cu k,tG]
 |case3 j b u=>
  intro o t k;obtain⟨r,n,s⟩:=u (fun x y c hy=>o x y c (hy.imp id fun⟨z,d,f⟩=>⟨z,qM _ d,f⟩)) t (Hn k);rw[I7,o zr j.2 (.inl rfl) (.inr ⟨j,rB ..,rfl⟩),bE];refine⟨BR r fun x c=> ?_,fun x c=> ?_,fun i=> ?_⟩
  . rcases n x c with⟨z,d,_⟩ | ⟨z,d,f⟩
    . cases d
    . rw[<-f];exact(I9.1 k).1 z d
  . rcases OF c with c|c
    . exact .inr ⟨j,rB ..,c.symm⟩
    . exact(n x c).imp id fun⟨z,d,f⟩=>⟨z,qM _ d,f⟩
  . rw[BU,s,Tn];by_cases l:j.1=i
    . subst l;rw[qP rfl,O1 k,E3 fun x c w=>by have:=(I9.1 k).1 x c;omega,h,rL]
    . rw[qL l,Cu l,tG]
 |case4 e a w b n u=>
  intro r j k;obtain⟨s,o,t⟩:=u (fun x y c hy=>r x y (c.imp id fun⟨z,d,f⟩=>⟨z,qM _ d,f⟩) hy) (Hn j) k;rw[I7,qP n,r e.2 zr (.inr ⟨e,rB ..,rfl⟩) (.inl rfl),bE];refine⟨BR s fun x c=> ?_,fun x c=> ?_,fun i=> ?_⟩
  . rcases o x c with⟨z,d,f⟩ | ⟨z,d,f⟩
    . rw[<-f];exact(I9.1 j).1 z d
    . rw[<-f];rcases qI.1 d with rfl|d
      . exact n
      . have:=(I9.1 k).1 z d;omega
  . rcases OF c with c|c
    . exact .inl ⟨e,rB ..,c.symm⟩
    . exact(o x c).imp (fun⟨z,d,f⟩=>⟨z,qM _ d,f⟩) id
  . rw[BU,t];by_cases l:e.1=i
    . subst l;rw[qP rfl,O1 j,E3 (v:=a) fun x c A=>by have:=(I9.1 j).1 x c;omega,GC k n,h,rL]
    . rw[qL l,Cu l,tG]
 |case5 e a l b A n D=>
  intro t j k;obtain⟨u,r,w⟩:=D (fun x y c hy=>t x y (c.imp id fun⟨z,d,f⟩=>⟨z,qM _ d,f⟩) (hy.imp id fun⟨z,d,f⟩=>⟨z,qM _ d,f⟩)) (Hn j) (Hn k);rw[I7,qL A,qP n,t e.2 l.2 (.inr ⟨e,rB ..,rfl⟩) (.inr ⟨l,rB ..,rfl⟩)];refine⟨BR u fun x c=> ?_,fun x c=> ?_,fun i=> ?_⟩
  . rcases r x c with⟨z,d,f⟩ | ⟨z,d,f⟩
    . rw[<-f];exact(I9.1 j).1 z d
    . rw[<-f,n];exact(I9.1 k).1 z d
  . rcases OF c with c|c
    . exact .inl ⟨e,rB ..,c.symm⟩
    . exact(r x c).imp (fun⟨z,d,f⟩=>⟨z,qM _ d,f⟩) fun⟨z,d,f⟩=>⟨z,qM _ d,f⟩
  . rw[BU,w];by_cases o:e.1=i
    . subst o;have s:=O1 k;rw[<-n]at s;rw[qP rfl,O1 j,s,E3 (v:=a) fun x c B=>by have:=(I9.1 j).1 x c;omega,E3 (v:=b) fun x c B=>by have:=(I9.1 k).1 x c;omega,h,rL]
    . rw[qL o,Cu o,Cu (e:=l) (by omega),tG]
 |case6 e a j b w u A=>
  intro r l k;obtain⟨s,o,t⟩:=A (fun x y c hy=>r x y c (hy.imp id fun⟨z,d,f⟩=>⟨z,qM _ d,f⟩)) l (Hn k);rw[I7,qL w,qL u,r zr j.2 (.inl rfl) (.inr ⟨j,rB ..,rfl⟩),bE];refine⟨BR s fun x c=> ?_,fun x c=> ?_,fun i=> ?_⟩
  . rcases o x c with⟨z,d,f⟩ | ⟨z,d,f⟩
    . rw[<-f];rcases qI.1 d with rfl|d
      . omega
      . have:=(I9.1 l).1 z d;omega
    . rw[<-f];exact(I9.1 k).1 z d
  . rcases OF c with c|c
    . exact .inr ⟨j,rB ..,c.symm⟩
    . exact(o x c).imp id fun⟨z,d,f⟩=>⟨z,qM _ d,f⟩
  . rw[BU,t];by_cases n:j.1=i
    . subst n;rw[qP rfl,O1 k,E3 (v:=b) fun x c B=>by have:=(I9.1 k).1 x c;omega,GC l (by omega),h,rL]
    . rw[qL n,Cu (e:=j) n,tG]
def pE {a:Type} (p:a->Bool) (l:List a):Int:=match l.findIdx? p with
 |some i=>(i:Int)
 |none=> -1
def pD (p:Int->Bool) (l:Xr):Int:=match l.findIdx? p with
 |some i=>(i:Int)
 |none=> -1
def C6t (v:List D6):List D6:=I7 (fun x=>rc (rv x.1)) v []
def A9p {v:List D6} (h:Ir v):Ae (C6t v)/\∀i,A5 (C6t v) i=A5 v i:=by
 obtain⟨a,_,b⟩:=TM (fun x=>rc (rv x.1)) (fun p _=>p) rfl v [] (fun _ _ _ _=>rfl) h List.Pairwise.nil;exact⟨a,b⟩
def fill {a:Type} (n i:Nat) (F:Nat->a) (out:List a):Prop:=out.length=n/\∀j,j<i->out[j]? =some (F j)
def C1l {a:Type} {n:Nat} {F:Nat->a} {out:List a} (h:out.length=n):fill n 0 F out:=⟨h,fun _ a=>by omega⟩
def B3j {a:Type} {n:Nat} {i:Int} {F:Nat->a} {out:List a} {x:a} (h:fill n i.toNat F out) (c:0<=i) (d:i<(n:Int)) (b:x=F i.toNat):fill n (i+1).toNat F (out.set i.toNat x):=by
 refine⟨by rw[qJ];exact h.1,fun j a=> ?_⟩;rw[vE];by_cases a:i.toNat=j
 . rw[qP a,qP (by rw[h.1];omega), <-a,b]
 . rw[qL a];exact h.2 j (by omega)
def oR {a:Type} {n i:Nat} {F:Nat->a} {out:List a} (h:fill n i F out) (b:n<=i):out=(List.range n).map F:=by
 refine vN fun j=> ?_
 by_cases a:j<n
 . rw[h.2 j (by omega),vD,yV a];rfl
 . rw[rQ (by rw[h.1];omega),rQ (by simp;omega)]
def B4w {a:Type} {i:Int} (F:Nat->a) (b:0<=i):(List.range (i+1).toNat).map F=(List.range i.toNat).map F++ [F i.toNat]:=by
 rw[show(i+1).toNat=i.toNat+1 from by omega,g0c,uM];rfl
def oQ (n i:Nat) (P:Nat->List D6->Prop) (out:List (List D6)):Prop:=out.length=n/\∀j,j<i->P j (out.getD j [])
def C3a {n:Nat} {P:Nat->List D6->Prop} {out:List (List D6)} (h:out.length=n):oQ n 0 P out:=⟨h,fun _ a=>by omega⟩
def A8p {n:Nat} {i:Int} {P:Nat->List D6->Prop} {out:List (List D6)} {x:List D6} (h:oQ n i.toNat P out) (a:0<=i) (c:i<(n:Int)) (b:P i.toNat x):oQ n (i+1).toNat P (out.set i.toNat x):=by
 refine⟨by rw[qJ];exact h.1,fun j a=> ?_⟩;rw[qF,vE];by_cases a:i.toNat=j
 . rw[qP a,qP (by rw[h.1];omega), <-a];exact b
 . rw[qL a, <-qF];exact h.2 j (by omega)
def A9i {a:Type} (n:Nat) (c:a):(List.range n).map (fun _=>c)=List.replicate n c:=by rw[List.map_const'];simp
def mK {k:Nat} {m:Dn} (a:D1 m) (b:X0 k m) {v:List D6} (h:v∈m.2.2):KP k v:=by
 refine⟨(a.2.2.2.2.2 v h).1,b v h, ?_⟩;have:=Gk (a.2.2.2.2.2 v h);have:=a.2.2.2.1;have:=a.2.2.1;omega
def B8v {n:Nat} {f:Nat->Rat} {v:List D6} {g:Int->Rat} (h:VO g v) (c:∀i,¬(0<=i/\i<(n:Int))->g i=0) (a:∀j:Nat,j<n->g (j:Int)=f j):VP n f v:=by
 refine⟨h.1,fun e b=> ?_,fun j d=>by rw[h.2,a j d]⟩;refine qQ fun d=> ?_
 have a:=R9 h.1.1 b;rw[h.2,c _ d]at a;exact(h.1.2 e b).1 a.symm
def B0w {v:List D6} {n i:Int} (h:N0 v n) (c:¬(0<=i/\i<n)):A5 v i=0:=E3 fun e a b=>c (by rw[<-b];exact⟨(h.2 e a).1,(h.2 e a).2.1⟩)
abbrev LUV:=Xr×Xr×Dn×Dn
def fB:LUV:=([],[],zm,zm)
def N4 (p:Xr) (n:Int):Prop:=(p.length:Int)=n/\(∀i∈p,0<=i/\i<n)/\p.Nodup
instance (p:Xr) (n:Int):Decidable (N4 p n):=by unfold N4;infer_instance
def sqr (m:Dn) (n:Int):Prop:=m.1=n/\m.2.1=n/\D1 m
instance (m:Dn) (n:Int):Decidable (sqr m n):=by unfold sqr;infer_instance
def Bz (f:LUV) (n:Int):Prop:=N4 f.1 n/\N4 f.2.1 n/\sqr f.2.2.1 n/\sqr f.2.2.2 n/\∀i j:Nat,(i:Int)<n->(j:Int)<n->(i<j->el f.2.2.1 i j=0)/\el f.2.2.1 i i=1/\(j<i->el f.2.2.2 i j=0)/\el f.2.2.2 i i≠0
def luM (f:LUV) (n:Nat) (i j:Nat):Rat:=B7 n fun k=>el f.2.2.1 i k*el f.2.2.2 k j
def nonsing (n:Nat) (A:Nat->Nat->Rat):Prop:=∀x:Nat->Rat,(∀i,i<n->B7 n (fun j=>A i j*x j)=0)->∀j,j<n->x j=0
def sK (s:Nat):Nat->Nat
 |0=>s
 |k+1=>4*sK s k+1
def gK (s T:Nat):Nat->Nat
 |0=>T
 |k+1=>2*gK s T k+s+1
def hK (s Y:Nat):Nat->Nat
 |0=>Y
 |k+1=>2*hK s Y k+2*s+1
def ix (p:Xr) (i:Nat):Nat:=(p.getD i 0).toNat
abbrev Ln:=Int×Int
def D9 (s:Xr) (i:Int):Int:=s.getD i.toNat 0
def VN (n:Int) (l:Ln):Prop:=0<=l.1/\l.1<n/\0<=l.2/\l.2<n
instance (n:Int) (l:Ln):Decidable (VN n l):=by unfold VN;infer_instance
def ZU (n:Int) (ls:List Ln):Prop:=0<=n/\n<=16384/\∀l∈ls,VN n l
def Qd (n:Int) (ls:List Ln):Int:=if n<0\/16384<n then 3 else if∀l∈ls,VN n l then 0 else 12
def UF (s:Xr):Prop:=∀i:Nat,i<s.length->0<=D9 s i/\D9 s i<=i
def OG (s:Xr):Nat->Int->Int
 |0,b=>b
 |k+1,b=>if D9 s b=b then b else OG s k (D9 s b)
def root (s:Xr) (b:Int):Int:=OG s b.toNat b
def pC (n:Int):Xr:=(List.range n.toNat).map Int.ofNat
def Hd (L:Xr) (l:Ln):Xr:=L.map fun x=>if x=max (D9 L l.1) (D9 L l.2)then min (D9 L l.1) (D9 L l.2)else x
def K7 (n:Int) (ls:List Ln):Xr:=ls.foldl Hd (pC n)
def cnt (L:Xr):Nat:=((List.range L.length).filter fun(b:Nat)=>decide (D9 L (b:Int)=(b:Int))).length
end Go.Proofs.YtiflhbllbgajeaaGreat
