/- Part. -/
import Derived.WalkKit
import Derived.ProofKit
import Derived.OpenShut
import Derived.Carry
import Derived.ChangeSlices
import Derived.ChangeSame
import Derived.Test.YthiimnbdinlfeaaGreatKRD
set_option linter.all false
namespace Go.Proofs.YthiimnbdinlfeaaGreat
open Go.Vc Go.Gw
theorem E3c:rv zr=0:=g8c _
def put (i:Int) (x:D2) (l:List Ent):List Ent:=if rv x=0 then l else(i,x)::l
def H4 (φ:D2×D2×Unit->D2):List Ent->List Ent->List Ent
 | [],[]=> []
 |e::a,[]=>put e.1 (φ (e.2,zr,())) (H4 φ a [])
 | [],f::b=>put f.1 (φ (zr,f.2,())) (H4 φ [] b)
 |e::a,f::b=>if e.1<f.1 then put e.1 (φ (e.2,zr,())) (H4 φ a (f::b))else if e.1=f.1 then put e.1 (φ (e.2,f.2,())) (H4 φ a b)else put f.1 (φ (zr,f.2,())) (H4 φ (e::a) b)
termination_by a b=>a.length+b.length
theorem C4d (i:Int) (q:Rat) (l:List Ent) (j:Int):C1 (put i (rc q) l) j=(if i=j then q else 0)+C1 l j:=by
 unfold put;rw[H6];split
 . rename_i h;subst h;simp only[ite_self,g3o]
 . rw[C1,H6]
theorem D2f {i:Int} {x:D2} {l:List Ent} {e:Ent} (h:e∈put i x l):e.1=i\/e∈l:=by
 unfold put at h;split at h
 . exact .inr h
 . rcases g0s.1 h with rfl|h
   . exact .inl rfl
   . exact .inr h
theorem C2l {i:Int} {q:Rat} {l:List Ent} (h:C4u l) (hl:∀e∈l,i<e.1):C4u (put i (rc q) l):=by
 unfold put;rw[H6];split
 . exact h
 . rename_i h0;refine⟨H5.2 ⟨hl,h.1⟩,fun e u=> ?_⟩;rcases g0s.1 u with rfl|u
   . simp only[H6];exact⟨h0,trivial⟩
   . exact h.2 e u
theorem D1b (φ:D2×D2×Unit->D2) (g:Rat->Rat->Rat) (g0:g 0 0=0) (a b:List Ent):
 (∀x y,(x=zr\/∃e∈a,e.2=x)->(y=zr\/∃e∈b,e.2=y)->φ (x,y,())=rc (g (rv x) (rv y)))->asc a->asc b->
 C4u (H4 φ a b)/\(∀e∈H4 φ a b,(∃x∈a,x.1=e.1)\/∃y∈b,y.1=e.1)/\∀i,C1 (H4 φ a b) i=g (C1 a i) (C1 b i):=by
 induction a,b using H4.induct with
 |case1=>
  intro _ _ _;rw[H4];exact⟨E9s,fun e he=>(by cases he),fun i=>g0.symm⟩
 |case2 e a ih=>
  intro a0 ha hb;obtain⟨h1,h2,h3⟩:=ih (fun x y hx hy=>a0 x y (hx.imp id fun⟨z,hz,u⟩=>⟨z,g0n _ hz,u⟩) hy) (A6y ha) hb;rw[H4,a0 e.2 zr (.inr ⟨e,g1j ..,rfl⟩) (.inl rfl),E3c];refine⟨C2l h1 fun x hx=> ?_,fun x hx=> ?_,fun i=> ?_⟩
  . rcases h2 x hx with⟨z,hz,u⟩ | ⟨z,hz,_⟩
    . rw[<-u];exact(H5.1 ha).1 z hz
    . cases hz
  . rcases D2f hx with hx|hx
    . exact .inl ⟨e,g1j ..,hx.symm⟩
    . exact(h2 x hx).imp (fun⟨z,hz,u⟩=>⟨z,g0n _ hz,u⟩) id
  . rw[C4d,h3,B6w];by_cases hi:e.1=i
    . subst hi;rw[g1c rfl,A0o ha,E4 fun x hx a3=>by have:=(H5.1 ha).1 x hx;omega,g0,g1p]
    . rw[g0u hi,A3r hi,g3o]
 |case3 f b ih=>
  intro a0 ha hb;obtain⟨h1,h2,h3⟩:=ih (fun x y hx hy=>a0 x y hx (hy.imp id fun⟨z,hz,u⟩=>⟨z,g0n _ hz,u⟩)) ha (A6y hb);rw[H4,a0 zr f.2 (.inl rfl) (.inr ⟨f,g1j ..,rfl⟩),E3c];refine⟨C2l h1 fun x hx=> ?_,fun x hx=> ?_,fun i=> ?_⟩
  . rcases h2 x hx with⟨z,hz,_⟩ | ⟨z,hz,u⟩
    . cases hz
    . rw[<-u];exact(H5.1 hb).1 z hz
  . rcases D2f hx with hx|hx
    . exact .inr ⟨f,g1j ..,hx.symm⟩
    . exact(h2 x hx).imp id fun⟨z,hz,u⟩=>⟨z,g0n _ hz,u⟩
  . rw[C4d,h3,B6w];by_cases hi:f.1=i
    . subst hi;rw[g1c rfl,A0o hb,E4 fun x hx a3=>by have:=(H5.1 hb).1 x hx;omega,g0,g1p]
    . rw[g0u hi,A3r hi,g3o]
 |case4 e a f b a1 ih=>
  intro a0 ha hb;obtain⟨h1,h2,h3⟩:=ih (fun x y hx hy=>a0 x y (hx.imp id fun⟨z,hz,u⟩=>⟨z,g0n _ hz,u⟩) hy) (A6y ha) hb;rw[H4,g1c a1,a0 e.2 zr (.inr ⟨e,g1j ..,rfl⟩) (.inl rfl),E3c];refine⟨C2l h1 fun x hx=> ?_,fun x hx=> ?_,fun i=> ?_⟩
  . rcases h2 x hx with⟨z,hz,u⟩ | ⟨z,hz,u⟩
    . rw[<-u];exact(H5.1 ha).1 z hz
    . rw[<-u];rcases g0s.1 hz with rfl|hz
      . exact a1
      . have:=(H5.1 hb).1 z hz;omega
  . rcases D2f hx with hx|hx
    . exact .inl ⟨e,g1j ..,hx.symm⟩
    . exact(h2 x hx).imp (fun⟨z,hz,u⟩=>⟨z,g0n _ hz,u⟩) id
  . rw[C4d,h3];by_cases hi:e.1=i
    . subst hi;rw[g1c rfl,A0o ha,E4 (v:=a) fun x hx a3=>by have:=(H5.1 ha).1 x hx;omega,E1t hb a1,g0,g1p]
    . rw[g0u hi,A3r hi,g3o]
 |case5 e a f b a1 a2 ih=>
  intro a0 ha hb;obtain⟨h1,h2,h3⟩:=ih (fun x y hx hy=>a0 x y (hx.imp id fun⟨z,hz,u⟩=>⟨z,g0n _ hz,u⟩) (hy.imp id fun⟨z,hz,u⟩=>⟨z,g0n _ hz,u⟩)) (A6y ha) (A6y hb);rw[H4,g0u a1,g1c a2,a0 e.2 f.2 (.inr ⟨e,g1j ..,rfl⟩) (.inr ⟨f,g1j ..,rfl⟩)];refine⟨C2l h1 fun x hx=> ?_,fun x hx=> ?_,fun i=> ?_⟩
  . rcases h2 x hx with⟨z,hz,u⟩ | ⟨z,hz,u⟩
    . rw[<-u];exact(H5.1 ha).1 z hz
    . rw[<-u,a2];exact(H5.1 hb).1 z hz
  . rcases D2f hx with hx|hx
    . exact .inl ⟨e,g1j ..,hx.symm⟩
    . exact(h2 x hx).imp (fun⟨z,hz,u⟩=>⟨z,g0n _ hz,u⟩) fun⟨z,hz,u⟩=>⟨z,g0n _ hz,u⟩
  . rw[C4d,h3];by_cases hi:e.1=i
    . subst hi;have a4:=A0o hb;rw[<-a2]at a4;rw[g1c rfl,A0o ha,a4,E4 (v:=a) fun x hx a3=>by have:=(H5.1 ha).1 x hx;omega,E4 (v:=b) fun x hx a3=>by have:=(H5.1 hb).1 x hx;omega,g0,g1p]
    . rw[g0u hi,A3r hi,A3r (e:=f) (by omega),g3o]
 |case6 e a f b a1 a2 ih=>
  intro a0 ha hb;obtain⟨h1,h2,h3⟩:=ih (fun x y hx hy=>a0 x y hx (hy.imp id fun⟨z,hz,u⟩=>⟨z,g0n _ hz,u⟩)) ha (A6y hb);rw[H4,g0u a1,g0u a2,a0 zr f.2 (.inl rfl) (.inr ⟨f,g1j ..,rfl⟩),E3c];refine⟨C2l h1 fun x hx=> ?_,fun x hx=> ?_,fun i=> ?_⟩
  . rcases h2 x hx with⟨z,hz,u⟩ | ⟨z,hz,u⟩
    . rw[<-u];rcases g0s.1 hz with rfl|hz
      . omega
      . have:=(H5.1 ha).1 z hz;omega
    . rw[<-u];exact(H5.1 hb).1 z hz
  . rcases D2f hx with hx|hx
    . exact .inr ⟨f,g1j ..,hx.symm⟩
    . exact(h2 x hx).imp id fun⟨z,hz,u⟩=>⟨z,g0n _ hz,u⟩
  . rw[C4d,h3];by_cases hi:f.1=i
    . subst hi;rw[g1c rfl,A0o hb,E4 (v:=b) fun x hx a3=>by have:=(H5.1 hb).1 x hx;omega,E1t ha (by omega),g0,g1p]
    . rw[g0u hi,A3r (e:=f) hi,g3o]
def G6a {α:Type} (p:α->Bool) (l:List α):Int:=match l.findIdx? p with
 |some i=>(i:Int)
 |none=> -1
def G5h (p:Int->Bool) (l:List Int):Int:=match l.findIdx? p with
 |some i=>(i:Int)
 |none=> -1
def H4p (v:List Ent):List Ent:=H4 (fun x=>rc (rv x.1)) v []
theorem F7c {v:List Ent} (h:asc v):C4u (H4p v)/\∀i,C1 (H4p v) i=C1 v i:=by
 obtain⟨h1,_,u⟩:=D1b (fun x=>rc (rv x.1)) (fun p _=>p) rfl v [] (fun _ _ _ _=>rfl) h List.Pairwise.nil;exact⟨h1,u⟩
def fill {α:Type} (n i:Nat) (F:Nat->α) (out:List α):Prop:=out.length=n/\∀j,j<i->out[j]? =some (F j)
def G0d (n i:Nat) (P:Nat->List Ent->Prop) (out:List (List Ent)):Prop:=out.length=n/\∀j,j<i->P j (out.getD j [])
theorem H0x {n:Nat} {P:Nat->List Ent->Prop} {out:List (List Ent)} (h:out.length=n):G0d n 0 P out:=⟨h,fun _ u=>by omega⟩
theorem F8t {n:Nat} {i:Int} {P:Nat->List Ent->Prop} {out:List (List Ent)} {x:List Ent} (h:G0d n i.toNat P out) (h0:0<=i) (hi:i<(n:Int)) (hx:P i.toNat x):G0d n (i+1).toNat P (out.set i.toNat x):=by
 refine⟨by rw[g0j];exact h.1,fun j hj=> ?_⟩;rw[g0g,g6x];by_cases u:i.toNat=j
 . rw[g1c u,g1c (by rw[h.1];omega), <-u];exact hx
 . rw[g0u u, <-g0g];exact h.2 j (by omega)
theorem F7x {k:Nat} {m:C2p} (u:F6 m) (hs:okM k m) {v:List Ent} (h:v∈m.2.2):okV k v:=by
 refine⟨(u.2.2.2.2.2 v h).1,hs v h, ?_⟩;have:=A7t (u.2.2.2.2.2 v h);have:=u.2.2.2.1;have:=u.2.2.1;omega
theorem F8w {v:List Ent} {n i:Int} (h:L9 v n) (hi:¬(0<=i/\i<n)):C1 v i=0:=E4 fun e he u=>hi (by rw[<-u];exact⟨(h.2 e he).1,(h.2 e he).2.1⟩)
abbrev LUV:=List Int×List Int×C2p×C2p
def zLU:LUV:=([],[],zm,zm)
def L8 (p:List Int) (n:Int):Prop:=(p.length:Int)=n/\(∀i∈p,0<=i/\i<n)/\p.Nodup
instance (p:List Int) (n:Int):Decidable (L8 p n):=by unfold L8;infer_instance
def sqr (m:C2p) (n:Int):Prop:=m.1=n/\m.2.1=n/\F6 m
instance (m:C2p) (n:Int):Decidable (sqr m n):=by unfold sqr;infer_instance
def B4e (f:LUV) (n:Int):Prop:=L8 f.1 n/\L8 f.2.1 n/\sqr f.2.2.1 n/\sqr f.2.2.2 n/\∀i j:Nat,(i:Int)<n->(j:Int)<n->(i<j->el f.2.2.1 i j=0)/\el f.2.2.1 i i=1/\(j<i->el f.2.2.2 i j=0)/\el f.2.2.2 i i≠0
def luM (f:LUV) (n:Nat) (i j:Nat):Rat:=E2 n fun k=>el f.2.2.1 i k*el f.2.2.2 k j
def nonsing (n:Nat) (A:Nat->Nat->Rat):Prop:=∀x:Nat->Rat,(∀i,i<n->E2 n (fun j=>A i j*x j)=0)->∀j,j<n->x j=0
def sK (s:Nat):Nat->Nat
 |0=>s
 |k+1=>4*sK s k+1
def gK (s T:Nat):Nat->Nat
 |0=>T
 |k+1=>2*gK s T k+s+1
def hK (s Y:Nat):Nat->Nat
 |0=>Y
 |k+1=>2*hK s Y k+2*s+1
def ix (p:List Int) (i:Nat):Nat:=(p.getD i 0).toNat
end Go.Proofs.YthiimnbdinlfeaaGreat
namespace Go.Proofs.YthiimnbdinlfeaaGreat
abbrev Ln:=Int×Int
def lat (s:List Int) (i:Int):Int:=s.getD i.toNat 0
def inB (n:Int) (l:Ln):Prop:=0<=l.1/\l.1<n/\0<=l.2/\l.2<n
instance (n:Int) (l:Ln):Decidable (inB n l):=by unfold inB;infer_instance
def E8b (n:Int) (ls:List Ln):Prop:=0<=n/\n<=16384/\∀l∈ls,inB n l
def E0t (n:Int) (ls:List Ln):Int:=if n<0\/16384<n then 3 else if∀l∈ls,inB n l then 0 else 12
def UF (s:List Int):Prop:=∀i:Nat,i<s.length->0<=lat s i/\lat s i<=i
def E1d (s:List Int):Nat->Int->Int
 |0,b=>b
 |k+1,b=>if lat s b=b then b else E1d s k (lat s b)
def root (s:List Int) (b:Int):Int:=E1d s b.toNat b
def idL (n:Int):List Int:=(List.range n.toNat).map Int.ofNat
def A8v (L:List Int) (l:Ln):List Int:=L.map fun x=>if x=max (lat L l.1) (lat L l.2)then min (lat L l.1) (lat L l.2)else x
def V3 (n:Int) (ls:List Ln):List Int:=ls.foldl A8v (idL n)
def cnt (L:List Int):Nat:=((List.range L.length).filter fun(b:Nat)=>decide (lat L (b:Int)=(b:Int))).length
end Go.Proofs.YthiimnbdinlfeaaGreat
namespace Go.Proofs.YthiimnbdinlfeaaGreat
open Go.Vc Go.Gw
theorem D9f (n:Nat) (f g:Nat->Rat):E2 n (fun i=>f i-g i)=E2 n f-E2 n g:=by
 induction n with
 |zero=>rw[E2,E2,E2];decide+kernel
 |succ n u=>rw[E2,E2,E2,u];grind
theorem E7k {n:Nat} {f:Nat->Rat} (h:∀i,i<n->0<=f i):0<=E2 n f:=by
 induction n with
 |zero=>exact Rat.le_refl
 |succ n u=>
  rw[E2];exact Rat.add_nonneg (u fun i hi=>h i (by omega)) (h n (by omega))
theorem F7a {n:Nat} {f:Nat->Rat} (h:∀i,i<n->0<=f i) (h0:E2 n f=0):∀i,i<n->f i=0:=by
 induction n with
 |zero=>intro i hi;omega
 |succ n ih=>
  rw[E2]at h0;have h1:=E7k (n:=n) fun i hi=>h i (by omega)
  have h2:=h n (by omega);have e2:f n=0:=by grind
  have e1:E2 n f=0:=by grind
  intro i hi;by_cases u:i=n
  . subst u;exact e2
  . exact ih (fun i hi=>h i (by omega)) e1 i (by omega)
def bri (fr to:Nat->Nat) (b i:Nat):Rat:=(if fr i=b then 1 else 0)-(if to i=b then 1 else 0)
def dvg (m:Nat) (fr to:Nat->Nat) (f:Nat->Rat) (b:Nat):Rat:=E2 m fun i=>bri fr to b i*f i
variable {n m:Nat} {fr to:Nat->Nat}
theorem E9w {φ:Nat->Rat} {a:Nat} (h:a<n):E2 n (fun b=>(if a=b then 1 else 0)*φ b)=φ a:=by
 rw[I6 h fun i _ hi=>by rw[g0u (Ne.symm hi),g2y],g1c rfl,g7o]
theorem F8q {φ:Nat->Rat} {i:Nat} (h1:fr i<n) (u:to i<n):E2 n (fun b=>bri fr to b i*φ b)=φ (fr i)-φ (to i):=by
 rw[B6 (g:=fun b=>(if fr i=b then 1 else 0)*φ b-(if to i=b then 1 else 0)*φ b) fun b _=>by unfold bri;grind,D9f,E9w h1,E9w u]
theorem H5a {φ D:Nat->Rat} (h:∀i,i<m->fr i<n/\to i<n):E2 m (fun i=>D i*(φ (fr i)-φ (to i)))=E2 n (fun b=>φ b*dvg m fr to D b):=by
 rw[B6 (g:=fun i=>E2 n fun b=>D i*(bri fr to b i*φ b)) fun i hi=>by rw[B0j,F8q (h i hi).1 (h i hi).2],A7y];refine B6 fun b _=> ?_
 unfold dvg;rw[<-B0j];exact B6 fun i _=>by grind
theorem F9s {φ D s:Nat->Rat} (h:∀i,i<m->fr i<n/\to i<n) (hs:∀i,i<m->0<s i) (hD:∀i,i<m->D i=s i*(φ (fr i)-φ (to i))) (h0:∀b,b<n->φ b=0\/dvg m fr to D b=0):∀i,i<m->φ (fr i)-φ (to i)=0:=by
 have e0:E2 m (fun i=>D i*(φ (fr i)-φ (to i)))=0:=by
  rw[H5a h];exact A0m fun b hb=>by rcases h0 b hb with e|e<;>rw[e]<;>grind
 have hq:∀x:Rat,0<=x*x:=fun x=>by
  rcases(Rat.le_total (a:=0) (b:=x))with h|h
  . exact h2c h h
  . have u:0<= -x:=by grind
    have:=h2c u u;grind
 have:=F7a (f:=fun i=>D i*(φ (fr i)-φ (to i))) (fun i hi=>by
  show 0<=D i*(φ (fr i)-φ (to i));rw[hD i hi,g5w];exact h2c (Rat.le_of_lt (hs i hi)) (hq _)) e0
 intro i hi;have e:=this i hi;rw[hD i hi,g5w]at e;rcases g9z.1 e with e|e
 . have:=hs i hi;rw[e]at this;exact absurd this (h2n)
 . rcases g9z.1 e with e|e<;>exact e
def flw (fr to:Nat->Nat) (s h θ:Nat->Rat) (i:Nat):Rat:=s i*(θ (fr i)-θ (to i)+h i)
theorem G7q (f g:Nat->Rat) (b:Nat):dvg m fr to (fun i=>f i-g i) b=dvg m fr to f b-dvg m fr to g b:=by
 unfold dvg;rw[<-D9f];exact B6 fun i _=>by grind
theorem G8w (f g:Nat->Rat) (w:Rat) (b:Nat):dvg m fr to (fun i=>f i+w*g i) b=dvg m fr to f b+w*dvg m fr to g b:=by
 unfold dvg;rw[<-B0j, <-A6u];exact B6 fun i _=>by grind
theorem D3s {f g:Nat->Rat} (h:∀i,i<m->f i=g i) (b:Nat):dvg m fr to f b=dvg m fr to g b:=B6 fun i hi=>by rw[h i hi]
theorem F7b {s h θ u:Nat->Rat} (hb:∀i,i<m->fr i<n/\to i<n) (hs:∀i,i<m->0<s i) (hd:∀b,b<n->dvg m fr to (flw fr to s h θ) b=dvg m fr to (flw fr to s h u) b):∀i,i<m->flw fr to s h θ i=flw fr to s h u i:=by
 have:=F9s (φ:=fun b=>θ b-u b) (D:=fun i=>flw fr to s h θ i-flw fr to s h u i) hb hs (fun i _=>by unfold flw;grind) fun b a0=> .inr (by rw[G7q,hd b a0];grind)
 intro i hi;have e:=this i hi;unfold flw;have:θ (fr i)-θ (to i)=u (fr i)-u (to i):=by grind
 rw[this]
theorem D7s {f:Nat->Rat} {lab:Nat->Nat} (hb:∀i,i<m->fr i<n/\to i<n) (u:∀i,i<m->lab (fr i)=lab (to i)) (t:Nat):E2 n (fun b=>(if lab b=t then 1 else 0)*dvg m fr to f b)=0:=by
 rw[<-H5a hb];exact A0m fun i hi=>by rw[u i hi];grind
variable {n m k:Nat} {fr to:Nat->Nat} {s:Nat->Rat}
def F3e (m:Nat) (fr to:Nat->Nat) (s:Nat->Rat) (b c:Nat):Rat:=E2 m fun i=>s i*(bri fr to b i*bri fr to c i)
theorem F7k (h:∀i,i<m->fr i<n/\to i<n) (θ:Nat->Rat) (b:Nat):E2 n (fun c=>F3e m fr to s b c*θ c)=dvg m fr to (fun i=>s i*(θ (fr i)-θ (to i))) b:=by
 rw[B6 (g:=fun c=>E2 m fun i=>s i*bri fr to b i*(bri fr to c i*θ c)) fun c _=>by
  unfold F3e;rw[<-D3q];exact B6 fun i _=>by grind,A7y]
 refine B6 fun i hi=> ?_
 rw[B0j,F8q (h i hi).1 (h i hi).2];grind
def E8f (k:Nat) (o:Nat->Nat) (x:Nat->Rat) (b:Nat):Rat:=E2 k fun c=>if o c=b then x c else 0
theorem F4w {o:Nat->Nat} (hi:∀a c,a<k->c<k->o a=o c->a=c) (x:Nat->Rat) {c:Nat} (hc:c<k):E8f k o x (o c)=x c:=by
 unfold E8f;rw[I6 hc fun a ha u=>g0u fun e=>u (hi a c ha hc e),g1c rfl]
theorem D0d {o:Nat->Nat} (x:Nat->Rat) {b:Nat} (h:∀c,c<k->o c≠b):E8f k o x b=0:=A0m fun c u=>g0u (h c u)
theorem F5u {o:Nat->Nat} (ho:∀a,a<k->o a<n) (x:Nat->Rat) (b:Nat):E2 n (fun c=>F3e m fr to s b c*E8f k o x c)=E2 k fun c=>F3e m fr to s b (o c)*x c:=by
 rw[B6 (g:=fun c=>E2 k fun a=>F3e m fr to s b c*(if o a=c then x a else 0)) fun c _=>by unfold E8f;rw[B0j],A7y];refine B6 fun a u=> ?_
 rw[I6 (ho a u) fun c _ hc=>by rw[g0u (Ne.symm hc),g4o],g1c rfl]
theorem E8v {o lab:Nat->Nat} (hb:∀i,i<m->fr i<n/\to i<n) (hs:∀i,i<m->0<s i) (ho:∀a,a<k->o a<n) (hi:∀a c,a<k->c<k->o a=o c->a=c)
 (u:∀φ:Nat->Rat,(∀i,i<m->φ (fr i)=φ (to i))->∀b,b<n->φ b=φ (lab b)) (a1:∀b,b<n->∀a,a<k->o a≠lab b):nonsing k fun a c=>F3e m fr to s (o a) (o c):=by
 intro x hx c hc;have h1:=F9s (φ:=E8f k o x) (D:=fun i=>s i*(E8f k o x (fr i)-E8f k o x (to i))) hb hs (fun _ _=>rfl) fun b hbn=>by
  by_cases a0:∃a,a<k/\o a=b
  . obtain⟨a,ha,rfl⟩:=a0;refine .inr ?_;rw[<-F7k hb,F5u ho];exact hx a ha
  . exact .inl (D0d x fun a ha e=>a0 ⟨a,ha,e⟩)
 rw[<-F4w hi x hc,u (E8f k o x) (fun i hi=>by have:=h1 i hi;grind) (o c) (ho c hc)];exact D0d x fun a ha=>a1 (o c) (ho c hc) a ha
theorem G2t {lab:Nat->Nat} {F J:Nat->Rat} (h1:∀b,b<n->lab b≠b->F b=J b) (hF:∀t,E2 n (fun b=>(if lab b=t then 1 else 0)*F b)=0) (hJ:∀t,t<n->E2 n (fun b=>(if lab b=t then 1 else 0)*J b)=0):∀b,b<n->F b=J b:=by
 intro t ht;by_cases hl:lab t=t
 . have e:E2 n (fun b=>(if lab b=t then 1 else 0)*(F b-J b))=0:=by
    rw[B6 (g:=fun b=>(if lab b=t then 1 else 0)*F b-(if lab b=t then 1 else 0)*J b) fun b _=>by grind,D9f,hF,hJ t ht];grind
   rw[I6 ht fun b hb a0=> ?_,g1c hl]at e
   . grind
   . by_cases u:lab b=t
     . rw[h1 b hb (by omega)];grind
     . rw[g0u u,g2y]
 . exact h1 t ht hl
theorem G4f {o lab:Nat->Nat} {h J right x:Nat->Rat} (hb:∀i,i<m->fr i<n/\to i<n) (ho:∀a,a<k->o a<n)
 (u:∀b,b<n->lab b≠b->∃a,a<k/\o a=b) (a0:∀i,i<m->lab (fr i)=lab (to i)) (hx:∀a,a<k->E2 k (fun c=>F3e m fr to s (o a) (o c)*x c)=right a)
 (hr:∀a,a<k->right a=J (o a)-dvg m fr to (fun i=>s i*h i) (o a)) (hJ:∀t,t<n->E2 n (fun b=>(if lab b=t then 1 else 0)*J b)=0):∀b,b<n->dvg m fr to (flw fr to s h (E8f k o x)) b=J b:=by
 refine G2t (lab:=lab) (fun b a1 hl=> ?_) (fun t=>D7s hb a0 t) hJ;obtain⟨a,ha,rfl⟩:=u b a1 hl;have e1:=hx a ha;rw[<-F5u ho,F7k hb,hr a ha]at e1;have e2:dvg m fr to (flw fr to s h (E8f k o x)) (o a)=dvg m fr to (fun i=>s i*(E8f k o x (fr i)-E8f k o x (to i))+1*(s i*h i)) (o a):=D3s (fun i _=>by unfold flw;grind) _;rw[e2,G8w,e1];grind
abbrev BrV:=Int×Int×D2×D2
abbrev E2c:=Int×List BrV
def dB:BrV:=(0,0,((false,[]),[]),((false,[]),[]))
def brF (E:List BrV) (i:Nat):Nat:=(E.getD i dB).1.toNat
def brT (E:List BrV) (i:Nat):Nat:=(E.getD i dB).2.1.toNat
def brS (E:List BrV) (i:Nat):Rat:=rv (E.getD i dB).2.2.1
def brH (E:List BrV) (i:Nat):Rat:=rv (E.getD i dB).2.2.2
def G5y (n:Int) (e:BrV):Prop:=0<=e.1/\e.1<n/\0<=e.2.1/\e.2.1<n/\e.1≠e.2.1/\0<rv e.2.2.1
instance (n:Int) (e:BrV):Decidable (G5y n e):=by unfold G5y;infer_instance
def F5 (N:E2c):Prop:=0<=N.1/\N.1<=16384/\N.2.length<=16384/\∀e∈N.2,G5y N.1 e
instance (N:E2c):Decidable (F5 N):=by unfold F5;infer_instance
def prs (E:List BrV):List Ln:=E.map fun e=>(e.1,e.2.1)
def A7u (N:E2c) (b:Nat):Nat:=(lat (V3 N.1 (prs N.2)) (b:Int)).toNat
def E0i (E:List BrV) (b c:Nat):Rat:=F3e E.length (brF E) (brT E) (brS E) b c
def dvN (E:List BrV) (f:Nat->Rat) (b:Nat):Rat:=dvg E.length (brF E) (brT E) f b
def flN (E:List BrV) (t:Nat->Rat) (i:Nat):Rat:=flw (brF E) (brT E) (brS E) (brH E) t i
abbrev K2:Nat:=4294967296
def rat (l:List D2) (i:Nat):Rat:=rv (l.getD i zr)
def V7 (s:List Int) (x:List D2):Prop:=∀t,t<s.length->E2 s.length (fun b=>(if s.getD b 0=(t:Int)then 1 else 0)*rat x b)=0
instance (s:List Int) (x:List D2):Decidable (V7 s x):=by unfold V7;infer_instance
def szN (k:Nat) (E:List BrV):Prop:=∀e∈E,sz k e.2.2.1/\sz k e.2.2.2
def O5 (N:E2c):Prop:=N.1<=7/\N.2.length<=9/\szN 2 N.2
def H2i (N:E2c):Prop:=F5 N/\1<=N.1/\N.1<=6/\N.2.length<=9/\∀e∈N.2,D0n e.2.2.1/\D0n e.2.2.2
def lst (n:Nat) (f:Nat->Rat):List D2:=(List.range n).map fun i=>rc (f i)
end Go.Proofs.YthiimnbdinlfeaaGreat
namespace Go.Gw
open Go Go.RowKit Go.ChangeShapes Go.WideShapes Go.ChangeAt
section
variable {H:Type} {enc:TypeId×Value->H} {P:Program}
theorem C4a (hl:laidOutB P=true) {W W':World} {sp:Nat->Bool} (hb:Ext W W'):∀(ts:List TypeId) (vs:List Value) (ds:List (DataW H)) (u:List MemPlace),
 (∀t∈ts,P.readableRec t=true/\t<P.types.size)->DataW.TrodAll enc P W 0 (fun _=>true) true ts vs ds u->(∀x∈u,x.block<W.heap.size)->(∀x∈u,sp x.block=true)->DataW.TrodAll enc P W' 0 sp true ts vs ds u
 | [],vs,ds,u,_,h,_,_=>by
  cases vs<;>cases ds<;>simp[DataW.TrodAll]at h⊢;exact h
 |t::ts,vs,ds,u,ht,h,a0,hsp=>by
  obtain⟨v,a2,d,a1,p,q,rfl,rfl,rfl,h1,h2⟩:=trodAll_cons h;refine trodAll_cons_mk ?_ (C4a hl hb ts a2 a1 q (fun x hx=>ht x (by simp[hx])) h2 (fun x hx=>a0 x (by simp[hx])) (fun x hx=>hsp x (by simp[hx])));exact WideElems.Trod_stays hl (ht t (by simp)).1 (ht t (by simp)).2 h1 (fun x hx=>hb.same (a0 x (by simp[hx]))) (fun x hx=>hsp x (by simp[hx]))
theorem G1y (hl:laidOutB P=true) {f:Func} {s:ChangeSpec} {W W':World} {args:Array Value} {ds gs:List (DataW H)} {before:List MemPlace} {tb:TypeId}
 (hW:DataW.Whole enc P f.params.toList s.vars false W args.toList ds gs before) (hv:s.vars= []) (a2:f.resultTypes= #[tb]) (a4:P.underlying tb=some .bool)
 (u:s.fn H ds= {results:= [.lit (.bool true)],args:=ds}) (hr:∀t∈f.params.toList,P.readableRec t=true/\t<P.types.size) (hb:Ext W W'):
 s.post enc P f false true false false W args (.bool true) W':=by
 have a0:∀p∈before,p.block<W.heap.size:=fun p hp=>hW.lt p hp
 have a3:=hW;obtain⟨p,q,hA,hV,a1,_,_⟩:=hW;rw[hv]at hV;obtain⟨rfl,rfl⟩:=trodVars_none hV;rw[g5h]at a1;subst a1;refine⟨ds,[],before,[],before,[],a3, ?_, ?_, ?_, ?_,fun h=>by cases h⟩
 . rw[g5h,u,a2];exact trodAll_mk1 (shut_bool a4 _)
 . rw[g5h,u];exact C4a hl hb _ _ _ _ hr hA a0 (fun x hx=>by simpa using a0 x hx)
 . rw[g5h,u,hv];rfl
 . refine World.keptBut_mono ?_ (hb.frame (· ∈before));intro x hx;exact⟨hx, .inr (.inl hx)⟩
end
end Go.Gw
namespace Go.Vc
open Go Go.RowKit Go.Gw Go.ChangeShapes Go.WideShapes Go.ChangeAt
def G5m (P:Program):Nat->TypeId->Ty->Bool
 |0,_,_=>false
 |n+1,T,ty=>match P.underlying T with
  |some (.int k)=>(match ty with| .int k'=>decide (k=k') | _=>false)
  |some .bool=>(match ty with| .bool=>true| _=>false)
  |some .string=>(match ty with| .str=>true| _=>false)
  |some (.slice e)=>(match ty with| .sl t=>G5m P n e t&&Nat.beq (P.cellsOf e) t.size&&Nat.ble 1 t.size| _=>false)
  |some (.struct u)=>G4a P (G5m P n) u.toList 0 ty&&Nat.beq (P.cellsOf T) ty.size
  |some (.array k e)=>G1k (G5m P n e) (P.cellsOf e) k ty&&Nat.beq (P.cellsOf T) ty.size
  | _=>false
section
variable {H:Type} {α:Type} {enc:TypeId×Value->H} {P:Program} {W:World}
theorem cells?_at {base:Nat} {a:Addr} {n:Nat} {cs:List Value} (h:W.cells? base a n=some cs):cs.length=n/\I0 W a cs:=by
 obtain⟨_,hl,hc⟩:=World.cells?_some h;exact⟨hl,fun j v u=>by have:=hc j (by have:=E4j u;omega);rw[this];exact u⟩
theorem F5a {a:Addr} {v:Value} (h:W.cell? a=some v):a.spot=none:=by
 unfold World.cell? at h;split at h
 . cases u:a.spot with
   |none=>rfl
   |some _=>simp[u]at h
 . cases h
theorem D8g {R:List Value->α->Prop} {b o sz:Nat} :∀(len:Nat),(∀i,i<len->∃u y,u.length=sz/\I0 W ⟨b,o+i*sz,none⟩ u/\R u y)->∃u l,l.length=len/\u.length=len*sz/\I0 W ⟨b,o,none⟩ u/\M0 R u l
 |0,_=>⟨[],[],rfl,by simp,fun j v hj=>by simp at hj,rfl⟩
 |len+1,h=>by
  obtain⟨u,l,h1,h2,h3,h4⟩:=D8g (R:=R) (b:=b) (o:=o) (sz:=sz) len (fun i hi=>h i (by omega));obtain⟨a0,y,g1,g2,g3⟩:=h len (by omega);refine⟨u++a0,l++ [y],by simp[h1],by rw[g1o,h2,g1,g4d],fun j v hj=> ?_,h4.append ⟨a0,[],by simp,g3,rfl⟩⟩;rw[List.getElem?_append]at hj;split at hj
  . exact h3 j v hj
  . rename_i a1;have:=g2 _ v hj;rw[I1]at this⊢;rw[h2]at this a1;rw[show o+len*sz+(j-len*sz)=o+j from by omega]at this;exact this
theorem F7m {n:Nat} {r:TypeId->Ty->Bool} {Z:Nat->Prop} {cs:List Value} (hr:∀ {T:TypeId} {ty:Ty} {cs:List Value} {x:DataW H×List MemPlace},r T ty=true->DataW.trod enc P W 0 (fun _=>true) true n T cs=some x->∃y,Rep ty W Z cs y):
 ∀ {fs:List Field} {off:Nat} {ty:Ty},G4a P r fs off ty=true->(∀f∈fs,∃x,DataW.trod enc P W 0 (fun _=>true) true n f.type ((cs.drop f.offset).take (P.cellsOf f.type))=some x)->cs.length=off+ty.size->∃y,Rep ty W Z (cs.drop off) y
 | [],off,ty,h,hx,hl=>by
  cases ty<;>simp[G4a]at h;exact⟨(),by rw[g2c (by simp[Ty.size]at hl;omega)];rfl⟩
 | [f],off,ty,h,hx,hl=>by
  have h':(Nat.beq f.offset off&&r f.type ty&&Nat.beq (P.cellsOf f.type) ty.size)=true:=by cases ty<;>exact h
  simp only[g0c]at h';obtain⟨x,hx⟩:=hx f (by simp);obtain⟨y,u⟩:=hr h'.1.2 hx;rw[g0e h'.1.1,g0e h'.2,g0o (by rw[g2l];omega)]at u;exact⟨y,u⟩
 |f::g::fs,off,ty,h,hx,hl=>by
  cases ty<;>simp only[G4a]at h<;>try cases h
  rename_i a b;simp only[g0c]at h;obtain⟨⟨⟨h1,h2⟩,h3⟩,h4⟩:=h;obtain⟨x,a0⟩:=hx f (by simp);obtain⟨y,u⟩:=hr h2 a0;rw[g0e h1,g0e h3]at u;obtain⟨z,hz⟩:=F7m hr h4 (fun q hq=>hx q (g0n _ hq)) (by rw[hl];simp only[Ty.size];omega);exact⟨(y,z),(cs.drop off).take a.size,cs.drop (off+a.size),by rw[<-g5e,g4k],u,hz⟩
theorem F4u {n:Nat} {r:TypeId->Ty->Bool} {Z:Nat->Prop} {cs:List Value} {e:TypeId} {sz:Nat} (hr:∀ {T:TypeId} {ty:Ty} {cs:List Value} {x:DataW H×List MemPlace},r T ty=true->DataW.trod enc P W 0 (fun _=>true) true n T cs=some x->∃y,Rep ty W Z cs y):
 ∀ {k i:Nat} {ty:Ty},G1k (r e) sz k ty=true->(∀j,j<k->∃x,DataW.trod enc P W 0 (fun _=>true) true n e ((cs.drop ((i+j)*sz)).take sz)=some x)->cs.length=i*sz+ty.size->∃y,Rep ty W Z (cs.drop (i*sz)) y
 |0,i,ty,h,hx,hl=>by
  cases ty<;>simp[G1k]at h;exact⟨(),by rw[g2c (by simp[Ty.size]at hl;omega)];rfl⟩
 |1,i,ty,h,hx,hl=>by
  have h':(r e ty&&Nat.beq ty.size sz)=true:=by cases ty<;>exact h
  simp only[g0c]at h';obtain⟨x,hx⟩:=hx 0 (by omega);rw[g2x]at hx;obtain⟨y,u⟩:=hr h'.1 hx;have:=g0e h'.2;rw[g0o (by rw[g2l];omega)]at u;exact⟨y,u⟩
 |k+2,i,ty,h,hx,hl=>by
  cases ty<;>simp only[G1k]at h<;>try cases h
  rename_i a b;simp only[g0c]at h;obtain⟨⟨h1,h2⟩,h3⟩:=h;obtain⟨x,a0⟩:=hx 0 (by omega);rw[g2x]at a0;obtain⟨y,u⟩:=hr h1 a0;have h2:=g0e h2;have u:Rep a W Z ((cs.drop (i*sz)).take a.size) y:=by rw[h2];exact u
  have hi:(i+1)*sz=i*sz+a.size:=by rw[g4d,h2]
  obtain⟨z,hz⟩:=F4u hr (i:=i+1) h3 (fun j hj=>by
   have:=hx (j+1) (by omega);rw[show i+(j+1)=i+1+j from by omega]at this;exact this) (by rw[hl,hi];simp only[Ty.size];omega)
  rw[hi]at hz;exact⟨(y,z),(cs.drop (i*sz)).take a.size,cs.drop (i*sz+a.size),by rw[<-g5e,g4k],u,hz⟩
theorem E1o:∀ {m n:Nat} {T:TypeId} {ty:Ty} {cs:List Value} {x:DataW H×List MemPlace},G5m P m T ty=true->DataW.trod enc P W 0 (fun _=>true) true n T cs=some x->∃y,Rep ty W (fun b=>b<W.heap.size) cs y
 |0,_,_,_,_,_,h,_=>by cases h
 |m+1,n,T,ty,cs,x,h,hx=>by
  simp only[G5m]at h;split at h
  . rename_i k hu;cases ty<;>simp only at h<;>try cases h
    rename_i k';have:=g0a h;subst this;obtain⟨z,e,_,hw⟩:=DataW.trod_int hu hx;exact⟨z,e,by simp only[Lit.wf,g0c,g1y]at hw;exact hw⟩
  . rename_i hu;cases ty<;>simp only at h<;>try cases h
    obtain⟨b,e,_⟩:=DataW.trod_bool hu hx;exact⟨b,e⟩
  . rename_i hu;cases ty<;>simp only at h<;>try cases h
    obtain⟨s,e,_⟩:=DataW.trod_string hu hx;exact⟨s,e⟩
  . rename_i e hu;cases ty<;>simp only at h<;>try cases h
    rename_i t;simp only[g0c]at h;have a7:=g0e h.1.2;rcases DataW.trod_slice hu hx with⟨hc,_⟩ | ⟨a,len,a1,E6t,rest,q,hq,hc,_,_,ac,a2,ab,a3,_⟩
    . exact⟨[],none,0,hc,g0w _,g1n _,fun _=>rfl, .inl rfl⟩
    . by_cases h0:len=0
      . subst h0;exact⟨[],some a,a1,hc,g1n _,a2,fun hh=>(by cases hh), .inl rfl⟩
      . have a0:∀i,i<len->∃ec y,ec.length=t.size/\I0 W (a.add (i*t.size)) ec/\Rep t W (fun b=>b<W.heap.size) ec y:=fun i hi=>by
         have h1:=a3 i hi;rw[g0l (by omega),a7]at h1;obtain⟨ec,a5,a9⟩:=h0x.1 h1;obtain⟨g1,g2⟩:=cells?_at a5;obtain⟨y,hy⟩:=E1o (m:=m) h.1.1 a9;exact⟨ec,y,g1,g2,hy⟩
        obtain⟨e0,y0,g1,g2,_⟩:=a0 0 (by omega);have ad:=g0p h.2;obtain⟨v0,a8⟩:=G6k (l:=e0) (i:=0) (by omega);have u:=g2 0 v0 a8;have a4:(a.add (0*t.size)).add 0=a:=by simp[Addr.add]
        rw[a4]at u;have hsp:=F5a u;obtain⟨b,o,sp⟩:=a;simp only at hsp;subst hsp;have hb:b<W.heap.size:=block_lt_of_cell u;obtain⟨ec,l,k1,_,k3,k4⟩:=D8g (R:=Rep t W (fun b=>b<W.heap.size)) (b:=b) (o:=o) (sz:=t.size) len (fun i hi=>by
         obtain⟨ec,y,q1,q2,q3⟩:=a0 i hi;rw[I1]at q2;exact⟨ec,y,q1,q2,q3⟩)
        exact⟨l,some ⟨b,o,none⟩,a1,by rw[hc,k1],by omega,a2,fun hh=>(by cases hh), .inr ⟨b,o,ec,rfl,hb,k3,k4⟩⟩
  . rename_i fs hu;simp only[g0c]at h;obtain⟨xs,q,hq,_,hl,aa,hf⟩:=DataW.trod_struct hu hx;have:=F7m (enc:=enc) (P:=P) (W:=W) (n:=q) (Z:=fun b=>b<W.heap.size) (cs:=cs) (fun hh hx=>E1o (m:=m) hh hx) h.1 (fun f hf'=>by
     obtain⟨i,hi,he⟩:=List.getElem_of_mem hf';have a6:i<fs.size:=by simpa using hi
     have h1:=hf i f (by rw[g3w a6];simpa using he);rw[g0l (by omega)]at h1;exact⟨_,h1⟩) (by rw[hl,g0e h.2];omega)
    simpa using this
  . rename_i k e hu;simp only[g0c]at h;obtain⟨xs,q,hq,_,hl,aa,hf⟩:=DataW.trod_array hu hx;have:=F4u (enc:=enc) (P:=P) (W:=W) (n:=q) (Z:=fun b=>b<W.heap.size) (cs:=cs) (e:=e) (i:=0) (fun hh hx=>E1o (m:=m) hh hx) h.1 (fun j hj=>by
     have h1:=hf j hj;rw[g0l (by omega)]at h1;rw[g2g];exact⟨_,h1⟩) (by rw[hl,g0e h.2];omega)
    simpa using this
  . cases h
end
def H3m (P:Program) (T:TypeId) (a:Bool):Bool:=match P.underlying T with
 |some (.struct _)=>a
 |some (.array _ _)=>false
 | _=> !a
def F1m (P:Program):List TypeId->List AM->Bool
 | [],[]=>true
 |T::ts, .val a ty::as=>G5m P 40 T ty&&H3m P T a&&F1m P ts as
 | _,_=>false
section
variable {H:Type} {enc:TypeId×Value->H} {P:Program} {W:World}
theorem G2x {m:Nat} {T:TypeId} {ty:Ty} {a:Bool} {r:Reach} {b0:Nat} {v:Value} {d:DataW H} {p:List MemPlace} (h:G5m P m T ty=true) (ha:H3m P T a=true) (hv:Value.okWide P W r b0 T v) (hd:DataW.Trod enc P W 0 (fun _=>true) true T v d p):
 ∃y,A7i a ty W (fun b=>b<W.heap.size) v y:=by
 obtain⟨n,hd⟩:=hd;obtain⟨y,hy⟩:=E1o h hd;refine⟨y, ?_⟩;cases m with
 |zero=>cases h
 |succ m=>
  simp only[G5m]at h;unfold H3m at ha;split at h
  . rename_i k u;simp only[u,g1k]at ha;obtain⟨n,rfl⟩:=okWide_int u hv;subst ha;exact hy
  . rename_i u;simp only[u,g1k]at ha;obtain⟨n,rfl⟩:=okWide_bool u hv;subst ha;exact hy
  . rename_i u;simp only[u,g1k]at ha;obtain⟨n,rfl⟩:=okWide_string u hv;subst ha;exact hy
  . rename_i e u;simp only[u,g1k]at ha;obtain⟨x1,x2,x3,rfl⟩:=okWide_slice u hv;subst ha;exact hy
  . rename_i fs u;simp only[u]at ha;obtain⟨cs,rfl,_⟩:=okWide_struct u hv;subst ha;exact⟨cs.toList,by simp,hy⟩
  . rename_i u;simp only[u]at ha;cases ha
  . cases h
theorem E2f {r:Reach} {b0:Nat} :∀ {ts:List TypeId} {as:List AM} {vs:List Value} {ds:List (DataW H)} {ps:List MemPlace},F1m P ts as=true->DataW.TrodAll enc P W 0 (fun _=>true) true ts vs ds ps->(∀(j:Nat) (t:TypeId) (v:Value),ts[j]? =some t->vs[j]? =some v->Value.okWide P W r b0 t v)->∃x,A3a P W (fun b=>b<W.heap.size) as vs x
 | [],[],vs,ds,ps,_,h,_=>by
  cases vs with
  |nil=>exact⟨(),rfl⟩
  |cons _ _=>cases ds<;>exact h.elim
 | [],_:: _,_,_,_,h,_,_=>by cases h
 | _:: _,[],_,_,_,h,_,_=>by cases h
 |T::ts, .row _ _:: _,_,_,_,h,_,_=>by cases h
 |T::ts, .box _ _:: _,_,_,_,h,_,_=>by cases h
 |T::ts, .fn _ _ _:: _,_,_,_,h,_,_=>by cases h
 |T::ts, .rows _ _ _:: _,_,_,_,h,_,_=>by cases h
 |T::ts, .val a ty::as,vs,ds,ps,h,hA,hv=>by
  simp only[F1m,g0c]at h;obtain⟨v,a0,d,a1,p,q,rfl,rfl,rfl,h1,h2⟩:=trodAll_cons hA;obtain⟨y,hy⟩:=G2x h.1.1 h.1.2 (hv 0 T v rfl rfl) h1;obtain⟨z,hz⟩:=E2f h.2 h2 (fun j t u ht hu=>hv (j+1) t u (by simpa using ht) (by simpa using hu));exact⟨(y,z),v,a0,rfl,hy,hz⟩
def E7q (as:List AM):A6:= {args:=as,res:= [.val false .bool],pre:=fun _=>True,post:=fun _ r=>r.1=true}
theorem F8z {f:FuncId} {as:List AM} {vs:List Value} {x:A9 as} (ha:A2i as=true) (hm:B4 P f (E7q as)) (h:A3a P W (fun b=>b<W.heap.size) as vs x):Gw.Ret P f vs W fun v W'=>v= .bool true/\Ext W W':=by
 refine(hm W _ vs x (fun _ h=>h) h (by show Dis W (W2 as vs);rw[C4g ha];trivial) trivial).mono fun v w' ⟨hx,r,o,us,Zn,hpost,_,hv,_,hrep,_⟩=>⟨?_,hx.ext (fun b ⟨u,hu,_⟩=>by rw[show W2 (E7q as).args vs= []from C4g ha vs]at hu;cases hu)⟩
 obtain⟨u,a0,e,h1,_,h2⟩:=hrep;rw[show a0= []from h2]at e;subst e;have h1: [u]= [Value.bool r.1]:=h1;have hr:r.1=true:=hpost;rw[hr]at h1;rw[hv];simpa[D1d]using h1
theorem E7r {f:FuncId} {s:A6} (h:∀x,¬s.pre x):B4 P f s:=fun _ _ _ x _ _ _ u=>absurd u (h x)
theorem A1:E0f P []:=fun _ _ h=>by cases h
theorem A0 {f:FuncId} {s:A6} {l:L3} (h1:B4 P f s) (h2:E0f P l) (hi:s.inl=none:=by rfl):E0f P ((f,s)::l):=fun g t h=>by
 unfold A9x at h;cases hb:Nat.beq f g with
 |true=>
  rw[hb]at h;obtain rfl:=g0e hb;obtain rfl:s=t:=by simpa using h
  exact⟨h1,fun run u=>by rw[hi]at u;cases u⟩
 |false=>rw[hb]at h;exact h2 g t h
theorem A3n {f:FuncId} {run:Inl} {l:L3} (h1:E3a P f run) (u:E0f P l):E0f P ((f,A6e run)::l):=fun g t h=>by
 unfold A9x at h;cases hb:Nat.beq f g with
 |true=>
  rw[hb]at h;obtain rfl:=g0e hb;obtain rfl:A6e run=t:=by simpa using h
  exact⟨fun _ _ _ _ _ _ _ hp=>hp.elim,fun r hr=>by cases hr;exact h1⟩
 |false=>rw[hb]at h;exact u g t h
theorem A5q:G3r P []:=fun _ h=>by cases h
theorem Q8 {d:Nat} {sp:L3} {an:An} {l:List (Nat×L3×An)} (h1:E0f P sp) (u:G3r P l):G3r P ((d,sp,an)::l):=fun x hx=>by
 rcases g0s.1 hx with rfl|hx
 . exact h1
 . exact u x hx
end
end Go.Vc
namespace Go.Vc
open Go Go.RowKit Go.Gw
def C7v (g:FuncId) (t:Ty) (e:TypeId) (φ:t.den->t.den->Int) (_:Nat) (st:St) (ss:List SV) (k:St->List SV->Prop):Prop:=
 match ss with
 | [⟨false,[.row q]⟩,⟨false,[.fn g' []]⟩]=>bif Nat.beq g' g then(match D3d st t e q with
  |some l=>l.length<=100000/\∀u:List t.den,(Ty.sl t).wf u->u.Perm l->u.Pairwise (fun a b=>¬φ b a<0)->k (addM [.row t e] (u,()) [q] (dropM st [q])) []
  |none=>False)else False
 | _=>False
theorem G0a (g:FuncId) (t:Ty) (e:TypeId) (φ:t.den->t.den->Int) {st:St} {d:Nat} {ss:List SV} {k k':St->List SV->Prop} (h:C7v g t e φ d st ss k) (u:∀st' ss',Evo st st'->k st' ss'->k' st' ss'):C7v g t e φ d st ss k':=by
 unfold C7v at h⊢;split at h
 . obtain⟨hb,h⟩:=A8 h;rw[hb,g0r];split at h
   . exact⟨h.1,fun l' hw hp hs=>u _ _ ((Evo.dropM _ _).trans (Evo.addM _ _ _ _)) (h.2 l' hw hp hs)⟩
   . exact h.elim
 . exact h.elim
def E1s (g:FuncId) (t:Ty) (e:TypeId) (φ:t.den->t.den->Int):Inl:= {run:=C7v g t e φ,step:=G0a g t e φ}
def A0r (t:Ty) (e:TypeId) (φ:t.den->t.den->Int):A6:=
 { args:= [.row t e],res:= [],shared:=true,pre:=fun _=>True,post:=fun _ _=>True,mpost:=fun(x:List t.den×Unit) _ (o:List t.den×Unit)=>o.1.Perm x.1/\o.1.Pairwise fun a b=>¬φ b a<0}
def G0n (P:Program) (f g:FuncId) (t:Ty) (e:TypeId) (φ:t.den->t.den->Int):Prop:=
 ∀(w:World) (Z:Nat->Prop) (v:Value) (l:List t.den),(∀b,Z b->b<w.heap.size)->F2c P w Z (.row t e) v l->l.length<=100000->H1o P f (A0r t e φ) [v, .func (.func g) #[] #[]] w Z (l,())
theorem D7b {P:Program} {tys:List (Nat×TI)} {f g:FuncId} {t:Ty} {e:TypeId} {φ:t.den->t.den->Int} (hs:G0n P f g t e φ):E3a P f (E1s g t e φ):=by
 refine {go:= ?_};intro za w0 st E w Z B d ss vs k ae h ab ad hr;replace hr:C7v g t e φ d st ss k:=hr;unfold C7v at hr;split at hr
 . rename_i q g';obtain⟨hg,a1⟩:=A8 hr;clear hr;obtain rfl:=g0e hg;split at a1
   . rename_i l hl;obtain⟨a2,aa⟩:=a1;obtain⟨v1,af,rfl,h1,v2,ag,rfl,h2,rfl⟩:=ab;have e1:v1=B q:=by
      obtain⟨u,us,e1,e2,e3⟩:=h1;cases e1;exact e2
     have e2:v2= .func (.func g') #[] #[]:=by
      obtain⟨u,us,e1,e2,e3⟩:=h2;cases e1;exact e2
     subst e1 e2;have hL:=h.locs q;have hq:∃t',∃e',∃l':List t'.den,st.L q= .row t' e' l':=by
      unfold D3d at hl;split at hl
      . exact⟨_,_,_,by assumption⟩
      . cases hl
     obtain⟨t',e',l0,hq⟩:=hq;unfold D3d at hl;rw[hq]at hl hL;simp only at hl;split at hl
     . rename_i ht;subst ht;cases a0:Nat.beq e' e with
       |false=>simp[a0]at hl
       |true=>
        simp only[a0,g0r,g0y]at hl;obtain rfl:=g0e a0;subst hl;obtain⟨xs,a3,a8,hZ⟩:=hL;have a5:F2c P w Z (.row t' e') (B q) l0:=⟨xs,a3,a8,fun b hb=>(hZ b hb).2⟩;have a6:=hs w Z (B q) l0 h.zlt a5 a2;have a9:live (st.L q):=by rw[hq];trivial
        have hz:lz w st [q] B Z true=Z:=by funext b;simp[lz]
        have:=E4n (cx:=⟨P,tys⟩) (s:=A0r t' e' φ) (x:=(l0,())) (vs:= [B q, .func (.func g') #[] #[]]) (mu:= [q]) h (by rw[show(A0r t' e' φ).shared=true from rfl,hz];exact a6) rfl
         ⟨⟨rfl,fun b hb=>by rw[hq];exact hb⟩,trivial⟩ (by simp) (fun q2 a4=>by simp at a4;subst a4;exact a9)
        refine Gw.Ret.mono this fun v w' ⟨_,r,o,us,_,how,_,hmp,hv,Z',B',h3,h4,_⟩=> ?_
        obtain⟨hp,a7⟩:=hmp rfl;have ac:us= []:=h4;subst ac;exact⟨_,Z',B',[],[],h3,hv,rfl,fun s hs=>(by cases hs),aa o.1 how.1 hp a7⟩
     . cases hl
   . exact a1.elim
 . exact hr.elim
def E2y (P:Program) (as:List (Bool×Ty)) (ra:Bool) (r a:Ty) (φ:a.den->A2r as->r.den):List SV->Option SV
 | [⟨false,[.val u n]⟩]=>if h:u=a then some ⟨false,[.fv P as ra r (fun _=>True) (φ (h▸n))]⟩else none
 | _=>none
def G7y (P:Program) (as:List (Bool×Ty)) (ra:Bool) (r a:Ty) (φ:a.den->A2r as->r.den):Inl:=
 { run:=fun _ st ss k=>match E2y P as ra r a φ ss with
    |some sv=>k st [sv]
    |none=>False
   res:=E2y P as ra r a φ
   step:=fun {st d ss k k'} h hk=>by
    cases u:E2y P as ra r a φ ss with
    |none=>rw[u]at h;exact h.elim
    |some sv=>rw[u]at h;exact hk _ _ (Evo.refl _) h}
def H5e (P:Program) (f:FuncId) (as:List (Bool×Ty)) (ra:Bool) (r a:Ty) (φ:a.den->A2r as->r.den):Prop:=
 ∀(w:World) (Z:Nat->Prop) (v:Value) (n:a.den),Rep a w Z [v] n->Gw.Ret P f [v] w fun u w'=>Ext w w'/\∃Zn:Nat->Prop,(∀b,Zn b->Z b\/(w.heap.size<=b/\b<w'.heap.size))/\G7p P w' Zn u as ra r (fun _=>True) (φ n)
theorem G7p.mono {P:Program} {w:World} {Z Z':Nat->Prop} {v:Value} {as:List (Bool×Ty)} {ra:Bool} {r:Ty} {ok:A2r as->Prop} {φ:A2r as->r.den} (h:G7p P w Z v as ra r ok φ) (u:∀b,Z b->Z' b):G7p P w Z' v as ra r ok φ:=
 RC.mono (B:=fun _=>v) (B':=fun _=>v) (n:=0) (c:= .fv P as ra r ok φ) u (fun _ _=>rfl) (fun _ _=>rfl) trivial h
theorem G1o {P:Program} {f:FuncId} {as:List (Bool×Ty)} {ra:Bool} {r a:Ty} {φ:a.den->A2r as->r.den} (hs:H5e P f as ra r a φ):E3a P f (G7y P as ra r a φ):=by
 have res:∀ {za:Zn} {w0:World} {st:St} {E:Env} {w:World} {Z:Nat->Prop} {B:Nat->Value} {ss:List SV} {vs:List Value} {sv:SV},Rel za w0 st E w Z B->RSs w Z B ss vs->E2y P as ra r a φ ss=some sv->
  Gw.Ret P f vs w fun v w'=>Ext w w'/\∃Z':Nat->Prop,(∀b,Z b->Z' b)/\(∀b,Z' b->Z b\/(w.heap.size<=b/\b<w'.heap.size))/\RS w' Z' B sv v:=by
  intro za w0 st E w Z B ss vs sv h a1 a0;unfold E2y at a0;split at a0
  . rename_i a' n;split at a0
    . rename_i ha;subst ha;cases a0;obtain⟨v1,a4,rfl,h1,rfl⟩:=a1;obtain⟨u,us,e1,e2,e3⟩:=h1;cases e1;refine Gw.Ret.mono (hs w Z v1 n e2) fun u w' ⟨hx,Zn,hz,hf⟩=>⟨hx,fun b=>Z b\/Zn b,fun _=> .inl,fun b hb=>hb.elim .inl (hz b), ?_⟩
      exact⟨u,[],rfl,hf.mono fun _=> .inr,rfl⟩
    . cases a0
  . cases a0
 refine {go:= ?_,res:=res};intro za w0 st E w Z B d ss vs k a3 h a1 a2 hr;replace hr:(match E2y P as ra r a φ ss with|some sv=>k st [sv] |none=>False):=hr;cases hv:E2y P as ra r a φ ss with
 |none=>rw[hv]at hr;exact hr.elim
 |some sv=>
  rw[hv]at hr;refine Gw.Ret.mono (res h a1 hv) fun v w' ⟨hx,Z',hz,hz',hrep⟩=>⟨st,Z',B,[sv],[v],h.more hx hz hz',rfl,⟨v,[],rfl,hrep,rfl⟩,fun s hs=> ?_,hr⟩
  rw[g0x]at hs;subst hs;unfold E2y at hv;split at hv
  . split at hv
    . cases hv;intro c hc;rw[g0x]at hc;subst hc;trivial
    . cases hv
  . cases hv
end Go.Vc
namespace Go.Proofs.YthiimnbdinlfeaaGreat
theorem A3j {s:List Int} {k:Nat} {v i:Int} (u:k<s.length):lat (s.set k v) i=if i.toNat=k then v else lat s i:=by
 unfold lat;simp only[g0g,g6x];by_cases h:k=i.toNat
 . subst h;simp[u]
 . rw[g0u h,g0u (fun hh=>h hh.symm)]
theorem UF.le {s:List Int} (h:UF s) {b:Int} (u:0<=b) (h1:b<(s.length:Int)):0<=lat s b/\lat s b<=b:=by
 have:=h b.toNat (by omega);rw[show((b.toNat:Nat):Int)=b from by omega]at this;exact this
theorem B6v {s:List Int} (h:UF s):∀(k:Nat) (b:Int),0<=b->b<(s.length:Int)->b.toNat<=k->E1d s k b=E1d s b.toNat b
 |0,b,h0,h1,hk=>by rw[show b.toNat=0 from by omega]
 |k+1,b,h0,h1,hk=>by
  obtain⟨u,a1⟩:=h.le h0 h1;by_cases hb:lat s b=b
  . simp only[E1d,g1c hb];cases hm:b.toNat with
    |zero=>rfl
    |succ m=>simp only[E1d,g1c hb]
  . simp only[E1d,g0u hb];have a2:lat s b<b:=by omega
    rw[B6v h k (lat s b) u (by omega) (by omega)];cases hm:b.toNat with
    |zero=>omega
    |succ m=>
     simp only[E1d,g0u hb];rw[B6v h m (lat s b) u (by omega) (by omega)]
theorem F4y {s:List Int} (h:UF s) {b:Int} (u:0<=b) (h1:b<(s.length:Int)):root s b=if lat s b=b then b else root s (lat s b):=by
 obtain⟨a0,a1⟩:=h.le u h1;unfold root;rw[<-B6v h (b.toNat+1) b u h1 (by omega)];simp only[E1d];split
 . rfl
 . exact B6v h _ _ a0 (by omega) (by omega)
theorem A1p {s:List Int} (h:UF s) {b:Int} (u:0<=b) (h1:b<(s.length:Int)) (hb:lat s b=b):root s b=b:=by rw[F4y h u h1,g1c hb]
theorem A2f {s:List Int} (h:UF s) {b:Int} (u:0<=b) (h1:b<(s.length:Int)):root s (lat s b)=root s b:=by
 by_cases hb:lat s b=b
 . rw[hb]
 . rw[F4y h u h1,g0u hb]
theorem E0s {s:List Int} (h:UF s) {q:Int->Prop} (h1:∀b,0<=b->b<(s.length:Int)->lat s b=b->q b) (h2:∀b,0<=b->b<(s.length:Int)->lat s b<b->0<=lat s b->q (lat s b)->q b):∀b,0<=b->b<(s.length:Int)->q b:=by
 have key:∀(k:Nat) (b:Int),b.toNat<=k->0<=b->b<(s.length:Int)->q b:=by
  intro k
  induction k with
  |zero=>
   intro b hk u hl;obtain⟨a0,a1⟩:=h.le u hl;exact h1 b u hl (by omega)
  |succ k ih=>
   intro b hk u hl;obtain⟨a0,a1⟩:=h.le u hl;by_cases hb:lat s b=b
   . exact h1 b u hl hb
   . exact h2 b u hl (by omega) a0 (ih _ (by omega) a0 (by omega))
 exact fun b u hl=>key b.toNat b (g0w _) u hl
theorem E7i {s:List Int} (h:UF s) {b:Int} (u:0<=b) (h1:b<(s.length:Int)):0<=root s b/\root s b<=b/\lat s (root s b)=root s b:=by
 refine E0s h (q:=fun b=>0<=root s b/\root s b<=b/\lat s (root s b)=root s b) (fun b u h1 hb=> ?_) (fun b u h1 hb hn hq=> ?_) b u h1
 . rw[A1p h u h1 hb];exact⟨u,g0k _,hb⟩
 . rw[A2f h u h1]at hq;exact⟨hq.1,by omega,hq.2.2⟩
theorem F9w {s s':List Int} (h:UF s) (h':UF s') (hl:s'.length=s.length) (hr:∀i:Int,0<=i->i<(s.length:Int)->root s (lat s' i)=root s i) (hf:∀i:Int,0<=i->i<(s.length:Int)->lat s' i=i->lat s i=i):∀i:Int,0<=i->i<(s.length:Int)->root s' i=root s i:=by
 intro i u h1;refine E0s h' (q:=fun i=>root s' i=root s i) (fun b u h1 hb=> ?_) (fun b u h1 hb hn hq=> ?_) i u (by omega)
 . rw[A1p h' u h1 hb,A1p h u (by omega) (hf b u (by omega) hb)]
 . rw[<-A2f h' u h1,hq,hr b u (by omega)]
theorem H4h {s:List Int} (h:UF s) {b:Int} (h0:0<=b) (h1:b<(s.length:Int)):UF (s.set b.toNat (lat s (lat s b)))/\∀i:Int,0<=i->i<(s.length:Int)->root (s.set b.toNat (lat s (lat s b))) i=root s i:=by
 have hb:b.toNat<s.length:=by omega
 obtain⟨u,a1⟩:=h.le h0 h1;obtain⟨c0,c1⟩:=h.le u (by omega:lat s b<(s.length:Int));have hu:UF (s.set b.toNat (lat s (lat s b))):=fun i hi=>by
  rw[g0j]at hi;rw[A3j hb];split
  . rename_i e;rw[show((i:Nat):Int)=b from by omega];omega
  . exact h i hi
 refine⟨hu,F9w h hu (by rw[g0j]) (fun i i0 i1=> ?_) (fun i i0 i1=> ?_)⟩
 . rw[A3j hb];split
   . rw[show i=b from by omega,A2f h u (by omega),A2f h h0 h1]
   . exact A2f h i0 i1
 . rw[A3j hb];split
   . intro e;have:i=b:=by omega
     subst this;omega
   . exact id
theorem G4v {s:List Int} (h:UF s) {m M:Int} (m0:0<=m) (mM:m<=M) (hM:M<(s.length:Int)) (fm:lat s m=m) (fM:lat s M=M):
 UF (s.set M.toNat m)/\∀i:Int,0<=i->i<(s.length:Int)->root (s.set M.toNat m) i=if root s i=M then m else root s i:=by
 have hk:M.toNat<s.length:=by omega
 have hu:UF (s.set M.toNat m):=fun i hi=>by
  rw[g0j]at hi;rw[A3j hk];split
  . omega
  . exact h i hi
 have hl:(s.set M.toNat m).length=s.length:=g0j;refine⟨hu,fun i u h1=> ?_⟩;refine E0s hu (q:=fun i=>root (s.set M.toNat m) i=if root s i=M then m else root s i) (fun b u h1 hb=> ?_) (fun b u h1 hb hn hq=> ?_) i u (by omega)
 . rw[A1p hu u h1 hb];rw[A3j hk]at hb;split at hb
   . have e:b=M:=by omega
     rw[e,A1p h (by omega) (by omega) fM,g1c rfl];omega
   . rename_i a0;rw[A1p h u (by omega) hb,g0u (by omega)]
 . rw[<-A2f hu u h1,hq];rw[A3j hk]at hb⊢;split at hb
   . rename_i e;have e:b=M:=by omega
     have e2:b.toNat=M.toNat:=by omega
     rw[g1c e2,e,A1p h (by omega) (by omega) fM,A1p h m0 (by omega) fm,g1c rfl];split<;>rfl
   . rename_i a0;rw[g0u a0,A2f h u (by omega)]
end Go.Proofs.YthiimnbdinlfeaaGreat
namespace Go.Proofs.YthiimnbdinlfeaaGreat
open Go.Vc Go.Gw
theorem F8f {n:Int} {ls:List Ln} :E0t n ls=0↔E8b n ls:=by
 unfold E0t E8b;split
 . constructor
   . intro h;omega
   . intro h;omega
 . split
   . rename_i h1 u;exact⟨fun _=>⟨by omega,by omega,u⟩,fun _=>rfl⟩
   . rename_i h1 u;exact⟨fun h=>by omega,fun h=>absurd h.2.2 u⟩
variable {α:Type}
def H1q (q:α->α->Prop) (d:α) (l:List α) (a i j:Nat):Prop:=∀s t,a<=s->s<t->t<=i->t≠j->q (l.getD s d) (l.getD t d)
def D8t (d:α) (l:List α) (j:Nat):List α:=(l.set j (l.getD (j-1) d)).set (j-1) (l.getD j d)
theorem D7l {d:α} {l:List α} {j:Nat} (h0:0<j) (h1:j<l.length) (k:Nat):(D8t d l j).getD k d=if k=j then l.getD (j-1) d else if k=j-1 then l.getD j d else l.getD k d:=by
 unfold D8t;simp only[g0g,g6x,g0j];by_cases h:k=j
 . subst h;rw[g0u (by omega),g1c rfl,g1c rfl,g1c h1];rfl
 . rw[g0u h];by_cases u:k=j-1
   . subst u;rw[g1c rfl,g1c (by omega),g1c rfl];rfl
   . rw[g0u (by omega),g0u (by omega),g0u u]
theorem F3l {d:α} {l:List α} {j:Nat} (h1:j<l.length):(D8t d l j).Perm l:=by
 have u:j-1<l.length:=by omega
 have:=List.set_set_perm (as:=l) h1 u;unfold D8t;simp only[g0g,g0l h1,g0l u];exact this
theorem F3a {d:α} {l:List α} {j a:Nat} (h:a<=j-1):(D8t d l j).take a=l.take a:=by
 unfold D8t;rw[g8o h,g8o (by omega)]
theorem F3v {d:α} {l:List α} {j b:Nat} (h:j<b):(D8t d l j).drop b=l.drop b:=by
 unfold D8t;rw[g8j (by omega),g8j (by omega)]
theorem F3p {q:α->α->Prop} {d:α} {l:List α} {a i:Nat} (h:∀s t,a<=s->s<t->t<i->q (l.getD s d) (l.getD t d)):H1q q d l a i i:=fun s t h1 u h3 h4=>h s t h1 u (by omega)
theorem F9e {q:α->α->Prop} {d:α} {l:List α} {a i j:Nat} (h:H1q q d l a i j) (ha:a<j) (hj:j<l.length) (hi:j<=i) (hq:q (l.getD j d) (l.getD (j-1) d)):H1q q d (D8t d l j) a i (j-1):=by
 intro s t h1 h2 h3 h4;rw[D7l (by omega) hj,D7l (by omega) hj,g0u h4];by_cases ht:t=j
 . rw[g1c ht,g0u (by omega)];by_cases u:s=j-1
   . rw[g1c u];exact hq
   . rw[g0u u];exact h s (j-1) h1 (by omega) (by omega) (by omega)
 . rw[g0u ht];by_cases u:s=j
   . rw[g1c u];exact h (j-1) t (by omega) (by omega) h3 ht
   . rw[g0u u];by_cases a0:s=j-1
     . rw[g1c a0];exact h j t (by omega) (by omega) h3 ht
     . rw[g0u a0];exact h s t h1 h2 h3 ht
theorem G3c {q:α->α->Prop} {d:α} {l:List α} {a i j:Nat} (h:H1q q d l a i j) (u:∀x y z,q x y->q y z->q x z) (hi:j<=i) (hq:a<j->q (l.getD (j-1) d) (l.getD j d)):∀s t,a<=s->s<t->t<i+1->q (l.getD s d) (l.getD t d):=by
 intro s t h1 h2 h3;by_cases ht:t=j
 . subst ht;by_cases hs:s=t-1
   . rw[hs];exact hq (by omega)
   . exact u _ _ _ (h s (t-1) h1 (by omega) (by omega) (by omega)) (hq (by omega))
 . exact h s t h1 h2 (by omega) ht
theorem D5m {q:α->α->Prop} {d:α} {l:List α} {a b:Nat} (hb:b<=l.length) (h:∀s t,a<=s->s<t->t<b->q (l.getD s d) (l.getD t d)):((l.drop a).take (b-a)).Pairwise q:=by
 rw[g3x];intro i j hi hj u;rw[g0q,g2l]at hi hj;have e:∀k (hk:k<((l.drop a).take (b-a)).length),((l.drop a).take (b-a))[k]=l.getD (a+k) d:=fun k hk=>by
  rw[g0q,g2l]at hk;rw[h0v,List.getElem_drop,g0g,g0l (by omega)];rfl
 rw[e i (by rw[g0q,g2l];omega),e j (by rw[g0q,g2l];omega)];exact h _ _ (by omega) (by omega) (by omega)
theorem E5m:∀(n:Nat) (f:Nat->Nat),(∀a,a<n+1->f a<n)->∃a b,a<b/\b<n+1/\f a=f b
 |0,f,h=>absurd (h 0 (by omega)) (by omega)
 |n+1,f,h=>by
  by_cases hv:∃a,a<n+1/\f a=f (n+1)
  . obtain⟨a,h1,h2⟩:=hv;exact⟨a,n+1,h1,by omega,h2⟩
  . have u:∀a,a<n+1->f a≠f (n+1):=fun a ha e=>hv ⟨a,ha,e⟩
    obtain⟨a,b,h1,h2,h3⟩:=E5m n (fun a=>if f a<f (n+1)then f a else f a-1) fun a ha=>by
     have:=h a (by omega);have:=h (n+1) (by omega);have:=u a ha;split<;>omega
    refine⟨a,b,h1,by omega, ?_⟩;have e1:=u a (by omega);have e2:=u b (by omega);split at h3<;>split at h3<;>omega
theorem A4v {n:Nat} {q:Nat->Nat} (hl:∀a,a<n->q a<n) (hi:∀a b,a<n->b<n->q a=q b->a=b) {j:Nat} (hj:j<n):∃a,a<n/\q a=j:=
 g0v fun hn=>by
  have a0:∀a,a<n->q a≠j:=fun a ha e=>hn ⟨a,ha,e⟩
  obtain⟨a,b,h1,h2,u⟩:=E5m n (fun a=>if a<n then q a else j) fun a ha=>by
   split
   . rename_i h;exact hl a h
   . exact hj
  by_cases hb:b<n
  . rw[g1c hb,g1c (by omega)]at u;have:=hi a b (by omega) hb u;omega
  . rw[g0u hb,g1c (by omega)]at u;exact a0 a (by omega) u
def dot (n:Nat) (u x:Nat->Rat):Rat:=E2 n fun j=>u j*x j
theorem G8k (n k:Nat) (l:Nat->Rat) (R:Nat->Nat->Rat) (u x:Nat->Rat):E2 n (fun j=>(E2 k (fun m=>l m*R m j)+u j)*x j)=E2 k (fun m=>l m*dot n (R m) x)+dot n u x:=by
 have:(fun j=>(E2 k (fun m=>l m*R m j)+u j)*x j)=fun j=>E2 k (fun m=>l m*(R m j*x j))+u j*x j:=by
  funext j;rw[h2i, <-D3q];congr 1;exact B6 fun m _=>g5w _ _ _
 rw[this,A6u,A7y];congr 1;exact B6 fun m _=>B0j n (l m) _
theorem G7i (a b c:Rat):a+b=a+c+(b-c):=by grind
structure F0k (n k:Nat) (A:Nat->Nat->Rat) (p q:Nat->Nat) (R Lo:Nat->Nat->Rat):Prop where
 kn:k<=n
 plt:∀m,m<k->p m<n
 qlt:∀m,m<k->q m<n
 pinj:∀a b,a<k->b<k->p a=p b->a=b
 qinj:∀a b,a<k->b<k->q a=q b->a=b
 dec:∀i j,i<n->j<n->A i j=E2 k (fun m=>Lo i m*R (p m) j)+R i j
 zero:∀m i,m<k->i<n->(∀a,a<=m->i≠p a)->R i (q m)=0
 piv:∀m,m<k->R (p m) (q m)≠0
 low:∀a m,a<k->m<k->a<=m->Lo (p a) m=0
theorem F0k.init (n:Nat) (A:Nat->Nat->Rat) (p q:Nat->Nat) (Lo:Nat->Nat->Rat):F0k n 0 A p q A Lo:=
 ⟨g1n _,fun _ h=>absurd h (g5r _),fun _ h=>absurd h (g5r _),fun _ _ h=>absurd h (g5r _),fun _ _ h=>absurd h (g5r _),fun i j _ _=>by rw[E2,g3o],fun _ _ h=>absurd h (g5r _),fun _ h=>absurd h (g5r _),fun _ _ h=>absurd h (g5r _)⟩
section
variable {n k:Nat} {A R Lo R' Lo':Nat->Nat->Rat} {p q p' q':Nat->Nat}
theorem F0k.step (h:F0k n k A p q R Lo) {r c:Nat} {fac:Nat->Rat} (hk:k<n) (hr:r<n) (hc:c<n) (a3:∀a,a<k->r≠p a) (a4:∀a,a<k->c≠q a) (hp:R r c≠0)
 (p1:∀m,m<k->p' m=p m) (p2:p' k=r) (q1:∀m,m<k->q' m=q m) (q2:q' k=c)
 (f1:∀i,i<n->i≠r->(∀a,a<k->i≠p a)->fac i=R i c/R r c) (f2:fac r=0) (f3:∀a,a<k->fac (p a)=0)
 (hR:∀i j,i<n->j<n->R' i j=R i j-fac i*R r j) (l1:∀i m,i<n->m<k->Lo' i m=Lo i m) (l2:∀i,i<n->Lo' i k=fac i):F0k n (k+1) A p' q' R' Lo':=by
 have rr:∀j,j<n->R' r j=R r j:=fun j hj=>by rw[hR r j hr hj,f2,g2y,g2z,g6a,g1p]
 have rp:∀a j,a<k->j<n->R' (p a) j=R (p a) j:=fun a j ha hj=>by rw[hR _ j (h.plt a ha) hj,f3 a ha,g2y,g2z,g6a,g1p]
 have a1:∀m,m<k+1->m<k\/m=k:=fun m u=>by omega
 refine⟨hk,fun m u=> ?_,fun m u=> ?_,fun a b ha hb a0=> ?_,fun a b ha hb a0=> ?_,fun i j hi hj=> ?_,fun m i u hi a2=> ?_,fun m u=> ?_,fun a m ha u a5=> ?_⟩
 . rcases a1 m u with u|rfl
   . rw[p1 m u];exact h.plt m u
   . rw[p2];exact hr
 . rcases a1 m u with u|rfl
   . rw[q1 m u];exact h.qlt m u
   . rw[q2];exact hc
 . rcases a1 a ha with ha|rfl<;>rcases a1 b hb with hb|rfl
   . rw[p1 a ha,p1 b hb]at a0;exact h.pinj a b ha hb a0
   . rw[p1 a ha,p2]at a0;exact absurd a0.symm (a3 a ha)
   . rw[p2,p1 b hb]at a0;exact absurd a0 (a3 b hb)
   . rfl
 . rcases a1 a ha with ha|rfl<;>rcases a1 b hb with hb|rfl
   . rw[q1 a ha,q1 b hb]at a0;exact h.qinj a b ha hb a0
   . rw[q1 a ha,q2]at a0;exact absurd a0.symm (a4 a ha)
   . rw[q2,q1 b hb]at a0;exact absurd a0 (a4 b hb)
   . rfl
 . have e1:E2 k (fun m=>Lo' i m*R' (p' m) j)=E2 k (fun m=>Lo i m*R (p m) j):=B6 fun m u=>by rw[l1 i m hi u,p1 m u,rp m j u hj]
   rw[E2,p2,rr j hj,l2 i hi,hR i j hi hj,h.dec i j hi hj,e1];exact G7i _ _ _
 . rcases a1 m u with u|rfl
   . have h1:=h.zero m i u hi fun a ha=>by have:=a2 a ha;rwa[p1 a (by omega)]at this
     have h2:=h.zero m r u hr fun a ha=>a3 a (by omega)
     rw[q1 m u,hR i _ hi (h.qlt m u),h1,h2,g4o,g2z,g6a,g1p]
   . have a7:i≠r:=by have:=a2 m (g0w _);rwa[p2]at this
     have a6:∀a,a<m->i≠p a:=fun a ha=>by have:=a2 a (by omega);rwa[p1 a ha]at this
     rw[q2,hR i c hi hc,f1 i hi a7 a6,g6r,g5w,h0h _ hp,h2j,g2z,Rat.add_neg_cancel]
 . rcases a1 m u with u|rfl
   . rw[p1 m u,q1 m u,rp m _ u (h.qlt m u)];exact h.piv m u
   . rw[p2,q2,rr c hc];exact hp
 . rcases a1 m u with u|rfl
   . rw[p1 a (by omega),l1 _ m (h.plt a (by omega)) u];exact h.low a m (by omega) u a5
   . rcases a1 a ha with ha|rfl
     . rw[p1 a ha,l2 _ (h.plt a ha)];exact f3 a ha
     . rw[p2,l2 r hr];exact f2
theorem F0k.dot (h:F0k n k A p q R Lo) (x:Nat->Rat) {i:Nat} (hi:i<n):E2 n (fun j=>A i j*x j)=E2 k (fun m=>Lo i m*dot n (R (p m)) x)+Go.Proofs.YthiimnbdinlfeaaGreat.dot n (R i) x:=by
 rw[<-G8k n k (Lo i) (fun m=>R (p m)) (R i) x];exact B6 fun j u=>by rw[h.dec i j hi u]
theorem F0k.stuck (h:F0k n k A p q R Lo) {c:Nat} (hc:c<n) (a5:∀a,a<k->c≠q a) (hz:∀i,i<n->(∀a,a<k->i≠p a)->R i c=0):¬nonsing n A:=by
 have key:∀t,t<=k->∃x:Nat->Rat,x c=1/\(∀j,j≠c->(∀m,m<k->j≠q m)->x j=0)/\∀m,k-t<=m->m<k->Go.Proofs.YthiimnbdinlfeaaGreat.dot n (R (p m)) x=0:=by
  intro t
  induction t with
  |zero=>exact fun _=>⟨fun j=>if j=c then 1 else 0,g1c rfl,fun j hj _=>g0u hj,fun m hm hmk=>by omega⟩
  |succ t ih=>
   intro ht;obtain⟨x,x1,x2,x3⟩:=ih (by omega);have a0:k-(t+1)<k:=by omega
   generalize hm:k-(t+1)=m0 at a0;have hd:∀(u:Nat->Rat) (d:Rat),Go.Proofs.YthiimnbdinlfeaaGreat.dot n u (fun j=>x j+if j=q m0 then d else 0)=Go.Proofs.YthiimnbdinlfeaaGreat.dot n u x+u (q m0)*d:=fun u d=>by
    unfold Go.Proofs.YthiimnbdinlfeaaGreat.dot;rw[B6 (g:=fun j=>u j*x j+u j*if j=q m0 then d else 0) fun j _=>Rat.mul_add _ _ _,A6u];congr 1;rw[I6 (h.qlt m0 a0) fun j _ hj=>by rw[g0u hj,g4o],g1c rfl]
   refine⟨fun j=>x j+if j=q m0 then-(Go.Proofs.YthiimnbdinlfeaaGreat.dot n (R (p m0)) x)/R (p m0) (q m0)else 0, ?_,fun j hj hq=> ?_,fun m h1 h2=> ?_⟩
   . show x c+(if c=q m0 then _ else 0)=1;rw[g0u (a5 m0 a0),x1,g1p]
   . show x j+(if j=q m0 then _ else 0)=0;rw[g0u (hq m0 a0),x2 j hj hq,g1p]
   . rw[hd];by_cases a6:m=m0
     . subst a6;have:=h.piv m h2;rw[g6r,h2r,g5w,h0h _ this,h2j,Rat.add_neg_cancel]
     . rw[x3 m (by omega) h2,h.zero m0 (p m) a0 (h.plt m h2) fun a ha e=>by have:=h.pinj m a h2 (by omega) e;omega,g2y,g1p]
 obtain⟨x,x1,x2,x3⟩:=key k (g0w _);intro a7;have a2:∀i,i<n->E2 n (fun j=>A i j*x j)=0:=fun i hi=>by
  rw[h.dot x hi,A0m fun m hm=>by rw[x3 m (by omega) hm,g4o],g3o];by_cases a1:∃a,a<k/\i=p a
  . obtain⟨a,ha,rfl⟩:=a1;exact x3 a (by omega) ha
  . refine A0m fun j hj=> ?_
    by_cases a3:j=c
    . rw[a3,hz i hi fun a ha e=>a1 ⟨a,ha,e⟩,g2y]
    . by_cases a4:∃m,m<k/\j=q m
      . obtain⟨m,hm,rfl⟩:=a4;rw[h.zero m i hm hi fun a ha e=>a1 ⟨a,by omega,e⟩,g2y]
      . rw[x2 j a3 fun m hm e=>a4 ⟨m,hm,e⟩,g4o]
 have:=a7 x a2 c hc;rw[x1]at this;exact absurd this (by decide)
theorem F0k.nonsing (h:F0k n n A p q R Lo):nonsing n A:=by
 intro x hx;have hy:∀a,a<n->Go.Proofs.YthiimnbdinlfeaaGreat.dot n (R (p a)) x=0:=by
  intro a
  induction a using Nat.strongRecOn with
  |ind a ih=>
   intro ha;have h1:=hx (p a) (h.plt a ha);rw[h.dot x (h.plt a ha),A0m fun m hm=> ?_,g3o]at h1
   . exact h1
   . by_cases a1:m<a
     . rw[ih m a1 hm,g4o]
     . rw[h.low a m ha hm (by omega),g2y]
 have hz:∀t b,t<n->b=n-1-t->x (q b)=0:=by
  intro t
  induction t using Nat.strongRecOn with
  |ind t ih=>
   intro b ht hb;have u:b<n:=by omega
   have h1:=hy b u;unfold Go.Proofs.YthiimnbdinlfeaaGreat.dot at h1;rw[I6 (h.qlt b u) fun j hj a0=> ?_]at h1
   . exact(g9z.1 h1).resolve_left (h.piv b u)
   . obtain⟨m,hm,rfl⟩:=A4v h.qlt h.qinj hj;by_cases a2:m<b
     . rw[h.zero m (p b) hm (h.plt b u) fun a ha e=>by have:=h.pinj b a u (by omega) e;omega,g2y]
     . have a3:m≠b:=fun e=>a0 (by rw[e])
       rw[ih (n-1-m) (by omega) m (by omega) (by omega),g4o]
 intro j hj;obtain⟨b,hb,rfl⟩:=A4v h.qlt h.qinj hj;exact hz (n-1-b) b (by omega) (by omega)
theorem F0k.prod (h:F0k n n A p q R Lo) {a b:Nat} (u:a<n) (hb:b<n):A (p a) (q b)=E2 n fun m=>(Lo (p a) m+if m=a then 1 else 0)*R (p m) (q b):=by
 rw[h.dec _ _ (h.plt a u) (h.qlt b hb),B6 (f:=fun m=>(Lo (p a) m+if m=a then 1 else 0)*R (p m) (q b)) (g:=fun m=>Lo (p a) m*R (p m) (q b)+(if m=a then 1 else 0)*R (p m) (q b)) fun m _=>h2i _ _ _,A6u];congr 1;rw[I6 u fun m _ hm=>by rw[g0u hm,g2y],g1c rfl,g7o]
end
end Go.Proofs.YthiimnbdinlfeaaGreat
namespace Go.Proofs.YthiimnbdinlfeaaGreat
def Lab (L:List Int):Prop:=∀i:Int,0<=i->i<(L.length:Int)->0<=lat L i/\lat L i<=i/\lat L (lat L i)=lat L i
theorem A2e (L:List Int) (l:Ln):(A8v L l).length=L.length:=by simp[A8v]
theorem C1h {L:List Int} {i:Int} (u:0<=i) (h1:i<(L.length:Int)):L[i.toNat]? =some (lat L i):=by
 have:i.toNat<L.length:=by omega
 unfold lat;rw[g0g,g0l this];rfl
theorem A1v {L:List Int} {l:Ln} {i:Int} (h0:0<=i) (h1:i<(L.length:Int)):lat (A8v L l) i=if lat L i=max (lat L l.1) (lat L l.2)then min (lat L l.1) (lat L l.2)else lat L i:=by
 have u:=C1h (L:=A8v L l) h0 (by rw[A2e];exact h1);unfold A8v at u;rw[g5c,C1h h0 h1]at u;simp only[g4j,g0y]at u;exact u.symm
theorem A7l (n:Int):(idL n).length=n.toNat:=by simp[idL]
theorem B4t {n i:Int} (h0:0<=i) (h1:i<n):lat (idL n) i=i:=by
 have u:=C1h (L:=idL n) h0 (by rw[A7l];omega);unfold idL at u;rw[g5c,g8q (by omega)]at u;simp only[g4j,g0y]at u;rw[show lat (idL n) i= _ from u.symm];show((i.toNat:Nat):Int)=i;omega
theorem F6i (n:Int):Lab (idL n):=fun i u h1=>by
 rw[A7l]at h1;rw[B4t u (by omega),B4t u (by omega)];omega
theorem Lab.join {L:List Int} {l:Ln} (h:Lab L) (hl:inB L.length l):Lab (A8v L l):=fun i u h1=>by
 rw[A2e]at h1;obtain⟨a0,a1,b0,b1⟩:=hl;obtain⟨p0,p1,p2⟩:=h _ a0 a1;obtain⟨q0,q1,q2⟩:=h _ b0 b1;obtain⟨r0,r1,r2⟩:=h i u h1;rw[A1v u h1];have hm:lat L (min (lat L l.1) (lat L l.2))=min (lat L l.1) (lat L l.2):=by
  rcases(by omega:min (lat L l.1) (lat L l.2)=lat L l.1\/min (lat L l.1) (lat L l.2)=lat L l.2)with e|e<;>rw[e]<;>assumption
 split
 . rename_i e;refine⟨by omega,by omega, ?_⟩;rw[A1v (by omega) (by omega),hm];split<;>rfl
 . rename_i e;refine⟨r0,r1, ?_⟩;rw[A1v r0 (by omega),r2,g0u e]
theorem F7q (n:Int) (ls:List Ln) (l:Ln):V3 n (ls++ [l])=A8v (V3 n ls) l:=by simp[V3,List.foldl_append]
theorem A9z (n:Int) (ls:List Ln):(V3 n ls).length=n.toNat:=by
 unfold V3;have:∀(ls:List Ln) (L:List Int),(ls.foldl A8v L).length=L.length:=by
  intro ls
  induction ls with
  |nil=>intro L;rfl
  |cons l ls u=>intro L;rw[g7i,u,A2e]
 rw[this,A7l]
theorem E9p {n:Int} {ls:List Ln} (hn:0<=n) (h:∀l∈ls,inB n l):Lab (V3 n ls):=by
 unfold V3;have:∀(ls:List Ln) (L:List Int),L.length=n.toNat->(∀l∈ls,inB n l)->Lab L->Lab (ls.foldl A8v L):=by
  intro ls
  induction ls with
  |nil=>intro L _ _ h;exact h
  |cons l ls ih=>
   intro L u hb h;rw[g7i];refine ih _ (by rw[A2e];exact u) (fun x hx=>hb x (by simp[hx])) (h.join ?_);have:=hb l (by simp);rw[u,show((n.toNat:Nat):Int)=n from by omega];exact this
 exact this ls _ (A7l n) h (F6i n)
theorem F5r {α:Type} {l:List α} {j:Nat} {d:α} (h:j<l.length):l.take (j+1)=l.take j++ [l.getD j d]:=by
 rw[g1z,g0l h,g0g,g0l h];rfl
theorem F3f {L:List Int} {l:Ln} {u v:Int} (u0:0<=u) (u1:u<(L.length:Int)) (v0:0<=v) (v1:v<(L.length:Int)) (h:lat L u=lat L v):lat (A8v L l) u=lat (A8v L l) v:=by
 rw[A1v u0 u1,A1v v0 v1,h]
theorem F5s {L:List Int} {l:Ln} (hl:inB L.length l):lat (A8v L l) l.1=lat (A8v L l) l.2:=by
 obtain⟨u,a1,b0,b1⟩:=hl;rw[A1v u a1,A1v b0 b1];split<;>split<;>omega
theorem D7r {n:Int} (hn:0<=n) {u v:Int} (u0:0<=u) (u1:u<n) (v0:0<=v) (v1:v<n):∀(ls:List Ln) (L:List Int),L.length=n.toNat->lat L u=lat L v->lat (ls.foldl A8v L) u=lat (ls.foldl A8v L) v
 | [],_,_,h=>h
 |l::ls,L,hL,h=>by
  rw[g7i];exact D7r hn u0 u1 v0 v1 ls _ (by rw[A2e];exact hL) (F3f u0 (by omega) v0 (by omega) h)
theorem E3v {n:Int} (hn:0<=n) {l:Ln} :∀(ls:List Ln) (L:List Int),L.length=n.toNat->(∀l∈ls,inB n l)->l∈ls->lat (ls.foldl A8v L) l.1=lat (ls.foldl A8v L) l.2
 | [],_,_,_,h=>by cases h
 |x::ls,L,u,hb,h=>by
  rw[g7i];have hx:=hb x (by simp);rcases g0s.1 h with rfl|h
  . obtain⟨a0,a1,b0,b1⟩:=hx;exact D7r hn a0 a1 b0 b1 ls _ (by rw[A2e];exact u) (F5s (by rw[u];exact⟨a0,by omega,b0,by omega⟩))
  . exact E3v hn ls _ (by rw[A2e];exact u) (fun y hy=>hb y (by simp[hy])) h
theorem E3w {n:Int} {ls:List Ln} (u:0<=n) (hb:∀l∈ls,inB n l) {l:Ln} (h:l∈ls):lat (V3 n ls) l.1=lat (V3 n ls) l.2:=E3v u ls _ (A7l n) hb h
theorem E3k {α:Type} {n:Int} (hn:0<=n) {f:Int->α} :∀(ls:List Ln) (L:List Int),L.length=n.toNat->Lab L->(∀l∈ls,inB n l/\f l.1=f l.2)->(∀i:Int,0<=i->i<n->f (lat L i)=f i)->∀i:Int,0<=i->i<n->f (lat (ls.foldl A8v L) i)=f i
 | [],_,_,_,_,h=>h
 |l::ls,L,hL,u,hb,h=>by
  rw[g7i];obtain⟨⟨a0,a1,b0,b1⟩,hl⟩:=hb l (by simp);have a2:inB (L.length:Int) l:=by rw[hL];exact⟨a0,by omega,b0,by omega⟩
  refine E3k hn ls _ (by rw[A2e];exact hL) (u.join a2) (fun y hy=>hb y (by simp[hy])) fun i i0 i1=> ?_
  rw[A1v i0 (by omega)];split
  . rename_i e;have ea:=h _ a0 a1;have eb:=h _ b0 b1;have ei:=h i i0 i1;rcases(by omega:min (lat L l.1) (lat L l.2)=lat L l.1\/min (lat L l.1) (lat L l.2)=lat L l.2)with e1|e1<;>
    rcases(by omega:max (lat L l.1) (lat L l.2)=lat L l.1\/max (lat L l.1) (lat L l.2)=lat L l.2)with e2|e2
    . rw[e1, <-ei,e,e2]
    . rw[e1, <-ei,e,e2,ea,eb,hl]
    . rw[e1, <-ei,e,e2,ea,eb,hl]
    . rw[e1, <-ei,e,e2]
  . exact h i i0 i1
theorem E2w {α:Type} {n:Int} {ls:List Ln} (hn:0<=n) (hb:∀l∈ls,inB n l) {f:Int->α} (hf:∀l∈ls,f l.1=f l.2):∀i:Int,0<=i->i<n->f (lat (V3 n ls) i)=f i:=
 E3k hn ls _ (A7l n) (F6i n) (fun l u=>⟨hb l u,hf l u⟩) fun i i0 i1=>by rw[B4t i0 i1]
theorem G6q {n:Int} {L:List Int} {l:Ln} (hn:0<=n) (u:L.length=n.toNat) (h:inB n l):inB (L.length:Int) l:=by
 rw[u,show((n.toNat:Nat):Int)=n from by omega];exact h
def E9a:List Int->Int
 | []=>0
 |a::r=>a+E9a r
theorem D9g:∀ {l:List Int} {k:Nat} {v:Int},k<l.length->E9a (l.set k v)=E9a l-l.getD k 0+v
 | [],_,_,h=>by simp at h
 |a::r,0,v,_=>by simp[E9a];omega
 |a::r,k+1,v,h=>by
  have:=D9g (l:=r) (k:=k) (v:=v) (by simpa using h);simp only[List.set_cons_succ,E9a,this,List.getD_cons_succ];omega
theorem D0q:∀ {l:List Int},(∀x∈l,0<=x)->0<=E9a l
 | [],_=>g0k _
 |a::r,h=>by
  have h1:=h a (by simp);have u:=D0q (l:=r) fun x hx=>h x (by simp[hx])
  simp only[E9a];omega
theorem G6j {L:List Int} {x:Int} (h:x∈L):∃i:Int,0<=i/\i<(L.length:Int)/\lat L i=x:=by
 obtain⟨i,hi,u⟩:=g3s.1 h;refine⟨i,by omega,by omega, ?_⟩;have:=C1h (L:=L) (i:=(i:Int)) (by omega) (by omega);rw[g0i,g0l hi,u]at this;exact(g5q this).symm
theorem E7y {A B:List Int} (hl:A.length=B.length) (h:∀i:Int,0<=i->i<(A.length:Int)->lat A i=lat B i):A=B:=by
 apply g5a;intro j;by_cases hj:j<A.length
 . have u:=C1h (L:=A) (i:=(j:Int)) (by omega) (by omega);have g2:=C1h (L:=B) (i:=(j:Int)) (by omega) (by omega);rw[g0i]at u g2;rw[u,g2,h j (by omega) (by omega)]
 . rw[g1u (by omega),g1u (by omega)]
theorem E8d {n:Int} {ls:List Ln} (hn:0<=n) (hb:∀l∈ls,inB n l) {L:List Int} (hl:L.length=n.toNat) (h1:∀i:Int,0<=i->i<n->0<=lat L i/\lat L i<=i/\lat (V3 n ls) (lat L i)=lat (V3 n ls) i) (h2:∀l∈ls,lat L l.1=lat L l.2):L=V3 n ls:=by
 refine E7y (by rw[hl,A9z]) fun i i0 i1=> ?_
 rw[hl]at i1;have u:=E9p hn hb;have a3:=A9z n ls;obtain⟨m0,m1,m2⟩:=u i i0 (by omega);have e1:=E2w hn hb (f:=fun j=>lat L j) h2 i i0 (by omega);obtain⟨a0,a1,a2⟩:=h1 _ m0 (by omega);obtain⟨_,b1,_⟩:=u (lat L (lat (V3 n ls) i)) a0 (by omega);rw[m2]at a2;omega
end Go.Proofs.YthiimnbdinlfeaaGreat
