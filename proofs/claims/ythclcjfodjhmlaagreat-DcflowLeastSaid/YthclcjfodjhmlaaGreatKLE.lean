/- Part. -/
import Derived.WalkKit
import Derived.ProofKit
import Derived.OpenShut
import Derived.Carry
import Derived.ChangeSlices
import Derived.ChangeSame
import Derived.Test.YthclcjfodjhmlaaGreatKLD
set_option linter.all false
namespace Go.Proofs.YthclcjfodjhmlaaGreat
open Go.Vc Go.Gw
variable {n m k:Nat} {fr to:Nat->Nat} {s:Nat->Rat}
def NX (m:Nat) (fr to:Nat->Nat) (s:Nat->Rat) (b c:Nat):Rat:=C4 m fun i=>s i*(Yq fr to b i*Yq fr to c i)
def A4u (h:∀i,i<m->fr i<n/\to i<n) (θ:Nat->Rat) (b:Nat):C4 n (fun c=>NX m fr to s b c*θ c)=FG m fr to (fun i=>s i*(θ (fr i)-θ (to i))) b:=by
 rw[B8 (g:=fun c=>C4 m fun i=>s i*Yq fr to b i*(Yq fr to c i*θ c)) fun c _=>by
  unfold NX;rw[<-OU];exact B8 fun i _=>by grind,Ly]
 refine B8 fun i hi=> ?_
 rw[Mu,A4a (h i hi).1 (h i hi).2];grind
def GX (k:Nat) (o:Nat->Nat) (x:Nat->Rat) (b:Nat):Rat:=C4 k fun c=>if o c=b then x c else 0
def A4j {o:Nat->Nat} (hi:∀a c,a<k->c<k->o a=o c->a=c) (x:Nat->Rat) {c:Nat} (hc:c<k):GX k o x (o c)=x c:=by
 unfold GX;rw[N7 hc fun a ha u=>qO fun e=>u (hi a c ha hc e),qY rfl]
def JY {o:Nat->Nat} (x:Nat->Rat) {b:Nat} (h:∀c,c<k->o c≠b):GX k o x b=0:=T4 fun c u=>qO (h c u)
def A4t {o:Nat->Nat} (ho:∀a,a<k->o a<n) (x:Nat->Rat) (b:Nat):C4 n (fun c=>NX m fr to s b c*GX k o x c)=C4 k fun c=>NX m fr to s b (o c)*x c:=by
 rw[B8 (g:=fun c=>C4 k fun a=>NX m fr to s b c*(if o a=c then x a else 0)) fun c _=>by unfold GX;rw[Mu],Ly];refine B8 fun a u=> ?_
 rw[N7 (ho a u) fun c _ hc=>by rw[qO (Ne.symm hc),tZ],qY rfl]
def oS {o lab:Nat->Nat} (hb:∀i,i<m->fr i<n/\to i<n) (hs:∀i,i<m->0<s i) (ho:∀a,a<k->o a<n) (hi:∀a c,a<k->c<k->o a=o c->a=c)
 (u:∀φ:Nat->Rat,(∀i,i<m->φ (fr i)=φ (to i))->∀b,b<n->φ b=φ (lab b)) (a1:∀b,b<n->∀a,a<k->o a≠lab b):nonsing k fun a c=>NX m fr to s (o a) (o c):=by
 intro x hx c hc;have h1:=B7g (φ:=GX k o x) (D:=fun i=>s i*(GX k o x (fr i)-GX k o x (to i))) hb hs (fun _ _=>rfl) fun b hbn=>by
  by_cases a0:∃a,a<k/\o a=b
  . obtain⟨a,ha,rfl⟩:=a0;refine .inr ?_;rw[<-A4u hb,A4t ho];exact hx a ha
  . exact .inl (JY x fun a ha e=>a0 ⟨a,ha,e⟩)
 rw[<-A4j hi x hc,u (GX k o x) (fun i hi=>by have:=h1 i hi;grind) (o c) (ho c hc)];exact JY x fun a ha=>a1 (o c) (ho c hc) a ha
def B4q {lab:Nat->Nat} {F J:Nat->Rat} (h1:∀b,b<n->lab b≠b->F b=J b) (hF:∀t,C4 n (fun b=>(if lab b=t then 1 else 0)*F b)=0) (hJ:∀t,t<n->C4 n (fun b=>(if lab b=t then 1 else 0)*J b)=0):∀b,b<n->F b=J b:=by
 intro t ht;by_cases hl:lab t=t
 . have e:C4 n (fun b=>(if lab b=t then 1 else 0)*(F b-J b))=0:=by
    rw[B8 (g:=fun b=>(if lab b=t then 1 else 0)*F b-(if lab b=t then 1 else 0)*J b) fun b _=>by grind,LA,hF,hJ t ht];grind
   rw[N7 ht fun b hb a0=> ?_,qY hl]at e
   . grind
   . by_cases u:lab b=t
     . rw[h1 b hb (by omega)];grind
     . rw[qO u,sZ]
 . exact h1 t ht hl
def B4j {o lab:Nat->Nat} {h J right x:Nat->Rat} (hb:∀i,i<m->fr i<n/\to i<n) (ho:∀a,a<k->o a<n)
 (u:∀b,b<n->lab b≠b->∃a,a<k/\o a=b) (a0:∀i,i<m->lab (fr i)=lab (to i)) (hx:∀a,a<k->C4 k (fun c=>NX m fr to s (o a) (o c)*x c)=right a)
 (hr:∀a,a<k->right a=J (o a)-FG m fr to (fun i=>s i*h i) (o a)) (hJ:∀t,t<n->C4 n (fun b=>(if lab b=t then 1 else 0)*J b)=0):∀b,b<n->FG m fr to (cZ fr to s h (GX k o x)) b=J b:=by
 refine B4q (lab:=lab) (fun b a1 hl=> ?_) (fun t=>WI hb a0 t) hJ;obtain⟨a,ha,rfl⟩:=u b a1 hl;have e1:=hx a ha;rw[<-A4t ho,A4u hb,hr a ha]at e1;have e2:FG m fr to (cZ fr to s h (GX k o x)) (o a)=FG m fr to (fun i=>s i*(GX k o x (fr i)-GX k o x (to i))+1*(s i*h i)) (o a):=NO (fun i _=>by unfold cZ;grind) _;rw[e2,A4f,e1];grind
abbrev Qx:=Int×Int×B7×B7
abbrev Od:=Int×List Qx
def dB:Qx:=(0,0,((false,[]),[]),((false,[]),[]))
def Eu (E:List Qx) (i:Nat):Nat:=(E.getD i dB).1.toNat
def Ew (E:List Qx) (i:Nat):Nat:=(E.getD i dB).2.1.toNat
def CM (E:List Qx) (i:Nat):Rat:=rv (E.getD i dB).2.2.1
def aY (E:List Qx) (i:Nat):Rat:=rv (E.getD i dB).2.2.2
def lI (n:Int) (e:Qx):Prop:=0<=e.1/\e.1<n/\0<=e.2.1/\e.2.1<n/\e.1≠e.2.1/\0<rv e.2.2.1
instance (n:Int) (e:Qx):Decidable (lI n e):=by unfold lI;infer_instance
def F1 (N:Od):Prop:=0<=N.1/\N.1<=16384/\N.2.length<=16384/\∀e∈N.2,lI N.1 e
instance (N:Od):Decidable (F1 N):=by unfold F1;infer_instance
def Jf (E:List Qx):List Ln:=E.map fun e=>(e.1,e.2.1)
def Y6 (N:Od) (b:Nat):Nat:=(C1 (G1 N.1 (Jf N.2)) (b:Int)).toNat
def Uo (E:List Qx) (b c:Nat):Rat:=NX E.length (Eu E) (Ew E) (CM E) b c
def Qf (E:List Qx) (f:Nat->Rat) (b:Nat):Rat:=FG E.length (Eu E) (Ew E) f b
def Qz (E:List Qx) (t:Nat->Rat) (i:Nat):Rat:=cZ (Eu E) (Ew E) (CM E) (aY E) t i
abbrev K2:Nat:=4294967296
abbrev K3:Nat:=4294968296
abbrev K4:Nat:=100000000000
def L8 (l:List B7) (i:Nat):Rat:=rv (l.getD i zr)
def V9 (s:List Int) (x:List B7):Prop:=∀t,t<s.length->C4 s.length (fun b=>(if s.getD b 0=(t:Int)then 1 else 0)*L8 x b)=0
instance (s:List Int) (x:List B7):Decidable (V9 s x):=by unfold V9;infer_instance
def szN (k:Nat) (E:List Qx):Prop:=∀e∈E,sz k e.2.2.1/\sz k e.2.2.2
def R1 (N:Od):Prop:=N.1<=7/\N.2.length<=9/\szN 2 N.2
def B6n (N:Od):Prop:=F1 N/\1<=N.1/\N.1<=6/\N.2.length<=9/\∀e∈N.2,Mf e.2.2.1/\Mf e.2.2.2
def enN (E:List Qx) (f:Nat->Rat):Rat:=C4 E.length fun i=>f i*(f i/(2*CM E i)-aY E i)
abbrev TFV:=List Int×Fx×Fx
def C3r (f:TFV):Prop:=G3 f.2.1/\G3 f.2.2/\f.2.2.1=f.2.1.1/\f.2.2.2.1=f.2.1.1/\f.2.1.2.1=(f.1.length:Int)
instance (f:TFV):Decidable (C3r f):=by unfold C3r;infer_instance
def DB (n:Nat) (f:Nat->Rat):List B7:=(List.range n).map fun i=>rc (f i)
end Go.Proofs.YthclcjfodjhmlaaGreat
namespace Go.Proofs.YthclcjfodjhmlaaGreat
def W5 {s:List Int} {k:Nat} {v i:Int} (u:k<s.length):C1 (s.set k v) i=if i.toNat=k then v else C1 s i:=by
 unfold C1;simp only[qF,wB];by_cases h:k=i.toNat
 . subst h;simp[u]
 . rw[qO h,qO (fun hh=>h hh.symm)]
def UF.le {s:List Int} (h:UF s) {b:Int} (u:0<=b) (h1:b<(s.length:Int)):0<=C1 s b/\C1 s b<=b:=by
 have:=h b.toNat (by omega);rw[show((b.toNat:Nat):Int)=b from by omega]at this;exact this
def Vj {s:List Int} (h:UF s):∀(k:Nat) (b:Int),0<=b->b<(s.length:Int)->b.toNat<=k->KZ s k b=KZ s b.toNat b
 |0,b,h0,h1,hk=>by rw[show b.toNat=0 from by omega]
 |k+1,b,h0,h1,hk=>by
  obtain⟨u,a1⟩:=h.le h0 h1;by_cases hb:C1 s b=b
  . simp only[KZ,qY hb];cases hm:b.toNat with
    |zero=>rfl
    |succ m=>simp only[KZ,qY hb]
  . simp only[KZ,qO hb];have a2:C1 s b<b:=by omega
    rw[Vj h k (C1 s b) u (by omega) (by omega)];cases hm:b.toNat with
    |zero=>omega
    |succ m=>
     simp only[KZ,qO hb];rw[Vj h m (C1 s b) u (by omega) (by omega)]
def A5s {s:List Int} (h:UF s) {b:Int} (u:0<=b) (h1:b<(s.length:Int)):root s b=if C1 s b=b then b else root s (C1 s b):=by
 obtain⟨a0,a1⟩:=h.le u h1;unfold root;rw[<-Vj h (b.toNat+1) b u h1 (by omega)];simp only[KZ];split
 . rfl
 . exact Vj h _ _ a0 (by omega) (by omega)
def Dj {s:List Int} (h:UF s) {b:Int} (u:0<=b) (h1:b<(s.length:Int)) (hb:C1 s b=b):root s b=b:=by rw[A5s h u h1,qY hb]
def Eo {s:List Int} (h:UF s) {b:Int} (u:0<=b) (h1:b<(s.length:Int)):root s (C1 s b)=root s b:=by
 by_cases hb:C1 s b=b
 . rw[hb]
 . rw[A5s h u h1,qO hb]
def YG {s:List Int} (h:UF s) {q:Int->Prop} (h1:∀b,0<=b->b<(s.length:Int)->C1 s b=b->q b) (h2:∀b,0<=b->b<(s.length:Int)->C1 s b<b->0<=C1 s b->q (C1 s b)->q b):∀b,0<=b->b<(s.length:Int)->q b:=by
 have key:∀(k:Nat) (b:Int),b.toNat<=k->0<=b->b<(s.length:Int)->q b:=by
  intro k
  induction k with
  |zero=>
   intro b hk u hl;obtain⟨a0,a1⟩:=h.le u hl;exact h1 b u hl (by omega)
  |succ k ih=>
   intro b hk u hl;obtain⟨a0,a1⟩:=h.le u hl;by_cases hb:C1 s b=b
   . exact h1 b u hl hb
   . exact h2 b u hl (by omega) a0 (ih _ (by omega) a0 (by omega))
 exact fun b u hl=>key b.toNat b (rC _) u hl
def jP {s:List Int} (h:UF s) {b:Int} (u:0<=b) (h1:b<(s.length:Int)):0<=root s b/\root s b<=b/\C1 s (root s b)=root s b:=by
 refine YG h (q:=fun b=>0<=root s b/\root s b<=b/\C1 s (root s b)=root s b) (fun b u h1 hb=> ?_) (fun b u h1 hb hn hq=> ?_) b u h1
 . rw[Dj h u h1 hb];exact⟨u,qG _,hb⟩
 . rw[Eo h u h1]at hq;exact⟨hq.1,by omega,hq.2.2⟩
def A8k {s s':List Int} (h:UF s) (h':UF s') (hl:s'.length=s.length) (hr:∀i:Int,0<=i->i<(s.length:Int)->root s (C1 s' i)=root s i) (hf:∀i:Int,0<=i->i<(s.length:Int)->C1 s' i=i->C1 s i=i):∀i:Int,0<=i->i<(s.length:Int)->root s' i=root s i:=by
 intro i u h1;refine YG h' (q:=fun i=>root s' i=root s i) (fun b u h1 hb=> ?_) (fun b u h1 hb hn hq=> ?_) i u (by omega)
 . rw[Dj h' u h1 hb,Dj h u (by omega) (hf b u (by omega) hb)]
 . rw[<-Eo h' u h1,hq,hr b u (by omega)]
def halve {s:List Int} (h:UF s) {b:Int} (h0:0<=b) (h1:b<(s.length:Int)):UF (s.set b.toNat (C1 s (C1 s b)))/\∀i:Int,0<=i->i<(s.length:Int)->root (s.set b.toNat (C1 s (C1 s b))) i=root s i:=by
 have hb:b.toNat<s.length:=by omega
 obtain⟨u,a1⟩:=h.le h0 h1;obtain⟨c0,c1⟩:=h.le u (by omega:C1 s b<(s.length:Int));have hu:UF (s.set b.toNat (C1 s (C1 s b))):=fun i hi=>by
  rw[qJ]at hi;rw[W5 hb];split
  . rename_i e;rw[show((i:Nat):Int)=b from by omega];omega
  . exact h i hi
 refine⟨hu,A8k h hu (by rw[qJ]) (fun i i0 i1=> ?_) (fun i i0 i1=> ?_)⟩
 . rw[W5 hb];split
   . rw[show i=b from by omega,Eo h u (by omega),Eo h h0 h1]
   . exact Eo h i0 i1
 . rw[W5 hb];split
   . intro e;have:i=b:=by omega
     subst this;omega
   . exact id
def B2j {s:List Int} (h:UF s) {m M:Int} (m0:0<=m) (mM:m<=M) (hM:M<(s.length:Int)) (fm:C1 s m=m) (fM:C1 s M=M):
 UF (s.set M.toNat m)/\∀i:Int,0<=i->i<(s.length:Int)->root (s.set M.toNat m) i=if root s i=M then m else root s i:=by
 have hk:M.toNat<s.length:=by omega
 have hu:UF (s.set M.toNat m):=fun i hi=>by
  rw[qJ]at hi;rw[W5 hk];split
  . omega
  . exact h i hi
 have hl:(s.set M.toNat m).length=s.length:=qJ;refine⟨hu,fun i u h1=> ?_⟩;refine YG hu (q:=fun i=>root (s.set M.toNat m) i=if root s i=M then m else root s i) (fun b u h1 hb=> ?_) (fun b u h1 hb hn hq=> ?_) i u (by omega)
 . rw[Dj hu u h1 hb];rw[W5 hk]at hb;split at hb
   . have e:b=M:=by omega
     rw[e,Dj h (by omega) (by omega) fM,qY rfl];omega
   . rename_i a0;rw[Dj h u (by omega) hb,qO (by omega)]
 . rw[<-Eo hu u h1,hq];rw[W5 hk]at hb⊢;split at hb
   . rename_i e;have e:b=M:=by omega
     have e2:b.toNat=M.toNat:=by omega
     rw[qY e2,e,Dj h (by omega) (by omega) fM,Dj h m0 (by omega) fm,qY rfl];split<;>rfl
   . rename_i a0;rw[qO a0,Eo h u (by omega)]
end Go.Proofs.YthclcjfodjhmlaaGreat
namespace Go.Proofs.YthclcjfodjhmlaaGreat
open Go.Vc Go.Gw
def A5f {n:Int} {ls:List Ln} :Uv n ls=0↔V7 n ls:=by
 unfold Uv V7;split
 . constructor
   . intro h;omega
   . intro h;omega
 . split
   . rename_i h1 u;exact⟨fun _=>⟨by omega,by omega,u⟩,fun _=>rfl⟩
   . rename_i h1 u;exact⟨fun h=>by omega,fun h=>absurd h.2.2 u⟩
end Go.Proofs.YthclcjfodjhmlaaGreat
namespace Go.Proofs.YthclcjfodjhmlaaGreat
def Lab (L:List Int):Prop:=∀i:Int,0<=i->i<(L.length:Int)->0<=C1 L i/\C1 L i<=i/\C1 L (C1 L i)=C1 L i
def Ch (L:List Int) (l:Ln):(Bd L l).length=L.length:=by simp[Bd]
def Uq {L:List Int} {i:Int} (u:0<=i) (h1:i<(L.length:Int)):L[i.toNat]? =some (C1 L i):=by
 have:i.toNat<L.length:=by omega
 unfold C1;rw[qF,qM this];rfl
def W1 {L:List Int} {l:Ln} {i:Int} (h0:0<=i) (h1:i<(L.length:Int)):C1 (Bd L l) i=if C1 L i=max (C1 L l.1) (C1 L l.2)then min (C1 L l.1) (C1 L l.2)else C1 L i:=by
 have u:=Uq (L:=Bd L l) h0 (by rw[Ch];exact h1);unfold Bd at u;rw[vC,Uq h0 h1]at u;simp only[vS,rE]at u;exact u.symm
def nN {L:List Int} {l:Ln} (h:C1 L l.1=C1 L l.2):Bd L l=L:=by
 unfold Bd;rw[h]
 conv=>rhs;rw[<-List.map_id L]
 apply g3v;intro x _;simp only[id];split
 . omega
 . rfl
def Ej (n:Int):(PX n).length=n.toNat:=by simp[PX]
def Hd {n i:Int} (h0:0<=i) (h1:i<n):C1 (PX n) i=i:=by
 have u:=Uq (L:=PX n) h0 (by rw[Ej];omega);unfold PX at u;rw[vC,zB (by omega)]at u;simp only[vS,rE]at u;rw[show C1 (PX n) i= _ from u.symm];show((i.toNat:Nat):Int)=i;omega
def A4s (n:Int):Lab (PX n):=fun i u h1=>by
 rw[Ej]at h1;rw[Hd u (by omega),Hd u (by omega)];omega
def Lab.join {L:List Int} {l:Ln} (h:Lab L) (hl:EH L.length l):Lab (Bd L l):=fun i u h1=>by
 rw[Ch]at h1;obtain⟨a0,a1,b0,b1⟩:=hl;obtain⟨p0,p1,p2⟩:=h _ a0 a1;obtain⟨q0,q1,q2⟩:=h _ b0 b1;obtain⟨r0,r1,r2⟩:=h i u h1;rw[W1 u h1];have hm:C1 L (min (C1 L l.1) (C1 L l.2))=min (C1 L l.1) (C1 L l.2):=by
  rcases(by omega:min (C1 L l.1) (C1 L l.2)=C1 L l.1\/min (C1 L l.1) (C1 L l.2)=C1 L l.2)with e|e<;>rw[e]<;>assumption
 split
 . rename_i e;refine⟨by omega,by omega, ?_⟩;rw[W1 (by omega) (by omega),hm];split<;>rfl
 . rename_i e;refine⟨r0,r1, ?_⟩;rw[W1 r0 (by omega),r2,qO e]
def VB (L:List Int):cnt L=((List.range L.length).filter fun(b:Nat)=>decide (C1 L (b:Int)=(b:Int))).length:=rfl
def lR {L:List Int} {l:Ln} (h:Lab L) (hl:EH L.length l) (a6:C1 L l.1≠C1 L l.2):cnt (Bd L l)+1=cnt L:=by
 obtain⟨a0,a1,b0,b1⟩:=hl;obtain⟨p0,p1,p2⟩:=h _ a0 a1;obtain⟨q0,q1,q2⟩:=h _ b0 b1;have hM:C1 L (max (C1 L l.1) (C1 L l.2))=max (C1 L l.1) (C1 L l.2):=by
  rcases(by omega:max (C1 L l.1) (C1 L l.2)=C1 L l.1\/max (C1 L l.1) (C1 L l.2)=C1 L l.2)with e|e<;>rw[e]<;>assumption
 generalize a2:max (C1 L l.1) (C1 L l.2)=M at hM;have a4:0<=M:=by omega
 have a5:M<(L.length:Int):=by omega
 rw[VB,VB,Ch];have a3:((List.range L.length).filter fun(b:Nat)=>decide (C1 L (b:Int)=(b:Int))).Nodup:=List.nodup_range.filter _;have u:M.toNat∈(List.range L.length).filter fun(b:Nat)=>decide (C1 L (b:Int)=(b:Int)):=by
  rw[vR,uV];refine⟨by omega, ?_⟩;rw[show((M.toNat:Nat):Int)=M from by omega];exact rD hM
 have e:((List.range L.length).filter fun(b:Nat)=>decide (C1 (Bd L l) (b:Int)=(b:Int)))=((List.range L.length).filter fun(b:Nat)=>decide (C1 L (b:Int)=(b:Int))).erase M.toNat:=by
  rw[a3.erase_eq_filter,g4b];apply g4l;intro b hb;rw[uV]at hb;rw[W1 (by omega) (by omega),a2];rw[Bool.eq_iff_iff];simp only[rT,qC,bne_iff_ne,g4r];obtain⟨r0,r1,r2⟩:=h (b:Int) (by omega) (by omega);split
  . rename_i eb;omega
  . rename_i eb;constructor
    . intro hh;exact⟨by intro hc;omega,hh⟩
    . intro hh;exact hh.2
 rw[e,wP u];have:=xA u;omega
def A4d (n:Int):cnt (PX n)=n.toNat:=by
 rw[VB,Ej];have:(List.range n.toNat).filter (fun(b:Nat)=>decide (C1 (PX n) (b:Int)=(b:Int)))=List.range n.toNat:=zA.2 fun b hb=>by
  rw[uV]at hb;rw[Hd (by omega) (by omega)];exact rD rfl
 rw[this,yK]
def Rn (n:Int) (ls:List Ln) (l:Ln):G1 n (ls++ [l])=Bd (G1 n ls) l:=by simp[G1,List.foldl_append]
def W4 (n:Int) (ls:List Ln):(G1 n ls).length=n.toNat:=by
 unfold G1;have:∀(ls:List Ln) (L:List Int),(ls.foldl Bd L).length=L.length:=by
  intro ls
  induction ls with
  |nil=>intro L;rfl
  |cons l ls u=>intro L;rw[yB,u,Ch]
 rw[this,Ej]
def Rm {n:Int} {ls:List Ln} (hn:0<=n) (h:∀l∈ls,EH n l):Lab (G1 n ls):=by
 unfold G1;have:∀(ls:List Ln) (L:List Int),L.length=n.toNat->(∀l∈ls,EH n l)->Lab L->Lab (ls.foldl Bd L):=by
  intro ls
  induction ls with
  |nil=>intro L _ _ h;exact h
  |cons l ls u=>
   intro L hl hb h;rw[yB];refine u _ (by rw[Ch];exact hl) (fun x hx=>hb x (by simp[hx])) (h.join ?_);have:=hb l (by simp);rw[hl,show((n.toNat:Nat):Int)=n from by omega];exact this
 exact this ls _ (Ej n) h (A4s n)
def DO {α:Type} {l:List α} {j:Nat} {d:α} (h:j<l.length):l.take (j+1)=l.take j++ [l.getD j d]:=by
 rw[rS,qM h,qF,qM h];rfl
def B5u (N:List (List Ln)) (i:Int) (l:Ln):(adj N i l).length=N.length:=by simp[adj]
def Eb {n:Int} {ls:List Ln} (hn:V7 n ls):∀k:Nat,k<=ls.length->(D2 n ls k).1=G1 n (ls.take k)/\(D2 n ls k).2.1.length+cnt (D2 n ls k).1=n.toNat/\(D2 n ls k).2.2.length=n.toNat/\∀r∈(D2 n ls k).2.2,r.length<=2*(D2 n ls k).2.1.length
 |0,_=>by
  refine⟨rfl, ?_,by simp[D2],fun r u=> ?_⟩
  . simp[D2,A4d]
  . simp only[D2,xX]at u;rw[u.2];simp
 |k+1,hk=>by
  obtain⟨h1,h2,h3,h4⟩:=Eb hn k (by omega);have a0:k<ls.length:=hk;have a3:=Rm (ls:=ls.take k) hn.1 (fun l hl=>hn.2.2 l (rV hl));have a2:EH n (ls.getD k (0,0)):=hn.2.2 _ (by rw[qF,qM a0];exact vV a0);simp only[D2];rw[h1]at h2⊢;split
  . rename_i e;refine⟨?_, ?_,h3,h4⟩
    . rw[h1,DO (d:=((0:Int),(0:Int))) a0,Rn,nN e]
    . rw[h1];exact h2
  . rename_i e;have a1:EH ((G1 n (ls.take k)).length:Int) (ls.getD k (0,0)):=by
     rw[W4,show((n.toNat:Nat):Int)=n from by have:=hn.1;omega];exact a2
    have hc:=lR a3 a1 e;refine⟨by rw[DO (d:=((0:Int),(0:Int))) a0,Rn], ?_,by rw[B5u];exact h3,fun r u=> ?_⟩
    . simp only[rM,qZ];omega
    . simp only[rM,qZ];simp only[adj]at u;have hg:∀(N:List (List Ln)) (i m:Nat),(∀r∈N,r.length<=m)->(N.getD i []).length<=m:=fun N i m hN=>by
       rw[qF];cases hi:N[i]? with
       |none=>simp
       |some r=>exact hN r (sO hi)
      have hs:∀(N:List (List Ln)) (i m:Nat) (x:Ln),(∀r∈N,r.length<=m)->∀r∈N.set i (N.getD i []++ [x]),r.length<=m+1:=fun N i m x hN r u=>by
       rcases g1l u with u|u
       . have:=hN r u;omega
       . rw[u,rM,qZ];have:=hg N i m hN;omega
      have:=hs _ _ _ _ (hs _ _ _ _ h4) r u;omega
def dF {n:Int} {ls:List Ln} (u:V7 n ls) {k:Nat} (hk:k<=ls.length):(D2 n ls k).2.1.length<=16384:=by
 have:=(Eb u k hk).2.1;have:=u.1;have:=u.2.1;omega
def A1u {L:List Int} {l:Ln} {u v:Int} (u0:0<=u) (u1:u<(L.length:Int)) (v0:0<=v) (v1:v<(L.length:Int)) (h:C1 L u=C1 L v):C1 (Bd L l) u=C1 (Bd L l) v:=by
 rw[W1 u0 u1,W1 v0 v1,h]
def A7k {L:List Int} {l:Ln} (hl:EH L.length l):C1 (Bd L l) l.1=C1 (Bd L l) l.2:=by
 obtain⟨u,a1,b0,b1⟩:=hl;rw[W1 u a1,W1 b0 b1];split<;>split<;>omega
def WD {n:Int} (hn:0<=n) {u v:Int} (u0:0<=u) (u1:u<n) (v0:0<=v) (v1:v<n):∀(ls:List Ln) (L:List Int),L.length=n.toNat->C1 L u=C1 L v->C1 (ls.foldl Bd L) u=C1 (ls.foldl Bd L) v
 | [],_,_,h=>h
 |l::ls,L,hL,h=>by
  rw[yB];exact WD hn u0 u1 v0 v1 ls _ (by rw[Ch];exact hL) (A1u u0 (by omega) v0 (by omega) h)
def dD {n:Int} (hn:0<=n) {l:Ln} :∀(ls:List Ln) (L:List Int),L.length=n.toNat->(∀l∈ls,EH n l)->l∈ls->C1 (ls.foldl Bd L) l.1=C1 (ls.foldl Bd L) l.2
 | [],_,_,_,h=>by cases h
 |x::ls,L,u,hb,h=>by
  rw[yB];have hx:=hb x (by simp);rcases qR.1 h with rfl|h
  . obtain⟨a0,a1,b0,b1⟩:=hx;exact WD hn a0 a1 b0 b1 ls _ (by rw[Ch];exact u) (A7k (by rw[u];exact⟨a0,by omega,b0,by omega⟩))
  . exact dD hn ls _ (by rw[Ch];exact u) (fun y hy=>hb y (by simp[hy])) h
def Gh {n:Int} {ls:List Ln} (u:0<=n) (hb:∀l∈ls,EH n l) {l:Ln} (h:l∈ls):C1 (G1 n ls) l.1=C1 (G1 n ls) l.2:=dD u ls _ (Ej n) hb h
def dC {α:Type} {n:Int} (hn:0<=n) {f:Int->α} :∀(ls:List Ln) (L:List Int),L.length=n.toNat->Lab L->(∀l∈ls,EH n l/\f l.1=f l.2)->(∀i:Int,0<=i->i<n->f (C1 L i)=f i)->∀i:Int,0<=i->i<n->f (C1 (ls.foldl Bd L) i)=f i
 | [],_,_,_,_,h=>h
 |l::ls,L,hL,u,hb,h=>by
  rw[yB];obtain⟨⟨a0,a1,b0,b1⟩,hl⟩:=hb l (by simp);have a2:EH (L.length:Int) l:=by rw[hL];exact⟨a0,by omega,b0,by omega⟩
  refine dC hn ls _ (by rw[Ch];exact hL) (u.join a2) (fun y hy=>hb y (by simp[hy])) fun i i0 i1=> ?_
  rw[W1 i0 (by omega)];split
  . rename_i e;have ea:=h _ a0 a1;have eb:=h _ b0 b1;have ei:=h i i0 i1;rcases(by omega:min (C1 L l.1) (C1 L l.2)=C1 L l.1\/min (C1 L l.1) (C1 L l.2)=C1 L l.2)with e1|e1<;>
    rcases(by omega:max (C1 L l.1) (C1 L l.2)=C1 L l.1\/max (C1 L l.1) (C1 L l.2)=C1 L l.2)with e2|e2
    . rw[e1, <-ei,e,e2]
    . rw[e1, <-ei,e,e2,ea,eb,hl]
    . rw[e1, <-ei,e,e2,ea,eb,hl]
    . rw[e1, <-ei,e,e2]
  . exact h i i0 i1
def NW {α:Type} {n:Int} {ls:List Ln} (hn:0<=n) (hb:∀l∈ls,EH n l) {f:Int->α} (u:∀l∈ls,f l.1=f l.2):∀i:Int,0<=i->i<n->f (C1 (G1 n ls) i)=f i:=
 dC hn ls _ (Ej n) (A4s n) (fun l hl=>⟨hb l hl,u l hl⟩) fun i i0 i1=>by rw[Hd i0 i1]
def A0a (A B:List Int):Prop:=A.length=B.length/\∀i:Int,0<=i->i<(A.length:Int)->C1 B (C1 A i)=C1 B i
def A1e {A B:List Int} (hA:Lab A) (hB:Lab B) (h:A0a A B) {b:Int} (b0:0<=b) (u:b<(A.length:Int)) (hb:C1 B b=b):C1 A b=b:=by
 obtain⟨a0,a1,a2⟩:=hA b b0 u;have e:=h.2 b b0 u;obtain⟨_,c1,_⟩:=hB (C1 A b) a0 (by have:=h.1;omega);omega
def A1d {A B:List Int} (u:Lab A) (hB:Lab B) (h:A0a A B):cnt B<=cnt A:=by
 rw[VB,VB, <-h.1, <-wW, <-wW];refine g2w fun b hb hh=> ?_
 rw[uV]at hb;exact rD (A1e u hB h (by omega) (by omega) (qA hh))
def A1w {ls:List Ln} {i:Nat} (h:i<ls.length):ls.getD i (0,0)∈ls:=by
 rw[qF,qM h];exact vV h
def A4o {n:Int} {L:List Int} {l:Ln} (hn:0<=n) (u:L.length=n.toNat) (h:EH n l):EH (L.length:Int) l:=by
 rw[u,show((n.toNat:Nat):Int)=n from by omega];exact h
def IB:List Int->Int
 | []=>0
 |a::r=>a+IB r
def YQ:∀ {l:List Int} {k:Nat} {v:Int},k<l.length->IB (l.set k v)=IB l-l.getD k 0+v
 | [],_,_,h=>by simp at h
 |a::r,0,v,_=>by simp[IB];omega
 |a::r,k+1,v,h=>by
  have:=YQ (l:=r) (k:=k) (v:=v) (by simpa using h);simp only[g4e,IB,this,List.getD_cons_succ];omega
def QR:∀ {l:List Int},(∀x∈l,0<=x)->0<=IB l
 | [],_=>qG _
 |a::r,h=>by
  have h1:=h a (by simp);have u:=QR (l:=r) fun x hx=>h x (by simp[hx])
  simp only[IB];omega
def B7c {L:List Int} {x:Int} (h:x∈L):∃i:Int,0<=i/\i<(L.length:Int)/\C1 L i=x:=by
 obtain⟨i,hi,u⟩:=uB.1 h;refine⟨i,by omega,by omega, ?_⟩;have:=Uq (L:=L) (i:=(i:Int)) (by omega) (by omega);rw[qK,qM hi,u]at this;exact(wI this).symm
def iO {A B:List Int} (hl:A.length=B.length) (h:∀i:Int,0<=i->i<(A.length:Int)->C1 A i=C1 B i):A=B:=by
 apply wA;intro j;by_cases hj:j<A.length
 . have u:=Uq (L:=A) (i:=(j:Int)) (by omega) (by omega);have g2:=Uq (L:=B) (i:=(j:Int)) (by omega) (by omega);rw[qK]at u g2;rw[u,g2,h j (by omega) (by omega)]
 . rw[rW (by omega),rW (by omega)]
def nR {n:Int} {ls:List Ln} (hn:0<=n) (hb:∀l∈ls,EH n l) {L:List Int} (hl:L.length=n.toNat) (h1:∀i:Int,0<=i->i<n->0<=C1 L i/\C1 L i<=i/\C1 (G1 n ls) (C1 L i)=C1 (G1 n ls) i) (h2:∀l∈ls,C1 L l.1=C1 L l.2):L=G1 n ls:=by
 refine iO (by rw[hl,W4]) fun i i0 i1=> ?_
 rw[hl]at i1;have u:=Rm hn hb;have a3:=W4 n ls;obtain⟨m0,m1,m2⟩:=u i i0 (by omega);have e1:=NW hn hb (f:=fun j=>C1 L j) h2 i i0 (by omega);obtain⟨a0,a1,a2⟩:=h1 _ m0 (by omega);obtain⟨_,b1,_⟩:=u (C1 L (C1 (G1 n ls) i)) a0 (by omega);rw[m2]at a2;omega
def Oq (ls:List Ln) (e:Int):Ln:=ls.getD e.toNat (0,0)
def nO (l:Ln) (u v:Int):Prop:=l=(u,v)\/l=(v,u)
def SX (up:List Ln) (b:Int):Ln:=up.getD b.toNat (0,0)
def C5l (n:Int) (ls:List Ln) (order:List Int) (up:List Ln) (k:Nat) (b:Int):Prop:=
 0<=b/\b<n/\((SX up b=(-1,b)/\C1 (G1 n ls) b=b)\/((SX up b).1∈D5 n ls/\nO (Oq ls (SX up b).1) b (SX up b).2/\∃j,j<k/\order[j]? =some (SX up b).2))
structure C1j (n:Int) (ls:List Ln) (order:List Int) (up:List Ln):Prop where
 len:order.length=n.toNat
 nod:order.Nodup
 all:∀b,0<=b->b<n->b∈order
 ulen:up.length=n.toNat
 at':∀(k:Nat) (b:Int),order[k]? =some b->C5l n ls order up k b
def Rr {α:Type} [DecidableEq α]:∀ {a b:List α},a.Nodup->(∀x∈a,x∈b)->a.length<=b.length
 | [],_,_,_=>rP _
 |x::a,b,u,hs=>by
  rw[sC]at u;have h1:∀y∈a,y∈b.erase x:=fun y hy=>(g0o fun e=>u.1 (by rw[<-e];exact hy)).2 (hs y (by simp[hy]))
  have h2:=Rr u.2 h1;rw[wP (hs x (by simp))]at h2;have:=xA (hs x (by simp));simp only[rH];omega
def pick (ls:List Ln) (f:List Int):List Ln:=f.map fun e=>Oq ls e
def A4y (ls:List Ln) (k:Nat):Oq ls (k:Int)=ls.getD k (0,0):=by simp[Oq]
def Jm {n:Int} {ls:List Ln} :∀ {k:Nat} {e:Int},e∈(D2 n ls k).2.1->0<=e/\e<(k:Int)
 |0,e,h=>by simp[D2]at h
 |k+1,e,h=>by
  simp only[D2]at h;split at h
  . have:=Jm h;omega
  . rcases qU.1 h with h|h
    . have:=Jm h;omega
    . rw[qP]at h;omega
def Vt {n:Int} {ls:List Ln} :∀k:Nat,(D2 n ls k).2.1.Pairwise (· < ·)
 |0=>by simp[D2]
 |k+1=>by
  simp only[D2];split
  . exact Vt k
  . refine tO.2 ⟨Vt k,by simp,fun a u b hb=> ?_⟩;rw[qP]at hb;have:=Jm u;omega
def Fy {n:Int} {ls:List Ln} {e:Int} (h:e∈D5 n ls):0<=e/\e<(ls.length:Int):=Jm h
def bB (n:Int) (ls:List Ln):(D5 n ls).Pairwise (· < ·):=Vt _
def Lq {ls:List Ln} {e:Int} (u:0<=e) (h1:e<(ls.length:Int)):Oq ls e∈ls:=A1w (by omega)
def B4c {n:Int} {ls:List Ln} :∀l∈pick ls (D5 n ls),l∈ls:=fun l hl=>by
 obtain⟨e,u,rfl⟩:=rZ.1 hl;have:=Fy u;exact Lq this.1 this.2
def YW {n:Int} {ls:List Ln} :∀k:Nat,(D2 n ls k).1=G1 n (pick ls (D2 n ls k).2.1)
 |0=>by simp[D2,pick,G1]
 |k+1=>by
  have u:=YW (n:=n) (ls:=ls) k;simp only[D2];split
  . exact u
  . simp only[pick,uE,rU,g0y,A4y];rw[Rn,u];rfl
def mS {n:Int} {ls:List Ln} (u:V7 n ls):G1 n (pick ls (D5 n ls))=G1 n ls:=by
 unfold D5;rw[<-YW,(Eb u ls.length (rC _)).1,tT]
def A1m {n:Int} {ls:List Ln} (u:V7 n ls):(D5 n ls).length+cnt (G1 n ls)=n.toNat:=by
 have:=Eb u ls.length (rC _);rw[<-this.2.1,this.1,tT];rfl
def B2k {n:Int} {ls:List Ln} (a1:V7 n ls) {e u v:Int} (he:e∈D5 n ls) (h:nO (Oq ls e) u v):0<=v/\v<n/\0<=u/\u<n:=by
 have hm:=Fy he;have a0:=a1.2.2 _ (Lq hm.1 hm.2);unfold EH at a0;rcases h with h|h<;>rw[h]at a0<;>simp only at a0<;>omega
structure Bfs (n:Int) (ls:List Ln) (order:List Int) (up:List Ln) (seen:List Bool):Prop where
 slen:seen.length=n.toNat
 ulen:up.length=n.toNat
 nod:order.Nodup
 mem:∀b,0<=b->b<n->(seen.getD b.toNat false=true↔b∈order)
 at':∀(k:Nat) (b:Int),order[k]? =some b->C5l n ls order up k b
def Bfs.len {n:Int} {ls:List Ln} {order:List Int} {up:List Ln} {seen:List Bool} (h:Bfs n ls order up seen):order.length<=n.toNat:=by
 have u:∀b∈order,b∈PX n:=fun b hb=>by
  obtain⟨k,hk⟩:=g2x.1 hb;obtain⟨h1,u,_⟩:=h.at' k b hk;unfold PX;rw[rZ];exact⟨b.toNat,by rw[uV];omega,by show((b.toNat:Nat):Int)=b;omega⟩
 have:=Rr h.nod u;rw[Ej]at this;exact this
def B4o {s:List Bool} {v b:Int} (v0:0<=v) (b0:0<=b) (u:v<(s.length:Int)):(s.set v.toNat true).getD b.toNat false=if b=v then true else s.getD b.toNat false:=by
 simp only[qF,wB];by_cases h:b=v
 . subst h;rw[qY rfl,qY (by omega),qY rfl];rfl
 . rw[qO h,qO (by omega)]
def A5z {up:List Ln} {v b:Int} {l:Ln} (v0:0<=v) (b0:0<=b) (u:v<(up.length:Int)):SX (up.set v.toNat l) b=if b=v then l else SX up b:=by
 unfold SX;simp only[qF,wB];by_cases h:b=v
 . subst h;rw[qY rfl,qY (by omega),qY rfl];rfl
 . rw[qO h,qO (by omega)]
def Bfs.add {n:Int} {ls:List Ln} {order:List Int} {up:List Ln} {seen:List Bool} (h:Bfs n ls order up seen) {v:Int} {l:Ln} (v0:0<=v) (v1:v<n) (hv:v∉order)
 (hl:(l=(-1,v)/\C1 (G1 n ls) v=v)\/(l.1∈D5 n ls/\nO (Oq ls l.1) v l.2/\l.2∈order)):Bfs n ls (order++ [v]) (up.set v.toNat l) (seen.set v.toNat true):=by
 have hs:=h.slen;have hu:=h.ulen;have a0:v<(up.length:Int):=by omega
 refine⟨by rw[qJ];exact hs,by rw[qJ];exact hu, ?_,fun b b0 b1=> ?_,fun k b u=> ?_⟩
 . rw[sQ];exact⟨h.nod,by simp,fun a ha b hb=>by rw[qP]at hb;subst hb;exact fun e=>hv (e▸ha)⟩
 . rw[B4o v0 b0 (by omega),qU,qP];by_cases e:b=v
   . rw[qY e];exact⟨fun _=> .inr e,fun _=>rfl⟩
   . rw[qO e,h.mem b b0 b1];exact⟨.inl,fun hh=>hh.resolve_right e⟩
 . have grow:∀j c,order[j]? =some c->(order++ [v])[j]? =some c:=fun j c hj=>by
    rw[vJ (sG.1 hj).1];exact hj
   by_cases a3:k<order.length
   . rw[vJ a3]at u;obtain⟨b0,b1,h3⟩:=h.at' k b u;have a4:b≠v:=fun e=>hv (e▸sO u)
     refine⟨b0,b1, ?_⟩;rw[A5z v0 b0 a0,qO a4];rcases h3 with h3| ⟨h4,h5,j,hj,a1⟩
     . exact .inl h3
     . exact .inr ⟨h4,h5,j,hj,grow j _ a1⟩
   . rw[uU (by omega)]at u;have a2:k-order.length=0:=by
      obtain⟨hh,_⟩:=sG.1 u;simp at hh;clear u h;omega
     rw[a2]at u;simp at u;subst u;refine⟨v0,v1, ?_⟩;rw[A5z v0 v0 a0,qY rfl];rcases hl with hl| ⟨h4,h5,h6⟩
     . exact .inl hl
     . obtain⟨j,hj⟩:=g2x.1 h6;exact .inr ⟨h4,h5,j,by have:=(sG.1 hj).1;omega,grow j _ hj⟩
def B9n (N:List (List Ln)) (order:List Int) (k:Nat):Prop:=∀(j:Nat) (b:Int),j<k->order[j]? =some b->∀w∈N.getD b.toNat [],w.2∈order
def B9n.grow {N:List (List Ln)} {order:List Int} {k:Nat} (h:B9n N order k) (hk:k<=order.length) (v:Int):B9n N (order++ [v]) k:=fun j b u hb w hw=>by
 rw[vJ (by omega)]at hb;exact qU.2 (.inl (h j b u hb w hw))
def Bfs.done {n:Int} {ls:List Ln} {order:List Int} {up:List Ln} {seen:List Bool} (h:Bfs n ls order up seen) (u:∀b,0<=b->b<n->b∈order):C1j n ls order up:=by
 refine⟨?_,h.nod,u,h.ulen,h.at'⟩;have h1:=h.len;have h2:(PX n).length<=order.length:=Rr (by
  unfold PX;exact List.Pairwise.map _ (fun a b a0 e=>a0 (g0m e)) List.nodup_range) fun b hb=>by
   unfold PX at hb;rw[rZ]at hb;obtain⟨i,hi,rfl⟩:=hb;rw[uV]at hi;exact u _ (qD i) (show(i:Int)<n by omega)
 rw[Ej]at h2;omega
def B9z {n:Int} {ls:List Ln} (hn:0<=n) (hb:∀l∈ls,EH n l):n.toNat<=cnt (G1 n ls)+ls.length:=by
 have key:∀k,k<=ls.length->n.toNat<=cnt (G1 n (ls.take k))+k:=by
  intro k
  induction k with
  |zero=>intro _;show n.toNat<=cnt (PX n)+0;rw[A4d];omega
  |succ k ih=>
   intro hk;have ih:=ih (by omega);rw[DO (d:=((0:Int),(0:Int))) (by omega),Rn];by_cases u:C1 (G1 n (ls.take k)) (ls.getD k (0,0)).1=C1 (G1 n (ls.take k)) (ls.getD k (0,0)).2
   . rw[nN u];omega
   . have:=lR (Rm (ls:=ls.take k) hn fun l hl=>hb l (rV hl)) (A4o hn (W4 _ _) (hb _ (A1w (by omega)))) u;omega
 have:=key ls.length (rC _);rwa[tT]at this
def gY (n:Int) (ls:List Ln) (e:Int):List Ln:=pick ls ((D5 n ls).filter fun d=>decide (d≠e))
def gZ {n:Int} {ls:List Ln} {e:Int} {l:Ln} :l∈gY n ls e↔∃d,d∈D5 n ls/\d≠e/\Oq ls d=l:=by
 unfold gY pick;simp only[rZ,vR,rT];constructor
 . rintro⟨d,⟨h1,u⟩,h3⟩;exact⟨d,h1,u,h3⟩
 . rintro⟨d,h1,u,h3⟩;exact⟨d,⟨h1,u⟩,h3⟩
def A1l {n:Int} {ls:List Ln} (u:V7 n ls) (e:Int):∀l∈gY n ls e,EH n l:=fun l hl=>by
 obtain⟨d,hd,_,rfl⟩:=gZ.1 hl;have:=Fy hd;exact u.2.2 _ (Lq this.1 this.2)
def Uk (n:Int) (ls:List Ln):(D5 n ls).Nodup:=(bB n ls).imp fun h e=>by omega
def B6l {n:Int} {ls:List Ln} (u:V7 n ls) {e:Int} (he:e∈D5 n ls):cnt (G1 n ls)<cnt (G1 n (gY n ls e)):=by
 have h1:=B9z u.1 (A1l u e);have h2:=A1m u;have h3:(gY n ls e).length+1=(D5 n ls).length:=by
  unfold gY pick;rw[sD];have:(D5 n ls).filter (fun d=>decide (d≠e))=(D5 n ls).erase e:=by
   rw[(Uk n ls).erase_eq_filter];apply g4l;intro a _;by_cases h:a=e<;>simp[h]
  rw[this,wP he];have:=xA he;omega
 omega
structure B5q (n:Int) (ls:List Ln) (up:List Ln) (dep:List Int):Prop where
 ulen:up.length=n.toNat
 dlen:dep.length=n.toNat
 at':∀v,0<=v->v<n->0<=C1 dep v/\((SX up v=(-1,v)/\C1 (G1 n ls) v=v/\C1 dep v=0)\/((SX up v).1∈D5 n ls/\nO (Oq ls (SX up v).1) v (SX up v).2/\C1 dep v=C1 dep (SX up v).2+1))
section
variable {n:Int} {ls:List Ln} {up:List Ln} {dep:List Int}
def B5q.up_in (u:V7 n ls) (h:B5q n ls up dep) {v:Int} (v0:0<=v) (v1:v<n) (hr:0<=(SX up v).1):(SX up v).1∈D5 n ls/\nO (Oq ls (SX up v).1) v (SX up v).2/\C1 dep v=C1 dep (SX up v).2+1/\0<=(SX up v).2/\(SX up v).2<n:=by
 rcases(h.at' v v0 v1).2 with⟨h1,_⟩ | ⟨h1,h2,h3⟩
 . rw[h1]at hr;simp at hr
 . obtain⟨a,b,_⟩:=B2k u h1 h2;exact⟨h1,h2,h3,a,b⟩
def B5q.inj (a0:V7 n ls) (h:B5q n ls up dep) {v w:Int} (v0:0<=v) (v1:v<n) (w0:0<=w) (w1:w<n) (hv:0<=(SX up v).1) (he:(SX up v).1=(SX up w).1):v=w:=by
 obtain⟨a1,a2,a3,_⟩:=h.up_in a0 v0 v1 hv;obtain⟨b1,u,b3,_⟩:=h.up_in a0 w0 w1 (he▸hv);rw[he]at a2;rcases a2 with a2|a2<;>rcases u with u|u
 . exact(g0q (a2.symm.trans u)).1
 . obtain⟨e1,e2⟩:=g0q (a2.symm.trans u);rw[e2]at a3;rw[<-e1]at b3;omega
 . obtain⟨e1,e2⟩:=g0q (a2.symm.trans u);rw[e1]at a3;rw[<-e2]at b3;omega
 . exact(g0q (a2.symm.trans u)).2
def Con (n:Int) (up:List Ln) (M:Int->Prop) (f:Int->Int):Prop:=∀w,0<=w->w<n->M w->f w=f (SX up w).2
def Mv (top:List Int) (w:Int):Prop:=C1 top w≠w
structure B9o (n:Int) (up:List Ln) (dep top:List Int):Prop where
 len:top.length=n.toNat
 rng:∀v,0<=v->v<n->0<=C1 top v/\C1 top v<n
 dec:∀v,0<=v->v<n->Mv top v->0<=(SX up v).1/\C1 dep (C1 top v)<C1 dep v
 con:∀f,Con n up (Mv top) f->∀v,0<=v->v<n->f (C1 top v)=f v
def B9o.halve {top:List Int} (h:B9o n up dep top) {c:Int} (c0:0<=c) (c1:c<n) (hc:Mv top c):B9o n up dep (top.set c.toNat (C1 top (C1 top c)))/\∀v,0<=v->v<n->(Mv (top.set c.toNat (C1 top (C1 top c))) v↔Mv top v):=by
 have hk:c.toNat<top.length:=by rw[h.len];omega
 obtain⟨r0,r1⟩:=h.rng c c0 c1;obtain⟨s0,s1⟩:=h.rng _ r0 r1;obtain⟨d0,d1⟩:=h.dec c c0 c1 hc;have d2:C1 dep (C1 top (C1 top c))<C1 dep c:=by
  by_cases hm:Mv top (C1 top c)
  . have:=(h.dec _ r0 r1 hm).2;omega
  . unfold Mv at hm;rw[show C1 top (C1 top c)=C1 top c from uW.1 hm];exact d1
 have a0:∀v,0<=v->v<n->(Mv (top.set c.toNat (C1 top (C1 top c))) v↔Mv top v):=fun v v0 v1=>by
  unfold Mv;rw[W5 hk];by_cases e:v.toNat=c.toNat
  . have e':v=c:=by omega
    subst e';rw[qY rfl];refine⟨fun _=>hc,fun _ e=> ?_⟩;rw[e]at d2;omega
  . rw[qO e]
 refine⟨⟨by rw[qJ];exact h.len,fun v v0 v1=> ?_,fun v v0 v1 hm=> ?_,fun f hf v v0 v1=> ?_⟩,a0⟩
 . rw[W5 hk];split
   . exact⟨s0,s1⟩
   . exact h.rng v v0 v1
 . have a1:=(a0 v v0 v1).1 hm;refine⟨(h.dec v v0 v1 a1).1, ?_⟩;rw[W5 hk];split
   . rename_i e;rw[show v=c from by omega];exact d2
   . exact(h.dec v v0 v1 a1).2
 . have u:Con n up (Mv top) f:=fun w w0 w1 hw=>hf w w0 w1 ((a0 w w0 w1).2 hw)
   rw[W5 hk];split
   . rename_i e;rw[show v=c from by omega,h.con f u _ r0 r1,h.con f u c c0 c1]
   . exact h.con f u v v0 v1
def Con.sub {M M':Int->Prop} {f:Int->Int} (h:Con n up M' f) (hs:∀v,0<=v->v<n->M v->M' v):Con n up M f:=fun w w0 u hw=>h w w0 u (hs w w0 u hw)
end
def AQ (ls:List Ln):Int->Int->List (Int×Int)->Prop
 |u,v,[]=>u=v
 |u,v,e::p=>∃w,((e.2=1/\Oq ls e.1=(u,w))\/(e.2= -1/\Oq ls e.1=(w,u)))/\AQ ls w v p
def free (ls:List Ln) (fo used:List Int) (u v:Int) (p:List (Int×Int)):Prop:=AQ ls u v p/\(∀e∈p,e.1∈fo/\e.1∉used)/\(p.map (·.1)).Nodup
def C2o (l:List D3):Prop:=l.Pairwise fun a b=>a.1<b.1
def JA (e:Int×Int):D3:=(e.1,ri e.2)
def B0x (n:Int) (ls:List Ln) (u v i:Int):Int:=
 if C1 (G1 n (gY n ls i)) u=C1 (G1 n (gY n ls i)) v then 0 else if C1 (G1 n (gY n ls i)) u=C1 (G1 n (gY n ls i)) (Oq ls i).1 then 1 else -1
def Zg (n:Int) (ls:List Ln) (line i:Int):Int:=
 if i=line then 1 else if i∈D5 n ls then B0x n ls (Oq ls line).2 (Oq ls line).1 i else 0
def Ot (n:Int) (ls:List Ln) (line:Int):List D3:=
 (List.range ls.length).filterMap fun(i:Nat)=>if Zg n ls line (i:Int)=0 then none else some ((i:Int),ri (Zg n ls line (i:Int)))
def Zi (n:Int) (ls:List Ln) (line:Int):List D3:=if 0<=line/\line<(ls.length:Int)then(if line∈D5 n ls then []else Ot n ls line)else []
def Zh (n:Int) (ls:List Ln) (line:Int):Int:=if 0<=line/\line<(ls.length:Int)then(if line∈D5 n ls then 20 else 0)else 12
end Go.Proofs.YthclcjfodjhmlaaGreat
namespace Go.Gw
open Go Go.RowKit Go.ChangeShapes Go.WideShapes Go.ChangeAt
section
variable {H:Type} {enc:TypeId×Value->H} {P:Program}
def FT (hl:laidOutB P=true) {W W':World} {sp:Nat->Bool} (hb:S7 W W'):∀(ts:List TypeId) (vs:List Value) (ds:List (DataW H)) (u:List MemPlace),
 (∀t∈ts,P.readableRec t=true/\t<P.types.size)->DataW.TrodAll enc P W 0 (fun _=>true) true ts vs ds u->(∀x∈u,x.block<W.heap.size)->(∀x∈u,sp x.block=true)->DataW.TrodAll enc P W' 0 sp true ts vs ds u
 | [],vs,ds,u,_,h,_,_=>by
  cases vs<;>cases ds<;>simp[DataW.TrodAll]at h⊢;exact h
 |t::ts,vs,ds,u,ht,h,a0,hsp=>by
  obtain⟨v,a2,d,a1,p,q,rfl,rfl,rfl,h1,h2⟩:=trodAll_cons h;refine trodAll_cons_mk ?_ (FT hl hb ts a2 a1 q (fun x hx=>ht x (by simp[hx])) h2 (fun x hx=>a0 x (by simp[hx])) (fun x hx=>hsp x (by simp[hx])));exact WideElems.Trod_stays hl (ht t (by simp)).1 (ht t (by simp)).2 h1 (fun x hx=>hb.same (a0 x (by simp[hx]))) (fun x hx=>hsp x (by simp[hx]))
def B4d (hl:laidOutB P=true) {f:Func} {s:ChangeSpec} {W W':World} {args:Array Value} {ds gs:List (DataW H)} {before:List MemPlace} {tb:TypeId}
 (hW:DataW.Whole enc P f.params.toList s.vars false W args.toList ds gs before) (hv:s.vars= []) (a2:f.resultTypes= #[tb]) (a4:P.underlying tb=some .bool)
 (u:s.fn H ds= {results:= [.lit (.bool true)],args:=ds}) (hr:∀t∈f.params.toList,P.readableRec t=true/\t<P.types.size) (hb:S7 W W'):
 s.post enc P f false true false false W args (.bool true) W':=by
 have a0:∀p∈before,p.block<W.heap.size:=fun p hp=>hW.lt p hp
 have a3:=hW;obtain⟨p,q,hA,hV,a1,_,_⟩:=hW;rw[hv]at hV;obtain⟨rfl,rfl⟩:=trodVars_none hV;rw[vQ]at a1;subst a1;refine⟨ds,[],before,[],before,[],a3, ?_, ?_, ?_, ?_,fun h=>by cases h⟩
 . rw[vQ,u,a2];exact trodAll_mk1 (shut_bool a4 _)
 . rw[vQ,u];exact FT hl hb _ _ _ _ hr hA a0 (fun x hx=>by simpa using a0 x hx)
 . rw[vQ,u,hv];rfl
 . refine World.keptBut_mono ?_ (hb.frame (· ∈before));intro x hx;exact⟨hx, .inr (.inl hx)⟩
end
end Go.Gw
namespace Go.Vc
open Go Go.RowKit Go.Gw Go.ChangeShapes Go.WideShapes Go.ChangeAt
def nL (P:Program):Nat->TypeId->Ty->Bool
 |0,_,_=>false
 |n+1,T,ty=>match P.underlying T with
  |some (.int k)=>(match ty with| .int k'=>decide (k=k') | _=>false)
  |some .bool=>(match ty with| .bool=>true| _=>false)
  |some .string=>(match ty with| .str=>true| _=>false)
  |some (.slice e)=>(match ty with| .sl t=>nL P n e t&&Nat.beq (P.cellsOf e) t.size&&Nat.ble 1 t.size| _=>false)
  |some (.struct u)=>iL P (nL P n) u.toList 0 ty&&Nat.beq (P.cellsOf T) ty.size
  |some (.array k e)=>iJ (nL P n e) (P.cellsOf e) k ty&&Nat.beq (P.cellsOf T) ty.size
  | _=>false
section
variable {H:Type} {α:Type} {enc:TypeId×Value->H} {P:Program} {W:World}
def cells?_at {base:Nat} {a:Addr} {n:Nat} {cs:List Value} (h:W.cells? base a n=some cs):cs.length=n/\J6 W a cs:=by
 obtain⟨_,hl,hc⟩:=World.cells?_some h;exact⟨hl,fun j v u=>by have:=hc j (by have:=PT u;omega);rw[this];exact u⟩
def A8y {a:Addr} {v:Value} (h:W.cell? a=some v):a.spot=none:=by
 unfold World.cell? at h;split at h
 . cases u:a.spot with
   |none=>rfl
   |some _=>simp[u]at h
 . cases h
def VU {R:List Value->α->Prop} {b o sz:Nat} :∀(len:Nat),(∀i,i<len->∃u y,u.length=sz/\J6 W ⟨b,o+i*sz,none⟩ u/\R u y)->∃u l,l.length=len/\u.length=len*sz/\J6 W ⟨b,o,none⟩ u/\G5 R u l
 |0,_=>⟨[],[],rfl,by simp,fun j v hj=>by simp at hj,rfl⟩
 |len+1,h=>by
  obtain⟨u,l,h1,h2,h3,h4⟩:=VU (R:=R) (b:=b) (o:=o) (sz:=sz) len (fun i hi=>h i (by omega));obtain⟨a0,y,g1,g2,g3⟩:=h len (by omega);refine⟨u++a0,l++ [y],by simp[h1],by rw[rM,h2,g1,uR],fun j v hj=> ?_,h4.append ⟨a0,[],by simp,g3,rfl⟩⟩;rw[List.getElem?_append]at hj;split at hj
  . exact h3 j v hj
  . rename_i a1;have:=g2 _ v hj;rw[K7]at this⊢;rw[h2]at this a1;rw[show o+len*sz+(j-len*sz)=o+j from by omega]at this;exact this
def A4r {n:Nat} {r:TypeId->Ty->Bool} {Z:Nat->Prop} {cs:List Value} (hr:∀ {T:TypeId} {ty:Ty} {cs:List Value} {x:DataW H×List MemPlace},r T ty=true->DataW.trod enc P W 0 (fun _=>true) true n T cs=some x->∃y,C7 ty W Z cs y):
 ∀ {fs:List Field} {off:Nat} {ty:Ty},iL P r fs off ty=true->(∀f∈fs,∃x,DataW.trod enc P W 0 (fun _=>true) true n f.type ((cs.drop f.offset).take (P.cellsOf f.type))=some x)->cs.length=off+ty.size->∃y,C7 ty W Z (cs.drop off) y
 | [],off,ty,h,hx,hl=>by
  cases ty<;>simp[iL]at h;exact⟨(),by rw[sH (by simp[Ty.size]at hl;omega)];rfl⟩
 | [f],off,ty,h,hx,hl=>by
  have h':(Nat.beq f.offset off&&r f.type ty&&Nat.beq (P.cellsOf f.type) ty.size)=true:=by cases ty<;>exact h
  simp only[qC]at h';obtain⟨x,hx⟩:=hx f (by simp);obtain⟨y,u⟩:=hr h'.1.2 hx;rw[qE h'.1.1,qE h'.2,qX (by rw[sR];omega)]at u;exact⟨y,u⟩
 |f::g::fs,off,ty,h,hx,hl=>by
  cases ty<;>simp only[iL]at h<;>try cases h
  rename_i a b;simp only[qC]at h;obtain⟨⟨⟨h1,h2⟩,h3⟩,h4⟩:=h;obtain⟨x,a0⟩:=hx f (by simp);obtain⟨y,u⟩:=hr h2 a0;rw[qE h1,qE h3]at u;obtain⟨z,hz⟩:=A4r hr h4 (fun q hq=>hx q (qL _ hq)) (by rw[hl];simp only[Ty.size];omega);exact⟨(y,z),(cs.drop off).take a.size,cs.drop (off+a.size),by rw[<-vO,uG],u,hz⟩
def A4p {n:Nat} {r:TypeId->Ty->Bool} {Z:Nat->Prop} {cs:List Value} {e:TypeId} {sz:Nat} (hr:∀ {T:TypeId} {ty:Ty} {cs:List Value} {x:DataW H×List MemPlace},r T ty=true->DataW.trod enc P W 0 (fun _=>true) true n T cs=some x->∃y,C7 ty W Z cs y):
 ∀ {k i:Nat} {ty:Ty},iJ (r e) sz k ty=true->(∀j,j<k->∃x,DataW.trod enc P W 0 (fun _=>true) true n e ((cs.drop ((i+j)*sz)).take sz)=some x)->cs.length=i*sz+ty.size->∃y,C7 ty W Z (cs.drop (i*sz)) y
 |0,i,ty,h,hx,hl=>by
  cases ty<;>simp[iJ]at h;exact⟨(),by rw[sH (by simp[Ty.size]at hl;omega)];rfl⟩
 |1,i,ty,h,hx,hl=>by
  have h':(r e ty&&Nat.beq ty.size sz)=true:=by cases ty<;>exact h
  simp only[qC]at h';obtain⟨x,hx⟩:=hx 0 (by omega);rw[tD]at hx;obtain⟨y,u⟩:=hr h'.1 hx;have:=qE h'.2;rw[qX (by rw[sR];omega)]at u;exact⟨y,u⟩
 |k+2,i,ty,h,hx,hl=>by
  cases ty<;>simp only[iJ]at h<;>try cases h
  rename_i a b;simp only[qC]at h;obtain⟨⟨h1,h2⟩,h3⟩:=h;obtain⟨x,a0⟩:=hx 0 (by omega);rw[tD]at a0;obtain⟨y,u⟩:=hr h1 a0;have h2:=qE h2;have u:C7 a W Z ((cs.drop (i*sz)).take a.size) y:=by rw[h2];exact u
  have hi:(i+1)*sz=i*sz+a.size:=by rw[uR,h2]
  obtain⟨z,hz⟩:=A4p hr (i:=i+1) h3 (fun j hj=>by
   have:=hx (j+1) (by omega);rw[show i+(j+1)=i+1+j from by omega]at this;exact this) (by rw[hl,hi];simp only[Ty.size];omega)
  rw[hi]at hz;exact⟨(y,z),(cs.drop (i*sz)).take a.size,cs.drop (i*sz+a.size),by rw[<-vO,uG],u,hz⟩
def TO:∀ {m n:Nat} {T:TypeId} {ty:Ty} {cs:List Value} {x:DataW H×List MemPlace},nL P m T ty=true->DataW.trod enc P W 0 (fun _=>true) true n T cs=some x->∃y,C7 ty W (fun b=>b<W.heap.size) cs y
 |0,_,_,_,_,_,h,_=>by cases h
 |m+1,n,T,ty,cs,x,h,hx=>by
  simp only[nL]at h;split at h
  . rename_i k hu;cases ty<;>simp only at h<;>try cases h
    rename_i k';have:=qA h;subst this;obtain⟨z,e,_,hw⟩:=DataW.trod_int hu hx;exact⟨z,e,by simp only[Lit.wf,qC,rT]at hw;exact hw⟩
  . rename_i hu;cases ty<;>simp only at h<;>try cases h
    obtain⟨b,e,_⟩:=DataW.trod_bool hu hx;exact⟨b,e⟩
  . rename_i hu;cases ty<;>simp only at h<;>try cases h
    obtain⟨s,e,_⟩:=DataW.trod_string hu hx;exact⟨s,e⟩
  . rename_i e hu;cases ty<;>simp only at h<;>try cases h
    rename_i t;simp only[qC]at h;have a7:=qE h.1.2;rcases DataW.trod_slice hu hx with⟨hc,_⟩ | ⟨a,len,a1,VT,rest,q,hq,hc,_,_,ac,a2,ab,a3,_⟩
    . exact⟨[],none,0,hc,rC _,rP _,fun _=>rfl, .inl rfl⟩
    . by_cases h0:len=0
      . subst h0;exact⟨[],some a,a1,hc,rP _,a2,fun hh=>(by cases hh), .inl rfl⟩
      . have a0:∀i,i<len->∃ec y,ec.length=t.size/\J6 W (a.add (i*t.size)) ec/\C7 t W (fun b=>b<W.heap.size) ec y:=fun i hi=>by
         have h1:=a3 i hi;rw[qM (by omega),a7]at h1;obtain⟨ec,a5,a9⟩:=g1z.1 h1;obtain⟨g1,g2⟩:=cells?_at a5;obtain⟨y,hy⟩:=TO (m:=m) h.1.1 a9;exact⟨ec,y,g1,g2,hy⟩
        obtain⟨e0,y0,g1,g2,_⟩:=a0 0 (by omega);have ad:=qT h.2;obtain⟨v0,a8⟩:=B6h (l:=e0) (i:=0) (by omega);have u:=g2 0 v0 a8;have a4:(a.add (0*t.size)).add 0=a:=by simp[Addr.add]
        rw[a4]at u;have hsp:=A8y u;obtain⟨b,o,sp⟩:=a;simp only at hsp;subst hsp;have hb:b<W.heap.size:=block_lt_of_cell u;obtain⟨ec,l,k1,_,k3,k4⟩:=VU (R:=C7 t W (fun b=>b<W.heap.size)) (b:=b) (o:=o) (sz:=t.size) len (fun i hi=>by
         obtain⟨ec,y,q1,q2,q3⟩:=a0 i hi;rw[K7]at q2;exact⟨ec,y,q1,q2,q3⟩)
        exact⟨l,some ⟨b,o,none⟩,a1,by rw[hc,k1],by omega,a2,fun hh=>(by cases hh), .inr ⟨b,o,ec,rfl,hb,k3,k4⟩⟩
  . rename_i fs hu;simp only[qC]at h;obtain⟨xs,q,hq,_,hl,aa,hf⟩:=DataW.trod_struct hu hx;have:=A4r (enc:=enc) (P:=P) (W:=W) (n:=q) (Z:=fun b=>b<W.heap.size) (cs:=cs) (fun hh hx=>TO (m:=m) hh hx) h.1 (fun f hf'=>by
     obtain⟨i,hi,he⟩:=g3t hf';have a6:i<fs.size:=by simpa using hi
     have h1:=hf i f (by rw[uM a6];simpa using he);rw[qM (by omega)]at h1;exact⟨_,h1⟩) (by rw[hl,qE h.2];omega)
    simpa using this
  . rename_i k e hu;simp only[qC]at h;obtain⟨xs,q,hq,_,hl,aa,hf⟩:=DataW.trod_array hu hx;have:=A4p (enc:=enc) (P:=P) (W:=W) (n:=q) (Z:=fun b=>b<W.heap.size) (cs:=cs) (e:=e) (i:=0) (fun hh hx=>TO (m:=m) hh hx) h.1 (fun j hj=>by
     have h1:=hf j hj;rw[qM (by omega)]at h1;rw[sP];exact⟨_,h1⟩) (by rw[hl,qE h.2];omega)
    simpa using this
  . cases h
end
def iB (c:Bool) (A B:Prop):Prop:=(c=true->A)/\(c=false->B)
def B9p (P:Program) (T:TypeId) (a:Bool):Bool:=match P.underlying T with
 |some (.struct _)=>a
 |some (.array _ _)=>false
 | _=> !a
def gA (P:Program):List TypeId->List AM->Bool
 | [],[]=>true
 |T::ts, .val a ty::as=>nL P 40 T ty&&B9p P T a&&gA P ts as
 | _,_=>false
section
variable {H:Type} {enc:TypeId×Value->H} {P:Program} {W:World}
def B3q {m:Nat} {T:TypeId} {ty:Ty} {a:Bool} {r:Reach} {b0:Nat} {v:Value} {d:DataW H} {p:List MemPlace} (h:nL P m T ty=true) (ha:B9p P T a=true) (hv:Value.okWide P W r b0 T v) (hd:DataW.Trod enc P W 0 (fun _=>true) true T v d p):
 ∃y,Bm a ty W (fun b=>b<W.heap.size) v y:=by
 obtain⟨n,hd⟩:=hd;obtain⟨y,hy⟩:=TO h hd;refine⟨y, ?_⟩;cases m with
 |zero=>cases h
 |succ m=>
  simp only[nL]at h;unfold B9p at ha;split at h
  . rename_i k u;simp only[u,rR]at ha;obtain⟨n,rfl⟩:=okWide_int u hv;subst ha;exact hy
  . rename_i u;simp only[u,rR]at ha;obtain⟨n,rfl⟩:=okWide_bool u hv;subst ha;exact hy
  . rename_i u;simp only[u,rR]at ha;obtain⟨n,rfl⟩:=okWide_string u hv;subst ha;exact hy
  . rename_i e u;simp only[u,rR]at ha;obtain⟨x1,x2,x3,rfl⟩:=okWide_slice u hv;subst ha;exact hy
  . rename_i fs u;simp only[u]at ha;obtain⟨cs,rfl,_⟩:=okWide_struct u hv;subst ha;exact⟨cs.toList,by simp,hy⟩
  . rename_i u;simp only[u]at ha;cases ha
  . cases h
def eO {r:Reach} {b0:Nat} :∀ {ts:List TypeId} {as:List AM} {vs:List Value} {ds:List (DataW H)} {ps:List MemPlace},gA P ts as=true->DataW.TrodAll enc P W 0 (fun _=>true) true ts vs ds ps->(∀(j:Nat) (t:TypeId) (v:Value),ts[j]? =some t->vs[j]? =some v->Value.okWide P W r b0 t v)->∃x,Ac P W (fun b=>b<W.heap.size) as vs x
 | [],[],vs,ds,ps,_,h,_=>by
  cases vs with
  |nil=>exact⟨(),rfl⟩
  |cons _ _=>cases ds<;>exact h.elim
 | [],_:: _,_,_,_,h,_,_=>by cases h
 | _:: _,[],_,_,_,h,_,_=>by cases h
 |T::ts, .row _ _:: _,_,_,_,h,_,_=>by cases h
 |T::ts, .box _ _:: _,_,_,_,h,_,_=>by cases h
 |T::ts, .fn _ _ _:: _,_,_,_,h,_,_=>by cases h
 |T::ts, .rows _ _ _:: _,_,_,_,h,_,_=>by cases h
 |T::ts, .val a ty::as,vs,ds,ps,h,hA,hv=>by
  simp only[gA,qC]at h;obtain⟨v,a0,d,a1,p,q,rfl,rfl,rfl,h1,h2⟩:=trodAll_cons hA;obtain⟨y,hy⟩:=B3q h.1.1 h.1.2 (hv 0 T v rfl rfl) h1;obtain⟨z,hz⟩:=eO h.2 h2 (fun j t u ht hu=>hv (j+1) t u (by simpa using ht) (by simpa using hu));exact⟨(y,z),v,a0,rfl,hy,hz⟩
def iR (as:List AM):A5:= {args:=as,res:= [.val false .bool],pre:=fun _=>True,post:=fun _ r=>r.1=true}
def A7l {f:FuncId} {as:List AM} {vs:List Value} {x:A2 as} (ha:Bi as=true) (hm:A7 P f (iR as)) (h:Ac P W (fun b=>b<W.heap.size) as vs x):Gw.cG P f vs W fun v W'=>v= .bool true/\S7 W W':=by
 refine(hm W _ vs x (fun _ h=>h) h (by show Dis W (P4 as vs);rw[CH ha];trivial) trivial).mono fun v w' ⟨hx,r,o,us,Zn,hpost,_,hv,_,hrep,_⟩=>⟨?_,hx.ext (fun b ⟨u,hu,_⟩=>by rw[show P4 (iR as).args vs= []from CH ha vs]at hu;cases hu)⟩
 obtain⟨u,a0,e,h1,_,h2⟩:=hrep;rw[show a0= []from h2]at e;subst e;have h1: [u]= [Value.bool r.1]:=h1;have hr:r.1=true:=hpost;rw[hr]at h1;rw[hv];simpa[AS]using h1
def QB {f:FuncId} {s:A5} (h:∀x,¬s.pre x):A7 P f s:=fun _ _ _ x _ _ _ u=>absurd u (h x)
def A7y {f:FuncId} {s:A5} (μ:A2 s.args->Nat) (h:∀n,A7 P f {s with pre:=fun x=>s.pre x/\μ x<n} ->A7 P f {s with pre:=fun x=>s.pre x/\μ x<n+1}):A7 P f s:=by
 have all:∀n,A7 P f {s with pre:=fun x=>s.pre x/\μ x<n} :=fun n=>by
  induction n with
  |zero=>exact QB fun x hx=>by have:=hx.2;omega
  |succ n ih=>exact h n ih
 intro w Z vs x h1 u h3 h4;exact all (μ x+1) w Z vs x h1 u h3 ⟨h4,rX _⟩
def A1:Rb P []:=fun _ _ h=>by cases h
def A0 {f:FuncId} {s:A5} {l:I5} (h1:A7 P f s) (h2:Rb P l) (hi:s.inl=none:=by rfl):Rb P ((f,s)::l):=fun g t h=>by
 unfold Ha at h;cases hb:Nat.beq f g with
 |true=>
  rw[hb]at h;obtain rfl:=qE hb;obtain rfl:s=t:=by simpa using h
  exact⟨h1,fun run u=>by rw[hi]at u;cases u⟩
 |false=>rw[hb]at h;exact h2 g t h
def Fq {f:FuncId} {run:Inl} {l:I5} (h1:PN P f run) (u:Rb P l):Rb P ((f,Hc run)::l):=fun g t h=>by
 unfold Ha at h;cases hb:Nat.beq f g with
 |true=>
  rw[hb]at h;obtain rfl:=qE hb;obtain rfl:Hc run=t:=by simpa using h
  exact⟨fun _ _ _ _ _ _ _ hp=>hp.elim,fun r hr=>by cases hr;exact h1⟩
 |false=>rw[hb]at h;exact u g t h
def Iy:A3s P []:=fun _ h=>by cases h
def T8 {d:Nat} {sp:I5} {an:An} {l:List (Nat×I5×An)} (h1:Rb P sp) (u:A3s P l):A3s P ((d,sp,an)::l):=fun x hx=>by
 rcases qR.1 hx with rfl|hx
 . exact h1
 . exact u x hx
end
end Go.Vc
namespace Go.Vc
open Go Go.RowKit Go.Gw
def DM (g:FuncId) (t:Ty) (e:TypeId) (φ:t.den->t.den->Int) (_:Nat) (st:St) (ss:List SV) (k:St->List SV->Prop):Prop:=
 match ss with
 | [⟨false,[.row q]⟩,⟨false,[.fn g' []]⟩]=>bif Nat.beq g' g then(match AH st t e q with
  |some l=>l.length<=100000/\∀u:List t.den,(Ty.sl t).wf u->u.Perm l->u.Pairwise (fun a b=>¬φ b a<0)->k (addM [.row t e] (u,()) [q] (dropM st [q])) []
  |none=>False)else False
 | _=>False
def A8x (g:FuncId) (t:Ty) (e:TypeId) (φ:t.den->t.den->Int) {st:St} {d:Nat} {ss:List SV} {k k':St->List SV->Prop} (h:DM g t e φ d st ss k) (u:∀st' ss',C3 st st'->k st' ss'->k' st' ss'):DM g t e φ d st ss k':=by
 unfold DM at h⊢;split at h
 . obtain⟨hb,h⟩:=B6 h;rw[hb,qV];split at h
   . exact⟨h.1,fun l' hw hp hs=>u _ _ ((C3.dropM _ _).trans (C3.addM _ _ _ _)) (h.2 l' hw hp hs)⟩
   . exact h.elim
 . exact h.elim
def TS (g:FuncId) (t:Ty) (e:TypeId) (φ:t.den->t.den->Int):Inl:= {run:=DM g t e φ,step:=A8x g t e φ}
def Cc (t:Ty) (e:TypeId) (φ:t.den->t.den->Int):A5:=
 { args:= [.row t e],res:= [],shared:=true,pre:=fun _=>True,post:=fun _ _=>True,mpost:=fun(x:List t.den×Unit) _ (o:List t.den×Unit)=>o.1.Perm x.1/\o.1.Pairwise fun a b=>¬φ b a<0}
def A3v (P:Program) (f g:FuncId) (t:Ty) (e:TypeId) (φ:t.den->t.den->Int):Prop:=
 ∀(w:World) (Z:Nat->Prop) (v:Value) (l:List t.den),(∀b,Z b->b<w.heap.size)->cF P w Z (.row t e) v l->l.length<=100000->B8y P f (Cc t e φ) [v, .func (.func g) #[] #[]] w Z (l,())
def YO {P:Program} {tys:List (Nat×TI)} {f g:FuncId} {t:Ty} {e:TypeId} {φ:t.den->t.den->Int} (hs:A3v P f g t e φ):PN P f (TS g t e φ):=by
 refine {go:= ?_};intro za w0 st E w Z B d ss vs k ae h ab ad hr;replace hr:DM g t e φ d st ss k:=hr;unfold DM at hr;split at hr
 . rename_i q g';obtain⟨hg,a1⟩:=B6 hr;clear hr;obtain rfl:=qE hg;split at a1
   . rename_i l hl;obtain⟨a2,aa⟩:=a1;obtain⟨v1,af,rfl,h1,v2,ag,rfl,h2,rfl⟩:=ab;have e1:v1=B q:=by
      obtain⟨u,us,e1,e2,e3⟩:=h1;cases e1;exact e2
     have e2:v2= .func (.func g') #[] #[]:=by
      obtain⟨u,us,e1,e2,e3⟩:=h2;cases e1;exact e2
     subst e1 e2;have hL:=h.locs q;have hq:∃t',∃e',∃l':List t'.den,st.L q= .row t' e' l':=by
      unfold AH at hl;split at hl
      . exact⟨_,_,_,by assumption⟩
      . cases hl
     obtain⟨t',e',l0,hq⟩:=hq;unfold AH at hl;rw[hq]at hl hL;simp only at hl;split at hl
     . rename_i ht;subst ht;cases a0:Nat.beq e' e with
       |false=>simp[a0]at hl
       |true=>
        simp only[a0,qV,rE]at hl;obtain rfl:=qE a0;subst hl;obtain⟨xs,a3,a8,hZ⟩:=hL;have a5:cF P w Z (.row t' e') (B q) l0:=⟨xs,a3,a8,fun b hb=>(hZ b hb).2⟩;have a6:=hs w Z (B q) l0 h.zlt a5 a2;have a9:live (st.L q):=by rw[hq];trivial
        have hz:lz w st [q] B Z true=Z:=by funext b;simp[lz]
        have:=cM (cx:=⟨P,tys⟩) (s:=Cc t' e' φ) (x:=(l0,())) (vs:= [B q, .func (.func g') #[] #[]]) (mu:= [q]) h (by rw[show(Cc t' e' φ).shared=true from rfl,hz];exact a6) rfl
         ⟨⟨rfl,fun b hb=>by rw[hq];exact hb⟩,trivial⟩ (by simp) (fun q2 a4=>by simp at a4;subst a4;exact a9)
        refine Gw.cG.mono this fun v w' ⟨_,r,o,us,_,how,_,hmp,hv,Z',B',h3,h4,_⟩=> ?_
        obtain⟨hp,a7⟩:=hmp rfl;have ac:us= []:=h4;subst ac;exact⟨_,Z',B',[],[],h3,hv,rfl,fun s hs=>(by cases hs),aa o.1 how.1 hp a7⟩
     . cases hl
   . exact a1.elim
 . exact hr.elim
def PV (P:Program) (as:List (Bool×Ty)) (ra:Bool) (r a:Ty) (φ:a.den->Z6 as->r.den):List SV->Option SV
 | [⟨false,[.val u n]⟩]=>if h:u=a then some ⟨false,[.fv P as ra r (fun _=>True) (φ (h▸n))]⟩else none
 | _=>none
def B1o (P:Program) (as:List (Bool×Ty)) (ra:Bool) (r a:Ty) (φ:a.den->Z6 as->r.den):Inl:=
 { run:=fun _ st ss k=>match PV P as ra r a φ ss with
    |some sv=>k st [sv]
    |none=>False
   res:=PV P as ra r a φ
   step:=fun {st d ss k k'} h hk=>by
    cases u:PV P as ra r a φ ss with
    |none=>rw[u]at h;exact h.elim
    |some sv=>rw[u]at h;exact hk _ _ (C3.refl _) h}
def C6b (P:Program) (f:FuncId) (as:List (Bool×Ty)) (ra:Bool) (r a:Ty) (φ:a.den->Z6 as->r.den):Prop:=
 ∀(w:World) (Z:Nat->Prop) (v:Value) (n:a.den),C7 a w Z [v] n->Gw.cG P f [v] w fun u w'=>S7 w w'/\∃Zn:Nat->Prop,(∀b,Zn b->Z b\/(w.heap.size<=b/\b<w'.heap.size))/\A0b P w' Zn u as ra r (fun _=>True) (φ n)
def A0b.mono {P:Program} {w:World} {Z Z':Nat->Prop} {v:Value} {as:List (Bool×Ty)} {ra:Bool} {r:Ty} {ok:Z6 as->Prop} {φ:Z6 as->r.den} (h:A0b P w Z v as ra r ok φ) (u:∀b,Z b->Z' b):A0b P w Z' v as ra r ok φ:=
 RC.mono (B:=fun _=>v) (B':=fun _=>v) (n:=0) (c:= .fv P as ra r ok φ) u (fun _ _=>rfl) (fun _ _=>rfl) trivial h
def B1p {P:Program} {f:FuncId} {as:List (Bool×Ty)} {ra:Bool} {r a:Ty} {φ:a.den->Z6 as->r.den} (hs:C6b P f as ra r a φ):PN P f (B1o P as ra r a φ):=by
 have res:∀ {za:Zn} {w0:World} {st:St} {E:H0} {w:World} {Z:Nat->Prop} {B:Nat->Value} {ss:List SV} {vs:List Value} {sv:SV},C2 za w0 st E w Z B->Qy w Z B ss vs->PV P as ra r a φ ss=some sv->
  Gw.cG P f vs w fun v w'=>S7 w w'/\∃Z':Nat->Prop,(∀b,Z b->Z' b)/\(∀b,Z' b->Z b\/(w.heap.size<=b/\b<w'.heap.size))/\RS w' Z' B sv v:=by
  intro za w0 st E w Z B ss vs sv h a1 a0;unfold PV at a0;split at a0
  . rename_i a' n;split at a0
    . rename_i ha;subst ha;cases a0;obtain⟨v1,a4,rfl,h1,rfl⟩:=a1;obtain⟨u,us,e1,e2,e3⟩:=h1;cases e1;refine Gw.cG.mono (hs w Z v1 n e2) fun u w' ⟨hx,Zn,hz,hf⟩=>⟨hx,fun b=>Z b\/Zn b,fun _=> .inl,fun b hb=>hb.elim .inl (hz b), ?_⟩
      exact⟨u,[],rfl,hf.mono fun _=> .inr,rfl⟩
    . cases a0
  . cases a0
 refine {go:= ?_,res:=res};intro za w0 st E w Z B d ss vs k a3 h a1 a2 hr;replace hr:(match PV P as ra r a φ ss with|some sv=>k st [sv] |none=>False):=hr;cases hv:PV P as ra r a φ ss with
 |none=>rw[hv]at hr;exact hr.elim
 |some sv=>
  rw[hv]at hr;refine Gw.cG.mono (res h a1 hv) fun v w' ⟨hx,Z',hz,hz',hrep⟩=>⟨st,Z',B,[sv],[v],h.more hx hz hz',rfl,⟨v,[],rfl,hrep,rfl⟩,fun s hs=> ?_,hr⟩
  rw[qP]at hs;subst hs;unfold PV at hv;split at hv
  . split at hv
    . cases hv;intro c hc;rw[qP]at hc;subst hc;trivial
    . cases hv
  . cases hv
end Go.Vc
namespace Go.Proofs.YthclcjfodjhmlaaGreat
open Go.Vc Go.Gw
variable {α:Type}
def B2c (q:α->α->Prop) (d:α) (l:List α) (a i j:Nat):Prop:=∀s t,a<=s->s<t->t<=i->t≠j->q (l.getD s d) (l.getD t d)
def LF (d:α) (l:List α) (j:Nat):List α:=(l.set j (l.getD (j-1) d)).set (j-1) (l.getD j d)
def YR {d:α} {l:List α} {j:Nat} (h0:0<j) (h1:j<l.length) (k:Nat):(LF d l j).getD k d=if k=j then l.getD (j-1) d else if k=j-1 then l.getD j d else l.getD k d:=by
 unfold LF;simp only[qF,wB,qJ];by_cases h:k=j
 . subst h;rw[qO (by omega),qY rfl,qY rfl,qY h1];rfl
 . rw[qO h];by_cases u:k=j-1
   . subst u;rw[qY rfl,qY (by omega),qY rfl];rfl
   . rw[qO (by omega),qO (by omega),qO u]
def A3g {d:α} {l:List α} {j:Nat} (h1:j<l.length):(LF d l j).Perm l:=by
 have u:j-1<l.length:=by omega
 have:=List.set_set_perm (as:=l) h1 u;unfold LF;simp only[qF,qM h1,qM u];exact this
def A3h {d:α} {l:List α} {j a:Nat} (h:a<=j-1):(LF d l j).take a=l.take a:=by
 unfold LF;rw[zC h,zC (by omega)]
def A3f {d:α} {l:List α} {j b:Nat} (h:j<b):(LF d l j).drop b=l.drop b:=by
 unfold LF;rw[yZ (by omega),yZ (by omega)]
def A1r {q:α->α->Prop} {d:α} {l:List α} {a i:Nat} (h:∀s t,a<=s->s<t->t<i->q (l.getD s d) (l.getD t d)):B2c q d l a i i:=fun s t h1 u h3 h4=>h s t h1 u (by omega)
def A7g {q:α->α->Prop} {d:α} {l:List α} {a i j:Nat} (h:B2c q d l a i j) (ha:a<j) (hj:j<l.length) (hi:j<=i) (hq:q (l.getD j d) (l.getD (j-1) d)):B2c q d (LF d l j) a i (j-1):=by
 intro s t h1 h2 h3 h4;rw[YR (by omega) hj,YR (by omega) hj,qO h4];by_cases ht:t=j
 . rw[qY ht,qO (by omega)];by_cases u:s=j-1
   . rw[qY u];exact hq
   . rw[qO u];exact h s (j-1) h1 (by omega) (by omega) (by omega)
 . rw[qO ht];by_cases u:s=j
   . rw[qY u];exact h (j-1) t (by omega) (by omega) h3 ht
   . rw[qO u];by_cases a0:s=j-1
     . rw[qY a0];exact h j t (by omega) (by omega) h3 ht
     . rw[qO a0];exact h s t h1 h2 h3 ht
def B2d {q:α->α->Prop} {d:α} {l:List α} {a i j:Nat} (h:B2c q d l a i j) (u:∀x y z,q x y->q y z->q x z) (hi:j<=i) (hq:a<j->q (l.getD (j-1) d) (l.getD j d)):∀s t,a<=s->s<t->t<i+1->q (l.getD s d) (l.getD t d):=by
 intro s t h1 h2 h3;by_cases ht:t=j
 . subst ht;by_cases hs:s=t-1
   . rw[hs];exact hq (by omega)
   . exact u _ _ _ (h s (t-1) h1 (by omega) (by omega) (by omega)) (hq (by omega))
 . exact h s t h1 h2 (by omega) ht
def XW {q:α->α->Prop} {d:α} {l:List α} {a b:Nat} (hb:b<=l.length) (h:∀s t,a<=s->s<t->t<b->q (l.getD s d) (l.getD t d)):((l.drop a).take (b-a)).Pairwise q:=by
 rw[uN];intro i j hi hj u;rw[qW,sR]at hi hj;have e:∀k (hk:k<((l.drop a).take (b-a)).length),((l.drop a).take (b-a))[k]=l.getD (a+k) d:=fun k hk=>by
  rw[qW,sR]at hk;rw[g1o,List.getElem_drop,qF,qM (by omega)];rfl
 rw[e i (by rw[qW,sR];omega),e j (by rw[qW,sR];omega)];exact h _ _ (by omega) (by omega) (by omega)
def XY:∀(n:Nat) (f:Nat->Nat),(∀a,a<n+1->f a<n)->∃a b,a<b/\b<n+1/\f a=f b
 |0,f,h=>absurd (h 0 (by omega)) (by omega)
 |n+1,f,h=>by
  by_cases hv:∃a,a<n+1/\f a=f (n+1)
  . obtain⟨a,h1,h2⟩:=hv;exact⟨a,n+1,h1,by omega,h2⟩
  . have u:∀a,a<n+1->f a≠f (n+1):=fun a ha e=>hv ⟨a,ha,e⟩
    obtain⟨a,b,h1,h2,h3⟩:=XY n (fun a=>if f a<f (n+1)then f a else f a-1) fun a ha=>by
     have:=h a (by omega);have:=h (n+1) (by omega);have:=u a ha;split<;>omega
    refine⟨a,b,h1,by omega, ?_⟩;have e1:=u a (by omega);have e2:=u b (by omega);split at h3<;>split at h3<;>omega
def Hb {n:Nat} {q:Nat->Nat} (hl:∀a,a<n->q a<n) (hi:∀a b,a<n->b<n->q a=q b->a=b) {j:Nat} (hj:j<n):∃a,a<n/\q a=j:=
 rB fun hn=>by
  have a0:∀a,a<n->q a≠j:=fun a ha e=>hn ⟨a,ha,e⟩
  obtain⟨a,b,h1,h2,u⟩:=XY n (fun a=>if a<n then q a else j) fun a ha=>by
   split
   . rename_i h;exact hl a h
   . exact hj
  by_cases hb:b<n
  . rw[qY hb,qY (by omega)]at u;have:=hi a b (by omega) hb u;omega
  . rw[qO hb,qY (by omega)]at u;exact a0 a (by omega) u
def dot (n:Nat) (u x:Nat->Rat):Rat:=C4 n fun j=>u j*x j
def B6e (n k:Nat) (l:Nat->Rat) (R:Nat->Nat->Rat) (u x:Nat->Rat):C4 n (fun j=>(C4 k (fun m=>l m*R m j)+u j)*x j)=C4 k (fun m=>l m*dot n (R m) x)+dot n u x:=by
 have:(fun j=>(C4 k (fun m=>l m*R m j)+u j)*x j)=fun j=>C4 k (fun m=>l m*(R m j*x j))+u j*x j:=by
  funext j;rw[g3k, <-OU];congr 1;exact B8 fun m _=>vP _ _ _
 rw[this,Ez,Ly];congr 1;exact B8 fun m _=>Mu n (l m) _
def B8e (a b c:Rat):a+b=a+c+(b-c):=by grind
structure JC (n k:Nat) (A:Nat->Nat->Rat) (p q:Nat->Nat) (R Lo:Nat->Nat->Rat):Prop where
 kn:k<=n
 plt:∀m,m<k->p m<n
 qlt:∀m,m<k->q m<n
 pinj:∀a b,a<k->b<k->p a=p b->a=b
 qinj:∀a b,a<k->b<k->q a=q b->a=b
 dec:∀i j,i<n->j<n->A i j=C4 k (fun m=>Lo i m*R (p m) j)+R i j
 zero:∀m i,m<k->i<n->(∀a,a<=m->i≠p a)->R i (q m)=0
 piv:∀m,m<k->R (p m) (q m)≠0
 low:∀a m,a<k->m<k->a<=m->Lo (p a) m=0
def JC.init (n:Nat) (A:Nat->Nat->Rat) (p q:Nat->Nat) (Lo:Nat->Nat->Rat):JC n 0 A p q A Lo:=
 ⟨rP _,fun _ h=>absurd h (wH _),fun _ h=>absurd h (wH _),fun _ _ h=>absurd h (wH _),fun _ _ h=>absurd h (wH _),fun i j _ _=>by rw[C4,tL],fun _ _ h=>absurd h (wH _),fun _ h=>absurd h (wH _),fun _ _ h=>absurd h (wH _)⟩
section
variable {n k:Nat} {A R Lo R' Lo':Nat->Nat->Rat} {p q p' q':Nat->Nat}
def JC.step (h:JC n k A p q R Lo) {r c:Nat} {fac:Nat->Rat} (hk:k<n) (hr:r<n) (hc:c<n) (a3:∀a,a<k->r≠p a) (a4:∀a,a<k->c≠q a) (hp:R r c≠0)
 (p1:∀m,m<k->p' m=p m) (p2:p' k=r) (q1:∀m,m<k->q' m=q m) (q2:q' k=c)
 (f1:∀i,i<n->i≠r->(∀a,a<k->i≠p a)->fac i=R i c/R r c) (f2:fac r=0) (f3:∀a,a<k->fac (p a)=0)
 (hR:∀i j,i<n->j<n->R' i j=R i j-fac i*R r j) (l1:∀i m,i<n->m<k->Lo' i m=Lo i m) (l2:∀i,i<n->Lo' i k=fac i):JC n (k+1) A p' q' R' Lo':=by
 have rr:∀j,j<n->R' r j=R r j:=fun j hj=>by rw[hR r j hr hj,f2,sZ,tF,wR,rO]
 have rp:∀a j,a<k->j<n->R' (p a) j=R (p a) j:=fun a j ha hj=>by rw[hR _ j (h.plt a ha) hj,f3 a ha,sZ,tF,wR,rO]
 have a1:∀m,m<k+1->m<k\/m=k:=fun m u=>by omega
 refine⟨hk,fun m u=> ?_,fun m u=> ?_,fun a b ha hb a0=> ?_,fun a b ha hb a0=> ?_,fun i j hi hj=> ?_,fun m i u hi a2=> ?_,fun m u=> ?_,fun a m ha u a5=> ?_⟩
 . rcases a1 m u with u|rfl
   . rw[p1 m u];exact h.plt m u
   . rw[p2];exact hr
 . rcases a1 m u with u|rfl
   . rw[q1 m u];exact h.qlt m u
   . rw[q2];exact hc
 . rcases a1 a ha with ha|rfl<;>rcases a1 b hb with hb|rfl
   . rw[p1 a ha,p1 b hb]at a0;exact h.pinj a b ha hb a0
   . rw[p1 a ha,p2]at a0;exact absurd a0.symm (a3 a ha)
   . rw[p2,p1 b hb]at a0;exact absurd a0 (a3 b hb)
   . rfl
 . rcases a1 a ha with ha|rfl<;>rcases a1 b hb with hb|rfl
   . rw[q1 a ha,q1 b hb]at a0;exact h.qinj a b ha hb a0
   . rw[q1 a ha,q2]at a0;exact absurd a0.symm (a4 a ha)
   . rw[q2,q1 b hb]at a0;exact absurd a0 (a4 b hb)
   . rfl
 . have e1:C4 k (fun m=>Lo' i m*R' (p' m) j)=C4 k (fun m=>Lo i m*R (p m) j):=B8 fun m u=>by rw[l1 i m hi u,p1 m u,rp m j u hj]
   rw[C4,p2,rr j hj,l2 i hi,hR i j hi hj,h.dec i j hi hj,e1];exact B8e _ _ _
 . rcases a1 m u with u|rfl
   . have h1:=h.zero m i u hi fun a ha=>by have:=a2 a ha;rwa[p1 a (by omega)]at this
     have h2:=h.zero m r u hr fun a ha=>a3 a (by omega)
     rw[q1 m u,hR i _ hi (h.qlt m u),h1,h2,tZ,tF,wR,rO]
   . have a7:i≠r:=by have:=a2 m (rC _);rwa[p2]at this
     have a6:∀a,a<m->i≠p a:=fun a ha=>by have:=a2 a (by omega);rwa[p1 a ha]at this
     rw[q2,hR i c hi hc,f1 i hi a7 a6,tY,vP,zV _ hp,g3n,tF,g4g]
 . rcases a1 m u with u|rfl
   . rw[p1 m u,q1 m u,rp m _ u (h.qlt m u)];exact h.piv m u
   . rw[p2,q2,rr c hc];exact hp
 . rcases a1 m u with u|rfl
   . rw[p1 a (by omega),l1 _ m (h.plt a (by omega)) u];exact h.low a m (by omega) u a5
   . rcases a1 a ha with ha|rfl
     . rw[p1 a ha,l2 _ (h.plt a ha)];exact f3 a ha
     . rw[p2,l2 r hr];exact f2
def JC.dot (h:JC n k A p q R Lo) (x:Nat->Rat) {i:Nat} (hi:i<n):C4 n (fun j=>A i j*x j)=C4 k (fun m=>Lo i m*dot n (R (p m)) x)+Go.Proofs.YthclcjfodjhmlaaGreat.dot n (R i) x:=by
 rw[<-B6e n k (Lo i) (fun m=>R (p m)) (R i) x];exact B8 fun j u=>by rw[h.dec i j hi u]
def JC.stuck (h:JC n k A p q R Lo) {c:Nat} (hc:c<n) (a5:∀a,a<k->c≠q a) (hz:∀i,i<n->(∀a,a<k->i≠p a)->R i c=0):¬nonsing n A:=by
 have key:∀t,t<=k->∃x:Nat->Rat,x c=1/\(∀j,j≠c->(∀m,m<k->j≠q m)->x j=0)/\∀m,k-t<=m->m<k->Go.Proofs.YthclcjfodjhmlaaGreat.dot n (R (p m)) x=0:=by
  intro t
  induction t with
  |zero=>exact fun _=>⟨fun j=>if j=c then 1 else 0,qY rfl,fun j hj _=>qO hj,fun m hm hmk=>by omega⟩
  |succ t ih=>
   intro ht;obtain⟨x,x1,x2,x3⟩:=ih (by omega);have a0:k-(t+1)<k:=by omega
   generalize hm:k-(t+1)=m0 at a0;have hd:∀(u:Nat->Rat) (d:Rat),Go.Proofs.YthclcjfodjhmlaaGreat.dot n u (fun j=>x j+if j=q m0 then d else 0)=Go.Proofs.YthclcjfodjhmlaaGreat.dot n u x+u (q m0)*d:=fun u d=>by
    unfold Go.Proofs.YthclcjfodjhmlaaGreat.dot;rw[B8 (g:=fun j=>u j*x j+u j*if j=q m0 then d else 0) fun j _=>Rat.mul_add _ _ _,Ez];congr 1;rw[N7 (h.qlt m0 a0) fun j _ hj=>by rw[qO hj,tZ],qY rfl]
   refine⟨fun j=>x j+if j=q m0 then-(Go.Proofs.YthclcjfodjhmlaaGreat.dot n (R (p m0)) x)/R (p m0) (q m0)else 0, ?_,fun j hj hq=> ?_,fun m h1 h2=> ?_⟩
   . show x c+(if c=q m0 then _ else 0)=1;rw[qO (a5 m0 a0),x1,rO]
   . show x j+(if j=q m0 then _ else 0)=0;rw[qO (hq m0 a0),x2 j hj hq,rO]
   . rw[hd];by_cases a6:m=m0
     . subst a6;have:=h.piv m h2;rw[tY,g0z,vP,zV _ this,g3n,g4g]
     . rw[x3 m (by omega) h2,h.zero m0 (p m) a0 (h.plt m h2) fun a ha e=>by have:=h.pinj m a h2 (by omega) e;omega,sZ,rO]
 obtain⟨x,x1,x2,x3⟩:=key k (rC _);intro a7;have a2:∀i,i<n->C4 n (fun j=>A i j*x j)=0:=fun i hi=>by
  rw[h.dot x hi,T4 fun m hm=>by rw[x3 m (by omega) hm,tZ],tL];by_cases a1:∃a,a<k/\i=p a
  . obtain⟨a,ha,rfl⟩:=a1;exact x3 a (by omega) ha
  . refine T4 fun j hj=> ?_
    by_cases a3:j=c
    . rw[a3,hz i hi fun a ha e=>a1 ⟨a,ha,e⟩,sZ]
    . by_cases a4:∃m,m<k/\j=q m
      . obtain⟨m,hm,rfl⟩:=a4;rw[h.zero m i hm hi fun a ha e=>a1 ⟨a,by omega,e⟩,sZ]
      . rw[x2 j a3 fun m hm e=>a4 ⟨m,hm,e⟩,tZ]
 have:=a7 x a2 c hc;rw[x1]at this;exact absurd this (by decide)
def JC.nonsing (h:JC n n A p q R Lo):nonsing n A:=by
 intro x hx;have hy:∀a,a<n->Go.Proofs.YthclcjfodjhmlaaGreat.dot n (R (p a)) x=0:=by
  intro a
  induction a using Nat.strongRecOn with
  |ind a ih=>
   intro ha;have h1:=hx (p a) (h.plt a ha);rw[h.dot x (h.plt a ha),T4 fun m hm=> ?_,tL]at h1
   . exact h1
   . by_cases a1:m<a
     . rw[ih m a1 hm,tZ]
     . rw[h.low a m ha hm (by omega),sZ]
 have hz:∀t b,t<n->b=n-1-t->x (q b)=0:=by
  intro t
  induction t using Nat.strongRecOn with
  |ind t ih=>
   intro b ht hb;have u:b<n:=by omega
   have h1:=hy b u;unfold Go.Proofs.YthclcjfodjhmlaaGreat.dot at h1;rw[N7 (h.qlt b u) fun j hj a0=> ?_]at h1
   . exact(zN.1 h1).resolve_left (h.piv b u)
   . obtain⟨m,hm,rfl⟩:=Hb h.qlt h.qinj hj;by_cases a2:m<b
     . rw[h.zero m (p b) hm (h.plt b u) fun a ha e=>by have:=h.pinj b a u (by omega) e;omega,sZ]
     . have a3:m≠b:=fun e=>a0 (by rw[e])
       rw[ih (n-1-m) (by omega) m (by omega) (by omega),tZ]
 intro j hj;obtain⟨b,hb,rfl⟩:=Hb h.qlt h.qinj hj;exact hz (n-1-b) b (by omega) (by omega)
def JC.prod (h:JC n n A p q R Lo) {a b:Nat} (u:a<n) (hb:b<n):A (p a) (q b)=C4 n fun m=>(Lo (p a) m+if m=a then 1 else 0)*R (p m) (q b):=by
 rw[h.dec _ _ (h.plt a u) (h.qlt b hb),B8 (f:=fun m=>(Lo (p a) m+if m=a then 1 else 0)*R (p m) (q b)) (g:=fun m=>Lo (p a) m*R (p m) (q b)+(if m=a then 1 else 0)*R (p m) (q b)) fun m _=>g3k _ _ _,Ez];congr 1;rw[N7 u fun m _ hm=>by rw[qO hm,sZ],qY rfl,xN]
end
end Go.Proofs.YthclcjfodjhmlaaGreat
namespace Go.Proofs.YthclcjfodjhmlaaGreat
def LG {ls:List Ln} :∀ {p q:List (Int×Int)} {u w v:Int},AQ ls u w p->AQ ls w v q->AQ ls u v (p++q)
 | [],_,_,_,_,h1,h2=>by cases h1;exact h2
 |e::p,q,u,w,v,⟨x,hx,h1⟩,h2=>⟨x,hx,LG h1 h2⟩
def QT {ls:List Ln} :∀ {p q:List (Int×Int)} {u v:Int},AQ ls u v (p++q)->∃w,AQ ls u w p/\AQ ls w v q
 | [],_,u,_,h=>⟨u,rfl,h⟩
 |e::p,q,u,v,⟨x,hx,h⟩=>by
  obtain⟨w,h1,h2⟩:=QT h;exact⟨w,⟨x,hx,h1⟩,h2⟩
def fI {α:Type} {l:Ln} {s u w:Int} (h:(s=1/\l=(u,w))\/(s= -1/\l=(w,u))) {f:Int->α} (hf:f l.1=f l.2):f u=f w:=by
 rcases h with⟨_,h⟩ | ⟨_,h⟩<;>rw[h]at hf
 . exact hf
 . exact hf.symm
def Vs {α:Type} {ls:List Ln} {f:Int->α} :∀ {p:List (Int×Int)} {u v:Int},AQ ls u v p->(∀e∈p,f (Oq ls e.1).1=f (Oq ls e.1).2)->f u=f v
 | [],_,_,h,_=>by cases h;rfl
 |e::p,u,v,⟨x,hx,h⟩,hf=>(fI hx (hf e (by simp))).trans (Vs h fun y hy=>hf y (qL _ hy))
def YV {α:Type} {ls:List Ln} {f:Int->α} :∀ {p:List (Int×Int)} {u v:Int},AQ ls u v p->(∀e∈p,f (Oq ls e.1).1=f (Oq ls e.1).2)->∀e∈p,f (Oq ls e.1).1=f u
 | [],_,_,_,_,e,he=>by cases he
 |d::p,u,v,⟨x,hx,h⟩,hf,e,he=>by
  have h1:=hf d (by simp);have h2:=fI hx h1;rcases qR.1 he with rfl|he
  . rcases hx with⟨_,hx⟩ | ⟨_,hx⟩<;>rw[hx]at h1⊢
    exact h1
  . rw[YV h (fun y hy=>hf y (qL _ hy)) e he,h2]
def A7b {n:Int} {ls:List Ln} (u:V7 n ls) {e:Int} (he:e∈D5 n ls):C1 (G1 n (gY n ls e)) (Oq ls e).1≠C1 (G1 n (gY n ls e)) (Oq ls e).2:=by
 intro h;have a1:=A1l u e;have a2:∀l∈pick ls (D5 n ls),EH n l:=fun l hl=>u.2.2 l (B4c l hl)
 have hc:A0a (G1 n (pick ls (D5 n ls))) (G1 n (gY n ls e)):=by
  refine⟨by rw[W4,W4],fun i i0 i1=> ?_⟩;rw[W4]at i1;refine NW u.1 a2 (f:=fun i=>C1 (G1 n (gY n ls e)) i) (fun l hl=> ?_) i i0 (by have:=u.1;omega);obtain⟨d,hd,rfl⟩:=rZ.1 hl;by_cases a0:d=e
  . subst a0;exact h
  . exact Gh u.1 a1 (gZ.2 ⟨d,hd,a0,rfl⟩)
 have:=A1d (Rm u.1 a2) (Rm u.1 a1) hc;rw[mS u]at this;have:=B6l u he;omega
def gT {n:Int} {ls:List Ln} (a2:V7 n ls) {u v:Int} {p:List (Int×Int)} (h:free ls (D5 n ls) [] u v p):
 (∀e∈p,B0x n ls u v e.1=e.2/\(e.2=1\/e.2= -1))/\∀i∈D5 n ls,(∀e∈p,e.1≠i)->B0x n ls u v i=0:=by
 obtain⟨ht,hf,hn⟩:=h;have a1:∀(i:Int) (q:List (Int×Int)),(∀e∈q,e.1∈D5 n ls/\e.1≠i)->∀e∈q,C1 (G1 n (gY n ls i)) (Oq ls e.1).1=C1 (G1 n (gY n ls i)) (Oq ls e.1).2:=fun i q hq e he=>Gh a2.1 (A1l a2 i) (gZ.2 ⟨e.1,(hq e he).1,(hq e he).2,rfl⟩)
 refine⟨fun e he=> ?_,fun i _ hi=> ?_⟩
 . obtain⟨p1,p2,rfl⟩:=g3z he;obtain⟨x,h1,y,hx,h2⟩:=QT ht;rw[uE,rU,sQ,sC]at hn;have n1:∀d∈p1,d.1≠e.1:=fun d hd=>hn.2.2 d.1 (uK hd) e.1 (by simp)
   have n2:∀d∈p2,d.1≠e.1:=fun d hd hde=>hn.2.1.1 (by rw[<-hde];exact uK (f:=fun x:Int×Int=>x.1) hd)
   have l1:=Vs (f:=fun i=>C1 (G1 n (gY n ls e.1)) i) h1 (a1 e.1 p1 fun d hd=>⟨(hf d (by simp[hd])).1,n1 d hd⟩);have l2:=Vs (f:=fun i=>C1 (G1 n (gY n ls e.1)) i) h2 (a1 e.1 p2 fun d hd=>⟨(hf d (by simp[hd])).1,n2 d hd⟩);have hs:=A7b a2 (hf e (by simp)).1;unfold B0x;rw[l1, <-l2];rcases hx with⟨a0,hx⟩ | ⟨a0,hx⟩<;>rw[hx]at hs⊢ <;>simp only at hs⊢
   . rw[qO hs,qY trivial];exact⟨a0.symm, .inl a0⟩
   . rw[qO (Ne.symm hs),qO (Ne.symm hs)];exact⟨a0.symm, .inr a0⟩
 . have:=Vs (f:=fun j=>C1 (G1 n (gY n ls i)) j) ht (a1 i p fun d hd=>⟨(hf d hd).1,hi d hd⟩);unfold B0x;rw[qY this]
def WP (n:Int) (ls:List Ln) (line:Int):C2o (Ot n ls line):=by
 unfold C2o Ot;rw[List.pairwise_filterMap];refine List.pairwise_lt_range.imp fun {i j} a0=> ?_
 intro b hb c u;split at hb<;>split at u<;>cases hb<;>cases u;simp only;omega
def A7r {n:Int} {ls:List Ln} {line:Int} {x:D3} :x∈Ot n ls line↔0<=x.1/\x.1<(ls.length:Int)/\Zg n ls line x.1≠0/\x.2=ri (Zg n ls line x.1):=by
 unfold Ot;rw[g4c];constructor
 . rintro⟨i,hi,hx⟩;rw[uV]at hi;split at hx
   . cases hx
   . rename_i hc;cases hx;exact⟨by simp only;omega,by simp only;omega,hc,rfl⟩
 . rintro⟨h0,h1,u,h3⟩;refine⟨x.1.toNat,uV.2 (by omega), ?_⟩;rw[show((x.1.toNat:Nat):Int)=x.1 from by omega,qO u, <-h3]
def C3o {k:Int} (h:k=1\/k= -1):ri k=ri 1\/ri k=ri (-1):=by
 rcases h with rfl|rfl
 . exact .inl rfl
 . exact .inr rfl
def Qi {n:Int} {ls:List Ln} (aa:V7 n ls) {line:Int} (h0:0<=line) (h1:line<(ls.length:Int)) (hl:line∉D5 n ls) {p:List (Int×Int)} (h:free ls (D5 n ls) [] (Oq ls line).2 (Oq ls line).1 p):((line,ri 1)::p.map JA).Perm (Ot n ls line)/\(((line,ri 1)::p.map JA).map (·.1)).Nodup/\∀e∈(line,ri 1)::p.map JA,e.2=ri 1\/e.2=ri (-1):=by
 obtain⟨a1,a9⟩:=gT aa h;obtain⟨ht,hf,hn⟩:=h;have a8:∀e∈p,e.1≠line:=fun e u a2=>hl (by rw[<-a2];exact(hf e u).1)
 have a4:(p.map JA).map (·.1)=p.map (·.1):=by rw[List.map_map];rfl
 have a5:(((line,ri 1)::p.map JA).map (·.1)).Nodup:=by
  rw[rU,sC,a4];refine⟨fun hm=> ?_,hn⟩;obtain⟨e,u,a2⟩:=rZ.1 hm;exact a8 e u a2
 have a6:((line,ri 1)::p.map JA).Nodup:=List.Pairwise.of_map (fun e:D3=>e.1) (fun a b hab e=>hab (by rw[e])) a5;have a7:(Ot n ls line).Nodup:=(WP n ls line).imp fun {a b} hab e=>by rw[e]at hab;omega
 refine⟨(List.perm_ext_iff_of_nodup a6 a7).2 fun x=> ?_,a5,fun e u=> ?_⟩
 . rw[A7r,qR,rZ];constructor
   . rintro(rfl| ⟨e,u,rfl⟩)
     . have:Zg n ls line line=1:=by unfold Zg;rw[qY rfl]
       refine⟨h0,h1, ?_, ?_⟩<;>simp only[this];decide
     . obtain⟨g1,g2⟩:=a1 e u;have hm:=Fy (hf e u).1;have:Zg n ls line e.1=e.2:=by
        unfold Zg;rw[qO (a8 e u),qY (hf e u).1,g1]
       refine⟨hm.1,hm.2, ?_, ?_⟩
       . show Zg n ls line e.1≠0;rw[this];omega
       . show ri e.2=ri (Zg n ls line e.1);rw[this]
   . rintro⟨k0,k1,k2,k3⟩;unfold Zg at k2 k3;by_cases hx:x.1=line
     . rw[qY hx]at k3;exact .inl (g4q hx k3)
     . rw[qO hx]at k2 k3;by_cases a3:x.1∈D5 n ls
       . rw[qY a3]at k2 k3;right;by_cases a0:∃e∈p,e.1=x.1
         . obtain⟨e,u,a0⟩:=a0;refine⟨e,u,g4q a0 ?_⟩;rw[k3, <-a0,(a1 e u).1];rfl
         . exact absurd (a9 x.1 a3 fun e u hh=>a0 ⟨e,u,hh⟩) k2
       . rw[qO a3]at k2;exact absurd rfl k2
 . rcases qR.1 u with rfl|u
   . exact .inl rfl
   . obtain⟨d,hd,rfl⟩:=rZ.1 u;exact C3o (a1 d hd).2
def A9c {n:Int} {ls:List Ln} :∀ {k:Nat} {e:Int},e∈(D2 n ls k).2.1->e∈(D2 n ls (k+1)).2.1:=fun {k e} h=>by
 simp only[D2];split
 . exact h
 . exact qU.2 (.inl h)
def B5i {n:Int} {ls:List Ln} (a2:V7 n ls):∀k:Nat,k<=ls.length->∀u v:Int,0<=u->u<n->0<=v->v<n->C1 (D2 n ls k).1 u=C1 (D2 n ls k).1 v->∃p,free ls (D2 n ls k).2.1 [] u v p
 |0,_,u,v,u0,u1,v0,v1,h=>by
  simp only[D2]at h;rw[Hd u0 u1,Hd v0 v1]at h;exact⟨[],h,by simp,by simp⟩
 |k+1,hk,u,v,u0,u1,v0,v1,h=>by
  have ih:=B5i a2 k (by omega);have aa:(D2 n ls k).1.length=n.toNat:=by rw[(Eb a2 k (by omega)).1,W4]
  have grow:∀ {a b p},free ls (D2 n ls k).2.1 [] a b p->free ls (D2 n ls (k+1)).2.1 [] a b p:=fun hf=>⟨hf.1,fun e he=>⟨A9c (hf.2.1 e he).1,by simp⟩,hf.2.2⟩
  by_cases hl:C1 (D2 n ls k).1 (ls.getD k (0,0)).1=C1 (D2 n ls k).1 (ls.getD k (0,0)).2
  . have e:(D2 n ls (k+1)).1=(D2 n ls k).1:=by simp only[D2];rw[qY hl]
    rw[e]at h;obtain⟨p,hp⟩:=ih u v u0 u1 v0 v1 h;exact⟨p,grow hp⟩
  . have e:(D2 n ls (k+1)).1=Bd (D2 n ls k).1 (ls.getD k (0,0)):=by simp only[D2];rw[qO hl]
    have e2:(D2 n ls (k+1)).2.1=(D2 n ls k).2.1++ [(k:Int)]:=by simp only[D2];rw[qO hl]
    have a7:=a2.2.2 _ (A1w (ls:=ls) (i:=k) (by omega));have a5:∀d∈(D2 n ls k).2.1,C1 (D2 n ls k).1 (Oq ls d).1=C1 (D2 n ls k).1 (Oq ls d).2:=fun d hd=>by
     have hm:=Jm hd;rw[(Eb a2 k (by omega)).1];refine Gh a2.1 (fun l hl=>a2.2.2 l (rV hl)) ?_;unfold Oq;rw[qF,qM (by omega)];rw[List.mem_take_iff_getElem];exact⟨d.toNat,by omega,rfl⟩
    have a9:=A4y ls k;rw[e,W1 u0 (by omega),W1 v0 (by omega)]at h;obtain⟨a0,a1,b0,b1⟩:=a7;generalize ls.getD k (0,0)=l at*;by_cases a3:C1 (D2 n ls k).1 u=C1 (D2 n ls k).1 v
    . obtain⟨p,hp⟩:=ih u v u0 u1 v0 v1 a3;exact⟨p,grow hp⟩
    . have mk:∀(a b s:Int),((s=1/\Oq ls (k:Int)=(a,b))\/(s= -1/\Oq ls (k:Int)=(b,a)))->0<=a->a<n->0<=b->b<n->C1 (D2 n ls k).1 u=C1 (D2 n ls k).1 a->C1 (D2 n ls k).1 v=C1 (D2 n ls k).1 b->∃p,free ls (D2 n ls (k+1)).2.1 [] u v p:=fun a b s hs a0 a1 b0 b1 hu hv=>by
       obtain⟨p,p1,p2,p3⟩:=ih u a u0 u1 a0 a1 hu;obtain⟨q,q1,q2,q3⟩:=ih b v b0 b1 v0 v1 hv.symm;refine⟨p++((k:Int),s)::q,LG p1 ⟨b,hs,q1⟩,fun d hd=>⟨?_,by simp⟩, ?_⟩
       . rw[e2];rcases qU.1 hd with hd|hd
         . exact qU.2 (.inl (p2 d hd).1)
         . rcases qR.1 hd with rfl|hd
           . simp
           . exact qU.2 (.inl (q2 d hd).1)
       . rw[uE,rU,sQ,sC];refine⟨p3,⟨fun hm=> ?_,q3⟩,fun x hx y hy=> ?_⟩
         . obtain⟨d,hd,ab⟩:=rZ.1 hm;have:=Jm (q2 d hd).1;omega
         . obtain⟨d,hd,rfl⟩:=rZ.1 hx;have ac:=Jm (p2 d hd).1;rcases qR.1 hy with rfl|hy
           . omega
           . obtain⟨c,hc,rfl⟩:=rZ.1 hy;intro a6;have t1:=YV (f:=fun i=>C1 (D2 n ls k).1 i) p1 (fun x hx=>a5 x.1 (p2 x hx).1) d hd;have t2:=YV (f:=fun i=>C1 (D2 n ls k).1 i) q1 (fun x hx=>a5 x.1 (q2 x hx).1) c hc;rw[a6,t2]at t1;rw[<-hv]at t1;exact a3 t1.symm
      have a4:Oq ls (k:Int)=(l.1,l.2):=a9;rcases g2h (C1 (D2 n ls k).1 l.1) (C1 (D2 n ls k).1 l.2)with a8|a8
      . have hM:max (C1 (D2 n ls k).1 l.1) (C1 (D2 n ls k).1 l.2)=C1 (D2 n ls k).1 l.2:=by omega
        have hm:min (C1 (D2 n ls k).1 l.1) (C1 (D2 n ls k).1 l.2)=C1 (D2 n ls k).1 l.1:=by omega
        rw[hM,hm]at h;by_cases hu:C1 (D2 n ls k).1 u=C1 (D2 n ls k).1 l.2
        . rw[qY hu,qO (fun hv=>a3 (hu.trans hv.symm))]at h;exact mk l.2 l.1 (-1) (.inr ⟨rfl,a4⟩) b0 b1 a0 a1 hu h.symm
        . rw[qO hu]at h;by_cases hv:C1 (D2 n ls k).1 v=C1 (D2 n ls k).1 l.2
          . rw[qY hv]at h;exact mk l.1 l.2 1 (.inl ⟨rfl,a4⟩) a0 a1 b0 b1 h hv
          . rw[qO hv]at h;exact absurd h a3
      . have hM:max (C1 (D2 n ls k).1 l.1) (C1 (D2 n ls k).1 l.2)=C1 (D2 n ls k).1 l.1:=by omega
        have hm:min (C1 (D2 n ls k).1 l.1) (C1 (D2 n ls k).1 l.2)=C1 (D2 n ls k).1 l.2:=by omega
        rw[hM,hm]at h;by_cases hu:C1 (D2 n ls k).1 u=C1 (D2 n ls k).1 l.1
        . rw[qY hu,qO (fun hv=>a3 (hu.trans hv.symm))]at h;exact mk l.1 l.2 1 (.inl ⟨rfl,a4⟩) a0 a1 b0 b1 hu h.symm
        . rw[qO hu]at h;by_cases hv:C1 (D2 n ls k).1 v=C1 (D2 n ls k).1 l.1
          . rw[qY hv]at h;exact mk l.2 l.1 (-1) (.inr ⟨rfl,a4⟩) b0 b1 a0 a1 h hv
          . rw[qO hv]at h;exact absurd h a3
def way {n:Int} {ls:List Ln} (a0:V7 n ls) {u v:Int} (u0:0<=u) (u1:u<n) (v0:0<=v) (v1:v<n) (h:C1 (G1 n ls) u=C1 (G1 n ls) v):∃p,free ls (D5 n ls) [] u v p:=by
 refine B5i a0 ls.length (rC _) u v u0 u1 v0 v1 ?_;rw[(Eb a0 ls.length (rC _)).1,tT];exact h
end Go.Proofs.YthclcjfodjhmlaaGreat
