/- Part. -/
import Derived.Shelf.SlSortCmp.NoneTotal
import Derived.Lib.QuietBelow
import Derived.Shelf.SlGeneric
import Derived.Shelf.SlicesG.Cmp
import Derived.Ground.SlsfProg
import Derived.Ground.SlgcProg
import Derived.Test.YtljgpjhcieidbaaGreatProg
import Derived.Test.YtljgpjhcieidbaaGreatKDH
set_option linter.all false
namespace Go.Proofs.YtljgpjhcieidbaaGreat
open Go.Proofs.Tryz
open Go.Vc Go.Gw
open Go.IntKind (i64 u32)
def NY:An:= {loop:= [(12,⟨[1,2,7,8,9,30,31,55,56],[0],[(57,false,vI)],[],[(1, .row tQ 31)]⟩),(7,⟨[1,2,7,8,30],[0],[(31,false,vI)],[],[(1, .row tQ 31)]⟩),(24,⟨[2,7,8,13,15,16,80,81,95,96],[0,2],[(97,false,vI)],[],[(1, .row tQ 31)]⟩),(19,⟨[2,7,8,13,80],[0],[(81,false,vI)],[],[(1, .row tQ 31),(2, .row tQ 31)]⟩)],plan:= [(14,[5,7,10,12],[15],true,(pZ9 0 5 (.q 5 (.p 6 (.q 7 (.p 8 (.p 9 (.q 10 (.p 11 (.q 12 (.e 13 (.p 14 (.e 15 .done))))))))))))),(26,[5,7,10,12],[15],true,(pZ9 0 5 (.q 5 (.p 6 (.q 7 (.p 8 (.p 9 (.q 10 (.p 11 (.q 12 (.e 13 (.p 14 (.e 15 .done))))))))))))),(28,[5,9],[15],true,(pZ9 0 5 (.q 5 (pZ9 6 3 (.q 9 (.e 10 (pZ9 11 4 (.e 15 .done)))))))),(29,[2,5,9],[11],true,(.p 0 (.p 1 (.q 2 (.p 3 (.p 4 (.q 5 (pZ9 6 3 (.q 9 (.p 10 (.e 11 .done)))))))))))]}
abbrev C1b:=Int×List QQ×List QQ×Unit
def Uf:A4 Bz.args->Prop:=fun(x:C0m)=>let M:=(1:Nat);let A:=(↑x.1.1.length:Int);let q:=(1:Int);let g:=(0:Int);let d:=(x.1.1.length:Int);let v:Prop:=(g<=d/\d<=d/\(↑(56:Nat):Int)*d<=(281474976710656:Int)/\d<=(9223372036854775807:Int));(List.length x.1.1<=16384/\O5 K1 x.1.2.2.1/\O5 K1 x.1.2.2.2)/\Ef fun r=>(¬Y8 x.1 d->r.1=q)/\(Y8 x.1 d->(List.length x.2.1≠List.length x.1.1->r.1=4)/\(List.length x.2.1=List.length x.1.1->r.1=g))->(iB (decide (r.1≠g)) ((¬Y8 x.1 A->Nv QQ= []/\r.1=q)/\(Y8 x.1 A->(x.2.1.length≠x.1.1.length->Nv QQ= []/\r.1=4)/\(x.2.1.length=x.1.1.length->r.1=g/\0=x.1.1.length/\(∀(e:QQ),e∈ []->e=rc (rv e))/\(∀(s T:Nat),M<=s->M<=T->O5 s x.1.2.2.1->O5 s x.1.2.2.2->II T x.2.1->II (hK s (gK s T x.1.1.length) x.1.1.length+s) [])/\∀(i:Nat),i<x.1.1.length->(C2 x.1.1.length fun(j:Nat)=>oV x.1 x.1.1.length i j*rv ([].getD (ix x.1.2.1 j) zr))=rv (x.2.1.getD (ix x.1.1 i) zr)))) (v/\∃(I:mI->Prop),∃(b: _->Nat),I (g,List.replicate d.toNat dQ,())/\∀(p:mI),let E:=p.1.toNat;let m:=(gx [] x.1.2.2.1.2.2 p.1);let B:=(↑m.length:Int);let L:=(i64.wrap (B-q));let a:=(↑(List.drop g.toNat (List.take L.toNat m)).length:Int);(Ty.int i64).wf p.1/\WfL p.2.1/\True->I p->(iB (decide (p.1<d)) ((g<=p.1/\p.1<d)/\(g<=gx g x.1.1 p.1/\gx g x.1.1 p.1<(x.2.1.length:Int))/\(g<=p.1/\p.1<(p.2.1.length:Int))/\(g<=p.1/\p.1<(x.1.2.2.1.2.2.length:Int))/\(g<=g/\g<=i64.wrap (B-q)/\i64.wrap (B-q)<=B)/\∃(I_1:mI->Prop),∃(h: _->Nat),I_1 (g,List.set p.2.1 E (gx dQ x.2.1 (gx g x.1.1 p.1)),())/\∀(N:mI),let K:=(List.getD N.2.1 E dQ);let F:=(i64.wrap (p.1+q),N.2.1,());let D:=(N.2.1.length:Int);let c:=(gx D6 (List.drop g.toNat (List.take L.toNat m)) N.1);let t:=(List.getD N.2.1 c.1.toNat dQ);(Ty.int i64).wf N.1/\WfL N.2.1/\True->I_1 N->(iB (decide (N.1<a)) ((g<=N.1/\N.1<a)/\(g<=p.1/\p.1<D)/\(g<=c.1/\c.1<D)/\(sz K1 K/\sz K1 c.2/\sz K1 t)/\H4 fun r=>let z:=(i64.wrap (N.1+q),List.set N.2.1 E r.1,());(rv t=(0:Rat)->r.1=List.getD N.2.1 E dQ)/\(rv t≠(0:Rat)->r.1=rc (rv K-rv c.2*rv t))->(g<=p.1/\p.1<D)/\I_1 z/\h z<h N) (I F/\b F<b p))) (v/\∃(I:C1b->Prop),∃(b: _->Nat),I (g,p.2.1,List.replicate d.toNat dQ,())/\∀(p:C1b),let a:=(i64.wrap (d-q)-p.1);let k:=(i64.wrap a);let c:=(gx [] x.1.2.2.2.2.2 k);let J:=(gx D6 c g);let y:=(↑c.length:Int);let o:=(↑(List.drop q.toNat (List.take y.toNat c)).length:Int);(Ty.int i64).wf p.1/\WfL p.2.1/\WfL p.2.2.1/\True->I p->(iB (decide (p.1<d)) ((g<=i64.wrap a/\i64.wrap a<(x.1.2.2.2.2.2.length:Int))/\(g<=q/\q<=y/\y<=y)/\∃(I_1:mI->Prop),∃(h: _->Nat),I_1 (g,p.2.1,())/\∀(N:mI),let G:=(N.2.1.length:Int);let w:=(List.getD N.2.1 k.toNat dQ);let l:Prop:=(g<=i64.wrap a/\i64.wrap a<G);let f:=(gx D6 (List.drop q.toNat (List.take y.toNat c)) N.1);let u:=(List.getD N.2.1 f.1.toNat dQ);(Ty.int i64).wf N.1/\WfL N.2.1/\True->I_1 N->(iB (decide (N.1<o)) ((g<=N.1/\N.1<o)/\l/\(g<=f.1/\f.1<G)/\(sz K1 w/\sz K1 f.2/\sz K1 u)/\H4 fun r=>let C:=(i64.wrap (N.1+q),List.set N.2.1 k.toNat r.1,());(rv u=(0:Rat)->r.1=List.getD N.2.1 k.toNat dQ)/\(rv u≠(0:Rat)->r.1=rc (rv w-rv f.2*rv u))->l/\I_1 C/\h C<h N) (l/\(g<=g/\g<y)/\(D9 w/\D9 J.2)/\∀(r:mJ),let H:=(List.set N.2.1 k.toNat r.1);let n:=(i64.wrap (p.1+q),List.set N.2.1 k.toNat r.1,List.set p.2.2.1 (gx g x.1.2.1 k).toNat (H.getD k.toNat dQ),());Wb r.1/\True/\True->(rv J.2=(0:Rat)->r.2.1=false)/\(rv J.2≠(0:Rat)->r.1=rc (rv w/rv J.2)/\r.2.1=true)->l/\(g<=i64.wrap a/\i64.wrap a<(x.1.2.1.length:Int))/\(g<=i64.wrap a/\i64.wrap a<(↑H.length:Int))/\(g<=gx g x.1.2.1 k/\gx g x.1.2.1 k<(p.2.2.1.length:Int))/\I n/\b n<b p))) ((¬Y8 x.1 A->p.2.2.1= []/\g=q)/\(Y8 x.1 A->(x.2.1.length≠x.1.1.length->p.2.2.1= []/\g=(4:Int))/\(x.2.1.length=x.1.1.length->g=g/\List.length p.2.2.1=x.1.1.length/\(∀(e:QQ),e∈p.2.2.1->e=rc (rv e))/\(∀(s T:Nat),M<=s->M<=T->O5 s x.1.2.2.1->O5 s x.1.2.2.2->II T x.2.1->II (hK s (gK s T x.1.1.length) x.1.1.length+s) p.2.2.1)/\∀(i:Nat),i<x.1.1.length->(C2 x.1.1.length fun(j:Nat)=>oV x.1 x.1.1.length i j*rv (List.getD p.2.2.1 (ix x.1.2.1 j) zr))=rv (x.2.1.getD (ix x.1.1 i) zr)))))))))
def zok (k:Nat) (q:Rat) (x:C7):Prop:=sz k x/\Xa x/\rv x=q
def B1o {k:Nat} {q:Rat} (h:qs k q):zok k q (rc q):=⟨Xu h,A1z q,H8 q⟩
def mU {j k:Nat} {q:Rat} {x:C7} (h:zok j q x) (a:j<=k):zok k q x:=⟨G7 h.1 a,h.2⟩
def He {s T:Nat} :∀ {a b:Nat},a<=b->gK s T a<=gK s T b
 |a,0,h=>by have:a=0:=by omega
            subst this;exact qR _
 |a,b+1,h=>by
  by_cases c:a=b+1
  . subst c;exact qR _
  . have:=He (s:=s) (T:=T) (a:=a) (b:=b) (by omega);simp only[gK];omega
def Jd {s T:Nat} :∀ {a b:Nat},a<=b->hK s T a<=hK s T b
 |a,0,h=>by have:a=0:=by omega
            subst this;exact qR _
 |a,b+1,h=>by
  by_cases c:a=b+1
  . subst c;exact qR _
  . have:=Jd (s:=s) (T:=T) (a:=a) (b:=b) (by omega);simp only[hK];omega
def B2s {v:List D1} {i:Nat} (a:∀e∈v,0<=e.1/\e.1<(i:Int)) (h:Nat->Rat):Sf v (fun j=>h j.toNat)=C2 i fun j=>A5 v (j:Int)*h j:=by
 rw[A1p a];exact B7 fun j _=>by rw[qT]
def mS {s j k:Nat} {a f b r:C7} {x y:Rat} (d:zok j x a) (w:Xa f) (z:sz s f) (D:1<=s) (v:zok k y b) (A:1<=j) (B:1<=k) (t:rv b=0->r=a) (u:rv b≠0->r=rc (rv a-rv f*rv b)):zok (j+(s+k)+1) (x-rv f*y) r:=by
 obtain⟨g,h,i⟩:=id d;obtain⟨l,n,o⟩:=id v;subst i o;by_cases c:rv b=0
 . rw[t c,c,sU,tF,wO,rL];exact mU d (by omega)
 . rw[u c];exact B1o (B0m (Qa h g A) (Nz (Qa w z D) (Qa n l B)))
def FW (s T n i:Nat) (Lm:Nat->Nat->Rat) (b:Nat->Rat) (z:List C7):Prop:=z.length=n/\∀j,j<i->zok (gK s T j) (rv (z.getD j zr)) (z.getD j zr)/\rv (z.getD j zr)+C2 j (fun m=>Lm j m*rv (z.getD m zr))=b j
def FI (s T i:Nat) (c:Rat) (w:List D1) (b:List C7) (t:Nat) (z:List C7):Prop:=∃a,z=b.set i a/\Xa a/\rv a=c-Sf (w.take t) (fun j=>rv (b.getD j.toNat zr))/\∀m:Nat,(∀e∈w.take t,e.1<(m:Int))->sz (gK s T m) a
variable {s T n i:Nat} {c:Rat} {w:List D1} {z0 z:List C7} {Lm:Nat->Nat->Rat} {b:Nat->Rat}
def FI.init {x:C7} (a:zok T c x):FI s T i c w z0 0 (z0.set i x):=
 ⟨x,rfl,a.2.1,by rw[a.2.2];simp only[g0y,Sf];rw[tF,wO,rL],fun m _=>G7 a.1 (He (rK m))⟩
def FI.next (l:FW s T n i Lm b z0) (hT:1<=T) (hs:1<=s) (hi:i<n) (hasc:asc w) (hw:∀e∈w,0<=e.1/\e.1<(i:Int)/\sz s e.2/\Xa e.2) {t:Int} (t0:0<=t) (t1:t<(w.length:Int)) (h:FI s T i c w z0 t.toNat z):
 (z.length=n/\sz (gK s T i) (z.getD i zr)/\sz (gK s T i) (z.getD (gx D6 w t).1.toNat zr))/\∀r,(rv (z.getD (gx D6 w t).1.toNat zr)=0->r=z.getD i zr)->(rv (z.getD (gx D6 w t).1.toNat zr)≠0->r=rc (rv (z.getD i zr)-rv (gx D6 w t).2*rv (z.getD (gx D6 w t).1.toNat zr)))->FI s T i c w z0 (t+1).toNat (z.set i r):=by
 obtain⟨v,rfl,F,I,M⟩:=h;have E:=I5 (d:=D6) t0 t1;obtain⟨Q,R,A,B⟩:=hw _ E;have D:∀y∈w.take t.toNat,y.1<(gx D6 w t).1:=fun y hy=>by
  have f:(w.take (t+1).toNat).Pairwise (fun a b=>a.1<b.1):=zK hasc;rw[show(t+1).toNat=t.toNat+1 from by omega,rR,H3 (d:=D6) t0 t1,tA]at f;exact f.2.2 y hy (gx D6 w t) (by simp)
 have J:=ZL (d:=D6) t0 t1 (fun j=>rv (z0.getD j.toNat zr));have N:∀m:Nat,(∀e∈w.take (t+1).toNat,e.1<(m:Int))->(gx D6 w t).1<(m:Int):=fun m k=>k _ (by
  rw[show(t+1).toNat=t.toNat+1 from by omega,rR,H3 (d:=D6) t0 t1];simp)
 generalize gx D6 w t=e at*;have H:e.1.toNat≠i:=by omega
 have G:=l.1;rw[E9 H,C1 (by omega)];obtain⟨u,_⟩:=l.2 e.1.toNat (by omega);have f:=M e.1.toNat fun y hy=>by have:=D y hy;omega
 have o:∀m,1<=gK s T m:=fun m=>qX hT (He (rK m))
 refine⟨⟨by rw[qP];exact G,G7 f (He (by omega)),G7 u.1 (He (by omega))⟩,fun r O P=> ?_⟩;have g:=mS (x:=rv v) ⟨f,F,rfl⟩ B A hs u (o _) (o _) O P;refine⟨r,by rw[g4d],g.2.1, ?_,fun m k=> ?_⟩
 . rw[g.2.2,J,I];grind
 . refine G7 g.1 (qX ?_ (He (show e.1.toNat+1<=m by have:=N m k;omega)));simp only[gK];omega
def FI.done (k:FW s T n i Lm b z0) (G:i<n) (r:∀e∈w,0<=e.1/\e.1<(i:Int)) (x:∀j,j<i->A5 w (j:Int)=Lm i j) {t:Nat} (F:w.length<=t) (h:FI s T i (b i) w z0 t z):FW s T n (i+1) Lm b z:=by
 obtain⟨d,rfl,D,l,o⟩:=h;have E:=k.1;rw[qQ F]at l o;have c:∀j,j<i->(z0.set i d).getD j zr=z0.getD j zr:=fun j A=>E9 (by omega)
 refine⟨by rw[qP];exact E,fun j A=> ?_⟩;by_cases B:j=i
 . subst B;rw[C1 (by omega)];refine⟨⟨o j fun e y=>(r e y).2,D,rfl⟩, ?_⟩;rw[l,B2s r (fun m=>rv (z0.getD m zr)),B7 (f:=fun m=>Lm j m*rv ((z0.set j d).getD m zr)) (g:=fun m=>A5 w (m:Int)*rv (z0.getD m zr)) fun m a=>by rw[c m a,x m a]];grind
 . rw[c j (by omega)];obtain⟨u,v⟩:=k.2 j (by omega);refine⟨u, ?_⟩;rw[<-v];congr 1;exact B7 fun m a=>by rw[c m (by omega)]
def BW (s Y n i:Nat) (U:Nat->Nat->Rat) (y:Nat->Rat) (z:List C7):Prop:=z.length=n/\(∀j,j<i->zok Y (y j) (z.getD j zr))/\∀j,i<=j->j<n->(∃q,z.getD j zr=rc q/\qs (hK s Y (n-1-j)+s) q)/\C2 n (fun m=>U j m*rv (z.getD m zr))=y j
def BI (s Y n i:Nat) (c:Rat) (w:List D1) (z0:List C7) (t:Nat) (z:List C7):Prop:=∃a,z=z0.set i a/\Xa a/\rv a=c-Sf (w.take t) (fun j=>rv (z0.getD j.toNat zr))/\∀m:Nat,i+1<=m->m<=n->(∀e∈w.take t,e.1<(m:Int))->∃k,1<=k/\sz k a/\k+hK s Y (n-m)<=hK s Y (n-1-i)+Y
variable {s Y n i:Nat} {c:Rat} {w:List D1} {z0 z:List C7} {U:Nat->Nat->Rat} {y:Nat->Rat}
def BI.init (g:BW s Y n (i+1) U y z0) (h:1<=Y) (k:i<n):BI s Y n i (y i) w z0 0 z0:=by
 obtain⟨c,d,f⟩:=g.2.1 i (rN _);refine⟨z0.getD i zr, ?_,d, ?_,fun m o r _=>⟨Y,h,c, ?_⟩⟩
 . refine g4i (by rw[qP]) fun t j l=> ?_
   rw[g4j];split
   . rename_i e;subst e;rw[Q3 _ _ j]
   . rfl
 . rw[f];simp only[g0y,Sf];rw[tF,wO,rL]
 . have:=Jd (s:=s) (T:=Y) (a:=n-m) (b:=n-1-i) (by omega);omega
def BI.next (k:BW s Y n (i+1) U y z0) (hs:1<=s) (hY:1<=Y) (hi:i<n) (hasc:asc w) (hw:∀e∈w,(i:Int)<e.1/\e.1<(n:Int)/\sz s e.2/\Xa e.2) {t:Int} (t0:0<=t) (t1:t<(w.length:Int)) (h:BI s Y n i c w z0 t.toNat z):
 (z.length=n/\sz (hK s Y n) (z.getD i zr)/\sz (hK s Y n+s) (z.getD (gx D6 w t).1.toNat zr))/\∀r,(rv (z.getD (gx D6 w t).1.toNat zr)=0->r=z.getD i zr)->(rv (z.getD (gx D6 w t).1.toNat zr)≠0->r=rc (rv (z.getD i zr)-rv (gx D6 w t).2*rv (z.getD (gx D6 w t).1.toNat zr)))->BI s Y n i c w z0 (t+1).toNat (z.set i r):=by
 obtain⟨v,rfl,F,N,P⟩:=h;have E:=I5 (d:=D6) t0 t1;obtain⟨X,Z,A,B⟩:=hw _ E;have D:∀y∈w.take t.toNat,y.1<(gx D6 w t).1:=fun y hy=>by
  have f:(w.take (t+1).toNat).Pairwise (fun a b=>a.1<b.1):=zK hasc;rw[show(t+1).toNat=t.toNat+1 from by omega,rR,H3 (d:=D6) t0 t1,tA]at f;exact f.2.2 y hy (gx D6 w t) (by simp)
 have O:=ZL (d:=D6) t0 t1 (fun j=>rv (z0.getD j.toNat zr));have Q:∀m:Nat,(∀e∈w.take (t+1).toNat,e.1<(m:Int))->(gx D6 w t).1<(m:Int):=fun m l=>l _ (by
  rw[show(t+1).toNat=t.toNat+1 from by omega,rR,H3 (d:=D6) t0 t1];simp)
 generalize gx D6 w t=e at*;have I:e.1.toNat≠i:=by omega
 have G:=k.1;rw[E9 I,C1 (by omega)];obtain⟨⟨q,J,M⟩,_⟩:=k.2.2 e.1.toNat (by omega) (by omega);obtain⟨a3,R,u,a4⟩:=P e.1.toNat (by omega) (by omega) fun y hy=>by have:=D y hy;omega
 have o:zok (hK s Y (n-1-e.1.toNat)+s) (rv (z0.getD e.1.toNat zr)) (z0.getD e.1.toNat zr):=by
  rw[J,H8];exact B1o M
 have a6:=Jd (s:=s) (T:=Y) (a:=n-1-i) (b:=n) (by omega);have a7:=Jd (s:=s) (T:=Y) (a:=n-1-e.1.toNat) (b:=n) (by omega);have a8:=Jd (s:=s) (T:=Y) (a:=0) (b:=n-e.1.toNat) (by omega);have a5:hK s Y 0=Y:=rfl;refine⟨⟨by rw[qP];exact G,G7 u (by omega),G7 o.1 (by omega)⟩,fun r V W=> ?_⟩;have g:=mS (x:=rv v) ⟨u,F,rfl⟩ B A hs o R (by omega) V W;refine⟨r,by rw[g4d],g.2.1, ?_,fun m l a2 H=>⟨_,by omega,g.1, ?_⟩⟩
 . rw[g.2.2,O,N];grind
 . have f:=Q m H;have a0:=Jd (s:=s) (T:=Y) (a:=n-m) (b:=n-1-e.1.toNat) (by omega);have a1:hK s Y (n-e.1.toNat)=2*hK s Y (n-1-e.1.toNat)+2*s+1:=by
    rw[show n-e.1.toNat=(n-1-e.1.toNat)+1 from by omega];rfl
   omega
def BI.done (o:BW s Y n (i+1) U y z0) (a2:1<=s) (a0:1<=Y) (a1:i<n) (g:∀e∈w,(i:Int)<e.1/\e.1<(n:Int)) (M:∀j,i<j->A5 w (j:Int)=U i j) (u:∀k m,m<k->k<n->U k m=0) (R:U i i≠0) (V:qs s (U i i)) {t:Nat} (W:w.length<=t) (h:BI s Y n i (y i) w z0 t z):
 sz (hK s Y n) (z.getD i zr)/\qs (hK s Y (n-1-i)+s) (rv (z.getD i zr)/U i i)/\BW s Y n i U y (z.set i (rc (rv (z.getD i zr)/U i i))):=by
 obtain⟨f,rfl,P,A,D⟩:=h;have Q:=o.1;rw[qQ W]at A D;rw[C1 (by omega),g4d];obtain⟨k,X,E,Z⟩:=D n (by omega) (qR _) fun e c=>(g e c).2
 rw[xK]at Z;have a3:hK s Y 0=Y:=rfl;have a4:=Jd (s:=s) (T:=Y) (a:=n-1-i) (b:=n) (by omega);have x:qs (hK s Y (n-1-i)+s) (rv f/U i i):=F8 (Xm (Qa P E X) V) (by omega);refine⟨G7 E (by omega),x,by rw[qP];exact Q,fun j O=> ?_,fun j O l=> ?_⟩
 . rw[E9 (by omega)];exact o.2.1 j (by omega)
 . have B:C2 n (fun m=>U j m*rv ((z0.set i (rc (rv f/U i i))).getD m zr))=C2 n (fun m=>if m=i then U j i*(rv f/U i i)else U j m*rv (z0.getD m zr)):=B7 fun m _=>by
    by_cases d:m=i
    . subst d;rw[qL rfl,C1 (by omega),H8]
    . rw[qH d,E9 d]
   by_cases v:j=i
   . subst v;refine⟨⟨_,C1 (by omega),x⟩, ?_⟩;rw[B];have I:Sf w (fun m=>rv (z0.getD m.toNat zr))=C2 n (fun m=>if m=j then 0 else U j m*rv (z0.getD m zr)):=by
      rw[A1p (n:=n) fun e c=>⟨by have:=(g e c).1;omega,(g e c).2⟩];refine B7 fun m d=> ?_
      rw[qT];rcases Nat.lt_trichotomy m j with hmj|hmj|hmj
      . rw[qH (by omega),D2 fun e c N=>by have:=(g e c).1;omega,u j m hmj l]
      . rw[qL hmj,D2 fun e c N=>by have:=(g e c).1;omega,sB]
      . rw[qH (by omega),M m hmj]
     have J:C2 n (fun m=>if m=j then U j j*(rv f/U j j)else U j m*rv (z0.getD m zr))=C2 n (fun m=>(if m=j then U j j*(rv f/U j j)else 0)+if m=j then 0 else U j m*rv (z0.getD m zr)):=B7 fun m _=>by
      split
      . rw[rL]
      . rw[sV]
     rw[J,Df, <-I,J8 l fun m _ d=>qH d,qL rfl,A,uA,xZ,tY,xB _ R,uB];grind
   . obtain⟨⟨q,F,G⟩,H⟩:=o.2.2 j (by omega) l;refine⟨⟨q,by rw[E9 v];exact F,G⟩, ?_⟩;rw[B, <-H];refine B7 fun m d=> ?_
     by_cases r:m=i
     . rw[qL r,r,u j i (by omega) l,sB,sB]
     . rw[qH r]
def B8h {T n:Nat} {L U:Nat->Nat->Rat} {b:Nat->Rat} {v:Nat->Rat} {y:Nat->Rat} (d:∀j,j<n->y j+C2 j (fun m=>L j m*y m)=b j) (f:∀j,j<n->C2 n (fun m=>U j m*v m)=y j) (h:∀i,i<n->L i i=1) (l:∀i j,i<j->j<n->L i j=0) {i:Nat} (a:i<n):
 C2 n (fun j=>C2 n (fun k=>L i k*U k j)*v j)=b i:=by
 have c:C2 n (fun j=>C2 n (fun k=>L i k*U k j)*v j)=C2 n fun k=>L i k*y k:=by
  rw[B7 (g:=fun j=>C2 n fun k=>L i k*(U k j*v j)) fun j _=>by rw[<-bF];exact B7 fun k _=>tY _ _ _,LP];exact B7 fun k o=>by rw[Hs,f k o]
 rw[c, <-d i a];have c:∀t,i+1+t<=n->C2 (i+1+t) (fun k=>L i k*y k)=y i+C2 i (fun m=>L i m*y m):=by
  intro t
  induction t with
  |zero=>intro _;rw[sS,C2,h i a,uC,g2e]
  |succ t a=>intro d;rw[<-uE,C2,a (by omega),l i (i+1+t) (by omega) (by omega),sB,rL]
 have:=c (n-(i+1)) (by omega);rwa[show i+1+(n-(i+1))=n from by omega]at this
def Xz (x:A4 W5.args) (_:awf W5.args x) (i:W5.pre x):Mr x:=by
 obtain⟨⟨P,Q,⟨j,lc,L⟩,⟨l,k,U⟩⟩,b,_⟩:=x;obtain⟨f,c,d⟩:=i;simp only[Mr,iB,Ml];refine⟨⟨qF _,Int.ofNat_le.2 f,c,d⟩, ?_⟩;rintro⟨r,_⟩ _ a;change Bool at r;simp only at a⊢;cases r with
 |false=>
  have g:¬Y8 (P,Q,(j,lc,L),(l,k,U)) (P.length:Int):=fun h=>by have:=a.2 h;cases this
  exact⟨fun _=>⟨fun _=>by trivial,fun h=>absurd h g⟩,fun h=>(by cases h)⟩
 |true=>
  have h:=a.1 rfl;refine⟨fun h=>(by cases h),fun _=>⟨fun hne=>⟨fun h2=>absurd h h2,fun _=>⟨fun _=>by trivial,fun he=>absurd (tC Int.ofNat he) (qA hne)⟩⟩,fun heq=>⟨fun h2=>absurd h h2,fun _=>⟨fun hne=>absurd (g1j (qM (qB heq))) hne,fun _=>by trivial⟩⟩⟩⟩
def Hf {p:List Int} {n:Nat} (h:G5 p (n:Int)):p.length=n/\(∀a,a<n->p.getD a 0=(ix p a:Int)/\ix p a<n)/\∀a b,a<n->b<n->ix p a=ix p b->a=b:=by
 obtain⟨c,g,i⟩:=h;have k:p.length=n:=by omega
 have c:∀a,a<n->p.getD a 0=(ix p a:Int)/\ix p a<n:=fun a f=>by
  have:=g _ (E8 (d:=0) (show a<p.length by omega));unfold ix;omega
 refine⟨k,c,fun a b f j e=> ?_⟩;have g:=(c a f).1;have f:=(c b j).1;rw[<-e]at f;have c:p.getD a 0=p.getD b 0:=g.trans f.symm;rw[Q3 _ _ (by omega),Q3 _ _ (by omega)]at c;exact(xT i).1 c
def B7o {v:List D1} {n:Int} (h:F7 v n) {i:Nat} (r:(i:Int)<n) (k:∀j:Nat,(j:Int)<n->i<j->A5 v (j:Int)=0) (o:A5 v (i:Int)=1):v≠ []/\asc (v.take (v.length-1))/\(∀e∈v.take (v.length-1),e∈v/\0<=e.1/\e.1<(i:Int))/\∀j:Nat,j<i->A5 (v.take (v.length-1)) (j:Int)=A5 v (j:Int):=by
 obtain⟨f,y,z⟩:=(A2b h r).2 ⟨k,o⟩;have A:0<v.length:=uP.2 f;have c:v=v.take (v.length-1)++ [gx D6 v ((v.length:Int)-1)]:=by
  have:=Ra (d:=D6) (l:=v) (t:=(v.length:Int)-1) (by omega) (by omega);rw[show((v.length:Int)-1+1).toNat=v.length from by omega,uY,show((v.length:Int)-1).toNat=v.length-1 from by omega]at this;exact this
 generalize gx D6 v ((v.length:Int)-1)=l at*;have b:=h.1;generalize u:v.take (v.length-1)=w at*;have s:∀e∈w,e.1<(i:Int):=fun e a=>by
  rw[c]at b;have:=(tA.1 b).2.2 e a l (qW.2 rfl);omega
 refine⟨f,u▸zK b,fun e a=> ?_,fun j x=> ?_⟩
 . have g:e∈v:=by rw[c];exact sK _ a
   exact⟨g,(h.2 e g).1,s e a⟩
 . rw[c,O7];have:A5 [l] (j:Int)=0:=D2 fun e a hej=>by
    rw[qW]at a;subst a;omega
   rw[this,rL]
def B5z {v:List D1} {n:Int} (h:F7 v n) {i:Nat} (c:∀j:Nat,j<i->A5 v (j:Int)=0) (d:A5 v (i:Int)≠0):1<=v.length/\gx D6 v 0∈v/\rv (gx D6 v 0).2=A5 v (i:Int)/\asc (v.drop 1)/\(∀e∈v.drop 1,e∈v/\(i:Int)<e.1/\e.1<n)/\∀j:Nat,i<j->A5 (v.drop 1) (j:Int)=A5 v (j:Int):=by
 obtain⟨k,b⟩:=(B1k h).2 ⟨c,d⟩;cases v with
 |nil=>exact absurd rfl k
 |cons e r=>
  have g:gx D6 (e::r) 0=e:=rfl;rw[g]at b⊢;obtain⟨f,l⟩:=K2.1 h.1;refine⟨by rw[rG];omega,rJ, ?_,l,fun x a=>⟨qK _ a, ?_,(h.2 x (qK _ a)).2.1⟩,fun j o=> ?_⟩
  . rw[<-b,Ap h.1]
  . have:=f x a;omega
  . exact(Ei (by omega)).symm
def fwI (P:List Int) (ML MU:N7) (b:List C7) (p:Int×List C7×Unit):Prop:=0<=p.1/\p.1<=(P.length:Int)/\∀s T,1<=s->1<=T->O5 s ML->O5 s MU->II T b->FW s T P.length p.1.toNat (el ML) (fun i=>rv (b.getD (ix P i) zr)) p.2.1
def fiI (i:Nat) (c:Rat) (w:List D1) (ML MU:N7) (b z0:List C7) (p:Int×List C7×Unit):Prop:=0<=p.1/\p.1<=(w.length:Int)/\∀s T,1<=s->1<=T->O5 s ML->O5 s MU->II T b->FI s T i c w z0 p.1.toNat p.2.1
def bwI (n:Nat) (Q:List Int) (ML MU:N7) (b:List C7) (y:Nat->Rat) (p:Int×List C7×List C7×Unit):Prop:=0<=p.1/\p.1<=(n:Int)/\(∀s T,1<=s->1<=T->O5 s ML->O5 s MU->II T b->BW s (gK s T n) n (n-p.1.toNat) (el MU) y p.2.1)/\p.2.2.1.length=n/\∀j,n-p.1.toNat<=j->j<n->p.2.2.1.getD (ix Q j) zr=p.2.1.getD j zr
def biI (n i:Nat) (c:Rat) (w:List D1) (ML MU:N7) (b z0:List C7) (p:Int×List C7×Unit):Prop:=0<=p.1/\p.1<=(w.length:Int)/\∀s T,1<=s->1<=T->O5 s ML->O5 s MU->II T b->BI s (gK s T n) n i c w z0 p.1.toNat p.2.1
def B4x {T:Nat} {b:List C7} (h:II T b) {i:Nat} (a:i<b.length):sz T (b.getD i zr):=h _ (E8 a)
def FD (x:A4 Bz.args) (b5:awf Bz.args x) (cq:Bz.pre x):Uf x:=by
 obtain⟨⟨P,Q,⟨b7,lc,L⟩,⟨be,av,U⟩⟩,b,_⟩:=x;change List Int at P Q;change List (List D1)at L U;change List C7 at b;change Int at b7 lc be av;have ck:HE (b7,lc,L):=Jf b5.1.2.2.1.2.2.2;have cl:HE (be,av,U):=Jf b5.1.2.2.2.2.2.2;have cn:∀x∈b,Xa x:=fun x hx=>HF (b5.2.1.2 x hx)
 obtain⟨b1,ch,ci,cf⟩:=cq;simp only[Uf,iB,Ef,H4];refine⟨⟨b1,ch,ci⟩, ?_⟩;rintro⟨E,_⟩ _ aa;change Int at E;simp only at aa⊢;by_cases O:Y8 (P,Q,(b7,lc,L),(be,av,U)) (P.length:Int)
 case neg=>
  have ah:E=1:=aa.1 O;subst ah;exact⟨fun _=>⟨fun _=>⟨by trivial,by trivial⟩,fun A=>absurd A O⟩,fun A=>absurd A (by simp)⟩
 by_cases Z:b.length=P.length
 case neg=>
  have ah:E=4:=(aa.2 O).1 Z;subst ah;exact⟨fun _=>⟨fun A=>absurd O A,fun _=>⟨fun _=>⟨by trivial,by trivial⟩,fun A=>absurd A Z⟩⟩,fun A=>absurd A (by simp)⟩
 have ah:E=0:=(aa.2 O).2 Z;subst ah;refine⟨fun A=>absurd A (by simp),fun _=> ?_⟩;obtain⟨f,T0,a2,X,a3,R,ai,bm⟩:=cf O Z;obtain⟨bo,bp,⟨bz,ar,bt⟩,⟨c0,au,bu⟩,a4⟩:=id O;simp only at bo bp bz ar c0 au;obtain⟨_,bj,d6⟩:=Hf bo;obtain⟨d0,bk,bx⟩:=Hf bp;subst bz c0;have ar:lc=(P.length:Int):=ar;have au:av=(P.length:Int):=au;subst ar au;have b1:P.length<=16384:=b1;have bm:hK f (gK f T0 P.length) P.length+f<=K1:=bm;have Z:b.length=P.length:=Z;have c8:L.length=P.length:=g1j bt.2.2.2.2.1;have cb:U.length=P.length:=g1j bu.2.2.2.2.1;have ca:∀i,i<P.length->F7 (L.getD i []) (P.length:Int)/\EC (L.getD i []):=fun i D=>by
  have a0:=E8 (d:=([]:List D1)) (show i<L.length by omega);exact⟨bt.2.2.2.2.2 _ a0,ck _ a0⟩
 have cc:∀i,i<P.length->F7 (U.getD i []) (P.length:Int)/\EC (U.getD i []):=fun i D=>by
  have a0:=E8 (d:=([]:List D1)) (show i<U.length by omega);exact⟨bu.2.2.2.2.2 _ a0,cl _ a0⟩
 have cd:∀i,i<P.length->ix P i<b.length/\Xa (b.getD (ix P i) zr):=fun i D=>by
  have:=(bj i D).2;exact⟨by omega,cn _ (E8 (by omega))⟩
 have d8:hK f (gK f T0 P.length) 0<=hK f (gK f T0 P.length) P.length:=Jd (rK _);have d7:hK f (gK f T0 P.length) 0=gK f T0 P.length:=rfl;have d9:T0<=gK f T0 P.length:=He (a:=0) (rK _);refine⟨⟨qF _,qI _,by omega,by omega⟩,fwI P (↑P.length, ↑P.length,L) (↑P.length, ↑P.length,U) b,fun p=>((P.length:Int)-p.1).toNat,⟨qI _,qF _,fun s T _ _ _ _ _=>⟨rM,fun j c=>absurd c (tR j)⟩⟩, ?_⟩;rintro⟨i,z,_⟩ _ ⟨V,cx,a7⟩;change Int at i;change List C7 at z;simp only at V cx a7⊢;have an:=a7 f T0 a2 X a3 R ai;refine⟨fun D=> ?_,fun D=> ?_⟩
 . have D:=qA D;have M:i.toNat<P.length:=by omega
   obtain⟨c6,d3⟩:=bj _ M;obtain⟨ay,ce⟩:=cd _ M;rw[T1 (d:=(0:Int)) V D,Nn V (show i<(L.length:Int)by omega),c6];obtain⟨ab,aq⟩:=ca _ M;obtain⟨cp,Y,F,b6⟩:=B7o ab (i:=i.toNat) (by omega) (fun j c hij=>(a4 i.toNat j (uJ.2 M) c).1 hij) (a4 i.toNat i.toNat (uJ.2 M) (uJ.2 M)).2.1;have co:0<(L.getD i.toNat []).length:=uP.2 cp;have d5:=Be ab;have c9:∀s,O5 s ((P.length:Int),(P.length:Int),L)->∀e∈L.getD i.toNat [],sz s e.2:=fun s hh=>hh _ (E8 (l:=L) (show i.toNat<L.length by omega))
   have a9:∀j:Nat,el ((P.length:Int),(P.length:Int),L) i.toNat j=A5 (L.getD i.toNat []) (j:Int):=fun _=>rfl
   generalize L.getD i.toNat []=v at*;rw[wv (by omega),show((v.length:Int)-1).toNat=v.length-1 from by omega];simp only[show Int.toNat 0=0 from rfl,tW];generalize v.take (v.length-1)=w at*;have a5:∀s,O5 s ((P.length:Int),(P.length:Int),L)->∀e∈w,0<=e.1/\e.1<(i.toNat:Int)/\sz s e.2/\Xa e.2:=fun s hh e o=>by
    obtain⟨bi,c4,c5⟩:=F e o;exact⟨c4,c5,c9 s hh e bi,aq e bi⟩
   have cu:w.length<=16384:=by
    have:=Be (n:=(i.toNat:Int)) (v:=w) ⟨Y,fun e o=>⟨(F e o).2.1,(F e o).2.2,(ab.2 e (F e o).1).2.2⟩⟩;omega
   refine⟨⟨V,D⟩,⟨qF _,uJ.2 ay⟩,⟨V,by rw[an.1];exact D⟩,⟨V,by rw[c8];exact D⟩,⟨qI _,by omega,by omega⟩,fiI i.toNat (rv (b.getD (ix P i.toNat) zr)) w (↑P.length, ↑P.length,L) (↑P.length, ↑P.length,U) b z,fun p=>((w.length:Int)-p.1).toNat,⟨qI _,qF _,fun s T g h t r u=> ?_⟩, ?_⟩
   . show FI s T i.toNat (rv (b.getD (ix P i.toNat) zr)) w z 0 (z.set i.toNat (gx dQ b ↑(ix P i.toNat)));rw[T1 (d:=dQ) (qF _) (uJ.2 ay),qT];exact FI.init ⟨B4x u ay,ce,rfl⟩
   rintro⟨am,y,_⟩ _ ⟨G,bc,J⟩;change Int at am;change List C7 at y;simp only at G bc J⊢;have af:=J f T0 a2 X a3 R ai;refine⟨fun B=> ?_,fun B=> ?_⟩
   . have B:=qA B;obtain⟨⟨ad,b8,b9⟩,_⟩:=FI.next an X a2 M Y (a5 f a3) G B af
     have az:=I5 (d:=D6) G B;obtain⟨bg,bh,aw,c3⟩:=a5 f a3 _ az;have d4:gK f T0 i.toNat<=gK f T0 P.length:=He (by omega);rw[wv (by omega)];refine⟨⟨G,B⟩,⟨V,by rw[ad];exact D⟩,⟨bg,by rw[ad];omega⟩,⟨G7 b8 (by omega),G7 aw (by omega),G7 b9 (by omega)⟩, ?_⟩;rintro⟨E,_⟩ _ ⟨ba,bb⟩;change C7 at E;exact⟨⟨V,by rw[ad];exact D⟩,⟨by simp only;omega,by simp only;omega,fun s T g h t r u=>(FI.next (a7 s T g h t r u) h g M Y (a5 s t) G B (J s T g h t r u)).2 E ba bb⟩,by omega⟩
   . have B:=qB B;rw[wv (by omega)];refine⟨⟨by simp only;omega,by simp only;omega,fun s T g h t r u=> ?_⟩,by omega⟩;simp only;rw[show(i+1).toNat=i.toNat+1 from by omega];exact FI.done (a7 s T g h t r u) M (fun e o=>⟨(F e o).2.1,(F e o).2.2⟩) (fun j c=>(b6 j c).trans (a9 j).symm) (show w.length<=am.toNat by omega) (J s T g h t r u)
 have D:=qB D;have cg:i.toNat=P.length:=by omega
 rw[cg]at a7 an;refine⟨⟨qF _,qI _,by omega,by omega⟩,bwI P.length Q (↑P.length, ↑P.length,L) (↑P.length, ↑P.length,U) b (fun j=>rv (z.getD j zr)),fun p=>((P.length:Int)-p.1).toNat,⟨qI _,qF _,fun s T g h t r u=> ?_,rM,fun j H W=> ?_⟩, ?_⟩
 . have A:=a7 s T g h t r u;exact⟨A.1,fun j c=>mU (A.2 j c).1 (He (show j<=P.length from vN c)),fun j H W=>absurd W (Nat.not_lt.2 H)⟩
 . simp only[Int.toNat_zero,g0p]at H;omega
 rintro⟨k,ae,bf,_⟩ _ ⟨cy,cz,N,aj,ak⟩;change Int at k;change List C7 at ae bf;simp only at cy cz N aj ak⊢;have a6:=N f T0 a2 X a3 R ai;refine⟨fun ag=> ?_,fun ag=> ?_⟩
 . have ag:=qA ag;obtain⟨q,I,cr,cs,bq⟩:∃q:Nat,q<P.length/\(P.length:Int)-1-k=(q:Int)/\P.length-k.toNat=q+1/\P.length-(k+1).toNat=q:=⟨P.length-1-k.toNat,by omega,by omega,by omega,by omega⟩;have cv:i64.wrap (i64.wrap ((P.length:Int)-1)-k)=(q:Int):=by
    rw[wv (a:=(P.length:Int)-1) (by omega),wv (by omega)];exact cr
   rw[cs]at N a6 ak;obtain⟨c7,bl⟩:=bk q I;have a1:(q:Int)<(P.length:Int):=uJ.2 I;obtain⟨ab,aq⟩:=cc q I;have ax:∀s,O5 s ((P.length:Int),(P.length:Int),U)->∀e∈U.getD q [],sz s e.2:=fun s hh=>hh _ (E8 (l:=U) (show q<U.length by omega))
   have a9:∀j:Nat,el ((P.length:Int),(P.length:Int),U) q j=A5 (U.getD q []) (j:Int):=fun _=>rfl
   have b2:A5 (U.getD q []) (q:Int)≠0:=(a4 q q a1 a1).2.2.2;obtain⟨co,b0,b4,Y,F,b6⟩:=B5z ab (i:=q) (fun j c=>(a4 q j a1 (by omega)).2.2.1 c) b2;simp only[cv];rw[Nn (qF q) (show(q:Int)<(U.length:Int)by omega),T1 (d:=(0:Int)) (qF q) (show(q:Int)<(Q.length:Int)by omega)];simp only[qT,uY,show Int.toNat 1=1 from rfl];rw[c7];simp only[qT];generalize U.getD q []=v at*;generalize v.drop 1=w at*;have a5:∀s,O5 s ((P.length:Int),(P.length:Int),U)->∀e∈w,(q:Int)<e.1/\e.1<(P.length:Int)/\sz s e.2/\Xa e.2:=fun s hh e o=>by
    obtain⟨bi,c4,c5⟩:=F e o;exact⟨c4,c5,ax s hh e bi,aq e bi⟩
   have cu:w.length<=16384:=by
    have:=Be (n:=(P.length:Int)) (v:=w) ⟨Y,fun e o=>⟨by have:=(F e o).2.1;omega,(F e o).2.2,(ab.2 e (F e o).1).2.2⟩⟩;omega
   have cm:(q:Int)<(U.length:Int):=by rw[cb];exact a1
   have ao:∀s T,1<=T->1<=gK s T P.length:=fun s T A=>qX A (He (a:=0) (rK _))
   refine⟨⟨qF _,cm⟩,⟨by decide,by omega,qI _⟩,biI P.length q (rv (z.getD q zr)) w (↑P.length, ↑P.length,L) (↑P.length, ↑P.length,U) b ae,fun p=>((w.length:Int)-p.1).toNat,⟨qI _,qF _,fun s T g h t r u=>BI.init (N s T g h t r u) (ao s T h) I⟩, ?_⟩;rintro⟨am,y,_⟩ _ ⟨G,bc,J⟩;change Int at am;change List C7 at y;simp only at G bc J⊢;have af:=J f T0 a2 X a3 R ai;refine⟨fun B=> ?_,fun B=> ?_⟩
   . have B:=qA B;obtain⟨⟨ad,b8,b9⟩,_⟩:=BI.next a6 a2 (ao f T0 X) I Y (a5 f R) G B af
     have az:=I5 (d:=D6) G B;obtain⟨bg,bh,aw,c3⟩:=a5 f R _ az;have ac:(q:Int)<(y.length:Int):=by rw[ad];exact a1
     rw[wv (by omega)];refine⟨⟨G,B⟩,⟨qF _,ac⟩,⟨by omega,by rw[ad];exact bh⟩,⟨G7 b8 (by omega),G7 aw (by omega),G7 b9 (by omega)⟩, ?_⟩;rintro⟨E,_⟩ _ ⟨ba,bb⟩;change C7 at E;exact⟨⟨qF _,ac⟩,⟨by simp only;omega,by simp only;omega,fun s T g h t r u=>(BI.next (N s T g h t r u) g (ao s T h) I Y (a5 s r) G B (J s T g h t r u)).2 E ba bb⟩,by omega⟩
   have B:=qB B;have bn:∀s T,1<=s->1<=T->O5 s ((P.length:Int),(P.length:Int),L)->O5 s ((P.length:Int),(P.length:Int),U)->II T b-> _:=fun s T g h t r u=>BI.done (N s T g h t r u) g (ao s T h) I (fun e o=>(F e o).2) (fun j c=>(b6 j c).trans (a9 j).symm) (fun a m a0 a8=>(a4 a m (uJ.2 a8) (by omega)).2.2.1 a0) (by rw[a9];exact b2) (by rw[a9, <-b4];exact Qa (aq _ b0) (ax s r _ b0) g) (show w.length<=am.toNat by omega) (J s T g h t r u)
   obtain⟨c2,d1,d2⟩:=bn f T0 a2 X a3 R ai;have ac:y.length=P.length:=by
    obtain⟨bi,rfl,_⟩:=af;rw[qP];exact a6.1
   have cw:∀j,j≠q->y.getD j zr=ae.getD j zr:=fun j c=>by
    obtain⟨bi,rfl,_⟩:=af;exact E9 c
   have b3:(q:Int)<(y.length:Int):=by rw[ac];exact a1
   refine⟨⟨qF _,b3⟩,⟨by decide,by omega⟩,⟨Z7 (k:=K1) (G7 c2 (by omega)) (by decide),Z7 (ax f R _ b0) (qX (show f<=K1 by omega) (by decide))⟩, ?_⟩;rintro⟨E,da,_⟩ _ ⟨_,bs⟩;change C7 at E;simp only at bs⊢;have aa:E=rc (rv (y.getD q zr)/el ((P.length:Int),(P.length:Int),U) q q):=by
    rw[a9, <-b4];exact(bs (by rw[b4];exact b2)).1
   rw[show(List.set y q E).getD q dQ=E from C1 (by rw[ac];exact I),wv (by omega)];refine⟨⟨qF _,b3⟩,⟨qF _,by rw[d0];exact a1⟩,⟨qF _,by rw[qP];exact b3⟩,⟨qF _,by rw[aj];exact uJ.2 bl⟩,⟨by simp only;omega,by simp only;omega,fun s T g h t r u=> ?_,by simp only;rw[qP];exact aj,fun j H W=> ?_⟩,by omega⟩
   . simp only;rw[bq,aa];exact(bn s T g h t r u).2.2
   . simp only at H⊢;rw[bq]at H;by_cases ap:j=q
     . subst ap;rw[C1 (by rw[aj];exact bl),C1 (by rw[ac];exact I)]
     . rw[E9 fun e=>ap (bx j q W I e),E9 ap,cw j ap];exact ak j (by omega) W
 have ag:=qB ag;have cj:P.length-k.toNat=0:=by omega
 rw[cj]at N a6 ak;have bw:∀j,j<P.length->bf.getD (ix Q j) zr=ae.getD j zr:=fun j c=>ak j (rK _) c
 have bv:∀e∈bf,∃j,j<P.length/\e=ae.getD j zr:=fun e o=>by
  obtain⟨a,a8,rfl⟩:=Aa zr o;obtain⟨j,c,bi⟩:=W2 (fun a a8=>(bk a a8).2) bx (show a<P.length by omega);exact⟨j,c,by rw[<-bi];exact bw j c⟩
 refine⟨fun A=>absurd O A,fun _=>⟨fun A=>absurd Z A,fun _=>⟨by trivial,aj,fun e o=> ?_,fun s T g h t r u e o=> ?_,fun a a8=> ?_⟩⟩⟩
 . obtain⟨j,c,rfl⟩:=bv e o;obtain⟨⟨x,H,_⟩,_⟩:=a6.2.2 j (rK _) c;rw[H,H8]
 . obtain⟨j,c,rfl⟩:=bv e o;obtain⟨⟨x,H,W⟩,_⟩:=(N s T g h t r u).2.2 j (rK _) c;rw[H];have:=Jd (s:=s) (T:=gK s T P.length) (a:=P.length-1-j) (b:=P.length) (by omega);exact Xu (F8 W (by omega))
 . have ct:=B8h (T:=T0) (L:=el ((P.length:Int),(P.length:Int),L)) (U:=el ((P.length:Int),(P.length:Int),U)) (v:=fun j=>rv (ae.getD j zr)) (fun j c=>(an.2 j c).2) (fun j c=>(a6.2.2 j (rK _) c).2) (fun i D=>(a4 i i (uJ.2 D) (uJ.2 D)).2.1) (fun i j hij c=>(a4 i j (by omega) (uJ.2 c)).1 hij) a8;refine Eq.trans (B7 fun j c=> ?_) ct;rw[bw j c];rfl
def NZ:An:= {join:= [(8,⟨[0,4,5,6,11,12],[],[(3,false,[.val .bool])],[],[(0, .row .bool 4)]⟩)],loop:= [(7,⟨[0,4,5,11,12],[],[(3,false,[.val .bool]),(6,false,vI)],[],[(0, .row .bool 4)]⟩),(4,⟨[0,4,11],[],[(3,false,[.val .bool]),(12,false,vI)],[],[(0, .row .bool 4)]⟩)]}
def XH:An:= {join:= [(14,⟨[2,6],[1],[],[(3,31,[.val .bool, .val (.sl (.int .u32)), .val (.sl (.int .u32))])],[]⟩)],loop:= [(8,⟨[2,4,6,24,25],[1,2],[(26,false,vI)],[(3,31,[.val .bool, .val (.sl (.int .u32)), .val (.sl (.int .u32))])],[]⟩)],plan:= [(10,[0,4],[6],true,(.q 0 (pZ9 1 3 (.q 4 (.e 5 (.e 6 .done)))))),(12,[1,4],[],true,(.p 0 (.q 1 (.p 3 (.q 4 (.e 2 (.e 5 (.p 6 .done))))))))]}
abbrev B5a:=Bool×Int×List Bool×Unit
def Ug:A4 Ca.args->Prop:=fun(x:BG)=>let e:=(0:Int);let a:=(x.1.length:Int);(e<=a/\a<=a/\(↑(1:Nat):Int)*a<=(281474976710656:Int)/\a<=(9223372036854775807:Int))/\∃(I:B5a->Prop),∃(h: _->Nat),I (false,e,List.replicate a.toNat false,())/\∀(p:B5a),Ty.bool.wf p.1/\(Ty.int i64).wf p.2.1/\(List.length p.2.2.1<=9223372036854775807/\∀(x:Bool),x∈p.2.2.1->True)/\True->I p->(iB (decide (p.2.1<a)) (∃(I_1:B5a->Prop),∃(j: _->Nat),I_1 (p.1,p.2.1,p.2.2.1,())/\∀(i:B5a),let k:Prop:=(gx e x.1 i.2.1≠p.2.1);let g:Prop:=(e<=i.2.1/\i.2.1<a);let d:=i.2.1.toNat;let c:=(i.1,i64.wrap (p.2.1+1),i.2.2.1,());let b:Prop:=(e<=i.2.1/\i.2.1<(i.2.2.1.length:Int));Ty.bool.wf i.1/\(Ty.int i64).wf i.2.1/\(List.length i.2.2.1<=9223372036854775807/\∀(x:Bool),x∈i.2.2.1->True)/\True->I_1 i->b/\(iB ((!List.getD i.2.2.1 d false)) (∃(J:Bool×List Bool×Unit->Prop),(b/\g/\(iB (decide k) (J (!i.1,List.set i.2.2.1 d true,())) (J (i.1,List.set i.2.2.1 d true,()))))/\∀(p:Bool×List Bool×Unit),let f:=(p.1,gx e x.1 i.2.1,p.2.1,());Ty.bool.wf p.1/\(List.length p.2.1<=9223372036854775807/\∀(x:Bool),x∈p.2.1->True)/\True->J p->g/\I_1 f/\j f<j i) (I c/\h c<h p))) (det x.1.length (Vm (ix x.1))=mX p.1))
def CP:A4 Fq.args->Prop:=fun(x:Az)=>let l:=(4:Int);let h:=(1:Int);let c:=x.1.1.toNat;let a:=(0:Int);(O5 K1 x.1/\(A6 x.1->x.1.1=x.1.2.1->∃(T:Nat),(1:Nat)<=T/\(8:Nat)*T+(8:Nat)<=K1/\Io c c (el x.1) T))/\∀(r:B8m),let m:=r.1.1.length;let k:=r.1.2.1.length;let d:=(r.1.2.2.2.2.2.length:Int);(YZ r.1.1/\YZ r.1.2.1/\WfM r.1.2.2.1/\Q8 r.1.2.2.2.1/\Q8 r.1.2.2.2.2.1/\CX r.1.2.2.2.2.2)/\Q8 r.2.1/\True->(¬A6 x.1->r.1=YW/\r.2.1=h)/\(A6 x.1->(x.1.1≠x.1.2.1->r.1=YW/\r.2.1=l)/\(x.1.1=x.1.2.1->(¬nonsing c (el x.1)->r.1=YW/\r.2.1=6)/\(nonsing c (el x.1)->Y8 r.1 x.1.1/\r.2.1=a/\(∀(v:List EE),v∈r.1.2.2.1.2.2->T2 v)/\(∀(v:List EE),v∈r.1.2.2.2.2.2->T2 v)/\(∀(T:Nat),(1:Nat)<=T->Io c c (el x.1) T->∀(i j:Nat),i<Int.toNat x.1.1->qs (T+T) (el r.1.2.2.1 i j)/\qs (T+T) (el r.1.2.2.2 i j))/\∀(i j:Nat),i<Int.toNat x.1.1->j<Int.toNat x.1.1->oV r.1 c i j=el x.1 (ix r.1.1 i) (ix r.1.2.1 j))))->(iB (decide (r.2.1=6)) (True/\H4 fun r=>r.1=ri a->(¬A6 x.1->r.1=dQ/\a=h)/\(A6 x.1->(x.1.1≠x.1.2.1->r.1=dQ/\a=l)/\(x.1.1=x.1.2.1->r.1=rc (det x.1.1.toNat (el x.1))/\a=a))) ((iB (decide (r.2.1≠a)) ((¬A6 x.1->dQ=dQ/\r.2.1=h)/\(A6 x.1->(x.1.1≠x.1.2.1->dQ=dQ/\r.2.1=l)/\(x.1.1=x.1.2.1->dQ=rc (det x.1.1.toNat (el x.1))/\r.2.1=a))) (True/\H4 fun o=>o.1=ri h->∃(I:YA->Prop),∃(s: _->Nat),I (a,o.1.1.1,o.1.1.2,o.1.2,())/\∀(p:YA),let f:=(gx [] r.1.2.2.2.2.2 p.1);let b:=((p.2.1,p.2.2.1),p.2.2.2.1);(Ty.int i64).wf p.1/\Ty.bool.wf p.2.1/\(Ty.int u32).sl.wf p.2.2.1/\(Ty.int u32).sl.wf p.2.2.2.1/\True->I p->(iB (decide (p.1<d)) ((a<=p.1/\p.1<d)/\(a<=a/\a<(↑f.length:Int))/\(D9 b/\D9 (gx D6 f a).2)/\H4 fun n=>let e:=(i64.wrap (p.1+h),n.1.1.1,n.1.1.2,n.1.2,());n.1=rc (rv b*rv (gx D6 f a).2)->I e/\s e<s p) (∃(J:mG->Prop),((G5 r.1.1 (↑m:Int)/\List.length r.1.1<=16384)/\Ml fun n=>det m (Vm (ix r.1.1))=mX n.1->(G5 r.1.2.1 (↑k:Int)/\List.length r.1.2.1<=16384)/\Ml fun q=>det k (Vm (ix r.1.2.1))=mX q.1->(iB ((n.1 !=q.1)) (D9 b/\H4 fun r=>r.1=rc (-rv b)->J (r.1.1.1,r.1.1.2,r.1.2,())) (J (p.2.1,p.2.2.1,p.2.2.2.1,()))))/\∀(p:mG),let g:=((p.1,p.2.1),p.2.2.1);Ty.bool.wf p.1/\(Ty.int u32).sl.wf p.2.1/\(Ty.int u32).sl.wf p.2.2.1/\True->J p->(¬A6 x.1->g=dQ/\a=h)/\(A6 x.1->(x.1.1≠x.1.2.1->g=dQ/\a=l)/\(x.1.1=x.1.2.1->g=rc (det x.1.1.toNat (el x.1))/\a=a))))))))
def iM:∀ {l:List Bool} {j:Nat},j<l.length->l.getD j false=false->(l.set j true).countP (fun b=> !b)+1=l.countP (fun b=> !b)
 | [],_,h,_=>by cases h
 |b::l,0,_,h=>by
  have h:b=false:=h;subst h;simp
 |b::l,j+1,h,a=>by
  have c:=iM (l:=l) (j:=j) (by simpa using h) a;simp only[g3u,List.countP_cons];omega
def La (s:List Bool) (a:Nat):Prop:=s.getD a false=true
def B4l {s:List Bool} {j:Nat} (b:j<s.length) (a:Nat):La (s.set j true) a↔La s a\/a=j:=by
 unfold La;by_cases h:a=j
 . subst h;rw[C1 b];exact⟨fun _=> .inr rfl,fun _=>rfl⟩
 . rw[E9 h];exact⟨.inl,fun g=>g.resolve_right h⟩
def FE (x:A4 Ca.args) (_:awf Ca.args x) (M:Ca.pre x):Ug x:=by
 obtain⟨l,_⟩:=x;change List Int at l;obtain⟨J,Q⟩:G5 l (l.length:Int)/\l.length<=16384:=M;obtain⟨_,B,I⟩:=Hf J;simp only[Ug,iB];refine⟨⟨qF _,qI _,by omega,by omega⟩,fun p=>0<=p.2.1/\p.2.1<=(l.length:Int)/\p.2.2.1.length=l.length/\QC l.length (ix l) p.1 (La p.2.2.1)/\∀a,a<p.2.1.toNat->La p.2.2.1 a,fun p=>((l.length:Int)-p.2.1).toNat,⟨qI _,qF _,by simp,QC.start I fun a g h=> ?_,fun a g=>by simp at g⟩, ?_⟩
 . unfold La at h;rw[qE,uO]at h;split at h<;>cases h
 rintro⟨r,i,seen,_⟩ _ ⟨F,N,n,v,f⟩;change Bool at r;change Int at i;change List Bool at seen;simp only at F N n v f⊢;refine⟨fun k=> ?_,fun k=> ?_⟩
 . have k:=qA k;have w:i.toNat<l.length:=by omega
   refine⟨fun q=>0<=q.2.1/\q.2.1<(l.length:Int)/\q.2.2.1.length=l.length/\(∀a,a<i.toNat->La q.2.2.1 a)/\((q.2.1=i/\QC l.length (ix l) q.1 (La q.2.2.1))\/gF l.length (ix l) i.toNat q.2.1.toNat q.1 (La q.2.2.1)),fun q=>q.2.2.1.countP (fun b=> !b),⟨F,k,n,f, .inl ⟨rfl,v⟩⟩, ?_⟩;rintro⟨r,j,seen,_⟩ _ ⟨o,u,n,f,c⟩;change Bool at r;change Int at j;change List Bool at seen;simp only at o u n f c⊢;have t:j.toNat<l.length:=by omega
   refine⟨⟨o,by omega⟩,fun h=> ?_,fun h=> ?_⟩
   . have z:seen.getD j.toNat false=false:=by simpa using h
     have D:¬La seen j.toNat:=fun hh=>by unfold La at hh;rw[z]at hh;cases hh
     have y:=B4l (s:=seen) (j:=j.toNat) (by omega);have H:gx 0 l j=(ix l j.toNat:Int):=(T1 (d:=(0:Int)) o u).trans (B _ t).1;have P:=(B _ t).2;have O:=iM (l:=seen) (j:=j.toNat) (by omega) z;rw[H];refine⟨fun s=>s.1=(if ix l j.toNat=i.toNat then r else !r)/\s.2.1=seen.set j.toNat true,⟨⟨o,by omega⟩,⟨o,u⟩,fun hd=>⟨?_,rfl⟩,fun hd=>⟨?_,rfl⟩⟩, ?_⟩
     . have:=qA hd;rw[qH (by omega)]
     . have:=uR.1 (qB hd);rw[qL (by omega)]
     rintro⟨R,T,_⟩ _ ⟨rfl,rfl⟩;refine⟨⟨o,u⟩,⟨qF _,by omega,by rw[qP];exact n,fun a g=>(y a).2 (.inl (f a g)), .inr ?_⟩,show(seen.set j.toNat true).countP (fun b=> !b)<seen.countP (fun b=> !b)by omega⟩;show gF l.length (ix l) i.toNat ((ix l j.toNat:Nat):Int).toNat _ _;rw[qT];rcases c with⟨rfl,c⟩ |c
     . exact c.enter w D y
     . exact c.step w t D y
   . have E:La seen j.toNat:=by unfold La;simpa using h
     have A:QC l.length (ix l) r (La seen)/\La seen i.toNat:=by
      rcases c with⟨rfl,c⟩ |c
      . exact⟨c,E⟩
      . exact⟨(c.exit w t E).2,c.1⟩
     rw[wv (by omega)];refine⟨⟨by omega,by omega,n,A.1,fun a g=> ?_⟩,by omega⟩;by_cases G:a=i.toNat
     . rw[G];exact A.2
     . exact f a (by omega)
 . have k:=qB k;exact v.finish fun a g=>f a (by omega)
def MA (x:A4 Fq.args) (b6:awf Fq.args x) (ai:Fq.pre x):CP x:=by
 obtain⟨⟨R,C,D⟩,_⟩:=x;change Int at R C;change List (List D1)at D;obtain⟨am,a5⟩:O5 K1 (R,C,D)/\(A6 (R,C,D)->R=C->∃T:Nat,1<=T/\Io R.toNat R.toNat (el (R,C,D)) T/\(T+T)*(R.toNat+4)+8<=K1):=ai;simp only[CP,iB,H4,Ml];refine⟨⟨am,fun v w=> ?_⟩, ?_⟩
 . obtain⟨T,ax,ay,b8⟩:=a5 v w;have:=rT (T+T) (show 4<=R.toNat+4 by omega);exact⟨T,ax,by omega,ay⟩
 rintro⟨⟨P,Q,L,l,k,U⟩,e,_⟩ _ ⟨N,o⟩;change List Int at P Q;change N7 at L;change Int at l k e;change List (List D1)at U;simp only at N o⊢;by_cases f:A6 (R,C,D)
 case neg=>
  obtain⟨_,rfl⟩:=N f;exact⟨fun h=>by simp at h,fun _=>⟨fun _=>⟨fun _=>⟨by trivial,by trivial⟩,fun h=>absurd h f⟩,fun h=>by simp at h⟩⟩
 by_cases r:R=C
 case neg=>
  obtain⟨_,rfl⟩:=(o f).1 r;exact⟨fun h=>by simp at h,fun _=>⟨fun _=>⟨fun h=>absurd f h,fun _=>⟨fun _=>⟨by trivial,by trivial⟩,fun h=>absurd h r⟩⟩,fun h=>by simp at h⟩⟩
 have o:=(o f).2 r;obtain⟨s,aw,ak,b7⟩:=a5 f r;have b5:=rT (s+s) (show 4<=R.toNat+4 by omega);obtain⟨a6,az,_⟩:=id f;simp only at a6 az;by_cases F:nonsing R.toNat (el (R,C,D))
 case neg=>
  obtain⟨_,rfl⟩:=o.1 F;refine⟨fun _=>⟨trivial, ?_⟩,fun h=>by simp at h⟩;rintro⟨A,_⟩ _ d;simp only at d⊢;refine⟨fun h=>absurd f h,fun _=>⟨fun h=>absurd r h,fun _=>⟨?_,by trivial⟩⟩⟩;have E:det R.toNat (el (R,C,D))=0:=by
   refine qM fun E=>F fun x aq j t=>qM fun ar=>E (iV t ar aq)
  rw[d,E,Xo];rfl
 obtain⟨ah,rfl,_,ad,an,a9⟩:=o.2 F;refine⟨fun h=>by simp at h,fun _=>⟨fun h=>by simp at h,fun _=>⟨trivial, ?_⟩⟩⟩;rintro⟨one,_⟩ _ a1;simp only at a1⊢;obtain⟨y,z,a8,X,u⟩:=id ah;simp only at y z a8 X u;have ac:((R.toNat:Nat):Int)=R:=by omega
 rw[<-ac]at y z;obtain⟨V,aa,b2⟩:=Hf y;obtain⟨W,ab,b3⟩:=Hf z;obtain⟨a2,ap,a3⟩:=X;simp only at a2 ap;have b4:(U.length:Int)=R:=a3.2.2.2.2.1.trans a2;have ao:∀i:Nat,i<R.toNat->qs (s+s) (el (l,k,U) i i):=fun i a=>(an s aw ak i i a).2
 let n:Nat->Rat:=fun i=>if i<R.toNat then el (l,k,U) i i else 0
 have Y:∀i,qs (s+s) (n i):=fun i=>by
  show qs (s+s) (if i<R.toNat then el (l,k,U) i i else 0);by_cases a:i<R.toNat
  . rw[qL a];exact ao i a
  . rw[qH a];exact K5 (by omega)
 have Z:∀i,i<=R.toNat->qs K1 (Q6 n i 0):=fun i a=>F8 (LV (by omega) Y i) (qX (rT (s+s) (show i+1<=R.toNat+4 by omega)) (by omega))
 have b1:K1+1<=2199023255552:=by decide
 refine⟨fun p=>0<=p.1/\p.1<=R/\((p.2.1,p.2.2.1),p.2.2.2.1)=rc (Q6 n p.1.toNat 0),fun p=>(R-p.1).toNat,⟨qI _,a6,by rw[a1];exact(Xo 1).trans (tC rc (show((1:Int):Rat)=1 from rfl))⟩, ?_⟩;rintro⟨i,H,b,c,_⟩ _ ⟨G,au,g⟩;change Int at i;simp only at G au g⊢;refine⟨fun a=> ?_,fun a=> ?_⟩
 . have a:=qA a;have af:i.toNat<R.toNat:=by omega
   rw[Nn G a];have a0:U.getD i.toNat []∈U:=E8 (by omega);obtain⟨b0,a7,B,_⟩:=B5z (i:=i.toNat) (a3.2.2.2.2.2 _ a0) (fun j t=>(u i.toNat j (by omega) (by omega)).2.2.1 t) (u i.toNat i.toNat (by omega) (by omega)).2.2.2;have B:rv (gx D6 (U.getD i.toNat []) 0).2=el (l,k,U) i.toNat i.toNat:=B;have ae:n i.toNat=el (l,k,U) i.toNat i.toNat:=qL af;have a4:(gx D6 (U.getD i.toNat []) 0).2=rc (n i.toNat):=by
    rw[((ad _ a0).2 _ a7).2,B,ae]
   have aj:=Z i.toNat (by omega);refine⟨⟨G,a⟩,⟨qI _,by omega⟩,⟨by rw[g];exact J6 aj (by decide),by rw[a4];exact J6 (F8 (Y _) (show s+s<=K1 by omega)) (by decide)⟩, ?_⟩;rintro⟨A,_⟩ _ d;simp only at d⊢;rw[g,a4,H8,H8]at d;rw[wv (by omega)];refine⟨⟨by omega,by omega, ?_⟩,by omega⟩;show A= _;rw[d,show(i+1).toNat=i.toNat+1 from by omega,Jt,sA]
 . have a:=qB a;have ag:i.toNat=R.toNat:=by omega
   rw[ag]at g;refine⟨fun p=>((p.1,p.2.1),p.2.2.1)=rc (det R.toNat (el (R,C,D))),⟨⟨by rw[V];exact y,by omega⟩, ?_⟩, ?_⟩
   . rintro⟨I,_⟩ _ v;change Bool at I;simp only at v⊢;refine⟨⟨by rw[W];exact z,by omega⟩, ?_⟩;rintro⟨J,_⟩ _ w;change Bool at J;simp only at w⊢;rw[V]at v;rw[W]at w;have av:mX I*(mX J*det R.toNat (el (R,C,D)))=Q6 n R.toNat 0:=by
      rw[<-v, <-w,B6r (L:=el L) (U:=el (l,k,U)) (fun i a=>(aa i a).2) (fun i a=>(ab i a).2) (fun i j E t=>(u i j (by omega) (by omega)).1 E) (fun i a=>(u i i (by omega) (by omega)).2.1) (fun i j E a=>(u i j (by omega) (by omega)).2.2.1 E) fun i j a t=>a9 i j a t];exact Mp fun i _ a=>(qL (by omega)).symm
     have M:=B6s av;refine⟨fun h=>⟨by rw[g];exact J6 (Z _ (qR _)) (by decide), ?_⟩,fun h=> ?_⟩
     . rintro⟨A,_⟩ _ d;simp only at d⊢;show A= _;rw[d,g,H8,M,qL h]
     . show((H,b),c)= _;rw[g,M,qH (by rw[h];decide)]
   rintro⟨H,b,c,_⟩ _ O;simp only at O⊢;exact⟨fun h=>absurd f h,fun _=>⟨fun h=>absurd r h,fun _=>⟨O,by trivial⟩⟩⟩
noncomputable def IF:G8:= [(84,Eo)]
def GE:An:= {loop:= [(3,⟨[1,3],[0,2,3],[(4,false,vI)],[],[(4, .rows tQ 56 31)]⟩)],plan:= [(5,[3,6,8],[14],true,(pZ9 0 3 (.q 3 (.p 4 (.p 5 (.q 6 (.p 7 (.q 8 (.e 9 (pZ9 10 4 (.e 14 .done)))))))))))]}
def QL:An:= {join:= [(11,⟨[4,7],[0],[],[(2,24,[.val (.int .i64), .val (.int .i64), .val (.sl (.sl tE))])],[]⟩)],loop:= [(7,⟨[4,6,7,8],[0,2],[(9,false,vI)],[],[(4, .rows tQ 56 31)]⟩)],plan:= [(9,[3,8,11],[15],true,(pZ9 0 3 (.q 3 (pZ9 4 4 (.q 8 (.p 9 (.p 10 (.q 11 (.e 12 (.e 13 (.p 14 (.e 15 .done))))))))))))]}
noncomputable def VD:G8:= [(12,Gz),(14,O1),(22,S1),(26,Jp),(42,Au),(45,Ha),(40,Dx (Xb ⟨prog,A0s⟩ [(24,IF,GE)] f40.results.toList (f40.body.getD .skip) f40.ntmps))]
abbrev C0x:=Int×Int×List (List EE)×Unit
def Yi:A4 Dm.args->Prop:=fun(x:VN)=>let c:=(1:Int);let b:=(0:Int);True/\∀(r:VL),let t:=(r.1.1.length:Int);(YZ r.1.1/\Q8 r.1.2)/\True->r.1=(x.1,b)->(b<x.2.1/\b<=r.1.2/\r.1.2<=t)/\∀(y:E1) (o:VL),let u:=(o.1.1.length:Int);let h:=(i64.wrap (c+y.1));Q8 y.1/\True->((Ty.int i64).sl.pair (Ty.int i64)).wf o.1/\True->b<=y.1/\y.1<x.2.1->o.1.1=r.1.1/\b<=o.1.2/\o.1.2<=t->(b<=i64.wrap (c+y.1)/\i64.wrap (c+y.1)<=(20:Int)/\b<=i64.wrap (c+y.1)/\i64.wrap (c+y.1)<=(20:Int)/\b<=o.1.2/\o.1.2<=u)/\∀(r:Az) (z:VL),let s:=(z.1.1.length:Int);WfM r.1/\True->((Ty.int i64).sl.pair (Ty.int i64)).wf z.1/\True->B2w h.toNat h.toNat r.1->z.1.1=o.1.1/\b<=z.1.2/\z.1.2<=u->∃(J:C0x->Prop),((b<(4:Int)/\b<=z.1.2/\z.1.2<=s)/\∀(B:E1) (o:VL),Q8 B.1/\True->((Ty.int i64).sl.pair (Ty.int i64)).wf o.1/\True->b<=B.1/\B.1<4->o.1.1=z.1.1/\b<=o.1.2/\o.1.2<=s->(iB (decide (b<B.1)) ((b<=r.1.1/\r.1.1<=r.1.1/\(↑(24:Nat):Int)*r.1.1<=281474976710656/\r.1.1<=9223372036854775807)/\∃(I:Jk->Prop),∃(a: _->Nat),I (b,List.replicate r.1.1.toNat [],())/\∀(p:Jk),let k:=(gx [] r.1.2.2 p.1);(Ty.int i64).wf p.1/\Rs p.2.1/\True->I p->(iB (decide (p.1<r.1.1)) ((b<=p.1/\p.1<(r.1.2.2.length:Int))/\(HK K1 k/\F7 k r.1.2.1/\b<=r.1.2.1/\r.1.2.1<=16384)/\∀(A:List QQ×Bool×Unit),let e:=(i64.wrap (p.1+c),List.set p.2.1 p.1.toNat A.1,());WfL A.1/\True/\True->A.1=dl r.1.2.1 (A5 k)/\A.2.1=true->(b<=p.1/\p.1<(p.2.1.length:Int))/\I e/\a e<a p) (∃(I:Jk->Prop),∃(a: _->Nat),I (b,p.2.1,())/\∀(p:Jk),let w:=p.2.1.length;let v:Prop:=(p.1<i64.wrap (c+y.1));let m:Prop:=(b<=p.1/\p.1<(↑w:Int));let g:=p.1.toNat;let d:=(List.getD p.2.1 g []);let q:Prop:=(b<=p.1/\p.1<(↑d.length:Int));(Ty.int i64).wf p.1/\Rs p.2.1/\True->I p->(iB (decide v) (m/\m/\q/\True/\H4 fun r=>r.1=ri (20:Int)->(D9 (d.getD g dQ)/\D9 r.1)/\H4 fun A=>let f:=(i64.wrap (p.1+c),List.set p.2.1 g (d.set g A.1),());A.1=rc (rv (d.getD g dQ)+rv r.1)->q/\I f/\a f<a p) (((∀(l:List QQ),l∈p.2.1->II K1 l/\(↑l.length:Int)=i64.wrap (c+y.1))/\b<=i64.wrap (c+y.1)/\i64.wrap (c+y.1)<=(16384:Int)/\List.length p.2.1<=16384)/\mW fun r=>HC w h.toNat (fun(i j:Nat)=>rv ((List.getD p.2.1 i []).getD j zr)) r.1->J (r.1.1,r.1.2.1,r.1.2.2,())))))) (J (r.1.1,r.1.2.1,r.1.2.2,()))))/\∀(p:C0x),(Ty.int i64).wf p.1/\(Ty.int i64).wf p.2.1/\tE.sl.sl.wf p.2.2.1/\True->J p->∃(n:Nat),(1:Nat)<=n/\(↑n:Int)<=x.2.1/\∃(f:Nat->Nat->Rat),(∀(i j:Nat),qs (4:Nat) (f i j))/\HC n n f (p.1,p.2.1,p.2.2.1)
def IS (x:A4 Dm.args) (_:awf Dm.args x) (ae:Dm.pre x):Yi x:=by
 obtain⟨a1,M,_⟩:=x;change List Int at a1;change Int at M;obtain⟨ap,aq⟩:1<=M/\M<=20:=ae;simp only[Yi,iB,H4,mW];refine⟨trivial, ?_⟩;rintro⟨⟨tl,ti⟩,_⟩ _ Z;simp only at Z⊢;have ag:ti=0:=tC Prod.snd Z;subst ag;refine⟨⟨by omega,qI _,qF _⟩, ?_⟩;rintro⟨v,_⟩ ⟨⟨av,ar⟩,_⟩ _ _ ⟨ai,aj⟩ ⟨a2,a3,a4⟩;change Int at v;simp only at ai aj a2 a3 a4⊢;have ah:i64.wrap (1+v)=1+v:=wv (by omega);simp only[ah];refine⟨⟨by omega,by omega,by omega,by omega,a3,by rw[a2];exact a4⟩, ?_⟩;rintro⟨⟨R,C,D⟩,_⟩ ⟨⟨aw,au⟩,_⟩ _ _ o ⟨a5,a6,a7⟩;change Int at R C;change List (List D1)at D;simp only at o a5 a6 a7⊢;obtain⟨r,A,o⟩:=o;have a0:A6 (R,C,D):=Pf o (by omega) (by omega);have af:O5 K1 (R,C,D):=DX o (by decide) fun i j _ _=>F8 (A i j) (by decide)
 obtain⟨ab,a9,aa,X⟩:=id o;simp only at ab a9 aa X;have am:∀w∈D,F7 w C:=a0.2.2.2.2.2;generalize an:(1+v).toNat=N at*;have ao:(N:Int)=1+v:=by omega
 refine⟨fun p=>∃y:Nat->Nat->Rat,(∀i j,qs 4 (y i j))/\HC N N y (p.1,p.2.1,p.2.2.1),⟨⟨by omega,a6,by rw[a5];exact a7⟩, ?_⟩, ?_⟩
 . rintro⟨a8,_⟩ ⟨ax,_⟩ _ _ _ _;change Int at a8;simp only;refine⟨fun _=>⟨⟨by omega,qI _,by omega,by omega⟩,fun p=>0<=p.1/\p.1<=R/\fill R.toNat p.1.toNat (fun i=>dl C (A5 (D.getD i []))) p.2.1,fun p=>(R-p.1).toNat,⟨qI _,by omega,A7w rM⟩, ?_⟩,fun _=>⟨r,fun i j=>F8 (A i j) (by decide),o⟩⟩;rintro⟨k,rows,_⟩ _ ⟨g,J,B⟩;change Int at k;change List (List C7)at rows;simp only at g J B⊢;have:=B.1;refine⟨fun h=> ?_,fun h=> ?_⟩
   . have h:=qA h;have G:k<(D.length:Int):=by omega
     have V:=I5 (d:=([]:List D1)) g G;refine⟨⟨g,G⟩,⟨fF a0 af V,am _ V,by omega,by omega⟩, ?_⟩;rintro⟨ak,b,_⟩ _ ⟨E,_⟩;simp only at E⊢;rw[wv (by omega)];refine⟨⟨g,by omega⟩,⟨by omega,by omega,SK B g (by omega) ?_⟩,by omega⟩;rw[E,Nn g G]
   . have h:=qB h;have Y:rows=GY (R,C,D):=SJ B (by omega);have u:rows.length=N:=by rw[Y];unfold GY;rw[sR,zT];omega
     refine⟨fun p=>0<=p.1/\p.1<=(N:Int)/\p.2.1.length=N/\∀i,i<N->(p.2.1.getD i []).length=N/\∀j,j<N->(p.2.1.getD i []).getD j zr=rc (r i j+if i=j/\i<p.1.toNat then 20 else 0),fun p=>((N:Int)-p.1).toNat,⟨qI _,qF _,u,fun i f=> ?_⟩, ?_⟩
     . have n:rows.getD i []=dl C (A5 (D.getD i [])):=by
        rw[Y];unfold GY;rw[qE,vA,vZ (show i<(R:Int).toNat by omega)];rfl
       show(rows.getD i []).length=N/\∀j,j<N->(rows.getD i []).getD j zr= _;rw[n,RQ];refine⟨by omega,fun j l=> ?_⟩;rw[cX zr (by omega),(X i f).2.2 j l,qH (by simp),rL]
     rintro⟨k,rows,_⟩ _ ⟨g,J,u,n⟩;change Int at k;change List (List C7)at rows;simp only at g J u n⊢;refine⟨fun h=> ?_,fun h=> ?_⟩
     . have h:=qA h;have U:k.toNat<N:=by omega
       obtain⟨F,O⟩:=n k.toNat U;have z:=O k.toNat U;rw[qH (by omega),rL]at z;have z:(rows.getD k.toNat []).getD k.toNat dQ=rc (r k.toNat k.toNat):=z;refine⟨⟨g,by omega⟩,⟨g,by omega⟩,⟨g,by rw[F];omega⟩,trivial, ?_⟩;rintro⟨ay,_⟩ _ I;simp only at I⊢;rw[z];refine⟨⟨J6 (A _ _) (by decide),by rw[I,Xo];exact J6 (Ny (by decide)) (by decide)⟩, ?_⟩;rintro⟨ak,_⟩ _ H;simp only at H⊢;rw[I,H8,bH]at H;rw[wv (by omega)];refine⟨⟨g,by rw[F];omega⟩,⟨by omega,by omega,by rw[qP];exact u,fun i f=> ?_⟩,by omega⟩;by_cases Q:i=k.toNat
       . subst Q;rw[C1 (by omega)];refine⟨by rw[qP];exact F,fun j l=> ?_⟩;by_cases T:j=k.toNat
         . subst T;rw[C1 (by omega),H,qL ⟨rfl,by omega⟩];rfl
         . rw[E9 T,O j l,qH (by omega),qH (by omega)]
       . rw[E9 Q];refine⟨(n i f).1,fun j l=> ?_⟩;rw[(n i f).2 j l];congr 2;by_cases s:i=j/\i<k.toNat
         . rw[qL s,qL (by omega)]
         . rw[qH s,qH (by omega)]
     . have h:=qB h;have W:∀i j,qs 4 (r i j+if i=j then 20 else 0):=fun i j=>by
        refine F8 (US (A i j) (k:=1) ?_) (by decide);split
        . exact Ny (a:=20) (by decide)
        . exact K5 (by decide)
       have P:∀i j,i<N->j<N->(rows.getD i []).getD j zr=rc (r i j+if i=j then 20 else 0):=fun i j f l=>by
        rw[(n i f).2 j l];congr 2;by_cases s:i=j
        . rw[qL s,qL (by omega)]
        . rw[qH s,qH (by omega)]
       refine⟨⟨fun a1 E=> ?_,by omega,by omega,by omega⟩, ?_⟩
       . obtain⟨i,f,rfl⟩:=Aa [] E;have f:i<N:=by omega
         refine⟨fun e ac=> ?_,by rw[(n i f).1];omega⟩;obtain⟨j,l,rfl⟩:=Aa zr ac;rw[P i j f (by rw[<-(n i f).1];exact l)];exact Xu (F8 (W i j) (by decide))
       rintro⟨m,_⟩ _ t;simp only at t⊢;rw[u]at t;exact⟨_,W,Zy t fun i j f l=>by rw[P i j f l,H8]⟩
 rintro⟨a,b,c,_⟩ _ ⟨y,ad,t⟩;exact⟨N,by omega,by omega,y,ad,t⟩
noncomputable def Jj:G8:= []
def Jb:An:= {}
noncomputable def Oc:G8:= [(52,P4),(80,T7),(137,Dx (Xb ⟨prog,A0s⟩ [(17,Jj,Jb)] f137.results.toList (f137.body.getD .skip) f137.ntmps))]
def Nj:An:= {loop:= [(8,⟨[2,4,5,19,20,21,26,27],[0,2,4,7],[(28,false,vI)],[],[(6, .rows tE 67 70)]⟩),(5,⟨[2,4,19,20],[0,2,4,7],[(21,false,vI)],[],[(6, .rows tE 67 70)]⟩)],plan:= [(10,[5,7,9,12],[16,18],false,(.p 0 (.p 2 (.p 4 (.q 5 (.p 6 (.q 7 (.p 8 (.q 9 (.p 10 (.p 11 (.q 12 (.or 1 (.or 3 (.e 13 (.p 14 (.e 15 (.e 16 (.p 17 (.e 18 .done)))))) (.e 13 (.p 14 (.or 3 (.e 15 (.e 16 (.p 17 (.e 18 .done)))) (.e 15 (.or 3 (.e 16 (.p 17 (.e 18 .done))) (.e 16 (.e 3 (.p 17 (.e 18 .done)))))))))) (.or 3 (.or 1 (.e 13 (.p 14 (.e 15 (.e 16 (.p 17 (.e 18 .done)))))) (.e 13 (.p 14 (.or 1 (.e 15 (.e 16 (.p 17 (.e 18 .done)))) (.e 15 (.or 1 (.e 16 (.p 17 (.e 18 .done))) (.e 16 (.e 1 (.p 17 (.e 18 .done)))))))))) (.e 13 (.p 14 (.or 1 (.or 3 (.e 15 (.e 16 (.p 17 (.e 18 .done)))) (.e 15 (.or 3 (.e 16 (.p 17 (.e 18 .done))) (.e 16 (.e 3 (.p 17 (.e 18 .done))))))) (.or 3 (.or 1 (.e 15 (.e 16 (.p 17 (.e 18 .done)))) (.e 15 (.or 1 (.e 16 (.p 17 (.e 18 .done))) (.e 16 (.e 1 (.p 17 (.e 18 .done))))))) (.e 15 (.or 1 (.or 3 (.e 16 (.p 17 (.e 18 .done))) (.e 16 (.e 3 (.p 17 (.e 18 .done))))) (.or 3 (.or 1 (.e 16 (.p 17 (.e 18 .done))) (.e 16 (.e 1 (.p 17 (.e 18 .done))))) (.e 16 (.or 1 (.e 3 (.p 17 (.e 18 .done))) (.e 3 (.e 1 (.p 17 (.e 18 .done)))))))))))))))))))))))))))]}
def Uz:An:= {loop:= [(3,⟨[1,3,19,20],[0],[(21,false,vI)],[],[(1, .row (.int .i64) 3)]⟩),(8,⟨[1,3,36],[0],[(37,false,vI)],[],[(1, .row (.int .i64) 3)]⟩),(14,⟨[1,3,7,56,57],[0],[(58,false,vI)],[],[(1, .row (.int .i64) 3),(2, .row (.int .i64) 3)]⟩),(21,⟨[10,85,86],[8],[(7,false,[.val (.sl (.int .i64))]),(87,false,vI)],[],[(6, .row (.sl tE) 67)]⟩)],plan:= [(10,[4,8],[11],true,(pZ9 0 4 (.q 4 (pZ9 5 3 (.q 8 (.p 9 (.p 10 (.e 11 .done)))))))),(23,[1],[10],true,(.p 0 (.q 1 (pZ9 2 3 (.e 5 (pZ9 6 4 (.e 10 .done)))))))]}
noncomputable def Vo:G8:= [(60,O3),(95,Dx (Xb ⟨prog,A0s⟩ [(81,Oc,Nj)] f95.results.toList (f95.body.getD .skip) f95.ntmps))]
abbrev B5c:=Int×List (List EE)×Unit
abbrev C1o:=List Int×Int×List (List EE)×Unit
def Gg:A4 L6.args->Prop:=fun(x:Az)=>let d:=(64:Nat);let Y:=(2:Int);let W:=(281474976710656:Int);let Q:=(9223372036854775807:Int);let L:=(140737488355328:Nat);let t:=(x.1.2.2.length:Int);let q:=(0:Int);let n:=(1:Int);(q<=i64.wrap (x.1.2.1+Y)/\i64.wrap (x.1.2.1+Y)<=i64.wrap (x.1.2.1+Y)/\(↑(8:Nat):Int)*i64.wrap (x.1.2.1+Y)<=W/\i64.wrap (x.1.2.1+Y)<=Q)/\∃(I:VM->Prop),∃(j: _->Nat),I (q,List.replicate (i64.wrap (x.1.2.1+Y)).toNat q,())/\∀(p:VM),let s:=(↑(gx [] x.1.2.2 p.1).length:Int);let al:=(i64.wrap (s+n));let K:Prop:=(q<=i64.wrap (s+n)/\i64.wrap (s+n)<(p.2.1.length:Int));let w:=(i64.wrap (p.1+n),List.set p.2.1 al.toNat (i64.wrap (List.getD p.2.1 al.toNat q+n)),());(Ty.int i64).wf p.1/\YZ p.2.1/\True->I p->(iB (decide (p.1<t)) ((q<=p.1/\p.1<t)/\K/\K/\I w/\j w<j p) (∃(I:VM->Prop),∃(j: _->Nat),I (q,p.2.1,())/\∀(a:VM),let g:=(i64.wrap (a.1+n));let f:=(a.2.1.length:Int);let Z:Prop:=(a.1<i64.wrap (x.1.2.1+n));let G:Prop:=(q<=i64.wrap (a.1+n)/\i64.wrap (a.1+n)<f);let u:=(i64.wrap (a.1+n),List.set a.2.1 g.toNat (i64.wrap (List.getD a.2.1 g.toNat q+List.getD a.2.1 a.1.toNat q)),());(Ty.int i64).wf a.1/\YZ a.2.1/\True->I a->(iB (decide Z) (G/\(q<=a.1/\a.1<f)/\G/\I u/\j u<j a) ((q<=x.1.1/\x.1.1<=x.1.1/\(↑(8:Nat):Int)*x.1.1<=W/\x.1.1<=Q)/\∃(I:B5e->Prop),∃(j: _->Nat),I (q,a.2.1,List.replicate x.1.1.toNat q,())/\∀(g:B5e),let k:=(↑(gx [] x.1.2.2 g.1).length:Int);let H:Prop:=(q<=k/\k<(g.2.1.length:Int));let v:=(i64.wrap (g.1+n),List.set g.2.1 k.toNat (i64.wrap (List.getD g.2.1 k.toNat q+n)),List.set g.2.2.1 g.1.toNat (List.getD g.2.1 k.toNat q),());(Ty.int i64).wf g.1/\YZ g.2.1/\YZ g.2.2.1/\True->I g->(iB (decide (g.1<t)) ((q<=g.1/\g.1<t)/\H/\(q<=g.1/\g.1<(g.2.2.1.length:Int))/\H/\H/\I v/\j v<j g) (True/\Ml fun r=>r.1=decide (A6 x.1)->(iB ((!r.1)) (False) ((q<=x.1.2.1/\x.1.2.1<=x.1.2.1/\(↑(24:Nat):Int)*x.1.2.1<=W/\x.1.2.1<=Q)/\∃(I:B5c->Prop),∃(j: _->Nat),I (q,List.replicate x.1.2.1.toNat [],())/\∀(h:B5c),let k:=(gx [] x.1.2.2 h.1);let J:=(↑k.length:Int);(Ty.int i64).wf h.1/\CX h.2.1/\True->I h->(iB (decide (h.1<t)) ((q<=h.1/\h.1<t)/\∃(I_1:B5c->Prop),∃(f: _->Nat),I_1 (q,h.2.1,())/\∀(p:B5c),let V:=(i64.wrap (h.1+n),p.2.1,());let a:=(gx D6 k p.1);let t:=(rv a.2);let k:Prop:=(q<=a.1/\a.1<(p.2.1.length:Int));let c:=a.1.toNat;let o:=(List.getD p.2.1 c []);(Ty.int i64).wf p.1/\CX p.2.1/\True->I_1 p->(iB (decide (p.1<J)) ((q<=p.1/\p.1<J)/\k/\((D9 a.2/\H4 fun r=>let l:=(h.1,r.1);let R:=(List.getD p.2.1 c []++ [l]);let S:=(i64.wrap (p.1+n),List.set p.2.1 c R,());r.1=rc t->((o.length+ [l].length)*d<=L/\o.length+ [l].length<=9223372036854775807)/\k/\Int.toNat a.1=Int.toNat a.1/\I_1 S/\f S<f p)/\D9 a.2/\H4 fun r=>let l:=(h.1,r.1);let C:Prop:=((o.length+ [l].length)*d<=L/\o.length+ [l].length<=9223372036854775807);let y:=(List.getD p.2.1 c []++ [l]);let z:=(i64.wrap (p.1+n),List.set p.2.1 c y,());let l:Prop:=(C/\k/\Int.toNat a.1=Int.toNat a.1/\I_1 z/\f z<f p);r.1=rc t->l/\l/\C/\k/\Int.toNat a.1=Int.toNat a.1/\I_1 z/\f z<f p)/\((D9 a.2/\H4 fun r=>let l:=(h.1,r.1);let T:=(List.getD p.2.1 c []++ [l]);let U:=(i64.wrap (p.1+n),List.set p.2.1 c T,());r.1=rc t->((o.length+ [l].length)*d<=L/\o.length+ [l].length<=9223372036854775807)/\k/\Int.toNat a.1=Int.toNat a.1/\I_1 U/\f U<f p)/\D9 a.2/\H4 fun r=>let l:=(h.1,r.1);let D:Prop:=((o.length+ [l].length)*d<=L/\o.length+ [l].length<=9223372036854775807);let A:=(List.getD p.2.1 c []++ [l]);let B:=(i64.wrap (p.1+n),List.set p.2.1 c A,());let m:Prop:=(D/\k/\Int.toNat a.1=Int.toNat a.1/\I_1 B/\f B<f p);r.1=rc t->m/\m/\D/\k/\Int.toNat a.1=Int.toNat a.1/\I_1 B/\f B<f p)/\D9 a.2/\H4 fun r=>let v:=(h.1,r.1);let u:=(List.getD p.2.1 c []++ [v]);let l:=(i64.wrap (p.1+n),List.set p.2.1 c u,());let u:Prop:=((o.length+ [v].length)*d<=L/\o.length+ [v].length<=9223372036854775807);let b:Prop:=(u/\k/\Int.toNat a.1=Int.toNat a.1/\I_1 l/\f l<f p);let N:Prop:=(b/\u/\k/\Int.toNat a.1=Int.toNat a.1/\I_1 l/\f l<f p);let M:Prop:=(b/\b/\u/\k/\Int.toNat a.1=Int.toNat a.1/\I_1 l/\f l<f p);r.1=rc t->M/\M/\N/\N/\u/\(k/\Int.toNat a.1=Int.toNat a.1/\I_1 l/\f l<f p)/\k/\Int.toNat a.1=Int.toNat a.1/\I_1 l/\f l<f p) (I V/\j V<j h))) (∃(I:C1o->Prop),∃(j: _->Nat),I (g.2.2.1,q,h.2.1,())/\∀(d:C1o),let X:Prop:=(d.2.1<(h.2.1.length:Int));let P:=(d.1.length:Int);let O:Prop:=(q<=d.2.1/\d.2.1<(d.2.2.1.length:Int));let E:=(List.getD d.2.2.1 d.2.1.toNat []);(Ty.int i64).sl.wf d.1/\(Ty.int i64).wf d.2.1/\CX d.2.2.1/\True->I d->(iB (decide X) (O/\(HK K1 E/\List.length d.1<=100000)/\∀(f:List EE×Bool×Unit),let F:=(d.1,i64.wrap (d.2.1+n),List.set d.2.2.1 d.2.1.toNat f.1,());AO f.1/\True/\True->(G5 d.1 P->(∀(a:Int),A5 E a≠(0:Rat)->q<=a/\a<P)->JO (fun(i:Int)=>if q<=i/\i<P then A5 E (↑(List.idxOf i d.1):Int)else(0:Rat)) f.1/\f.2.1=true)->O/\I F/\j F<j d) (∃(p:List Int),G5 p x.1.1/\List.length d.2.2.1=x.1.2.1.toNat/\∀(a:Nat),let ae:=(List.getD d.2.2.1 a []);a<List.length d.2.2.1->T2 ae/\(∀(e:D1),e∈List.getD d.2.2.1 a []->q<=e.1/\e.1<x.1.1)/\∀(i:Nat),i<x.1.1.toNat->A5 ae (p.getD i q)=el x.1 i a))))))))))))
def Og (x:A4 L6.args) (bk:awf L6.args x) (bg:L6.pre x):Gg x:=by
 obtain⟨⟨R,C,D⟩,_⟩:=x;change Int at R C;change List (List D1)at D;obtain⟨P,g⟩:A6 (R,C,D)/\O5 K1 (R,C,D):=bg;obtain⟨Z,bu,am,bv,_,_⟩:=id P;have bz:(D.length:Int)=R:=P.2.2.2.2.1;have b1:∀w∈D,F7 w C:=P.2.2.2.2.2;simp only at Z bu am bv;have bf:HE (R,C,D):=Jf bk.1.2.2.2
 let ln:Nat->Nat:=fun k=>(D.getD k []).length
 have au:∀k:Nat,(k:Int)<R->(ln k:Int)<=C:=fun k z=>by
  have:=Be (b1 _ (E8 (l:=D) (i:=k) (d:= []) (by omega)));show((D.getD k []).length:Int)<=C;omega
 have bm:i64.wrap (C+2)=C+2:=wv (by omega);have bl:i64.wrap (C+1)=C+1:=wv (by omega);have V:∀(i:Nat) (q:Nat->Bool),cN i q<=i:=fun i q=>oB
 simp only[Gg,iB,H4,Ml,bm,bl];refine⟨⟨by omega,qI _,by omega,by omega⟩,fun p=>0<=p.1/\p.1<=R/\p.2.1.length=C.toNat+2/\∀s,s<C.toNat+2->p.2.1.getD s 0=((cN p.1.toNat fun k=>decide (ln k+1=s):Nat):Int),fun p=>(R-p.1).toNat,⟨qI _,Z,by rw[rM];omega,fun s g=> ?_⟩, ?_⟩
 . show(List.replicate (C+2).toNat (0:Int)).getD s 0= _;rw[qE,uO,qL (by omega)];rfl
 rintro⟨i,F,_⟩ _ ⟨I,ag,v,c⟩;change Int at i;change List Int at F;simp only at I ag v c⊢;refine⟨fun h=> ?_,fun h=> ?_⟩
 . have h:=qA h;rw[Nn I h];have X:=au i.toNat (by omega);have bn:i64.wrap (((D.getD i.toNat []).length:Int)+1)=((ln i.toNat:Nat):Int)+1:=wr (by show _ <=((ln i.toNat:Nat):Int)+1;omega) (by show((ln i.toNat:Nat):Int)+1<= _;omega);rw[bn,show(((ln i.toNat:Nat):Int)+1).toNat=ln i.toNat+1 from by omega,c _ (by omega)];have:=V i.toNat fun k=>decide (ln k+1=ln i.toNat+1)
   rw[wv (a:=i+1) (by omega),wv (a:=(_:Int)+1) (by omega)];refine⟨⟨I,h⟩,⟨by omega,by omega⟩,⟨by omega,by omega⟩,⟨by omega,by omega,by rw[qP];exact v,fun s g=> ?_⟩,by omega⟩;rw[show(i+1).toNat=i.toNat+1 from by omega];show _=((cN i.toNat _ +(if decide (ln i.toNat+1=s)=true then 1 else 0):Nat):Int);by_cases Y:s=ln i.toNat+1
   . subst Y;rw[C1 (by omega),qL (by simp)];omega
   . rw[E9 Y,c s g,qH (by simp;omega),sS]
 have h:=qB h;have b9:i.toNat=R.toNat:=by omega
 rw[b9]at c;refine⟨fun p=>0<=p.1/\p.1<=C+1/\p.2.1.length=C.toNat+2/\∀s,s<C.toNat+2->p.2.1.getD s 0=((cN R.toNat fun k=>if s<=p.1.toNat then decide (ln k+1<=s)else decide (ln k+1=s):Nat):Int),fun p=>(C+1-p.1).toNat,⟨qI _,by omega,v,fun s g=> ?_⟩, ?_⟩
 . show F.getD s 0= _;rw[c s g];refine tC Int.ofNat (Wk fun k _=> ?_);by_cases a7:s<=(0:Int).toNat
   . rw[qL a7];have:s=0:=by simpa using a7
     subst this;rfl
   . rw[qH a7]
 rintro⟨t,F,_⟩ _ ⟨M,ak,v,c⟩;change Int at t;change List Int at F;simp only at M ak v c⊢;refine⟨fun h=> ?_,fun h=> ?_⟩
 . have h:=qA h;have bp:i64.wrap (t+1)=t+1:=wv (by omega);rw[bp,show(t+1).toNat=t.toNat+1 from by omega,c _ (by omega),c _ (by omega)];have c1:=V R.toNat fun k=>if t.toNat+1<=t.toNat then decide (ln k+1<=t.toNat+1)else decide (ln k+1=t.toNat+1)
   have b2:=V R.toNat fun k=>if t.toNat<=t.toNat then decide (ln k+1<=t.toNat)else decide (ln k+1=t.toNat)
   rw[wv (a:=(_:Int)+ _) (by omega)];refine⟨⟨by omega,by omega⟩,⟨M,by omega⟩,⟨by omega,by omega⟩,⟨by omega,by omega,by rw[qP];exact v,fun s g=> ?_⟩,by omega⟩;by_cases ay:s=t.toNat+1
   . subst ay;rw[C1 (by omega), <-wA];refine tC Int.ofNat (oA fun k _=> ?_).symm;rw[qL (qR (t.toNat+1)),qH (show¬t.toNat+1<=t.toNat by omega),qL (qR t.toNat)];simp only[rS];split<;>split<;>split<;>omega
   . rw[E9 ay,c s g];refine tC Int.ofNat (Wk fun k _=> ?_);by_cases O:s<=t.toNat
     . rw[qL O,qL (by omega)]
     . rw[qH O,qH (by omega)]
 have h:=qB h;have c:∀s,s<C.toNat+2->F.getD s 0=((cN R.toNat fun k=>decide (ln k<s):Nat):Int):=fun s g=>by
  rw[c s g];refine tC Int.ofNat (Wk fun k _=> ?_);rw[qL (by omega)];exact wL.2 (by omega)
 refine⟨⟨Z,qI _,by omega,by omega⟩,fun p=>0<=p.1/\p.1<=R/\p.2.1.length=C.toNat+2/\p.2.2.1.length=R.toNat/\(∀s,s<C.toNat+2->p.2.1.getD s 0=((cN R.toNat (fun k=>decide (ln k<s))+cN p.1.toNat fun k=>decide (ln k=s):Nat):Int))/\∀b,b<p.1.toNat->p.2.2.1.getD b 0=((rkN R.toNat ln b:Nat):Int),fun p=>(R-p.1).toNat,⟨qI _,Z,v,rM,fun s g=>c s g,fun b f=>by simp at f⟩, ?_⟩;rintro⟨i,F,N,_⟩ _ ⟨I,ag,v,a5,c,A⟩;change Int at i;change List Int at F N;simp only at I ag v a5 c A⊢;refine⟨fun h=> ?_,fun h=> ?_⟩
 . have h:=qA h;rw[Nn I h];have X:=au i.toNat (by omega);have bc:(D.getD i.toNat []).length=ln i.toNat:=rfl;rw[bc,qT,c _ (by omega)];have c1:=V R.toNat fun k=>decide (ln k<ln i.toNat)
   have b2:=V i.toNat fun k=>decide (ln k=ln i.toNat)
   rw[wv (a:=i+1) (by omega),wv (a:=(_:Int)+1) (by omega)];refine⟨⟨I,h⟩,⟨by omega,by omega⟩,⟨I,by omega⟩,⟨by omega,by omega⟩,⟨by omega,by omega⟩,⟨by omega,by omega,by rw[qP];exact v,by rw[qP];exact a5,fun s g=> ?_,fun b f=> ?_⟩,by omega⟩
   . rw[show(i+1).toNat=i.toNat+1 from by omega];show _=((_ +(cN i.toNat _ +(if decide (ln i.toNat=s)=true then 1 else 0)):Nat):Int);by_cases Y:s=ln i.toNat
     . subst Y;rw[C1 (by omega),qL (by simp)];omega
     . rw[E9 Y,c s g,qH (by simp;omega),sS]
   . by_cases ap:b=i.toNat
     . subst ap;rw[C1 (by omega),A4z (by omega)]
     . rw[E9 ap];exact A b (by omega)
 have h:=qB h;have A:∀b,b<R.toNat->N.getD b 0=((rkN R.toNat ln b:Nat):Int):=fun b f=>A b (by omega)
 have a2:∀b,b<R.toNat->ix N b=rkN R.toNat ln b:=fun b f=>by unfold ix;rw[A b f,qT]
 have ae:G5 N R:=by
  have:=eX a5 (fun a E=>by rw[a2 a E];exact A a E) (fun a E=>by rw[a2 a E];exact B0q E) fun a b E f ab=>B4f E f (by rw[<-a2 a E, <-a2 b f,ab])
  rwa[show((R.toNat:Nat):Int)=R from by omega]at this
 refine⟨trivial, ?_⟩;rintro⟨bt,_⟩ _ a4;simp only at a4⊢;have a4:bt=true:=by rw[a4];exact rH P
 rw[a4];refine⟨fun h=>(by cases h),fun _=>⟨⟨am,qI _,by omega,by omega⟩, ?_⟩⟩;refine⟨fun p=>0<=p.1/\p.1<=R/\p.2.1.length=C.toNat/\∀j,j<C.toNat->oR p.1.toNat (fun i=>el (R,C,D) i j) (p.2.1.getD j []),fun p=>(R-p.1).toNat,⟨qI _,Z,rM,fun j r=> ?_⟩, ?_⟩
 . have e:(List.replicate C.toNat ([]:List D1)).getD j []= []:=by
    rw[qE,uO,qL r];rfl
   show oR _ _ ((List.replicate C.toNat ([]:List D1)).getD j []);rw[e];exact⟨GR,fun _ h=>(by cases h),fun i n=>by simp at n⟩
 rintro⟨k,rows,_⟩ _ ⟨a6,bs,X,W⟩;change Int at k;change List (List D1)at rows;simp only at a6 bs X W⊢;refine⟨fun z=> ?_,fun z=> ?_⟩
 . have z:=qA z;have ac:=I5 (d:=([]:List D1)) a6 z;rw[Nn a6 z]at ac⊢;have az:=b1 _ ac;have af:=fF P g ac;have b7:∀j:Nat,A5 (D.getD k.toNat []) (j:Int)=el (R,C,D) k.toNat j:=fun j=>rfl
   generalize D.getD k.toNat []=row at*;have a5:=af.2.2;refine⟨⟨a6,z⟩,fun p=>0<=p.1/\p.1<=(row.length:Int)/\p.2.1.length=C.toNat/\∀j,j<C.toNat->oR (k+1).toNat (fun i=>if i<k.toNat then el (R,C,D) i j else A5 (row.take p.1.toNat) (j:Int)) (p.2.1.getD j []),fun p=>((row.length:Int)-p.1).toNat,⟨qI _,qF _,X,fun j r=> ?_⟩, ?_⟩
   . obtain⟨T,U,a0⟩:=W j r;refine⟨T,fun e y=>by have:=U e y;omega,fun i n=> ?_⟩;dsimp only;by_cases u:i<k.toNat
     . rw[qL u];exact a0 i u
     . rw[qH u,D2 fun e y bx=>by have:=(U e y).2;omega];rfl
   rintro⟨t,o,_⟩ _ ⟨M,ak,J,of⟩;change Int at t;change List (List D1)at o;simp only at M ak J of⊢;refine⟨fun B=> ?_,fun B=> ?_⟩
   . have B:=qA B;have ar:=I5 (d:=D6) M B;obtain⟨an,bw,b3⟩:=az.2 _ ar;have bh:=af.2.1 _ ar;have aa:=A3u (d:=D6) M B;have ao:A5 (row.take t.toNat) (gx D6 row t).1=0:=by
      refine D2 fun x E ab=> ?_
      have G:(row.take (t+1).toNat).Pairwise (fun a b=>a.1<b.1):=af.1.take;rw[show(t+1).toNat=t.toNat+1 from by omega,rR,H3 (d:=D6) M B,tA]at G;have:=G.2.2 x E (gx D6 row t) (by simp);omega
     generalize gx D6 row t=e at*;have bi:D9 e.2:=Z7 bh (by decide);have A1:t<(row.length:Int):=B;have B1:e.1<(o.length:Int):=by rw[J];omega
     have ad:=of e.1.toNat (by omega);have be:=A1w ad;have L1:((o.getD e.1.toNat []).length+ [(k,rc (rv e.2))].length)*64<=140737488355328:=by simp only[rA];omega
     have L2:(o.getD e.1.toNat []).length+ [(k,rc (rv e.2))].length<=9223372036854775807:=by simp only[rA];omega
     have bo:i64.wrap (t+1)=t+1:=wv (by omega);rw[bo];have I1:0<=t+1:=by omega
     have I2:t+1<=(row.length:Int):=by omega
     have I3:(o.set e.1.toNat (o.getD e.1.toNat []++ [(k,rc (rv e.2))])).length=C.toNat:=by rw[qP];exact J
     have I4:∀j,j<C.toNat->oR (k+1).toNat (fun i=>if i<k.toNat then el (R,C,D) i j else A5 (row.take (t+1).toNat) (j:Int)) ((o.set e.1.toNat (o.getD e.1.toNat []++ [(k,rc (rv e.2))])).getD j []):=fun j r=>by
      rw[qE,yJ];by_cases ab:e.1.toNat=j
      . rw[qL ab,qL (by omega)];subst ab;obtain⟨T,U,a0⟩:=ad;have av:∀x∈o.getD e.1.toNat [],x.1<k:=fun x E=>by
         have G:=U x E;have O:=(T.2 x E).1;rw[<-H7 T.1 E]at O;refine qM fun a3=>O ?_
         have b4:x.1=((k.toNat:Nat):Int):=by omega
         rw[b4,a0 k.toNat (by omega)];dsimp only;rw[qH (by omega),show((e.1.toNat:Nat):Int)=e.1 from by omega];exact ao
        refine⟨Pb T b3 av,fun x E=> ?_,fun i n=> ?_⟩
        . rcases qZ.1 E with E|E
          . exact U x E
          . rw[qW.1 E];show 0<=k/\k< _;omega
        . show A5 (o.getD e.1.toNat []++ [(k,rc (rv e.2))]) (i:Int)= _;rw[Jm,a0 i n];dsimp only;rw[aa,qL (show e.1=((e.1.toNat:Nat):Int)by omega)];by_cases u:i<k.toNat
          . rw[qL u,qL u,qH (by omega),rL]
          . rw[qH u,qH u,qL (by omega)]
      . rw[qH ab, <-qE];refine KR (of j r) fun i _=> ?_
        rw[aa,qH (show¬e.1=(j:Int)by omega),rL]
     have M1:((row.length:Int)-(t+1)).toNat<((row.length:Int)-t).toNat:=by omega
     clear ad be aa ao of W az
     repeat' first
      |exact⟨⟨an,B1⟩,by trivial,⟨I1,I2,I3,I4⟩,M1⟩
      |exact⟨L1,L2⟩
      |exact⟨an,B1⟩
      |exact⟨M,A1⟩
      |exact bi
      |apply And.intro
      | (rintro⟨q,_⟩ _ E;simp only at E⊢;subst E)
   . have B:=qB B;rw[wv (by omega)];rw[H2 (l:=row) (i:=t) (by omega)]at of;refine⟨⟨by omega,by omega,J,fun j r=>KR (of j r) fun i n=> ?_⟩,by omega⟩;by_cases u:i<k.toNat
     . rw[qL u]
     . rw[qH u,b7,show i=k.toNat from by omega]
 . have z:=qB z;rw[show k.toNat=R.toNat from by omega]at W;have b5:((R.toNat:Nat):Int)=R:=by omega
   have ax:(N.length:Int)=R:=by omega
   refine⟨fun p=>p.1=N/\0<=p.2.1/\p.2.1<=C/\p.2.2.1.length=C.toNat/\(∀b,p.2.1.toNat<=b->b<C.toNat->oR R.toNat (fun i=>el (R,C,D) i b) (p.2.2.1.getD b []))/\∀b,b<p.2.1.toNat->T2 (p.2.2.1.getD b [])/\(∀e∈p.2.2.1.getD b [],0<=e.1/\e.1<R)/\∀i:Nat,i<R.toNat->A5 (p.2.2.1.getD b []) (N.getD i 0)=el (R,C,D) i b,fun p=>(C-p.2.1).toNat,⟨rfl,qI _,am,X,fun b _ f=>W b f,fun b f=>by simp at f⟩, ?_⟩;rintro⟨Q,j,o,_⟩ _ ⟨aw,ah,bq,J,ai,aj⟩;change List Int at Q;change Int at j;change List (List D1)at o;simp only at aw ah bq J ai aj⊢;subst aw;refine⟨fun r=> ?_,fun r=> ?_⟩
   . have r:=qA r;have bb:j.toNat<C.toNat:=by omega
     have H:=ai j.toNat (qR _) bb;have bj:HK K1 (o.getD j.toNat []):=by
      refine⟨H.1.1,fun e y=> ?_,by have:=A1w H;omega⟩;have G:=H7 H.1.1 y;have O:=H.2.1 e y;have E:=H.2.2 e.1.toNat (by omega);rw[show((e.1.toNat:Nat):Int)=e.1 from by omega,G]at E;rw[(H.1.2 e y).2,E];exact Xu (MP P bf g (by decide) _ _)
     have b8:∀i:Int,A5 (o.getD j.toNat []) i≠0->0<=i/\i<R:=fun i n=>by
      rw[kH H i,b5]at n;exact qM fun a3=>n (qH a3)
     refine⟨⟨ah,by omega⟩,⟨bj,by omega⟩, ?_⟩;rintro⟨b0,b,_⟩ _ a8;change List D1 at b0;simp only at a8⊢;rw[ax]at a8;obtain⟨⟨a9,a1⟩,_⟩:=a8 ae b8;have a1:∀i:Int,A5 b0 i=if 0<=i/\i<R then A5 (o.getD j.toNat []) ((List.idxOf i Q:Nat):Int)else 0:=a1
     rw[wv (by omega)];refine⟨⟨ah,by omega⟩,⟨by trivial,by omega,by omega,by rw[qP];exact J,fun b f b6=> ?_,fun b f=> ?_⟩,by omega⟩
     . rw[E9 (by omega)];exact ai b (by omega) b6
     . by_cases aq:b=j.toNat
       . subst aq;rw[C1 (by omega)];refine⟨a9,fun e y=> ?_,fun i n=> ?_⟩
         . have G:=H7 a9.1 y;rw[a1]at G;exact qM fun a3=>(a9.2 e y).1 (by rw[<-G,qH a3])
         . have av:=B0q (ln:=ln) n;have ba:((List.idxOf (Q.getD i 0) Q:Nat):Int)=(i:Int):=((eY (by rw[ax];exact ae) (a:=(i:Int)) (i:=Q.getD i 0) (by omega) (by omega) (by rw[A i n];omega) (by rw[A i n];omega)).1 (by rw[qT])).symm;rw[a1,qL (by rw[A i n];omega),ba];exact H.2.2 i n
       . rw[E9 aq];exact aj b (by omega)
   . have r:=qB r;exact⟨Q,ae,J,fun b f=>aj b (by omega)⟩
noncomputable def Ob:G8:= [(38,S8),(64,X3),(96,K8)]
def Ni:An:= {join:= [(6,⟨[],[1,2],[(1,false,[.val (.sl tE)])],[],[]⟩)],loop:= [(1,⟨[0],[1,2],[(1,false,[.val (.sl tE)])],[],[]⟩)],plan:= [(4,[3,7],[13],true,(pZ9 0 3 (.q 3 (pZ9 4 3 (.q 7 (.or 8 (pZ9 9 3 (.e 12 (.e 13 (.p 14 .done)))) (.e 12 (.e 8 (pZ9 9 3 (.e 13 (.p 14 .done)))))))))))]}
def Uy:An:= {join:= [(12,⟨[4,14,15,16],[],[(5,false,[.own (.int .i64) 3])],[],[(1, .map false (.int .i64) false (.sl tE))]⟩)],loop:= [(6,⟨[4,14,15],[],[(5,false,[.own (.int .i64) 3]),(16,false,vI)],[],[(1, .map false (.int .i64) false (.sl tE))]⟩)]}
noncomputable def Vn:G8:= [(52,P4),(53,L6),(54,Dx (Xb ⟨prog,tys⟩ [(23,Ob,Ni)] f54.results.toList (f54.body.getD .skip) f54.ntmps))]
abbrev C1m:=List Int×Int×List (Int×List EE)×Unit
abbrev C1q:=List Int×List (Int×List EE)×Unit
def Gf:A4 P3.args->Prop:=fun(x:Az)=>let h:=(1:Int);let b:=(0:Int);True/\Ml fun r=>r.1=decide (A6 x.1)->(iB ((!r.1)) ((¬A6 x.1->Nv Int= []/\h=h)/\(A6 x.1->B3d x.1 []/\h=b)) ((A6 x.1/\O5 K1 x.1)/\∀(r:List (List EE)×Unit),let g:=(r.1.length:Int);CX r.1/\True->spF x.1 r.1->∃(I:C1m->Prop),∃(d: _->Nat),I ([],b,[],())/\∀(p:C1m),(Ty.int i64).sl.wf p.1/\(Ty.int i64).wf p.2.1/\(∀(x:Int×List EE),x∈p.2.2.1->Q8 x.1/\AO x.2)/\True->I p->(iB (decide (p.2.1<g)) (∃(J:C1q->Prop),((b<=p.2.1/\p.2.1<g)/\∃(J_1:Rc->Prop),(∃(I:Rc->Prop),∃(d: _->Nat),I (gx [] r.1 p.2.1,())/\∀(j:Rc),let f:=(j.1.length:Int);let c:=(gx D6 j.1 b);let a:=(gx D6 ((I6 (Ty.int i64) c.1 p.2.2.1).getD []) b);tE.sl.wf j.1/\True->I j->(iB (decide (b<f)) ((b<=b/\b<f)/\(iB ((!(I6 (Ty.int i64) c.1 p.2.2.1).isSome)) (J_1 j) ((b<=b/\b<f)/\(b<=b/\b<(↑((I6 (Ty.int i64) c.1 p.2.2.1).getD []).length:Int))/\((D9 c.2/\D9 a.2)/\∀(r:mJ),Wb r.1/\True/\True->(rv a.2=(0:Rat)->r.2.1=false)/\(rv a.2≠(0:Rat)->r.1=rc (rv c.2/rv a.2)/\r.2.1=true)->D9 r.1/\H4 fun k=>k.1=rc (-rv r.1)->(HK K1 j.1/\sz K1 k.1/\HK K1 ((I6 (Ty.int i64) c.1 p.2.2.1).getD []))/\fX fun r=>JO (fun(i:Int)=>A5 j.1 i+rv k.1*A5 ((I6 (Ty.int i64) c.1 p.2.2.1).getD []) i) r.1->I r/\d r<d j)/\(D9 c.2/\D9 a.2)/\∀(r:mJ),Wb r.1/\True/\True->(rv a.2=(0:Rat)->r.2.1=false)/\(rv a.2≠(0:Rat)->r.1=rc (rv c.2/rv a.2)/\r.2.1=true)->D9 r.1/\H4 fun k=>k.1=rc (-rv r.1)->(HK K1 j.1/\sz K1 k.1/\HK K1 ((I6 (Ty.int i64) c.1 p.2.2.1).getD []))/\fX fun r=>JO (fun(i:Int)=>A5 j.1 i+rv k.1*A5 ((I6 (Ty.int i64) c.1 p.2.2.1).getD []) i) r.1->I r/\d r<d j))) (J_1 j)))/\∀(j:Rc),let f:=(j.1.length:Int);tE.sl.wf j.1/\True->J_1 j->(iB (decide (b<f)) ((b<=b/\b<f)/\((p.1.length+ [p.2.1].length)*(8:Nat)<=(140737488355328:Nat)/\p.1.length+ [p.2.1].length<=9223372036854775807)/\J (p.1++ [p.2.1],Ev (Ty.int i64) (gx D6 j.1 b).1 j.1 p.2.2.1,())) (J (p.1,p.2.2.1,()))))/\∀(j:C1q),let e:=(j.1,i64.wrap (p.2.1+h),j.2.1,());(Ty.int i64).sl.wf j.1/\(∀(x:Int×List EE),x∈j.2.1->Q8 x.1/\AO x.2)/\True->J j->I e/\d e<d p) ((¬A6 x.1->p.1= []/\b=h)/\(A6 x.1->B3d x.1 p.1/\b=b)))))
def fI (c:Nat->Int->Rat) (j:Nat) (u:Int->Rat):Prop:=∃x:Nat->Rat,∀i,u i=C2 j fun k=>x k*c k i
section
variable {c:Nat->Int->Rat} {j:Nat} {u v:Int->Rat}
def Hc (h:fI c j u) (e:∀i,v i=u i):fI c j v:=by
 obtain⟨x,a⟩:=h;exact⟨x,fun i=>(e i).trans (a i)⟩
def IG (b:fI c j u) (a:Rat) (d:fI c j v):fI c j fun i=>u i+a*v i:=by
 obtain⟨x,f⟩:=b;obtain⟨y,b⟩:=d;refine⟨fun k=>x k+a*y k,fun i=> ?_⟩;show u i+a*v i=C2 j fun k=>(x k+a*y k)*c k i
 rw[f,b, <-Hs, <-Df];exact B7 fun k _=>by grind
def A0g (h:fI c j u):fI c (j+1) u:=by
 obtain⟨x,a⟩:=h;refine⟨fun k=>if k<j then x k else 0,fun i=> ?_⟩;show u i=C2 j (fun k=>(if k<j then x k else 0)*c k i)+(if j<j then x j else 0)*c j i;rw[qH (tT j),sB,rL,a];exact B7 fun k a=>by rw[qL a]
def B4q:fI c (j+1) (c j):=by
 refine⟨fun k=>if k=j then 1 else 0,fun i=> ?_⟩;show _=C2 j (fun k=>(if k=j then 1 else 0)*c k i)+(if j=j then 1 else 0)*c j i;rw[qL rfl,uC,T6 fun k a=>by rw[qH (by omega),sB],sV]
def mC (h:fI c (j+1) u):∃a,fI c j fun i=>u i-a*c j i:=by
 obtain⟨x,b⟩:=h;refine⟨x j,x,fun i=> ?_⟩;have:=b i;show u i-x j*c j i=C2 j fun k=>x k*c k i
 rw[this];show C2 j (fun k=>x k*c k i)+x j*c j i-x j*c j i= _;grind
end
def B9z (c:Nat->Int->Rat) (j:Nat) (G:Int->Option (List D1)):Prop:=∀u,fI c j u->(∃i,u i≠0)->∃k w,G k=some w/\u k≠0/\∀i,i<k->u i=0
def Im (v:List D1):Int:=(gx D6 v 0).1
def gvU (G:Int->Option (List D1)) (t:Nat) (i:Int):Rat:=match G (t:Int)with
 |some w=>A5 w i
 |none=>0
def iL (c:Nat->Int->Rat) (j:Nat) (G:Int->Option (List D1)) (n:Nat) (v:List D1):Prop:=∃X:Nat->Rat,∀i,c j i=C2 n (fun t=>X t*gvU G t i)+A5 v i
structure FZ (c:Nat->Int->Rat) (R:Int) (T j:Nat) (G:Int->Option (List D1)) (P:List Int):Prop where
 key:∀k w,G k=some w->0<=k/\k<R/\T2 w/\w≠ []/\Im w=k/\(∀e∈w,0<=e.1/\e.1<R)/\FV (T+T) w/\fI c j (A5 w)
 cmb:∀k w,G k=some w->∃q,q<j/\iL c q G k.toNat w
 lead:B9z c j G
 piv:P.Pairwise (· < ·)/\∀b:Int,b∈P↔0<=b/\b<(j:Int)/\¬fI c b.toNat (c b.toNat)
def A1j {c:Nat->Int->Rat} {j n m:Nat} {G G':Int->Option (List D1)} {v:List D1} (h:iL c j G n v) (b:∀k w,G k=some w->G' k=some w) (g:n<=m):iL c j G' m v:=by
 obtain⟨X,d⟩:=h;refine⟨fun t=>if t<n/\(G (t:Int)).isSome=true then X t else 0,fun i=> ?_⟩;show c j i=C2 m (fun t=>(if t<n/\(G (t:Int)).isSome=true then X t else 0)*gvU G' t i)+A5 v i;rw[d i,En g fun k o r=>by rw[qH (fun a=>by omega),sB]];congr 1;refine B7 fun t l=> ?_
 show X t*gvU G t i=(if t<n/\(G (t:Int)).isSome=true then X t else 0)*gvU G' t i;unfold gvU;cases f:G (t:Int)with
 |none=>rw[qH (fun a=>by have:=a.2;cases this),sB];exact sU _
 |some w=>rw[qL ⟨l,rfl⟩,b _ _ f]
def OO (C:Nat) (c:Nat->Int->Rat) (k i:Nat):Rat:=if k<C then c k (i:Int)else if i=k-C then 1 else 0
def B6n {C R T n j:Nat} {c:Nat->Int->Rat} {G:Int->Option (List D1)} {v:List D1} (N:Io (C+R) R (OO C c) T) (W:1<=T) (s:∀(t:Nat) w,t<R->G (t:Int)=some w->(∀i:Nat,i<t->A5 w (i:Int)=0)/\A5 w (t:Int)≠0/\∃q,q<C/\iL c q G t w) (Y:n<=R) (P:j<C) (V:iL c j G n v) (M:∀i:Nat,i<n->A5 v (i:Int)=0) {i:Nat} (O:i<R):qs (T+T) (A5 v (i:Int)):=by
 by_cases H:n=R
 . rw[M i (by omega)];exact K5 (by omega)
 have H:n<R:=by omega
 let f:Nat->Nat->Rat:=fun b i=>match G (b:Int)with
  |some w=>A5 w (i:Int)
  |none=>if i=b then 1 else 0
 have I:∀(X:Nat->Rat) (m i:Nat),C2 m (fun t=>X t*gvU G t (i:Int))=C2 m fun t=>(if(G (t:Int)).isSome=true then X t else 0)*f t i:=fun X m i=>B7 fun t _=>by
  show X t*gvU G t (i:Int)=(if(G (t:Int)).isSome=true then X t else 0)*(match G (t:Int)with
   |some w=>A5 w (i:Int)
   |none=>if i=t then 1 else 0)
  unfold gvU;cases o:G (t:Int)with
  |none=>rw[qH (by decide),sB];exact sU _
  |some w=>rw[qL (show(some w).isSome=true from rfl)]
 have U:∀b,∃y:Nat×(Nat->Rat),b<R->y.1<C+R/\∀i,i<R->OO C c y.1 i=C2 b (fun t=>y.2 t*f t i)+f b i:=fun b=>by
  by_cases B:b<R
  . cases o:G (b:Int)with
    |none=>
     refine⟨(C+b,fun _=>0),fun _=>⟨by simp only;omega,fun i _=> ?_⟩⟩;rw[T6 fun Q _=>sB _,sV];show OO C c (C+b) i=match G (b:Int)with
      |some w=>A5 w (i:Int)
      |none=>if i=b then 1 else 0
     rw[o];unfold OO;rw[qH (by omega),show C+b-C=b from by omega]
    |some w=>
     obtain⟨_,_,q,Q,X,k⟩:=s b w B o;refine⟨(q,fun t=>if(G (t:Int)).isSome=true then X t else 0),fun _=>⟨by simp only;omega,fun i _=> ?_⟩⟩;show OO C c q i= _ +match G (b:Int)with
      |some w=>A5 w (i:Int)
      |none=>if i=b then 1 else 0
     rw[o, <-I];unfold OO;rw[qL Q];exact k i
  . exact⟨(0,fun _=>0),fun E=>absurd E B⟩
 obtain⟨F,z⟩:=g1o U;obtain⟨X,k⟩:=V;have h:∀b,b<n->(if b=n then(fun i:Nat=>A5 v (i:Int))else f b)=f b:=fun b d=>qH (by omega)
 have x:∀m,m<n->(if m=n then i else m)=m:=fun m g=>qH (by omega)
 have D:∀b,b<=n->(if b=n then i else b)<R:=fun b d=>by
  split
  . exact O
  . omega
 have J:∀b,b<R->(∀m,m<b->f b m=0)/\f b b≠0:=fun b d=>by
  show(∀m,m<b->(match G (b:Int)with
   |some w=>A5 w (m:Int)
   |none=>if m=b then 1 else 0)=0)/\(match G (b:Int)with
   |some w=>A5 w (b:Int)
   |none=>if b=b then 1 else 0)≠0
  cases o:G (b:Int)with
  |none=>exact⟨fun m g=>qH (by omega),by simp only[vY];decide⟩
  |some w=>exact⟨(s b w d o).1,(s b w d o).2.1⟩
 have:=A0o (R:=C+R) (C:=R) (T:=T) (A:=OO C c) (a:=n) (u:=fun b=>if b=n then(fun i:Nat=>A5 v (i:Int))else f b) (X:=fun b=>if b=n then(fun t=>if(G (t:Int)).isSome=true then X t else 0)else(F b).2) (r:=fun b=>if b=n then j else(F b).1) (l:=fun m=>if m=n then i else m) N (fun b d=>by
  show(if b=n then j else(F b).1)<C+R;split
  . omega
  . exact(z b (by omega)).1) D (by omega) H (fun b d m g=>by
  have E:=D m g;generalize (if m=n then i else m)=y at E;by_cases e:b=n
  . subst e;simp only[vY];show OO C c j y= _ +A5 v (y:Int);unfold OO;rw[qL P,k y,I];congr 1;exact B7 fun o B=>by rw[h o B]
  . simp only[qH e];rw[(z b (by omega)).2 y E];congr 1;exact B7 fun o B=>by rw[h o (by omega)]) (fun b m g d=>by
  show(if b=n then(fun i:Nat=>A5 v (i:Int))else f b) (if m=n then i else m)=0;rw[x m (by omega)];by_cases e:b=n
  . rw[qL e];exact M m (by omega)
  . rw[qH e];exact(J b (by omega)).1 m g) (fun b d=>by
  show(if b=n then(fun i:Nat=>A5 v (i:Int))else f b) (if b=n then i else b)≠0;rw[h b d,x b d];exact(J b (by omega)).2)
 simp only[vY]at this;exact this
def Jz {v:List D1} (h:T2 v) (g:v≠ []):gx D6 v 0∈v/\A5 v (Im v)=rv (gx D6 v 0).2/\rv (gx D6 v 0).2≠0/\(∀i,i<Im v->A5 v i=0)/\∀e∈v,Im v<=e.1:=by
 cases v with
 |nil=>exact absurd rfl g
 |cons e t=>
  have f:gx D6 (e::t) 0=e:=rfl;have c:e∈e::t:=rJ;have d:∀a∈e::t,e.1<=a.1:=fun a b=>by
   rcases qU.1 b with rfl|b
   . exact qI _
   . exact wV ((zM.1 h.1).1 a b)
  unfold Im;rw[f];exact⟨c,H7 h.1 c,(h.2 e c).1,fun i k=>D2 fun a b j=>by have:=d a b;omega,d⟩
structure XF (c:Nat->Int->Rat) (R:Int) (T j:Nat) (G:Int->Option (List D1)) (v:List D1):Prop where
 can:T2 v
 rng:∀e∈v,0<=e.1/\e.1<R
 sp:fI c j fun i=>c j i-A5 v i
 sz:FV (T+T) v
 st:∃n:Nat,n<=R.toNat/\(∀i:Nat,i<n->A5 v (i:Int)=0)/\iL c j G n v
section
variable {c:Nat->Int->Rat} {R:Int} {C j T:Nat} {G:Int->Option (List D1)} {P:List Int} {v w r:List D1}
def XF.start (b:T2 v) (d:∀e∈v,0<=e.1/\e.1<R) (f:FV (T+T) v) (a:∀i,c j i=A5 v i):XF c R T j G v:=
 ⟨b,d,⟨fun _=>0,fun i=>by show c j i-A5 v i=C2 j fun k=>0*c k i;rw[a,T6 fun k _=>sB _];grind⟩,f,0,rK _,fun i b=>absurd b (tR _),fun _=>0,fun i=>by rw[a,C2,sV]⟩
def cqs {K:Nat} (hK:1<=K) (h:T2 v) (f:FV K v) (i:Int):qs K (A5 v i):=by
 by_cases c:∃e∈v,e.1=i
 . obtain⟨e,a,rfl⟩:=c;rw[H7 h.1 a];have b:=f e a;rw[(h.2 e a).2]at b;exact b
 . rw[D2 fun e a d=>c ⟨e,a,d⟩];exact K5 hK
def FZ.keys (d:FZ c R T j G P) (a:j<=C) (t:Nat) (w:List D1) (_:t<R.toNat) (f:G (t:Int)=some w):(∀i:Nat,i<t->A5 w (i:Int)=0)/\A5 w (t:Int)≠0/\∃q,q<C/\iL c q G t w:=by
 obtain⟨a,b,h,l,k,_⟩:=d.key _ _ f;obtain⟨n,a,g,b,o⟩:=Jz h l;obtain⟨q,l,h⟩:=d.cmb _ _ f;rw[k]at a b;exact⟨fun i d=>b _ (by omega),by rw[a];exact g,q,by omega,by rwa[qT]at h⟩
def XF.step (h:XF c R T j G v) (Q:Io (C+R.toNat) R.toNat (OO C c) T) (U:1<=T) (z:j<C) (y:FZ c R T j G P) (a0:v≠ []) (E:G (Im v)=some w) (Z:JO (fun i=>A5 v i+ -(rv (gx D6 v 0).2/rv (gx D6 w 0).2)*A5 w i) r):XF c R T j G r/\(r≠ []->Im v<Im r):=by
 obtain⟨ac,ad,a2,a4,a3,a5,af,a6⟩:=y.key _ _ E;obtain⟨d,a⟩:=Z;have a:∀i,A5 r i=A5 v i+ -(rv (gx D6 v 0).2/rv (gx D6 w 0).2)*A5 w i:=a;obtain⟨I,o,J,M,a7⟩:=Jz h.can a0;obtain⟨a8,s,N,u,O⟩:=Jz a2 a4;rw[a3]at s u O;have F:∀i,i<=Im v->A5 r i=0:=fun i f=>by
  rcases g3s f with f|rfl
  . rw[a,M i f,u i f];grind
  . rw[a,o,s,g4r,Rat.div_mul_cancel N];grind
 have B:∀e∈r,0<=e.1/\e.1<R:=fun e b=>by
  have k:A5 r e.1≠0:=by rw[H7 d.1 b];exact(d.2 e b).1
  refine qM fun A=>k ?_
  rw[a,D2 (v:=v) (i:=e.1) fun x l g=>A (g▸h.rng x l),D2 (v:=w) (i:=e.1) fun x l g=>A (g▸a5 x l)];grind
 have W:r≠ []->Im v<Im r:=fun k=>by
  obtain⟨c1,g,l,x,A⟩:=Jz d k;refine qM fun a9=>l ?_
  rw[<-g];exact F _ (by omega)
 have aa:0<=Im v/\Im v<R:=h.rng _ I;obtain⟨n,ae,a1,X,V⟩:=h.st;have Y:n<=(Im v).toNat:=g1u fun hh=>J (by
  have:=a1 (Im v).toNat hh;rw[show(((Im v).toNat:Nat):Int)=Im v from by omega]at this;rw[<-o];exact this)
 have D:iL c j G ((Im v).toNat+1) r:=⟨fun t=>if t=(Im v).toNat then rv (gx D6 v 0).2/rv (gx D6 w 0).2 else if t<n then X t else 0,fun i=>by
  show c j i=C2 ((Im v).toNat+1) (fun t=>(if t=(Im v).toNat then rv (gx D6 v 0).2/rv (gx D6 w 0).2 else if t<n then X t else 0)*gvU G t i)+A5 r i;rw[V i,C2,qL rfl,show gvU G (Im v).toNat i=A5 w i from by unfold gvU;rw[show(((Im v).toNat:Nat):Int)=Im v from by omega,E],En Y fun x g l=>by rw[qH (by omega),qH (by omega),sB],a];have e:C2 n (fun t=>X t*gvU G t i)=C2 n fun t=>(if t=(Im v).toNat then rv (gx D6 v 0).2/rv (gx D6 w 0).2 else if t<n then X t else 0)*gvU G t i:=B7 fun t ht=>by rw[qH (by omega),qL ht]
  rw[<-e];grind⟩
 have H:∀i:Nat,i<(Im v).toNat+1->A5 r (i:Int)=0:=fun i f=>F _ (by omega)
 refine⟨⟨d,B,Hc (IG h.sp (rv (gx D6 v 0).2/rv (gx D6 w 0).2) a6) fun i=>by rw[a];grind,fun e b=> ?_,_,by omega,H,D⟩,W⟩;have ab:=B e b;have:=B6n Q U (y.keys (vN z)) (by omega) z D H (i:=e.1.toNat) (by omega);rw[show((e.1.toNat:Nat):Int)=e.1 from by omega,H7 d.1 b]at this;rw[(d.2 e b).2];exact Xu this
def FZ.skip (a:FZ c R T j G P) (h:XF c R T j G []):FZ c R T (j+1) G P:=by
 have k:fI c j (c j):=Hc h.sp fun i=>by show _= _-(0:Rat);grind
 refine⟨fun d w g=> ?_,fun d w g=> ?_,fun u o n=> ?_,a.piv.1,fun b=> ?_⟩
 . obtain⟨d,f,l,s,r,t,x,v⟩:=a.key _ _ g;exact⟨d,f,l,s,r,t,x,A0g v⟩
 . obtain⟨q,d,f⟩:=a.cmb _ _ g;exact⟨q,by omega,f⟩
 . obtain⟨g,l⟩:=mC o;exact a.lead u (Hc (IG l g k) fun i=>by grind) n
 . rw[a.piv.2];refine⟨fun⟨d,f,h3⟩=>⟨d,by omega,h3⟩,fun⟨d,f,h3⟩=>⟨d, ?_,h3⟩⟩;refine qM fun a=>h3 ?_
   rw[show b.toNat=j from by omega];exact k
def FZ.add (g:FZ c R T j G P) (h:XF c R T j G v) (V:v≠ []) (E:G (Im v)=none) {G':Int->Option (List D1)} (o:∀i,G' i=if i=Im v then some v else G i):FZ c R T (j+1) G' (P++ [(j:Int)]):=by
 obtain⟨W,s,t,u,aa⟩:=Jz h.can V;have F:=h.rng _ W;have F:0<=Im v/\Im v<R:=F;have Y:¬fI c j (c j):=fun hd=>by
  have a0:fI c j (A5 v):=Hc (IG hd (-1) h.sp) fun i=>by grind
  obtain⟨k,w,d,D,r⟩:=g.lead _ a0 ⟨Im v,by rw[s];exact t⟩;have x:¬k<Im v:=fun a=>D (u k a)
  have l:¬Im v<k:=fun a=>t (by rw[<-s];exact r _ a)
  rw[show k=Im v from by omega,E]at d;cases d
 have Q:∀k w,G k=some w->G' k=some w:=fun k w a=>by
  rw[o,qH (fun e=>by rw[e,E]at a;cases a)];exact a
 refine⟨fun k w a=> ?_,fun k w a=> ?_,fun H a1 Z=> ?_, ?_,fun b=> ?_⟩
 . rw[o]at a;split at a
   . rename_i O;cases a;subst O;exact⟨F.1,F.2,h.can,V,rfl,h.rng,h.sz,Hc (IG (B4q (c:=c) (j:=j)) (-1) (A0g h.sp)) fun i=>by grind⟩
   . obtain⟨a2,d,a4,a6,a5,a7,a9,a8⟩:=g.key _ _ a;exact⟨a2,d,a4,a6,a5,a7,a9,A0g a8⟩
 . rw[o]at a;split at a
   . rename_i O;cases a;subst O;obtain⟨n,ab,a3,X⟩:=h.st;refine⟨j,rN _,A1j X Q (g1u fun N=>t ?_)⟩;have:=a3 (Im v).toNat N;rw[show(((Im v).toNat:Nat):Int)=Im v from by omega]at this;rw[<-s];exact this
   . obtain⟨q,x,l⟩:=g.cmb _ _ a;exact⟨q,by omega,A1j l Q (qR _)⟩
 . obtain⟨f,M⟩:=mC a1;have l:fI c j fun i=>H i-f*A5 v i:=Hc (IG M f h.sp) fun i=>by grind
   by_cases I:f=0
   . subst I;obtain⟨k,w,d,D,r⟩:=g.lead H (Hc l fun i=>by grind) Z;refine⟨k,w, ?_,D,r⟩;rw[o,qH (fun e=>by rw[e,E]at d;cases d)];exact d
   . by_cases B:∃i,H i-f*A5 v i≠0
     . obtain⟨k,w,d,D,r⟩:=g.lead _ l B;have U:k≠Im v:=fun e=>by rw[e,E]at d;cases d
       rcases g3t U with a|a
       . refine⟨k,w,by rw[o,qH U];exact d,fun e=>D ?_,fun i A=> ?_⟩
         . rw[e,u k a];grind
         . have:=r i A;rw[u i (by omega)]at this;grind
       . refine⟨Im v,v,by rw[o,qL rfl],fun e=> ?_,fun i A=> ?_⟩
         . have y:=r _ a;rw[e,s]at y;have:f*rv (gx D6 v 0).2=0:=by grind
           rcases yC.1 this with J|J
           . exact I J
           . exact t J
         . have:=r i (by omega);rw[u i A]at this;grind
     . have B:∀i,H i=f*A5 v i:=fun i=>by
        have:=qM fun N=>B ⟨i,N⟩
        grind
       refine⟨Im v,v,by rw[o,qL rfl], ?_,fun i A=>by rw[B,u i A,sU]⟩;rw[B,s];exact fun e=>(yC.1 e).elim I t
 . refine tA.2 ⟨g.piv.1,wS _ _,fun f M b z=> ?_⟩;rw[qW]at z;have:=((g.piv.2 f).1 M).2.1;show f<b;omega
 . rw[qZ,qW,g.piv.2];refine⟨fun z=> ?_,fun⟨x,l,y⟩=> ?_⟩
   . rcases z with⟨x,l,y⟩ |rfl
     . exact⟨x,by omega,y⟩
     . exact⟨qF _,by omega,by rw[qT];exact Y⟩
   . by_cases z:b=(j:Int)
     . exact .inr z
     . exact .inl ⟨x,by omega,y⟩
def FZ.start:FZ c R T 0 (fun _=>none) []:=
 ⟨fun k w h=>(by cases h),fun k w h=>(by cases h),fun u ⟨x,hx⟩ ⟨i,hi⟩=>absurd (hx i) hi,List.Pairwise.nil,fun b=>⟨fun h=>(by cases h),fun⟨h1,h2,_⟩=>by omega⟩⟩
end
def UV {f:Nat->Rat} {m:Nat} :∀ {n:Nat},m<=n->(∀k,m<=k->k<n->f k=0)->C2 n f=C2 m f
 |0,h,_=>by rw[g4p.1 h]
 |n+1,h,c=>by
  rcases sD m (n+1)with a|a
  . show C2 n f+f n= _;rw[UV (by omega) fun k d b=>c k d (by omega),c n (by omega) (by omega),rL]
  . rw[Nat.le_antisymm h a]
def B2l {m:N7} {cs:List (List D1)} (A:spF m cs) {b:Nat} (v:b<m.2.1.toNat) (H:0<=m.1):iT m.1.toNat m.2.1.toNat (el m) b↔fI (fun k=>A5 (cs.getD k [])) b (A5 (cs.getD b [])):=by
 obtain⟨p,J,I,h⟩:=A;have z:G5 p ((m.1.toNat:Nat):Int):=by rwa[show((m.1.toNat:Nat):Int)=m.1 from by omega]
 obtain⟨M,s,G⟩:=Hf z;have r:∀k,k<m.2.1.toNat->∀i:Int,¬(0<=i/\i<m.1)->A5 (cs.getD k []) i=0:=fun k o i f=>D2 fun e he hei=>f (hei▸(h k (by omega)).2.1 e he)
 have B:∀i:Int,0<=i->i<m.1->∃a,a<m.1.toNat/\p.getD a 0=i:=fun i i0 i1=>by
  obtain⟨a,c,u⟩:=W2 (n:=m.1.toNat) (q:=ix p) (fun a c=>(s a c).2) G (j:=i.toNat) (by omega);exact⟨a,c,by rw[(s a c).1,u];omega⟩
 constructor
 . rintro⟨x,o,E,D⟩;refine⟨fun k=> -(x k/x b),fun i=> ?_⟩;by_cases f:0<=i/\i<m.1
   . obtain⟨a,c,rfl⟩:=B i f.1 f.2;have d:=o a c;rw[UV (m:=b+1) (by omega) fun k l w=>by rw[D k (by omega),sU]]at d;have d:C2 b (fun k=>el m a k*x k)+el m a b*x b=0:=d;show A5 (cs.getD b []) (p.getD a 0)=C2 b fun k=> -(x k/x b)*A5 (cs.getD k []) (p.getD a 0)
     rw[(h b (by omega)).2.2 a c,B7 (g:=fun k=> -(1/x b)*(el m a k*x k)) fun k l=>by rw[(h k (by omega)).2.2 a c,uA,uA];grind,Hs];have t:C2 b (fun k=>el m a k*x k)= -(el m a b*x b):=by grind
     rw[t,uA,uC,g4r,Rat.mul_neg,Rat.neg_neg,xZ,tY,wK _ E,uB]
   . show A5 (cs.getD b []) i=C2 b fun k=> -(x k/x b)*A5 (cs.getD k []) i
     rw[r b v i f,T6 fun k l=>by rw[r k (by omega) i f,sU]]
 . rintro⟨y,F⟩;refine⟨fun k=>if k<b then y k else if k=b then -1 else 0,fun a c=> ?_,by show(if b<b then y b else if b=b then(-1:Rat)else 0)≠0;rw[qH (tT b),qL rfl];decide,fun k o=>by show(if k<b then y k else if k=b then(-1:Rat)else 0)=0;rw[qH (by omega),qH (by omega)]⟩;rw[UV (m:=b+1) (by omega) fun k l w=>by show el m a k*(if k<b then y k else if k=b then(-1:Rat)else 0)=0;rw[qH (by omega),qH (by omega),sU]];show C2 b (fun k=>el m a k*(if k<b then y k else if k=b then -1 else 0))+el m a b*(if b<b then y b else if b=b then -1 else 0)=0;have d:=F (p.getD a 0);rw[(h b (by omega)).2.2 a c]at d;rw[qH (tT b),qL rfl,d,B7 (g:=fun k=>y k*A5 (cs.getD k []) (p.getD a 0)) fun k l=>by rw[qL l,(h k (by omega)).2.2 a c,xZ]];grind
def B4a {P:List Int} {j:Nat} (d:P.Pairwise (· < ·)) (c:∀b∈P,0<=b/\b<(j:Int)):P.length<=j:=by
 have:=oY (a:=P) (b:=(List.range j).map Int.ofNat) (d.imp fun h=>Int.ne_of_lt h) fun b hb=>tS.2 ⟨b.toNat,yO.2 (by have:=c b hb;omega),by have:=c b hb;show((b.toNat:Nat):Int)=b;omega⟩
 simpa using this
def C0e (R:Int) (v:List D1):Nat:=if v= []then 0 else(R-Im v).toNat
def Oe (x:A4 P3.args) (au:awf P3.args x) (O:P3.pre x):Gf x:=by
 obtain⟨⟨R,C,D⟩,_⟩:=x;change Int at R C;change List (List D1)at D;have a2:HE (R,C,D):=Jf au.1.2.2.2;obtain⟨s,J,y,aq,av⟩:∃s:Nat,1<=s/\O5 s (R,C,D)/\s<=K1/\(A6 (R,C,D)->8*tB s (C.toNat+R.toNat) R.toNat+8<=K1):=O;simp only[Gf,iB,H4,Ml,fX];refine⟨trivial, ?_⟩;rintro⟨V,_⟩ _ t;simp only at t⊢;by_cases o:A6 (R,C,D)
 case neg=>
  rw[rD o]at t;subst t;exact⟨fun _=>⟨fun _=>⟨by trivial,by trivial⟩,fun h=>absurd h o⟩,fun h=>(by cases h)⟩
 rw[rH o]at t;subst t;refine⟨fun h=>(by cases h),fun _=>⟨⟨o,fun v o e a=>G7 (y v o e a) aq⟩, ?_⟩⟩;have bi:=av o;obtain⟨a5,b1,b2,b3,_,_⟩:=id o;simp only at a5 b1 b2 b3;rintro⟨f,_⟩ _ H;change List (List D1)at f;have H:spF (R,C,D) f:=H;simp only;obtain⟨p,O,af,G⟩:=id H;simp only at O af G;have ao:G5 p ((R.toNat:Nat):Int):=by rwa[show((R.toNat:Nat):Int)=R from by omega]
 obtain⟨bl,I,a3⟩:=Hf ao;have ag:∀j,j<C.toNat->FV s (f.getD j []):=fun j l e a=>by
  obtain⟨F,A,W⟩:=G j (by omega);obtain⟨B,E,Q⟩:=W2 (n:=R.toNat) (q:=ix p) (fun B E=>(I B E).2) a3 (j:=e.1.toNat) (by have:=A e a;omega);have N:=W B E;rw[(I B E).1,Q,show((e.1.toNat:Nat):Int)=e.1 from by have:=A e a;omega,H7 F.1 a]at N;rw[(F.2 e a).2,N];exact Xu (MP o a2 y J _ _)
 have ap:∀j,j<C.toNat->∀i:Nat,i<R.toNat->qs s (A5 (f.getD j []) (i:Int)):=fun j l i hi=>by
  obtain⟨B,E,Q⟩:=W2 (n:=R.toNat) (q:=ix p) (fun B E=>(I B E).2) a3 (j:=i) hi;have N:=(G j (by omega)).2.2 B E;rw[(I B E).1,Q]at N;rw[N];exact MP o a2 y J _ _
 have an:Io (C.toNat+R.toNat) R.toNat (OO C.toNat fun k=>A5 (f.getD k [])) (tB s (C.toNat+R.toNat) R.toNat):=TK (by omega) fun i j hi l=>by
  unfold OO;split
  . rename_i h;exact ap i h j l
  . split
    . exact pU J
    . exact K5 J
 have ad:1<=tB s (C.toNat+R.toNat) R.toNat:=g2i 1 _;have ae:s<=tB s (C.toNat+R.toNat) R.toNat+tB s (C.toNat+R.toNat) R.toNat\/R.toNat=0:=by
  rcases vD R.toNat with h|h
  . exact .inr h
  . refine .inl (qX ?_ (g2i _ _));unfold tB;have B:=rT s (show 1<=(C.toNat+R.toNat)*R.toNat+1 by omega);have E:=uZ (show 1<=C.toNat+R.toNat by omega) (qR (s*((C.toNat+R.toNat)*R.toNat+1)+1));omega
 generalize tB s (C.toNat+R.toNat) R.toNat=T at*;refine⟨fun p=>0<=p.2.1/\p.2.1<=(f.length:Int)/\FZ (fun k=>A5 (f.getD k [])) R T p.2.1.toNat (fun k=>I6 (.int .i64) k p.2.2.1) p.1,fun p=>((f.length:Int)-p.2.1).toNat,⟨qI _,qF _,FZ.start⟩, ?_⟩;rintro⟨P,j,g,_⟩ _ ⟨U,aw,r⟩;change List Int at P;change Int at j;change List (Int×List D1)at g;simp only at U aw r⊢;refine⟨fun l=> ?_,fun l=> ?_⟩
 . have l:=qA l;have a1:j.toNat<C.toNat:=by omega
   refine⟨fun q=>FZ (fun k=>A5 (f.getD k [])) R T (j.toNat+1) (fun k=>I6 (.int .i64) k q.2.1) q.1,⟨⟨U,l⟩,fun v=>XF (fun k=>A5 (f.getD k [])) R T j.toNat (fun k=>I6 (.int .i64) k g) v.1/\(v.1= []\/I6 (.int .i64) (Im v.1) g=none),⟨fun v=>XF (fun k=>A5 (f.getD k [])) R T j.toNat (fun k=>I6 (.int .i64) k g) v.1,fun v=>C0e R v.1, ?_, ?_⟩, ?_⟩, ?_⟩
   . rw[Nn U l];obtain⟨F,A,_⟩:=G j.toNat (by omega);exact XF.start F A (fun e a=>G7 (ag _ a1 e a) (ae.resolve_right fun bc=>by have:=A e a;omega)) fun i=>rfl
   . rintro⟨v,_⟩ _ c;change List D1 at v;simp only at c⊢;refine⟨fun d=> ?_,fun d=>⟨c, .inl ?_⟩⟩
     . have d:=qA d;have z:v≠ []:=fun e=>by rw[e]at d;simp at d
       obtain⟨X,a8,b4,b5,b6⟩:=Jz c.can z;have bh:0<=Im v/\Im v<R:=c.rng _ X;show(0<=0/\ _)/\((!(I6 (.int .i64) (Im v) g).isSome)=true-> _)/\((!(I6 (.int .i64) (Im v) g).isSome)=false-> _);refine⟨⟨qI _,d⟩,fun h=>⟨c, .inr ?_⟩,fun h=> ?_⟩
       . cases u:I6 (.int .i64) (Im v) g with
         |none=>rfl
         |some w=>rw[u]at h;cases h
       . cases u:I6 (.int .i64) (Im v) g with
         |none=>rw[u]at h;cases h
         |some w=>
          have am:I6 (.int .i64) (gx D6 v 0).1 g=some w:=u;rw[am];simp only[vO];obtain⟨bj,bk,B,a6,bm,a7,W,bn⟩:=r.key _ _ u;obtain⟨a9,aa,ab,b7,b8⟩:=Jz B a6;have be:K1=549755813888:=rfl;have Z:1<=T+T:=by omega
          have az:=c.sz _ X;have b0:=W _ a9;have ax:qs (T+T) (rv (gx D6 v 0).2):=by rw[<-a8];exact cqs Z c.can c.sz _
          have ay:qs (T+T) (rv (gx D6 w 0).2):=by rw[<-aa];exact cqs Z B W _
          have a4:=Xm ax ay;have aj:v.length<=100000:=by
           have:=Be (v:=v) (n:=R) ⟨c.can.1,fun e a=>⟨(c.rng e a).1,(c.rng e a).2,(c.can.2 e a).1⟩⟩;omega
          have ak:w.length<=100000:=by
           have:=Be (v:=w) (n:=R) ⟨B.1,fun e a=>⟨(a7 e a).1,(a7 e a).2,(B.2 e a).1⟩⟩;omega
          refine(fun y=>⟨⟨qI _,d⟩,⟨qI _,by have:=uP.2 a6;omega⟩,y,y⟩) ?_;refine⟨⟨Z7 az (by omega),Z7 b0 (by omega)⟩, ?_⟩;rintro⟨ba,b,_⟩ _ ⟨_,E⟩;simp only at E⊢;obtain⟨E,_⟩:=E ab;rw[E];refine⟨J6 a4 (by omega), ?_⟩;rintro⟨bb,_⟩ _ N;simp only at N⊢;rw[H8]at N;rw[N,H8];refine⟨⟨⟨c.can.1,fun e a=>G7 (c.sz e a) (by omega),aj⟩,Xu (F8 (pT a4) (by omega)),⟨B.1,fun e a=>G7 (W e a) (by omega),ak⟩⟩, ?_⟩;rintro⟨V,_⟩ _ t;change List D1 at V;simp only at t⊢;obtain⟨ac,ah⟩:=c.step an ad a1 r z u t;refine⟨ac, ?_⟩;unfold C0e;rw[qH z];by_cases Q:V= []
          . rw[qL Q];omega
          . rw[qH Q];have:=ah Q;omega
     . have d:=qB d;exact qN (by omega)
   . rintro⟨v,_⟩ _ ⟨c,a0⟩;change List D1 at v;simp only at c a0⊢;refine⟨fun d=> ?_,fun d=> ?_⟩
     . have d:=qA d;have z:v≠ []:=fun e=>by rw[e]at d;simp at d
       have bf:=B4a r.piv.1 fun b M=>⟨((r.piv.2 b).1 M).1,((r.piv.2 b).1 M).2.1⟩
       refine⟨⟨qI _,d⟩,⟨by rw[rA];omega,by rw[rA];omega⟩, ?_⟩;have:=r.add c z (a0.resolve_left z) (G':=fun k=>I6 (.int .i64) k (Ev (.int .i64) (Im v) v g)) fun i=>KU (Im v) i v g
       rw[show((j.toNat:Nat):Int)=j from by omega]at this;exact this
     . have d:=qB d;have ar:v= []:=qN (by omega);subst ar;exact r.skip c
   . rintro⟨P2,b9,_⟩ _ Y;simp only at Y⊢;rw[wv (by omega)];refine⟨⟨by omega,by omega, ?_⟩,by omega⟩;rw[show(j+1).toNat=j.toNat+1 from by omega];exact Y
 . have l:=qB l;refine⟨fun h=>absurd o h,fun _=>⟨⟨r.piv.1,fun b=> ?_⟩,by trivial⟩⟩;rw[r.piv.2];have ai:(j.toNat:Int)=C:=by omega
   rw[ai];exact g2o fun bg=>g2o fun M=>g4t (B2l H (by show b.toNat<C.toNat;omega) a5).symm
def QX:An:= {join:= [(18,⟨[1,7,9,11,12],[1],[(10,false,vI)],[],[(0, .rows tQ 56 31)]⟩),(10,⟨[1,7,12],[],[(9,false,[.own (.int .i64) 3]),(10,false,vI),(11,false,vI)],[],[(0, .rows tQ 56 31)]⟩)],loop:= [(3,⟨[0,1],[],[(7,false,[.ownR tQ 56 31]),(8,false,vI)],[],[]⟩),(12,⟨[1,7,9,10,11,12],[1],[(13,false,vI)],[],[(0, .rows tQ 56 31)]⟩),(23,⟨[1,7,9,10,11,12,14,15],[1,5],[(16,false,vI)],[],[(0, .rows tQ 56 31)]⟩),(19,⟨[1,7,9,10,11,12],[1],[(14,false,vI)],[],[(0, .rows tQ 56 31)]⟩),(9,⟨[1,7],[],[(9,false,[.own (.int .i64) 3]),(10,false,vI),(11,false,vI),(12,false,vI)],[],[(0, .rows tQ 56 31)]⟩)],plan:= [(16,[7,11],[13,15],false,(pZ9 0 7 (.q 7 (pZ9 8 3 (.q 11 (.p 12 (.e 13 (.p 14 (.e 15 .done))))))))),(21,[3,6,10,13],[16],true,(pZ9 0 3 (.q 3 (.p 4 (.p 5 (.q 6 (pZ9 7 3 (.q 10 (.p 11 (.p 12 (.q 13 (.or 14 (.e 15 (.e 16 .done)) (.e 15 (.e 14 (.e 16 .done))))))))))))))),(25,[3,8,11,12,16,19],[23],true,(pZ9 0 3 (.q 3 (pZ9 4 4 (.q 8 (.p 9 (.p 10 (.q 11 (.q 12 (pZ9 13 3 (.q 16 (.p 17 (.p 18 (.q 19 (.e 20 (.e 21 (.p 22 (.e 23 .done))))))))))))))))))]}
abbrev C1k:=List Int×Int×Int×Int×List (List QQ)×Unit
abbrev C1l:=List Int×Int×Int×List (List QQ)×Unit
def Yy:A4 Dv.args->Prop:=fun(x:A5u)=>let M:=(140737488355328:Nat);let C:=(x.1.length:Int);let h:=(1:Int);let f:=(0:Int);∃(I:A5u->Prop),∃(g: _->Nat),I ([],f,())/\∀(p:A5u),let X:=(gx [] x.1 p.2.1);tQ.sl.sl.wf p.1/\(Ty.int i64).wf p.2.1/\True->I p->(iB (decide (p.2.1<C)) ((f<=p.2.1/\p.2.1<C)/\(((0:Nat)+X.length)*(56:Nat)<=M/\(0:Nat)+X.length<=9223372036854775807)/\((p.1.length+ [gx [] x.1 p.2.1].length)*(24:Nat)<=M/\p.1.length+ [gx [] x.1 p.2.1].length<=9223372036854775807)/\I (p.1++ [gx [] x.1 p.2.1],i64.wrap (p.2.1+h),())/\g (p.1++ [gx [] x.1 p.2.1],i64.wrap (p.2.1+h),())<g p) (∃(I:C1k->Prop),∃(g: _->Nat),I ([],h,f,f,p.1,())/\∀(Z:C1k),let N:=(decide (Z.2.2.2.1<x.2.1));let v:=(decide (Z.2.2.1<(Z.2.2.2.2.1.length:Int)));let e:=Z.2.2.2.1.toNat;let j:=Z.2.2.1.toNat;(Ty.int i64).sl.wf Z.1/\(Ty.int i64).wf Z.2.1/\(Ty.int i64).wf Z.2.2.1/\(Ty.int i64).wf Z.2.2.2.1/\Rs Z.2.2.2.2.1/\True->I Z->(iB (J5 N v false) (∃(J:C1l->Prop),(∃(I:Jk->Prop),∃(g: _->Nat),I (Z.2.2.1,Z.2.2.2.2.1,())/\∀(a:Jk),let Y:Prop:=(a.1≠Z.2.2.1);let H:=(i64.wrap (a.1+h),a.2.1,());let w:=(List.set a.2.1 a.1.toNat (List.getD a.2.1 j []));let k:=(List.getD a.2.1 a.1.toNat []);let b:=(a.2.1.length:Int);let U:Prop:=(f<=a.1/\a.1<b);let D:Prop:=(a.1<b);(Ty.int i64).wf a.1/\Rs a.2.1/\True->I a->(decide D=true->f<=a.1/\a.1<b)/\(decide D=true->f<=Z.2.2.2.1/\Z.2.2.2.1<(↑k.length:Int))/\(decide D=true->D9 (k.getD e dQ))/\∀(r:E1),(decide D=true->(Q8 r.1/\True)/\r.1=(rv (k.getD e dQ)).num.sign)->(iB (J5 (decide D) (decide (r.1=f)) false) (I H/\g H<g a) ((iB (decide (a.1=b)) (J (Z.1,Z.2.1,Z.2.2.1,a.2.1,())) (∃(J_1:Jk->Prop),((iB (decide Y) ((f<=Z.2.2.1/\Z.2.2.1<b)/\U/\U/\(Int.toNat a.1=Int.toNat a.1/\Int.toNat a.1≠Int.toNat Z.2.2.1)/\(f<=Z.2.2.1/\Z.2.2.1<(↑w.length:Int))/\Int.toNat Z.2.2.1=Int.toNat Z.2.2.1/\J_1 (i64.wrap (-Z.2.1),w.set j k,())) (J_1 (Z.2.1,a.2.1,()))))/\∀(o:Jk),(Ty.int i64).wf o.1/\Rs o.2.1/\True->J_1 o->∃(I:Jk->Prop),∃(g: _->Nat),I (i64.wrap (Z.2.2.1+h),o.2.1,())/\∀(d:Jk),let t:=(d.2.1.length:Int);let l:=(List.getD d.2.1 j []);let k:=d.1.toNat;let n:=(List.getD d.2.1 k []);let S:Prop:=(D9 (n.getD e dQ)/\D9 (l.getD e dQ));let R:=(rv (n.getD e dQ)/rv (l.getD e dQ));(Ty.int i64).wf d.1/\Rs d.2.1/\True->I d->(iB (decide (d.1<t)) ((f<=d.1/\d.1<t)/\(f<=Z.2.2.2.1/\Z.2.2.2.1<(↑n.length:Int))/\(f<=Z.2.2.1/\Z.2.2.1<t)/\(f<=Z.2.2.2.1/\Z.2.2.2.1<(↑l.length:Int))/\(S/\H4 fun r=>(rv (l.getD e dQ)≠(0:Rat)->r.1=rc R)->∃(I_1:Jk->Prop),∃(t: _->Nat),I_1 (f,d.2.1,())/\∀(p:Jk),let K:=(i64.wrap (d.1+h),p.2.1,());let F:=(List.getD p.2.1 j []);let A:=p.1.toNat;let y:=(p.2.1.length:Int);let V:Prop:=(f<=d.1/\d.1<y);let u:=(List.getD p.2.1 k []);let O:Prop:=(f<=p.1/\p.1<(↑u.length:Int));(Ty.int i64).wf p.1/\Rs p.2.1/\True->I_1 p->(iB (decide (p.1<x.2.1)) (V/\V/\O/\(f<=Z.2.2.1/\Z.2.2.1<y)/\(f<=p.1/\p.1<(↑F.length:Int))/\(D9 r.1/\D9 (F.getD A dQ))/\H4 fun a=>a.1=rc (rv r.1*rv (F.getD A dQ))->(D9 (u.getD A dQ)/\D9 a.1)/\H4 fun r=>let s:=(i64.wrap (p.1+h),List.set p.2.1 k (u.set A r.1),());r.1=rc (rv (u.getD A dQ)-rv a.1)->O/\I_1 s/\t s<t p) (I K/\g K<g d)))/\S/\H4 fun r=>(rv (l.getD e dQ)≠(0:Rat)->r.1=rc R)->∃(I_1:Jk->Prop),∃(t: _->Nat),I_1 (f,d.2.1,())/\∀(p:Jk),let L:=(i64.wrap (d.1+h),p.2.1,());let G:=(List.getD p.2.1 j []);let B:=p.1.toNat;let z:=(p.2.1.length:Int);let W:Prop:=(f<=d.1/\d.1<z);let m:=(List.getD p.2.1 k []);let Q:Prop:=(f<=p.1/\p.1<(↑m.length:Int));(Ty.int i64).wf p.1/\Rs p.2.1/\True->I_1 p->(iB (decide (p.1<x.2.1)) (W/\W/\Q/\(f<=Z.2.2.1/\Z.2.2.1<z)/\(f<=p.1/\p.1<(↑G.length:Int))/\(D9 r.1/\D9 (G.getD B dQ))/\H4 fun a=>a.1=rc (rv r.1*rv (G.getD B dQ))->(D9 (m.getD B dQ)/\D9 a.1)/\H4 fun r=>let u:=(i64.wrap (p.1+h),List.set p.2.1 k (m.set B r.1),());r.1=rc (rv (m.getD B dQ)-rv a.1)->Q/\I_1 u/\t u<t p) (I L/\g L<g d))) (((Z.1.length+ [Z.2.2.2.1].length)*(8:Nat)<=M/\Z.1.length+ [Z.2.2.2.1].length<=9223372036854775807)/\J (Z.1++ [Z.2.2.2.1],o.1,i64.wrap (Z.2.2.1+h),d.2.1,()))))))))/\∀(p:C1l),let q:=(p.1,p.2.1,p.2.2.1,i64.wrap (Z.2.2.2.1+h),p.2.2.2.1,());(Ty.int i64).sl.wf p.1/\(Ty.int i64).wf p.2.1/\(Ty.int i64).wf p.2.2.1/\Rs p.2.2.2.1/\True->J p->I q/\g q<g Z) (∃(E:Nat->Nat->Rat),∃(t:Nat),∃(c:Nat),∃(P:List Nat),Qz x.1.length x.2.1.toNat E Z.2.2.2.2.1/\MG x.1.length x.2.1.toNat (aF x.1) E t c P/\(c=x.2.1.toNat\/t=x.1.length)/\Z.1=List.map Int.ofNat P/\(Z.2.1=h\/Z.2.1=(-1:Int))/\(x.2.1.toNat=x.1.length->det x.2.1.toNat (aF x.1)=(↑Z.2.1:Rat)*det x.2.1.toNat E)/\∀(T:Nat),(1:Nat)<=T->Io x.1.length x.2.1.toNat (aF x.1) T->∀(i j:Nat),i<x.1.length->j<x.2.1.toNat->qs (T+T) (E i j)))))
def B0n (q:Rat):(rv (rc q)).num.sign=0↔q=0:=by
 rw[H8,xE];exact⟨fun h=>zH.1 h,fun h=>by rw[h];rfl⟩
set_option maxHeartbeats 2000000 in
def JI (x:A4 Dv.args) (_:awf Dv.args x) (bk:Dv.pre x):Yy x:=by
 obtain⟨B,M,_⟩:=x;change List (List C7)at B;change Int at M;obtain⟨c5,c1,cb,az,T,av,bg,ar⟩:eT M B:=bk;simp only[Yy,iB,H4];have hK:K1=549755813888:=rfl;rw[hK]at bg;generalize c6:aF B=A at*;generalize c7:M.toNat=C at*;generalize c8:B.length=R at*;have bj:∀i,i<R->(B.getD i []).length=C:=fun i g=>(az.2 i g).1
 refine⟨fun p=>0<=p.2.1/\p.2.1<=(R:Int)/\p.1=B.take p.2.1.toNat,fun p=>((R:Int)-p.2.1).toNat,⟨qI _,qF _,rfl⟩, ?_⟩;rintro⟨e,i,_⟩ _ ⟨b5,bo,X⟩;change List (List C7)at e;change Int at i;simp only at b5 bo X⊢;refine⟨fun h=> ?_,fun h=> ?_⟩
 . have h:=qA h;have g:i.toNat<R:=by omega
   have V:gx ([]:List C7) B i=B.getD i.toNat []:=rfl;have ax:=bj i.toNat g;have ae:e.length<=R:=by rw[X,qY];omega
   rw[wv (by omega)];refine⟨⟨b5,by omega⟩,⟨by rw[V,ax];omega,by rw[V,ax];omega⟩,⟨by simp only[rA];omega,by simp only[rA];omega⟩,⟨by omega,by omega, ?_⟩,by omega⟩;rw[X,V,show(i+1).toNat=i.toNat+1 from by omega,rR,qE,qS (by omega)];rfl
 have h:=qB h;have ae:e=B:=by rw[X,qQ (by omega)]
 subst ae;clear X h;refine⟨fun p=>∃E P,0<=p.2.2.1/\p.2.2.1<=(R:Int)/\0<=p.2.2.2.1/\p.2.2.2.1<=(C:Int)/\Qz R C E p.2.2.2.2.1/\MG R C A E p.2.2.1.toNat p.2.2.2.1.toNat P/\Vf R C A E p.2.2.1.toNat (p.2.2.1.toNat+1)/\p.1=P.map Int.ofNat/\(p.2.1=1\/p.2.1= -1)/\GV R C A E p.2.1,fun p=>((C:Int)-p.2.2.2.1).toNat,⟨A,[],qI _,qF _,qI _,qF _,az,MG.start A,Vf.start A,rfl, .inl rfl,GV.start⟩, ?_⟩;rintro⟨b6,s,t,c,e,_⟩ _ ⟨E,P,Q,ak,a0,b7,f,d,l,Y,a6,y⟩;change List Int at b6;change Int at s t c;change List (List C7)at e;simp only at Q ak a0 b7 f d l Y a6 y⊢;have ae:e.length=R:=f.1;simp only[H9,qC,rS,wG,rP];refine⟨fun⟨a9,aa⟩=> ?_,fun h=> ?_⟩
 case refine_2=>
  refine⟨E,t.toNat,c.toNat,P,f,d,by omega,Y,a6,fun e=>y (by omega),fun T' an am i G g J=>l.qs d am an (.inl rfl) g J⟩
 have F:t.toNat<R:=by omega
 have w:c.toNat<C:=by omega
 have z:∀ {i G:Nat},i<R->G<C->qs (T+T) (E i G):=fun g J=>l.qs d ar av (.inl rfl) g J
 refine⟨fun p=>∃E P,0<=p.2.2.1/\p.2.2.1<=(R:Int)/\Qz R C E p.2.2.2.1/\MG R C A E p.2.2.1.toNat (c.toNat+1) P/\Vf R C A E p.2.2.1.toNat (p.2.2.1.toNat+1)/\p.1=P.map Int.ofNat/\(p.2.1=1\/p.2.1= -1)/\GV R C A E p.2.1, ?_, ?_⟩
 case refine_2=>
  rintro⟨cc,c3,c4,D,_⟩ _ ⟨E',P',H,U,o,am,an,ao,ap,aq⟩;change Int at c3 c4;simp only at H U o am an ao ap aq⊢;rw[wv (by omega)];exact⟨⟨E',P',H,U,by omega,by omega,o,by rw[show(c+1).toNat=c.toNat+1 from by omega];exact am,an,ao,ap,aq⟩,by omega⟩
 refine⟨fun p=>t<=p.1/\p.1<=(R:Int)/\p.2.1=e/\∀r:Nat,t.toNat<=r->(r:Int)<p.1->E r c.toNat=0,fun p=>((R:Int)-p.1).toNat,⟨qI _,ak,rfl,fun r N W=>by omega⟩, ?_⟩;rintro⟨k,a8,_⟩ _ ⟨bq,bs,aw,a7⟩;change Int at k;change List (List C7)at a8;simp only at bq bs aw a7⊢;subst aw;have a3:k<(R:Int)->(a8.getD k.toNat []).length=C/\(a8.getD k.toNat []).getD c.toNat dQ=rc (E k.toNat c.toNat):=fun O=>⟨(f.2 k.toNat (by omega)).1,(f.2 k.toNat (by omega)).2 c.toNat w⟩
 refine⟨fun h=>⟨by omega,h⟩,fun h=>⟨a0,by rw[(a3 (by omega)).1];omega⟩,fun h=>by rw[(a3 (by omega)).2];exact J6 (z (by omega) w) (by omega), ?_⟩;rintro⟨r,_⟩ u;change Int at r;simp only at u⊢;have ag:k<(R:Int)->(r=0↔E k.toNat c.toNat=0):=fun O=>by
  rw[(u (by omega)).2,(a3 O).2];exact B0n _
 refine⟨fun⟨N,W⟩=> ?_,fun a2=>⟨fun N=> ?_,fun N=> ?_⟩⟩
 . rw[wv (by omega)];have O:k<(R:Int):=by omega
   refine⟨⟨by omega,by omega,trivial,fun Z ai bu=> ?_⟩,by omega⟩;by_cases e:(Z:Int)<k
   . exact a7 Z ai e
   . have:Z=k.toNat:=by omega
     rw[this];exact(ag O).1 W
 . exact⟨E,P,Q,ak,f,d.skip w fun Z ai bu=>a7 Z ai (by omega),l,Y,a6,y⟩
 have O:k<(R:Int):=by omega
 have a4:k.toNat<R:=by omega
 have bl:E k.toNat c.toNat≠0:=fun n=>by
  rcases a2 with a2|a2
  . omega
  . exact a2 ((ag O).2 n)
 refine⟨fun p=>(p.1=1\/p.1= -1)/\GV R C A (LS E t.toNat k.toNat) p.1/\Qz R C (LS E t.toNat k.toNat) p.2.1,⟨fun q=> ?_,fun q=> ?_⟩, ?_⟩
 . have a5:t.toNat≠k.toNat:=fun n=>q (by omega)
   refine⟨⟨Q,by omega⟩,⟨by omega,by omega⟩,⟨by omega,by omega⟩,⟨trivial,Ne.symm a5⟩,⟨Q,by rw[qP];omega⟩,trivial, ?_, ?_,A5o f F a4⟩
   . rw[wv (by omega)];omega
   . rw[wv (by omega)];exact y.swap F a4 a5
 . have:k=t:=by
    refine qM fun n=> ?_
    exact q n
   rw[this,B0z];exact⟨a6,y,f⟩
 have ad:=d.swap (k:=k.toNat) (by omega) a4;have ab:=l.swap (k:=k.toNat) (by omega) a4;have af:LS E t.toNat k.toNat t.toNat c.toNat≠0:=by unfold LS;rw[qL rfl];exact bl
 generalize LS E t.toNat k.toNat=E2 at ad ab af⊢;clear ag a3 z a7 l d y f;rintro⟨aj,b9,_⟩ _ ⟨b3,ac,ah⟩;change Int at aj;change List (List C7)at b9;simp only at b3 ac ah⊢;rw[wv (a:=t+1) (by omega)];refine⟨fun p=>t<p.1/\p.1<=(R:Int)/\∃E,Qz R C E p.2.1/\gA R C A E t.toNat c.toNat P p.1.toNat/\Vf R C A E t.toNat p.1.toNat/\GV R C A E aj,fun p=>((R:Int)-p.1).toNat,⟨by omega,by omega,E2,ah,by rw[show(t+1).toNat=t.toNat+1 from by omega];exact ad.begin F w af,by rw[show(t+1).toNat=t.toNat+1 from by omega];exact ab,ac⟩, ?_⟩;clear ad ab af ac ah;rintro⟨b,a1,_⟩ _ ⟨bv,bw,E,f,d,l,y⟩;change Int at b;change List (List C7)at a1;simp only at bv bw f d l y⊢;have c9:=f.1;refine⟨fun q=> ?_,fun q=> ?_⟩
 case refine_2=>
  have v:b.toNat=R:=by omega
  have am:b6.length=t.toNat:=by rw[Y,sR,d.len]
  rw[v]at d l;refine⟨⟨by simp only[rA];omega,by simp only[rA];omega⟩,E,P++ [c.toNat],by omega,by omega,f, ?_, ?_, ?_,b3,y⟩
  . rw[show(t+1).toNat=t.toNat+1 from by omega];exact d.finish
  . rw[show(t+1).toNat=t.toNat+1 from by omega];exact l.finish
  . rw[vG,Y];congr 1;show [c]= [Int.ofNat c.toNat];rw[show Int.ofNat c.toNat=c from by show((c.toNat:Nat):Int)=c;omega]
 have v:b.toNat<R:=by omega
 have z:∀ {i G:Nat},i<R->G<C->qs (T+T) (E i G):=fun g J=>l.qs d.1 ar av (.inr ⟨d.tlt,d.clt,d.pv,d.done⟩) g J
 obtain⟨bx,bz⟩:=f.2 b.toNat v;obtain⟨c0,c2⟩:=f.2 t.toNat F;have V:(a1.getD b.toNat []).getD c.toNat dQ=rc (E b.toNat c.toNat):=bz c.toNat w;have b8:(a1.getD t.toNat []).getD c.toNat dQ=rc (E t.toNat c.toNat):=c2 c.toNat w;have bt:∀r:C7×Unit,(rv (rc (E t.toNat c.toNat))≠(0:Rat)->r.1=rc (rv (rc (E b.toNat c.toNat))/rv (rc (E t.toNat c.toNat))))->r.1=rc (E b.toNat c.toNat/E t.toNat c.toNat):=fun r u=>by
  rw[H8,H8]at u;exact u d.pv
 have b1:qs (4*T) (E b.toNat c.toNat/E t.toNat c.toNat):=F8 (Xm (z v w) (z F w)) (by omega);generalize bi:E b.toNat c.toNat/E t.toNat c.toNat=j at*;have b4:D9 (rc (E b.toNat c.toNat))/\D9 (rc (E t.toNat c.toNat)):=⟨J6 (z v w) (by omega),J6 (z F w) (by omega)⟩;have a5:t.toNat≠b.toNat:=by omega
 have bn:∀D,Qz R C (sbP E t.toNat b.toNat j C) D->Qz R C (bI E t.toNat b.toNat j) D:=fun D h=>VG h fun i G _ J=>by
  unfold sbP bI;by_cases g:i=b.toNat
  . rw[qL ⟨g,J⟩,qL g]
  . rw[qH (fun n=>g n.1),qH g]
 have bh:∀D,Qz R C (bI E t.toNat b.toNat j) D->t<b+1/\b+1<=(R:Int)/\∃E,Qz R C E D/\gA R C A E t.toNat c.toNat P (b+1).toNat/\Vf R C A E t.toNat (b+1).toNat/\GV R C A E aj:=fun D h=>by
  rw[show(b+1).toNat=b.toNat+1 from by omega];refine⟨by omega,by omega,_,h, ?_,l.step j (by omega) v,y.step j (by omega) v⟩;rw[<-bi];exact d.step (by omega) v
 rw[V,b8,wv (a:=b+1) (by omega)];have bp:∀r:C7×Unit,r.1=rc j->∀p:Int×List (List C7)×Unit,(0<=p.1/\p.1<=(C:Int)/\Qz R C (sbP E t.toNat b.toNat j p.1.toNat) p.2.1)->p.1<M->(0<=b/\b<(p.2.1.length:Int))/\(0<=p.1/\p.1<((p.2.1.getD b.toNat []).length:Int))/\(0<=t/\t<(p.2.1.length:Int))/\(0<=p.1/\p.1<((p.2.1.getD t.toNat []).length:Int))/\(p.2.1.getD b.toNat []).getD p.1.toNat dQ=rc (E b.toNat p.1.toNat)/\(p.2.1.getD t.toNat []).getD p.1.toNat dQ=rc (E t.toNat p.1.toNat):=fun r u p ⟨H,U,o⟩ b0=>by
  have hdC:p.1.toNat<C:=by omega
  have aq:=o.1;obtain⟨am,an⟩:=o.2 b.toNat v;obtain⟨ao,ap⟩:=o.2 t.toNat F;refine⟨⟨by omega,by omega⟩,⟨H,by rw[am];omega⟩,⟨Q,by omega⟩,⟨H,by rw[ao];omega⟩, ?_, ?_⟩
  . have:=an _ hdC;rw[show sbP E t.toNat b.toNat j p.1.toNat b.toNat p.1.toNat=E b.toNat p.1.toNat from by unfold sbP;rw[qH (fun n=>tT _ n.2)]]at this;exact this
  . have:=ap _ hdC;rw[show sbP E t.toNat b.toNat j p.1.toNat t.toNat p.1.toNat=E t.toNat p.1.toNat from by unfold sbP;rw[qH (fun n=>a5 n.1)]]at this;exact this
 have start:Qz R C (sbP E t.toNat b.toNat j 0) a1:=VG f fun i G _ _=>by unfold sbP;rw[qH (fun n=>tR _ n.2)]
 have one:∀r:C7×Unit,(rv (rc (E t.toNat c.toNat))≠(0:Rat)->r.1=rc (rv (rc (E b.toNat c.toNat))/rv (rc (E t.toNat c.toNat))))->r.1=rc j:=bt;refine⟨⟨by omega,by omega⟩,⟨a0,by rw[bx];omega⟩,⟨Q,by omega⟩,⟨a0,by rw[c0];omega⟩,⟨b4, ?_⟩,b4, ?_⟩;all_goals
  intro r _ u;have u:=one r u;refine⟨fun p=>0<=p.1/\p.1<=(C:Int)/\Qz R C (sbP E t.toNat b.toNat j p.1.toNat) p.2.1,fun p=>((C:Int)-p.1).toNat,⟨qI _,qF _,start⟩, ?_⟩;rintro⟨I,ba,_⟩ _ au;change Int at I;change List (List C7)at ba;have ay:=bp r u _ au;obtain⟨H,U,o⟩:=au;simp only at H U o ay⊢;refine⟨fun q=> ?_,fun q=> ?_⟩
  . have b0:I<M:=by first|exact qA q|exact q
    obtain⟨N,W,bb,bc,be,bf⟩:=ay b0;have hdC:I.toNat<C:=by omega
    have bm:=z v hdC;have b2:=z F hdC;rw[bf,u];refine⟨N,N,W,bb,bc,⟨J6 b1 (by omega),J6 b2 (by omega)⟩, ?_⟩;intro cd _ a9;rw[H8,H8]at a9;rw[be,a9];refine⟨⟨J6 bm (by omega),J6 (Nz b1 b2) (by omega)⟩, ?_⟩;intro ce _ aa;rw[H8,H8]at aa;rw[aa,wv (by omega)];refine⟨W,⟨by omega,by omega, ?_⟩,by omega⟩;rw[show(I+1).toNat=I.toNat+1 from by omega];exact B1b o v hdC
  . have ca:¬I<M:=by first|exact qB q|exact q
    have:I.toNat=C:=by omega
    rw[this]at o;exact⟨bh _ (bn _ o),by omega⟩
def nW:An:= {loop:= [(10,⟨[1,2,4,7],[0,1],[(8,false,vI)],[(2,31,[.val .bool, .val (.sl (.int .u32)), .val (.sl (.int .u32))])],[]⟩)],plan:= [(5,[0,3],[],true,(.q 0 (.p 2 (.q 3 (.e 1 (.e 4 (pZ9 5 7 .done))))))),(12,[0,4,7],[9],true,(.q 0 (pZ9 1 3 (.q 4 (.p 5 (.p 6 (.q 7 (.e 8 (.e 9 .done)))))))))]}
def XA:A4 Qv.args->Prop:=fun(x:Az)=>let h:Prop:=(x.1.1≠x.1.2.1);let e:=(4:Int);let d:=(1:Int);let b:=(0:Int);O5 K1 x.1/\Ml fun r=>r.1=decide (A6 x.1)->(iB ((!r.1)) ((¬A6 x.1->dQ=dQ/\d=d)/\(A6 x.1->(x.1.1≠x.1.2.1->dQ=dQ/\d=e)/\(x.1.1=x.1.2.1->dQ=rc (det x.1.1.toNat (el x.1))/\d=b))) ((iB (decide h) ((¬A6 x.1->dQ=dQ/\e=d)/\(A6 x.1->(x.1.1≠x.1.2.1->dQ=dQ/\e=e)/\(x.1.1=x.1.2.1->dQ=rc (det x.1.1.toNat (el x.1))/\e=b))) ((O5 K1 x.1/\A6 x.1)/\∀(r:B5f),Rs r.1/\True->r.1=GY x.1->eT x.1.2.1 r.1/\∀(i:List (List QQ)×List Int×Int×Unit),let f:Prop:=((i.2.1.length:Int)<x.1.1);Rs i.1/\YZ i.2.1/\Q8 i.2.2.1/\True->B9f x.1.2.1.toNat r.1 i.1 i.2.1 i.2.2.1->(iB (decide f) (True/\H4 fun r=>r.1=rc (0:Rat)->(¬A6 x.1->r.1=dQ/\b=d)/\(A6 x.1->(x.1.1≠x.1.2.1->r.1=dQ/\b=e)/\(x.1.1=x.1.2.1->r.1=rc (det x.1.1.toNat (el x.1))/\b=b))) (True/\H4 fun r=>r.1=ri i.2.2.1->∃(I:YA->Prop),∃(f: _->Nat),I (b,r.1.1.1,r.1.1.2,r.1.2,())/\∀(p:YA),let g:=(gx [] i.1 p.1);let a:=((p.2.1,p.2.2.1),p.2.2.2.1);(Ty.int i64).wf p.1/\Ty.bool.wf p.2.1/\(Ty.int u32).sl.wf p.2.2.1/\(Ty.int u32).sl.wf p.2.2.2.1/\True->I p->(iB (decide (p.1<x.1.1)) ((b<=p.1/\p.1<(i.1.length:Int))/\(b<=p.1/\p.1<(↑g.length:Int))/\(D9 a/\D9 (gx dQ g p.1))/\H4 fun r=>let c:=(i64.wrap (p.1+d),r.1.1.1,r.1.1.2,r.1.2,());r.1=rc (rv a*rv (gx dQ g p.1))->I c/\f c<f p) ((¬A6 x.1->a=dQ/\b=d)/\(A6 x.1->(x.1.1≠x.1.2.1->a=dQ/\b=e)/\(x.1.1=x.1.2.1->a=rc (det x.1.1.toNat (el x.1))/\b=b))))))))))
def B9g {m:N7} {i j:Nat} (a:i<m.1.toNat) (b:j<m.2.1.toNat):((GY m).getD i []).getD j zr=rc (el m i j)/\((GY m).getD i []).length=m.2.1.toNat:=by
 have e:(GY m).getD i []=dl m.2.1 (A5 (m.2.2.getD i [])):=by
  unfold GY;rw[qE,vA,vZ a];rfl
 rw[e];exact⟨cX zr (by omega),RQ _ _⟩
def B2r (m:N7):(GY m).length=m.1.toNat:=by unfold GY;rw[sR,zT]
def C2n {m:N7} {i:Nat} (a:i<m.1.toNat):((GY m).getD i []).length=m.2.1.toNat:=by
 have e:(GY m).getD i []=dl m.2.1 (A5 (m.2.2.getD i [])):=by
  unfold GY;rw[qE,vA,vZ a];rfl
 rw[e];exact RQ _ _
def oH {m:N7} {i j:Nat} (a:i<m.1.toNat) (b:j<m.2.1.toNat):aF (GY m) i j=el m i j:=by
 unfold aF;rw[(B9g a b).1,H8]
def B6w {m:N7} (f:A6 m) {T:Nat} (d:1<=T) (hK:8*T+8<=K1) (c:Io m.1.toNat m.2.1.toNat (el m) T):eT m.2.1 (GY m):=by
 obtain⟨k,l,g,h,_⟩:=id f;refine⟨g,h,by rw[B2r];omega,⟨rfl,fun i a=> ?_⟩,T,d,hK,by rw[B2r];exact aL c fun i j a b=>(oH a b).symm⟩;rw[B2r]at a;exact⟨C2n a,fun j b=>by rw[oH a b];exact(B9g a b).1⟩
def YV (x:A4 Qv.args) (_:awf Qv.args x) (ab:Qv.pre x):XA x:=by
 obtain⟨⟨R,C,D⟩,_⟩:=x;change Int at R C;change List (List D1)at D;obtain⟨W,a5⟩:O5 K1 (R,C,D)/\(A6 (R,C,D)->R=C->∃T:Nat,1<=T/\Io R.toNat R.toNat (el (R,C,D)) T/\(T+T)*(R.toNat+4)+8<=K1):=ab;simp only[XA,iB,H4,Ml];refine⟨W, ?_⟩;rintro⟨ah,_⟩ _ F;change Bool at ah;simp only at F⊢;by_cases g:A6 (R,C,D)
 case neg=>
  rw[F,rD g];exact⟨fun _=>⟨fun _=>⟨trivial,trivial⟩,fun h=>absurd h g⟩,fun h=>(by cases h)⟩
 rw[F,rH g];refine⟨fun h=>(by cases h),fun _=>⟨fun B=> ?_,fun v=> ?_⟩⟩
 . have B:=qA B;exact⟨fun h=>absurd g h,fun _=>⟨fun _=>⟨trivial,trivial⟩,fun h=>absurd h B⟩⟩
 have v:R=C:=qM (qB v);subst v;obtain⟨T,X,Y,av⟩:=a5 g rfl;obtain⟨Z,ak,_⟩:=id g;simp only at Z ak;have ar:=rT (T+T) (show 4<=R.toNat+4 by omega);refine⟨⟨W,g⟩, ?_⟩;rintro⟨au,_⟩ _ V;simp only at V⊢;subst V;refine⟨B6w g X (by omega) Y, ?_⟩;rintro⟨e,p,s,_⟩ _ ⟨E,aj,c,P,t,k,J,M,N,O,Q⟩;change List (List C7)at e;change List Int at p;change Int at s;simp only[B2r]at t k J M N O Q⊢;have u:∀i j,i<R.toNat->j<R.toNat->aF (GY (R,R,D)) i j=el (R,R,D) i j:=fun i j d f=>oH d f
 have a8:det R.toNat (el (R,R,D))=(s:Rat)*det R.toNat E:=by rw[<-O (by trivial)];exact G4 fun i j d f=>(u i j d f).symm
 have ac:=Q T X (aL Y fun i j d f=>(u i j d f).symm);have aq:(p.length:Int)=(P.length:Int):=by rw[M,sR]
 refine⟨fun n=>⟨trivial, ?_⟩,fun n=>⟨trivial, ?_⟩⟩
 . rintro⟨z,_⟩ _ o;simp only at o⊢;have n:=qA n;refine⟨fun h=>absurd g h,fun _=>⟨fun h=>absurd rfl h,fun _=>⟨?_,trivial⟩⟩⟩;have a3:det R.toNat (aF (GY (R,R,D)))=0:=by
    obtain⟨b,a6,a7⟩:∃b,b<R.toNat/\b∉P:=qM fun hn=>by
     have:=oY (a:=List.range R.toNat) (b:=P) List.nodup_range fun j f=>qM fun hjP=>hn ⟨j,yO.1 f,hjP⟩
     rw[zT]at this;omega
    obtain⟨y,am,an,_⟩:=k.dep J a7;exact iV a6 an am
   rw[o, <-G4 u,a3]
 . rintro⟨z,_⟩ _ o;simp only at o⊢;have n:=qB n;have ae:aj=R.toNat:=by have:=k.tle;have:=k.len;omega
   subst ae;have a4:∀i,i<R.toNat->P.getD i 0=i:=B3q (fun i j hij f=>k.pmono hij f) fun i d=>by have:=k.lt _ (k.pmem d);have:=k.cle;omega
   have af:det R.toNat E=Q6 (fun i=>E i i) R.toNat 0:=PM fun i j hij d=>k.left i d j (by rw[a4 i d];exact hij)
   let l:Nat->Rat:=fun i=>if i<R.toNat then E i i else 0
   have w:∀i,i<R.toNat->l i=E i i:=fun i d=>qL d
   have U:∀i,qs (T+T) (l i):=fun i=>by
    by_cases d:i<R.toNat
    . rw[w i d];exact ac i i d d
    . rw[show l i=0 from qH d];exact K5 (by omega)
   have ad:qs 1 (s:Rat):=by
    refine Ny ?_;rcases N with rfl|rfl<;>decide
   have a9:∀i,i<=R.toNat->qs K1 ((s:Rat)*Q6 l i 0):=fun i d=>by
    have:=rT (T+T) (show i+1<=R.toNat+4 by omega);exact F8 (Nz ad (LV (by omega) U i)) (by omega)
   refine⟨fun q=>0<=q.1/\q.1<=R/\((q.2.1,q.2.2.1),q.2.2.2.1)=rc ((s:Rat)*Q6 l q.1.toNat 0),fun q=>(R-q.1).toNat,⟨qI _,Z, ?_⟩, ?_⟩
   . show z= _;rw[o,Xo];congr 1;exact(uB _).symm
   rintro⟨i,a,b,ao,_⟩ _ ⟨H,ag,r⟩;change Int at i;simp only at H ag r⊢;refine⟨fun d=> ?_,fun d=> ?_⟩
   . have d:=qA d;have A:i.toNat<R.toNat:=by omega
     obtain⟨a1,a2⟩:=t.2 i.toNat A;have ap:=t.1;have I:gx dQ (gx [] e i) i=rc (l i.toNat):=by rw[w _ A];exact a2 i.toNat A
     have a0:(gx ([]:List C7) e i).length=R.toNat:=a1;refine⟨⟨H,by omega⟩,⟨H,by rw[a0];omega⟩,⟨by rw[r];exact J6 (a9 _ (by omega)) (by decide),by rw[I];exact J6 (U _) (by have:K1=549755813888:=rfl;omega)⟩, ?_⟩;rintro⟨ai,_⟩ _ G;simp only at G⊢;rw[r,I,H8,H8]at G;rw[wv (by omega)];refine⟨⟨by omega,by omega, ?_⟩,by omega⟩;show ai= _;rw[G,show(i+1).toNat=i.toNat+1 from by omega,Jt,sA,tY]
   . have d:=qB d;have aa:i.toNat=R.toNat:=by omega
     refine⟨fun h=>absurd g h,fun _=>⟨fun h=>absurd rfl h,fun _=>⟨?_,trivial⟩⟩⟩;rw[r,aa,a8,af];congr 2;exact Mp fun j _ f=>w j (by omega)
def XI:An:= {loop:= [(7,⟨[0,2,3,9,10,11,15,16],[0,1],[(6,false,[.own tQ 31]),(17,false,vI)],[],[]⟩),(3,⟨[0,2,9,10],[0],[(3,false,[.own (.sl tQ) 56]),(11,false,vI)],[],[]⟩)]}
def QJ:An:= {plan:= [(4,[0],[],true,(.q 0 (.e 1 (.e 2 (.e 3 (.e 4 (pZ9 5 5 .done))))))),(5,[3],[],true,(pZ9 0 3 (.q 3 (.e 4 (.e 5 (pZ9 6 7 (.e 13 (.e 14 (pZ9 15 11 (.e 26 (.e 27 (.e 28 (.e 29 (.p 30 (.p 31 .done)))))))))))))))]}
def GC:An:= {loop:= [(4,⟨[0,1],[],[(5,false,vI)],[],[]⟩)],plan:= [(6,[3,7],[],true,(pZ9 0 3 (.q 3 (pZ9 4 3 (.q 7 (.p 8 .done))))))]}
abbrev B8p:=List QQ×Int×Unit
def CQ:A4 Fs.args->Prop:=fun(x:List (List Int)×Unit)=>let n:=(140737488355328:Nat);let h:=(↑(x.1.getD (0:Nat) []).length:Int);let c:=(x.1.length:Int);let b:=(0:Int);let a:=(↑(gx [] x.1 b).length:Int);∃(I:A5u->Prop),∃(j: _->Nat),I ([],b,())/\∀(p:A5u),let m:=(gx [] x.1 p.2.1);let d:=(↑m.length:Int);tQ.sl.sl.wf p.1/\(Ty.int i64).wf p.2.1/\True->I p->(iB (decide (p.2.1<c)) ((b<=p.2.1/\p.2.1<c)/\∃(I_1:B8p->Prop),∃(k: _->Nat),I_1 ([],b,())/\∀(o:B8p),let g:=(p.1++ [o.1],i64.wrap (p.2.1+1),());tQ.sl.wf o.1/\(Ty.int i64).wf o.2.1/\True->I_1 o->(iB (decide (o.2.1<d)) ((b<=o.2.1/\o.2.1<d)/\True/\H4 fun r=>let f:=(o.1++ [r.1],i64.wrap (o.2.1+1),());r.1=ri (gx b m o.2.1)->((o.1.length+ [r.1].length)*(56:Nat)<=n/\o.1.length+ [r.1].length<=9223372036854775807)/\I_1 f/\k f<k o) (((p.1.length+ [o.1].length)*(24:Nat)<=n/\p.1.length+ [o.1].length<=9223372036854775807)/\I g/\j g<j p))) ((b<=b/\b<c)/\((∀(l:List QQ),l∈p.1->II K1 l/\(↑l.length:Int)=a)/\b<=a/\a<=(16384:Int)/\p.1.length<=(16384:Nat))/\mW fun r=>HC p.1.length a.toNat (fun(i j:Nat)=>rv ((p.1.getD i []).getD j zr)) r.1->r.1.1=(↑x.1.length:Int)/\r.1.2.1=h/\List.length r.1.2.2=x.1.length/\∀(i:Nat),let k:=(List.getD r.1.2.2 i []);i<x.1.length->T2 k/\(∀(e:D1),e∈List.getD r.1.2.2 i []->b<=e.1/\e.1<h)/\∀(j:Nat),j<(x.1.getD (0:Nat) []).length->A5 k (↑j:Int)=(↑((x.1.getD i []).getD j b):Rat)))
def Yg:A4 Dk.args->Prop:=fun(x:Unit)=>let C:Prop:=(True/\True);let z:=(10:Nat);let y:=(8:Nat);let w:=(0:Nat);let q:=(1:Nat);let o:=(4:Int);let k:=(1:Int);let h:=(3:Int);let d:=(2:Int);let b:=(0:Int);let c:Prop:=([[b,d],[h,b]]≠ []/\ [[b,d],[h,b]].length<=z/\∀(l:List Int),l∈ [[b,d],[h,b]]->l.length=([[b,d],[h,b]].getD w []).length/\l.length<=z/\∀(v:Int),v∈l->v.natAbs<(4294967296:Nat));c/\mW fun r=>let u:=r.1.1.toNat;HC [[b,d],[h,b]].length ([[b,d],[h,b]].getD w []).length (fun(i j:Nat)=>(↑(([[b,d],[h,b]].getD i []).getD j b):Rat)) r.1->(O5 K1 r.1/\(A6 r.1->r.1.1=r.1.2.1->∃(T:Nat),q<=T/\Io u u (el r.1) T/\(T+T)*(Int.toNat r.1.1+4)+y<=K1))/\∀(H:fN),let p:Prop:=(H.2.1=b);Wb H.1/\Q8 H.2.1/\True->(¬A6 r.1->H.1=dQ/\H.2.1=k)/\(A6 r.1->(r.1.1≠r.1.2.1->H.1=dQ/\H.2.1=o)/\(r.1.1=r.1.2.1->H.1=rc (det u (el r.1))/\H.2.1=b))->([[b,k,d,h],[b,d,o,k]]≠ []/\ [[b,k,d,h],[b,d,o,k]].length<=z/\∀(l:List Int),l∈ [[b,k,d,h],[b,d,o,k]]->l.length=([[b,k,d,h],[b,d,o,k]].getD w []).length/\l.length<=z/\∀(v:Int),v∈l->v.natAbs<(4294967296:Nat))/\mW fun I=>HC [[b,k,d,h],[b,d,o,k]].length ([[b,k,d,h],[b,d,o,k]].getD w []).length (fun(i j:Nat)=>(↑(([[b,k,d,h],[b,d,o,k]].getD i []).getD j b):Rat)) I.1->(∃(s:Nat),q<=s/\O5 s I.1/\s<=K1/\(A6 I.1->y*tB s (Int.toNat I.1.2.1+Int.toNat I.1.1) I.1.1.toNat+y<=K1))/\∀(J:VN),let t:=(decide (J.2.1=b));YZ J.1/\Q8 J.2.1/\True->(¬A6 I.1->J.1= []/\J.2.1=k)/\(A6 I.1->B3d I.1 J.1/\J.2.1=b)->c/\mW fun F=>let m:=F.1.1.toNat;HC [[b,d],[h,b]].length ([[b,d],[h,b]].getD w []).length (fun(i j:Nat)=>(↑(([[b,d],[h,b]].getD i []).getD j b):Rat)) F.1->(O5 K1 F.1/\(A6 F.1->F.1.1=F.1.2.1->∃(T:Nat),q<=T/\y*T+y<=K1/\Io m m (el F.1) T))/\∀(D:B8m),let f:=D.1.1.length;let B:=(↑f:Int);(YZ D.1.1/\YZ D.1.2.1/\WfM D.1.2.2.1/\Q8 D.1.2.2.2.1/\Q8 D.1.2.2.2.2.1/\CX D.1.2.2.2.2.2)/\Q8 D.2.1/\True->(¬A6 F.1->D.1=YW/\D.2.1=k)/\(A6 F.1->(F.1.1≠F.1.2.1->D.1=YW/\D.2.1=o)/\(F.1.1=F.1.2.1->(¬nonsing m (el F.1)->D.1=YW/\D.2.1=6)/\(nonsing m (el F.1)->Y8 D.1 F.1.1/\D.2.1=b/\(∀(v:List EE),v∈D.1.2.2.1.2.2->T2 v)/\(∀(v:List EE),v∈D.1.2.2.2.2.2->T2 v)/\(∀(T:Nat),q<=T->Io m m (el F.1) T->∀(i j:Nat),i<Int.toNat F.1.1->qs (T+T) (el D.1.2.2.1 i j)/\qs (T+T) (el D.1.2.2.2 i j))/\∀(i j:Nat),i<Int.toNat F.1.1->j<Int.toNat F.1.1->oV D.1 m i j=el F.1 (ix D.1.1 i) (ix D.1.2.1 j))))->True/\H4 fun K=>K.1=ri o->True/\H4 fun L=>L.1=ri (9:Int)->(List.length D.1.1<=16384/\O5 K1 D.1.2.2.1/\O5 K1 D.1.2.2.2/\(Y8 D.1 B-> [K.1,L.1].length=List.length D.1.1->∃(s:Nat),∃(T:Nat),q<=s/\q<=T/\O5 s D.1.2.2.1/\O5 s D.1.2.2.2/\II T [K.1,L.1]/\hK s (gK s T f) f+s<=K1))/\∀(G:B8p),let g:=(decide (G.2.1=b));WfL G.1/\Q8 G.2.1/\True->(¬Y8 D.1 B->G.1= []/\G.2.1=k)/\(Y8 D.1 B->([K.1,L.1].length≠List.length D.1.1->G.1= []/\G.2.1=o)/\([K.1,L.1].length=List.length D.1.1->G.2.1=b/\G.1.length=List.length D.1.1/\(∀(e:QQ),e∈G.1->e=rc (rv e))/\(∀(s T:Nat),q<=s->q<=T->O5 s D.1.2.2.1->O5 s D.1.2.2.2->II T [K.1,L.1]->II (hK s (gK s T f) f+s) G.1)/\∀(i:Nat),i<List.length D.1.1->(C2 f fun(j:Nat)=>oV D.1 f i j*rv (G.1.getD (ix D.1.2.1 j) zr))=rv ([K.1,L.1].getD (ix D.1.1 i) zr)))->(decide p=true->True)/\∀(O:H5),(decide p=true->(Wb O.1/\True)/\O.1=ri (-6:Int))->(decide p=true->True)/\∀(P:Y1),let n:=(J5 (decide p) P.1 false);(decide p=true->C/\P.1=decide (H.1=O.1))->(J5 n t false=true->True)/\∀(r:Y1),let a:=(J5 (J5 (J5 n t false) r.1 false) (decide (D.2.1=b)) false);let A:Prop:=(J5 a g false=true->True);(J5 n t false=true->C/\r.1=decide (J.1= [k,h]))->A/\∀(M:H5),(J5 a g false=true->(Wb M.1/\True)/\M.1=ri h)->A/\∀(N:H5),(J5 a g false=true->(Wb N.1/\True)/\N.1=ri d)->(J5 a g false=true->(∀(e:QQ),e∈G.1->D9 e)/\∀(e:QQ),e∈ [M.1,N.1]->D9 e)/\∀(Q:Y1),(J5 a g false=true->C/\Q.1=decide (G.1= [M.1,N.1]/\∀(e:QQ),e∈G.1->e=rc (rv e)))->J5 (J5 a g false) Q.1 false=true
def Ms:A4 W6.args->Prop:=fun(x:Ex)=>let f:Prop:=(x.1=x.2.1);let e:=(0:Int);let b:=(x.2.1.length:Int);let a:=(x.1.length:Int);(iB (decide (a≠b)) (false=decide f) (∃(I:E1->Prop),∃(g: _->Nat),I (e,())/\∀(p:E1),let d:=(i64.wrap (p.1+1),());let c:Prop:=(gx e x.1 p.1≠gx e x.2.1 p.1);(Ty.int i64).wf p.1/\True->I p->(iB (decide (p.1<a)) ((e<=p.1/\p.1<a)/\(e<=p.1/\p.1<b)/\(iB (decide c) (false=decide f) (I d/\g d<g p))) (true=decide f))))
def C0f {n:Nat} {d:Nat->Nat} (j:∀a,a<n->d a<n) (i:∀a b,a<n->b<n->d a=d b->a=b) (f:Nat->Rat):C2 n (fun a=>f (d a))=C2 n f:=by
 have k:C2 n f=C2 n fun c=>C2 n fun a=>if d a=c then f c else 0:=B7 fun c h=>by
  obtain⟨a,g,rfl⟩:=W2 j i h;rw[J8 g fun b l o=>qH fun e=>o (i b a l g e),qL rfl]
 rw[k,LP];refine B7 fun a g=> ?_
 rw[J8 (j a g) fun c _ h=>qH (Ne.symm h),qL rfl]
def B5t {k:Nat} {m:N7} (b:A6 m) (c:∀v∈m.2.2,T2 v) (o:1<=k) (h:∀i j:Nat,(i:Int)<m.1->qs k (el m i j)):O5 k m:=fun v a=>by
 obtain⟨i,g,rfl⟩:=Aa [] a;have l:(i:Int)<m.1:=by rw[<-b.2.2.2.2.1];exact uJ.2 g
 refine GT (c _ a) fun j=> ?_
 by_cases n:0<=j
 . have:=h i j.toNat l;unfold el at this;rwa[show((j.toNat:Nat):Int)=j from by omega]at this
 . rw[D2 fun e d f=>n (by rw[<-f];exact((b.2.2.2.2.2 _ a).2 e d).1)];exact K5 o
def C0i {n:Nat} {A:Nat->Nat->Rat} {lu:LUV} {b X:List C7} (k:Y8 lu n) (r:∀i j:Nat,i<n->j<n->oV lu n i j=A (ix lu.1 i) (ix lu.2.1 j)) (l:∀i:Nat,i<n->C2 n (fun j=>oV lu n i j*rv (X.getD (ix lu.2.1 j) zr))=rv (b.getD (ix lu.1 i) zr)):∀a,a<n->C2 n (fun c=>A a c*rv (X.getD c zr))=rv (b.getD a zr):=fun a d=>by
 have f:=Hf k.1;have g:=Hf k.2.1;obtain⟨i,h,rfl⟩:=W2 (fun a d=>(f.2.1 a d).2) f.2.2 d;rw[<-l i h, <-C0f (fun a d=>(g.2.1 a d).2) g.2.2 (fun c=>A (ix lu.1 i) c*rv (X.getD c zr))];exact B7 fun j o=>by rw[r i j h o]
def gK5 {s T n:Nat} (a:n<=5):gK s T n<=32*T+31*(s+1):=by
 have:n=0\/n=1\/n=2\/n=3\/n=4\/n=5:=by omega
 rcases this with rfl|rfl|rfl|rfl|rfl|rfl<;>simp only[gK]<;>omega
def hK5 {s Y n:Nat} (a:n<=5):hK s Y n<=32*Y+31*(2*s+1):=by
 have:n=0\/n=1\/n=2\/n=3\/n=4\/n=5:=by omega
 rcases this with rfl|rfl|rfl|rfl|rfl|rfl<;>simp only[hK]<;>omega
def B8g {n T U:Nat} {m:N7} {lu:LUV} {b:List C7} (g:n<=5) (c:1<=T) (f:T<=8192) (l:1<=U) (o:U<=4194304) (a:Io n n (el m) T) (d:Y8 lu n) (c1:∀v∈lu.2.2.1.2.2,T2 v) (k:∀v∈lu.2.2.2.2.2,T2 v) (h:∀T:Nat,1<=T->Io n n (el m) T->∀i j:Nat,i<n->qs (T+T) (el lu.2.2.1 i j)/\qs (T+T) (el lu.2.2.2 i j)) (r:II U b):
 O5 (T+T) lu.2.2.1/\O5 (T+T) lu.2.2.2/\O5 K1 lu.2.2.1/\O5 K1 lu.2.2.2/\hK (T+T) (gK (T+T) U n) n+(T+T)<=K1:=by
 have hK:K1=549755813888:=rfl;obtain⟨f,o,l⟩:=d.2.2.1;obtain⟨o,t,r⟩:=d.2.2.2.1;have d:O5 (T+T) lu.2.2.1:=B5t l c1 (by omega) fun i j hi=>(h T c a i j (by rw[f]at hi;omega)).1
 have f:O5 (T+T) lu.2.2.2:=B5t r k (by omega) fun i j hi=>(h T c a i j (by rw[o]at hi;omega)).2
 have a:=gK5 (s:=T+T) (T:=U) g;have a:=hK5 (s:=T+T) (Y:=gK (T+T) U n) g;exact⟨d,f,fun v c e a=>G7 (d v c e a) (by omega),fun v c e a=>G7 (f v c e a) (by omega),by omega⟩
def MB (x:A4 Fs.args) (_:awf Fs.args x) (I:Fs.pre x):CQ x:=by
 obtain⟨l,_⟩:=x;change List (List Int)at l;obtain⟨A,N,b⟩:l≠ []/\l.length<=10/\∀r∈l,r.length=(l.getD 0 []).length/\r.length<=10/\∀v∈r,v.natAbs<4294967296:=I;simp only[CQ,iB,H4,mW];refine⟨fun p=>0<=p.2.1/\p.2.1<=(l.length:Int)/\p.1=(l.take p.2.1.toNat).map (List.map ri),fun p=>((l.length:Int)-p.2.1).toNat,⟨qI _,qF _,rfl⟩, ?_⟩;rintro⟨o,i,_⟩ _ ⟨k,J,a⟩;change List (List C7)at o;change Int at i;simp only at k J a⊢;have P:o.length<=10:=by rw[a,sR,qY];omega
 refine⟨fun h=> ?_,fun h=> ?_⟩
 . have h:=qA h;have n:=H3 (d:=([]:List Int)) k h;have G:=I5 (d:=([]:List Int)) k h;generalize gx ([]:List Int) l i=row at*;have R:=(b row G).2.1;refine⟨⟨k,h⟩,fun p=>0<=p.2.1/\p.2.1<=(row.length:Int)/\p.1=(row.take p.2.1.toNat).map ri,fun p=>((row.length:Int)-p.2.1).toNat,⟨qI _,qF _,rfl⟩, ?_⟩;rintro⟨q,j,_⟩ _ ⟨s,M,c⟩;change List C7 at q;change Int at j;simp only at s M c⊢;have Q:q.length<=10:=by rw[c,sR,qY];omega
   refine⟨fun g=> ?_,fun g=> ?_⟩
   . have g:=qA g;refine⟨⟨s,g⟩,trivial, ?_⟩;rintro⟨v,_⟩ _ f;simp only at f⊢;rw[f,wv (by omega)];refine⟨⟨by simp only[rA];omega,by simp only[rA];omega⟩,⟨by omega,by omega, ?_⟩,by omega⟩;rw[c,show(j+1).toNat=j.toNat+1 from by omega,rR,H3 (d:=(0:Int)) s g,vG];rfl
   . have g:=qB g;rw[wv (by omega)];refine⟨⟨by simp only[rA];omega,by simp only[rA];omega⟩,⟨by omega,by omega, ?_⟩,by omega⟩;rw[a,show(i+1).toNat=i.toNat+1 from by omega,rR,n,vG,c,qQ (show row.length<=j.toNat by omega)];rfl
 . have h:=qB h;have a:o=l.map (List.map ri):=by rw[a,qQ (by omega)]
   have E:0<l.length:=uP.2 A;have D:gx ([]:List Int) l 0=l.getD 0 []:=rfl;have F:l.getD 0 []∈l:=E8 E;have O:=(b _ F).2.1;rw[D];have n:∀i,i<l.length->o.getD i []=(l.getD i []).map ri:=fun i hi=>by
    rw[a,qE,vA,qS hi,qE,qS hi];rfl
   have H:o.length=l.length:=by rw[a,sR]
   refine⟨⟨qI _,by omega⟩,⟨fun r y=> ?_,by omega,by omega,by omega⟩, ?_⟩
   . rw[a]at y;obtain⟨w,z,rfl⟩:=tS.1 y;refine⟨fun e B=> ?_,by rw[sR];exact tC Int.ofNat (b w z).1⟩;obtain⟨v,f,rfl⟩:=tS.1 B;rw[Xo];exact Xu (F8 (Ny ((b w z).2.2 v f)) (by decide))
   rintro⟨m,_⟩ _ u;simp only at u⊢;have:=Zy u (g:=fun i j=>(((l.getD i []).getD j 0:Int):Rat)) fun i j hi hj=>by
    rw[n i (by omega)];have t:j<(l.getD i []).length:=by
     have:=(b _ (E8 (d:=([]:List Int)) (show i<l.length by omega))).1;omega
    generalize l.getD i []=w at t⊢;rw[show(w.map ri).getD j zr=ri (w.getD j 0)from by simp[qE,qS t]];exact bH _
   rw[H,qT]at this;exact this
def C2m (M:Mt):det 2 M=M 0 0*M 1 1-M 0 1*M 1 0:=by
 simp only[det,C2,eI,sg];simp;grind
def A7g {R C:Nat} {A:Nat->Nat->Rat} {b:Nat} (x:Nat->Rat) (a:∀i,i<R->C2 C (fun j=>A i j*x j)=0) (c:x b≠0) (d:∀j,b<j->x j=0):iT R C A b:=⟨x,a,c,d⟩
def B0y (f:Nat->Rat):C2 4 f=f 0+f 1+f 2+f 3:=by simp only[C2];grind
def B4t (f:Nat->Rat):C2 2 f=f 0+f 1:=by simp only[C2];grind
def B7a {A:Nat->Nat->Rat} (a:A 0 0=0) (b:A 0 1=1) (c:A 0 2=2) (d:A 0 3=3) (f:A 1 0=0) (g:A 1 1=2) (k:A 1 2=4) (l:A 1 3=1):iT 2 4 A 0/\¬iT 2 4 A 1/\iT 2 4 A 2/\¬iT 2 4 A 3:=by
 have two:∀ {i:Nat},i<2->i=0\/i=1:=fun {i} h=>by omega
 refine⟨A7g (fun j=>if j=0 then 1 else 0) (fun i hi=> ?_) (by decide) (fun j hj=>qH (by omega)),fun⟨x,h1,h2,h3⟩=> ?_,A7g (fun j=>if j=1 then -2 else if j=2 then 1 else 0) (fun i hi=> ?_) (by decide) (fun j hj=>by rw[qH (by omega),qH (by omega)]),fun⟨x,h1,h2,h3⟩=> ?_⟩
 . rw[B0y];rcases two hi with rfl|rfl
   . rw[a,b,c,d];decide+kernel
   . rw[f,g,k,l];decide+kernel
 . have e:=h1 0 (by omega);rw[B0y,a,b,c,d,h3 2 (by omega),h3 3 (by omega)]at e;exact h2 (by grind)
 . rw[B0y];rcases two hi with rfl|rfl
   . rw[a,b,c,d];decide+kernel
   . rw[f,g,k,l];decide+kernel
 . have e:=h1 0 (by omega);have n:=h1 1 (by omega);rw[B0y,a,b,c,d]at e;rw[B0y,f,g,k,l]at n;exact h2 (by grind)
def IQ (x:A4 Dk.args) (_:awf Dk.args x) (_:Dk.pre x):Yg x:=by
 have hK:K1=549755813888:=rfl;simp only[Yg,H4,mW];have R:∀l:List (List Int),(l= [[0,2],[3,0]]\/l= [[0,1,2,3],[0,2,4,1]])->l≠ []/\l.length<=10/\∀r∈l,r.length=(l.getD 0 []).length/\r.length<=10/\∀v∈r,v.natAbs<4294967296:=fun l hl=>by
  rcases hl with rfl|rfl<;>refine⟨by decide,by decide,by decide⟩
 have O:∀i j:Nat,qs 1 ((([[0,2],[3,0]].getD i ([]:List Int)).getD j 0:Int):Rat):=fun i j=>Ny (by
  match i,j with
  |0,0=>decide
  |0,1=>decide
  |0,j+2=>show Int.natAbs 0<4294967296;decide
  |1,0=>decide
  |1,1=>decide
  |1,j+2=>show Int.natAbs 0<4294967296;decide
  |i+2,j=>show Int.natAbs 0<4294967296;decide)
 refine⟨R _ (.inl rfl), ?_⟩;rintro⟨o,_⟩ _ t;simp only at t⊢;have bg:A6 o:=Pf t (by decide) (by decide);have bc:∀i j:Nat,i<2->j<2->qs 1 (el o i j):=fun i j c a=>by rw[Sl t c a];exact O i j
 have B1:Io 2 2 (el o) (tB 1 2 2):=TK (by decide) bc;have b5:O5 K1 o:=DX t (by decide) fun i j _ _=>F8 (O i j) (by decide)
 have be:o.1=2:=t.1;have c1:o.2.1=2:=t.2.1;have J:∀i j:Nat,i<2->j<2->el o i j=((([[0,2],[3,0]].getD i ([]:List Int)).getD j 0:Int):Rat):=fun i j c a=>Sl t c a
 rw[be,c1];refine⟨⟨b5,fun _ _=>⟨tB 1 2 2,by decide,B1,by decide⟩⟩, ?_⟩;rintro⟨ak,e,_⟩ _ ⟨_,ay⟩;change Int at e;obtain⟨a8,d⟩:=(ay bg).2 rfl;simp only at a8 d⊢;subst d;have az:det (2:Int).toNat (el o)=((-6:Int):Rat):=by
  rw[show(2:Int).toNat=2 from rfl,C2m,J 0 0 (by omega) (by omega),J 0 1 (by omega) (by omega),J 1 0 (by omega) (by omega),J 1 1 (by omega) (by omega)];decide+kernel
 refine⟨R _ (.inr rfl), ?_⟩;rintro⟨u,_⟩ _ B;simp only at B⊢;have ag:A6 u:=Pf B (by decide) (by decide);have af:u.1=2:=B.1;have Y:u.2.1=4:=B.2.1;have g:∀i j:Nat,i<2->j<4->el u i j=((([[0,1,2,3],[0,2,4,1]].getD i ([]:List Int)).getD j 0:Int):Rat):=fun i j c a=>Sl B c a
 have ae:O5 1 u:=DX B (by decide) fun i j c a=>Ny (by
  have c:i=0\/i=1:=by have:i<2:=c;omega
  have a:j=0\/j=1\/j=2\/j=3:=by have:j<4:=a;omega
  rcases c with rfl|rfl<;>rcases a with rfl|rfl|rfl|rfl<;>decide)
 rw[Y];rw[af];refine⟨⟨1,by decide,ae,by decide,fun _=>by decide⟩, ?_⟩;rintro⟨p,ao,_⟩ _ ⟨_,b3⟩;change List Int at p;change Int at ao;obtain⟨N,a9⟩:=b3 ag;simp only at N a9⊢;subst a9;have b4:p= [1,3]:=by
  obtain⟨a3,a7,am,an⟩:=B7a (A:=el u) (g 0 0 (by omega) (by omega)) ((g 0 1 (by omega) (by omega)).trans (by decide)) ((g 0 2 (by omega) (by omega)).trans (by decide)) ((g 0 3 (by omega) (by omega)).trans (by decide)) (g 1 0 (by omega) (by omega)) ((g 1 1 (by omega) (by omega)).trans (by decide)) ((g 1 2 (by omega) (by omega)).trans (by decide)) ((g 1 3 (by omega) (by omega)).trans (by decide));refine iF N.1 (by decide) fun b=> ?_
  rw[N.2,af,Y];constructor
  . rintro⟨ah,ai,V⟩;have:b=0\/b=1\/b=2\/b=3:=by omega
    rcases this with rfl|rfl|rfl|rfl
    . exact absurd a3 V
    . simp
    . exact absurd am V
    . simp
  . intro W;simp only[qU,wJ,g1c]at W;rcases W with rfl|rfl
    . exact⟨by decide,by decide,a7⟩
    . exact⟨by decide,by decide,an⟩
 refine⟨R _ (.inl rfl), ?_⟩;clear ae ag g N;rintro⟨f,_⟩ _ D;simp only at D⊢;have bh:A6 f:=Pf D (by decide) (by decide);have h:∀i j:Nat,i<2->j<2->el f i j=((([[0,2],[3,0]].getD i ([]:List Int)).getD j 0:Int):Rat):=fun i j c a=>Sl D c a
 have B3:Io 2 2 (el f) (tB 1 2 2):=TK (by decide) fun i j c a=>by rw[h i j c a];exact O i j
 have b6:O5 K1 f:=DX D (by decide) fun i j _ _=>F8 (O i j) (by decide)
 have bf:f.1=2:=D.1;have aj:f.2.1=2:=D.2.1;rw[bf,aj];refine⟨⟨b6,fun _ _=>⟨tB 1 2 2,by decide,by decide,B3⟩⟩, ?_⟩;rintro⟨lu,ap,_⟩ _ ⟨_,b1⟩;change LUV at lu;change Int at ap;have b2:nonsing (2:Int).toNat (el f):=fun x hx j a=>by
  have a:j<2:=a;have V:=hx 0 (by decide);have W:=hx 1 (by decide);rw[show(2:Int).toNat=2 from rfl,B4t,h 0 0 (by omega) (by omega),h 0 1 (by omega) (by omega)]at V;rw[show(2:Int).toNat=2 from rfl,B4t,h 1 0 (by omega) (by omega),h 1 1 (by omega) (by omega)]at W;have V:(0:Rat)*x 0+(2:Rat)*x 1=0:=V;have W:(3:Rat)*x 0+(0:Rat)*x 1=0:=W;have:j=0\/j=1:=by omega
  rcases this with rfl|rfl<;>grind
 obtain⟨s,aa,Z,a0,ac,ab⟩:=((b1 bh).2 rfl).2 b2;simp only at s aa Z a0 ac ab⊢;subst aa;have s:Y8 lu ((2:Nat):Int):=s;have ar:lu.1.length=2:=(Hf s.1).1;have au:List.length (α:=Int) (lu.1:List Int)=2:=ar;refine⟨trivial, ?_⟩;rintro⟨ah,_⟩ _ a4;simp only at a4⊢;refine⟨trivial, ?_⟩;rintro⟨ai,_⟩ _ a5;simp only at a5⊢;subst a4 a5;have a6:II 1 [ri 4,ri 9]:=fun e d=>by
  simp only[qU,wJ,g1c]at d;rcases d with rfl|rfl<;>(rw[Xo];exact Xu (Ny (by decide)))
 obtain⟨b7,b8,b9,ba,bb⟩:=B8g (n:=2) (T:=tB 1 2 2) (U:=1) (m:=f) (lu:=lu) (b:= [ri 4,ri 9]) (by decide) (by decide) (by decide) (by decide) (by decide) B3 s Z a0 ac a6;rw[au];refine⟨⟨by omega,b9,ba,fun _ _=>⟨_,1,by decide,by decide,b7,b8,a6,bb⟩⟩, ?_⟩;rintro⟨X,aq,_⟩ _ ⟨_,a1⟩;change List C7 at X;change Int at aq;simp only at a1⊢;obtain⟨b0,aw,Q,bl,av⟩:=(a1 s).2 rfl;subst b0;have ad:=C0i (A:=el f) (b:= [ri 4,ri 9]) (X:=X) s (fun i j c a=>ab i j c a) av;have E:=ad 0 (by decide);have F:=ad 1 (by decide);rw[B4t,h 0 0 (by omega) (by omega),h 0 1 (by omega) (by omega)]at E;rw[B4t,h 1 0 (by omega) (by omega),h 1 1 (by omega) (by omega)]at F;have E:(0:Rat)*rv (X.getD 0 zr)+(2:Rat)*rv (X.getD 1 zr)=((4:Int):Rat):=E.trans (bH 4);have F:(3:Rat)*rv (X.getD 0 zr)+(0:Rat)*rv (X.getD 1 zr)=((9:Int):Rat):=F.trans (bH 9);have E:(2:Rat)*rv (X.getD 1 zr)=4:=by rw[sB,sV]at E;exact E
 have F:(3:Rat)*rv (X.getD 0 zr)=9:=by rw[sB,rL]at F;exact F
 have u:(2:Rat)*2=4:=by decide+kernel
 have f:(3:Rat)*3=9:=by decide+kernel
 have I:rv (X.getD 1 zr)=((2:Int):Rat):=by
  show _=(2:Rat);grind
 have H:rv (X.getD 0 zr)=((3:Int):Rat):=by
  show _=(3:Rat);grind
 have a2:X= [ri 3,ri 2]:=by
  match X,aw,Q,H,I with
  | [V,b],_,a7,H,I=>
   have W:=a7 V (by simp);have a3:=a7 b (by simp);have H:rv V= _:=H;have I:rv b= _:=I;rw[H]at W;rw[I]at a3;rw[Xo,Xo,W,a3]
 refine⟨fun _=>trivial, ?_⟩;rintro⟨bm,_⟩ M;refine⟨fun _=>trivial, ?_⟩;rintro⟨bi,_⟩ G;refine⟨fun _=>trivial, ?_⟩;rintro⟨bj,_⟩ w;refine⟨fun _=>trivial, ?_⟩;rintro⟨bn,_⟩ y;refine⟨fun _=>trivial, ?_⟩;rintro⟨bo,_⟩ z;change Bool at bi bj;have ax:ak=ri (-6):=by rw[a8,az,Xo]
 simp only[H9,g1h,xM]at M G w y z⊢;have M:=(M trivial).2;have G:=(G trivial).2;rw[M,ax,rH rfl]at G;subst G;simp only[xM]at w y z⊢;have w:=(w trivial).2;rw[b4,rH rfl]at w;subst w;simp only[g1i,xM]at y z⊢;have y:=(y trivial).2;have z:=(z trivial).2;subst y z;refine⟨fun _=>⟨fun e d=> ?_,fun e d=> ?_⟩, ?_⟩
 . rw[Q e d];refine J6 (k:=1) ?_ (by decide);rw[a2]at d;simp only[qU,wJ,g1c]at d;rcases d with rfl|rfl<;>(rw[bH];exact Ny (by decide))
 . simp only[qU,wJ,g1c]at d;rcases d with rfl|rfl<;>(rw[Xo];exact J6 (k:=1) (Ny (by decide)) (by decide))
 rintro⟨bk,_⟩ P;change Bool at bk;have P:=(P trivial).2;rw[P];exact rH ⟨a2,Q⟩
def QK:An:= {loop:= [(4,⟨[1],[0],[(3,false,vI)],[],[]⟩)]}
def Yh:A4 Dl.args->Prop:=fun(x:Az)=>let e:=(12:Int);let g:=(decide (e<x.1.2.1));let b:=(x.1.2.2.length:Int);let a:Prop:=(x.1.2.2.length<=(12:Nat)/\x.1.2.1<=e/\∀(v:List EE),v∈x.1.2.2->v.length<=(30:Nat));(iB (J5 (decide (e<b)) true g) (false=decide a) (∃(I:E1->Prop),∃(f: _->Nat),I ((0:Int),())/\∀(p:E1),let d:=(i64.wrap (p.1+1),());let c:Prop:=((30:Int)<(↑(gx [] x.1.2.2 p.1).length:Int));(Ty.int i64).wf p.1/\True->I p->(iB (decide (p.1<b)) ((0<=p.1/\p.1<b)/\(iB (decide c) (false=decide a) (I d/\f d<f p))) (true=decide a))))
def DF:An:= {join:= [(6,⟨[1,2],[],[],[],[]⟩)],plan:= [(15,[18,19,20,25,26],[],false,(.e 0 (pZ9 1 17 (.q 18 (.q 19 (.q 20 (.e 21 (.e 22 (.p 23 (.p 24 (.q 25 (.q 26 (.e 27 (.p 28 (.p 29 .done)))))))))))))))]}
def Lh:A4 F5.args->Prop:=fun(x:MM×List Int×List Int×Unit)=>let C:Prop:=(True/\True);let y:=(8:Nat);let w:=(4:Nat);let n:=(4:Int);let m:=(1:Nat);let l:=x.1.1.toNat;let h:=(1:Int);let f:=(0:Int);let b:Prop:=(O5 K1 x.1/\(A6 x.1->x.1.1=x.1.2.1->∃(T:Nat),m<=T/\Io l l (el x.1) T/\(T+T)*(Int.toNat x.1.1+w)+y<=K1));∃(J:Unit->Prop),(True/\Ml fun r=>r.1=decide (List.length x.1.2.2<=12/\x.1.2.1<=12/\∀(v:List EE),v∈x.1.2.2->v.length<=(30:Nat))->(iB r.1 (b/\∀(D:fN),Wb D.1/\Q8 D.2.1/\True->(¬A6 x.1->D.1=dQ/\D.2.1=h)/\(A6 x.1->(x.1.1≠x.1.2.1->D.1=dQ/\D.2.1=n)/\(x.1.1=x.1.2.1->D.1=rc (det l (el x.1))/\D.2.1=f))->b/\∀(F:fN),let g:Prop:=(D.2.1≠F.2.1);Wb F.1/\Q8 F.2.1/\True->(¬A6 x.1->F.1=dQ/\F.2.1=h)/\(A6 x.1->(x.1.1≠x.1.2.1->F.1=dQ/\F.2.1=n)/\(x.1.1=x.1.2.1->F.1=rc (det l (el x.1))/\F.2.1=f))->(decide g=false->True)/\∀(G:Y1),(decide g=false->C/\G.1=decide (D.1=F.1))->(iB ((J5 (decide g) true !G.1)) (false=true) (J ()))) (J ())))/\∀(p:Unit),True->J p->True/\∀(r:VL),let u:=(r.1.1.length:Int);(YZ r.1.1/\Q8 r.1.2)/\True->r.1=(x.2.2.1,f)->(h<=(5:Int)/\(5:Int)<=(20:Int))/\mW fun D=>let B:=D.1.2.1.toNat;let e:=D.1.1.toNat;sqG (5:Int) D.1->(f<=D.1.1/\D.1.1<=20/\f<=D.1.1/\D.1.1<=20/\f<=r.1.2/\r.1.2<=u)/\∀(F:Az) (o:VL),let q:=F.1.1.toNat;WfM F.1/\True->((Ty.int i64).sl.pair (Ty.int i64)).wf o.1/\True->B2w e e F.1->o.1.1=r.1.1/\f<=o.1.2/\o.1.2<=u->(∃(A:Nat),∃(c:Nat),m<=A/\O5 A D.1/\O5 A F.1/\D.1.2.1<=(↑c:Int)/\(A+A+m)*(c+m)<=K1)/\∀(G:A0r),let s:=G.1.1.toNat;WfM G.1/\Q8 G.2.1/\True->(¬(A6 D.1/\A6 F.1)->G.1=zm/\G.2.1=h)/\(A6 D.1/\A6 F.1->(D.1.2.1≠F.1.1->G.1=zm/\G.2.1=n)/\(D.1.2.1=F.1.1->HC e F.1.2.1.toNat (fun(i j:Nat)=>C2 B fun(k:Nat)=>el D.1 i k*el F.1 k j) G.1/\G.2.1=f))->O5 K1 D.1/\∀(H:A0r),let t:=H.1.1.toNat;WfM H.1/\Q8 H.2.1/\True->(¬A6 D.1->H.1=zm/\H.2.1=h)/\(A6 D.1->HC B e (fun(i j:Nat)=>el D.1 j i) H.1/\H.2.1=f)->(O5 K1 D.1/\(A6 D.1->D.1.1=D.1.2.1->∃(T:Nat),m<=T/\Io e e (el D.1) T/\(T+T)*(Int.toNat D.1.1+w)+y<=K1))/\∀(I:fN),Wb I.1/\Q8 I.2.1/\True->(¬A6 D.1->I.1=dQ/\I.2.1=h)/\(A6 D.1->(D.1.1≠D.1.2.1->I.1=dQ/\I.2.1=n)/\(D.1.1=D.1.2.1->I.1=rc (det e (el D.1))/\I.2.1=f))->(O5 K1 F.1/\(A6 F.1->F.1.1=F.1.2.1->∃(T:Nat),m<=T/\Io q q (el F.1) T/\(T+T)*(Int.toNat F.1.1+w)+y<=K1))/\∀(K:fN),Wb K.1/\Q8 K.2.1/\True->(¬A6 F.1->K.1=dQ/\K.2.1=h)/\(A6 F.1->(F.1.1≠F.1.2.1->K.1=dQ/\K.2.1=n)/\(F.1.1=F.1.2.1->K.1=rc (det q (el F.1))/\K.2.1=f))->(O5 K1 G.1/\(A6 G.1->G.1.1=G.1.2.1->∃(T:Nat),m<=T/\Io s s (el G.1) T/\(T+T)*(Int.toNat G.1.1+w)+y<=K1))/\∀(L:fN),Wb L.1/\Q8 L.2.1/\True->(¬A6 G.1->L.1=dQ/\L.2.1=h)/\(A6 G.1->(G.1.1≠G.1.2.1->L.1=dQ/\L.2.1=n)/\(G.1.1=G.1.2.1->L.1=rc (det s (el G.1))/\L.2.1=f))->(O5 K1 H.1/\(A6 H.1->H.1.1=H.1.2.1->∃(T:Nat),m<=T/\Io t t (el H.1) T/\(T+T)*(Int.toNat H.1.1+w)+y<=K1))/\∀(M:fN),let d:=(decide (M.2.1=f));Wb M.1/\Q8 M.2.1/\True->(¬A6 H.1->M.1=dQ/\M.2.1=h)/\(A6 H.1->(H.1.1≠H.1.2.1->M.1=dQ/\M.2.1=n)/\(H.1.1=H.1.2.1->M.1=rc (det t (el H.1))/\M.2.1=f))->True/\Ml fun P=>let a:=(J5 (J5 (J5 P.1 (decide (I.2.1=f)) false) (decide (K.2.1=f)) false) (decide (L.2.1=f)) false);let z:=(J5 a d false);P.1=true->(J5 a d false=true->D9 I.1/\D9 K.1)/\∀(O:H5),(J5 a d false=true->(Wb O.1/\True)/\O.1=rc (rv I.1*rv K.1))->(J5 a d false=true->True)/\∀(N:Y1),(J5 a d false=true->C/\N.1=decide (L.1=O.1))->(J5 z N.1 false=true->True)/\∀(Q:Y1),(J5 z N.1 false=true->C/\Q.1=decide (M.1=I.1))->J5 (J5 z N.1 false) Q.1 false=true
def IR (x:A4 Dl.args) (_:awf Dl.args x) (_:Dl.pre x):Yh x:=by
 obtain⟨⟨R,C,D⟩,_⟩:=x;change Int at R C;change List (List D1)at D;simp only[Yh,iB,M0,vL,rE,rS,rP];refine⟨fun h=>(rD fun⟨c,h2,_⟩=>by rcases h with h|h<;>omega).symm,fun⟨c,h2⟩=> ?_⟩;refine⟨fun p=>0<=p.1/\p.1<=(D.length:Int)/\∀k:Nat,(k:Int)<p.1->(D.getD k []).length<=30,fun p=>((D.length:Int)-p.1).toNat,⟨qI _,qF _,fun k a=>by omega⟩, ?_⟩;rintro⟨i,_⟩ _ ⟨b,l,a⟩;change Int at i;simp only at b l a⊢;refine⟨fun h=>⟨⟨b,h⟩,fun g=> ?_,fun g=> ?_⟩,fun h=> ?_⟩
 . have e:gx ([]:List D1) D i∈D:=I5 b h;exact(rD fun⟨_,_,h3⟩=>by have:=h3 _ e;omega).symm
 . have e:gx ([]:List D1) D i=D.getD i.toNat []:=rfl;rw[wv (by omega)];refine⟨⟨by omega,by omega,fun k d=> ?_⟩,by omega⟩;by_cases f:(k:Int)<i
   . exact a k f
   . have:k=i.toNat:=by omega
     rw[this, <-e];omega
 . refine(rH ⟨by omega,by omega,fun v j=> ?_⟩).symm;obtain⟨k,d,rfl⟩:=Aa [] j;exact a k (by omega)
def kQ {R C T T':Nat} {A:Nat->Nat->Rat} (h:Io R C A T) (g:T<=T'):Io R C A T':=fun k r c a b d f=>F8 (h k r c a b d f) g
def A2z {s R C R' C':Nat} (a:R<=R') (b:C<=C'):tB s R C<=tB s R' C':=by
 unfold tB;exact g0d (uZ a (g0d (rT _ (g0d (uZ a b) 1)) 1)) 1
def B7x {R C:Int} {D:List (List D1)} (a:A6 (R,C,D)) (b:HE (R,C,D)) (c:O5 1048576 (R,C,D)) (g:D.length<=12) (f:C<=12):Io R.toNat C.toNat (el (R,C,D)) 1824522253:=by
 have f:(D.length:Int)=R:=a.2.2.2.2.1;refine kQ (TK (s:=1048576) (by omega) fun i j f g=> ?_) (qX (A2z (R':=12) (C':=12) (by omega) (by omega)) (by decide));exact B4b a b c (by decide) (E8 (d:=([]:List D1)) (show i<D.length by omega)) _
def cV {n:Nat} {m:N7} {f:Nat->Nat->Rat} (g:n<=5) (a:HC n n f m) (k:∀i j,i<n->j<n->qs 64 (f i j)):A6 m/\m.1=(n:Int)/\m.2.1=(n:Int)/\O5 K1 m/\Io n n (el m) 8326/\qs 8326 (det n (el m)):=by
 have d:Io n n (el m) 8326:=kQ (TK (s:=64) (by omega) fun i j b c=>by rw[Sl a b c];exact k i j b c) (qX (A2z (R':=5) (C':=5) g g) (by decide));exact⟨Pf a (by omega) (by omega),a.1,a.2.1,DX a (by decide) fun i j b c=>F8 (k i j b c) (by decide),d,d n id id (qR _) (qR _) (fun _ h=>h) fun _ h=>h⟩
def Vv (x:A4 F5.args) (b2:awf F5.args x) (ay:F5.pre x):Lh x:=by
 have hK:K1=549755813888:=rfl;obtain⟨⟨R,C,D⟩,one,two,_⟩:=x;have ax:HE (R,C,D):=Jf b2.1.2.2.2;change Int at R C;change List (List D1)at D;have a8:O5 1048576 (R,C,D):=ay;simp only[Lh,iB,Ml,mW];refine⟨fun _=>True,⟨trivial, ?_⟩, ?_⟩
 . rintro⟨bf,_⟩ _ U;change Bool at bf;simp only at U⊢;refine⟨fun w=> ?_,fun _=>trivial⟩;rw[w]at U;obtain⟨au,ar,_⟩:=qA U.symm;have az:O5 K1 (R,C,D):=fun v d e he=>G7 (a8 v d e he) (by decide)
   have a7:O5 K1 (R,C,D)/\(A6 (R,C,D)->R=C->∃T:Nat,1<=T/\Io R.toNat R.toNat (el (R,C,D)) T/\(T+T)*(R.toNat+4)+8<=K1):=⟨az,fun d f=>by
    have o:=B7x d ax a8 au ar;rw[<-f]at o;have:=rT (1824522253+1824522253) (show R.toNat+4<=16 by omega);exact⟨1824522253,by decide,by rw[<-f];exact o,by omega⟩⟩
   refine⟨a7, ?_⟩;rintro⟨ah,e,_⟩ _ ⟨Y,M⟩;refine⟨a7, ?_⟩;rintro⟨ai,W,_⟩ _ ⟨Z,N⟩;change Int at e W;simp only at Y M Z N⊢;have b0:ah=ai/\e=W:=by
    by_cases d:A6 (R,C,D)
    . by_cases f:R=C
      . obtain⟨o,r⟩:=(M d).2 f;obtain⟨t,u⟩:=(N d).2 f;exact⟨o.trans t.symm,r.trans u.symm⟩
      . obtain⟨o,r⟩:=(M d).1 f;obtain⟨t,u⟩:=(N d).1 f;exact⟨o.trans t.symm,r.trans u.symm⟩
    . obtain⟨o,r⟩:=Y d;obtain⟨t,u⟩:=Z d;exact⟨o.trans t.symm,r.trans u.symm⟩
   obtain⟨rfl,rfl⟩:=b0;refine⟨fun _=>trivial, ?_⟩;rintro⟨z,_⟩ J;change Bool at z;simp only at J⊢;have J:z=true:=by rw[(J (rD (fun w=>w rfl))).2];simp
   rw[J,M0];refine⟨fun w=> ?_,fun _=>trivial⟩;simp at w
 rintro _ _ _;refine⟨trivial, ?_⟩;rintro⟨⟨tl,ti⟩,_⟩ _ a9;simp only at a9⊢;have b1:ti=0:=tC Prod.snd a9;subst b1;refine⟨⟨by decide,by decide⟩, ?_⟩;rintro⟨g,_⟩ _ ⟨n,bw,bx,bu,P,H⟩;change N7 at g;simp only at H⊢;have A:n<=5:=by omega
 obtain⟨V,bg,ad,aa,Ba,bc⟩:=cV A H fun i j _ _=>F8 (P i j) (by decide)
 rw[bg,ad];refine⟨⟨by omega,by omega,by omega,by omega,qI _,qF _⟩, ?_⟩;rintro⟨b,_⟩ ⟨⟨c3,c2⟩,_⟩ _ _ l _;change N7 at b;simp only[qT]at l⊢;obtain⟨bv,Q,l⟩:=l;obtain⟨ab,bh,ae,b7,Bb,be⟩:=cV A l fun i j _ _=>F8 (Q i j) (by decide)
 have ba:O5 4 g:=DX H (by decide) fun i j _ _=>P i j
 have bb:O5 4 b:=DX l (by decide) fun i j _ _=>F8 (Q i j) (by decide)
 rw[bh,ae];refine⟨⟨4,5,by decide,ba,bb,by omega,by decide⟩, ?_⟩;rintro⟨p,aj,_⟩ _ ⟨_,B⟩;change N7 at p;change Int at aj;obtain⟨B,_⟩:=(B ⟨V,ab⟩).2 (by first|rfl|trivial);simp only[qT]at B;have X:∀i j,i<n->j<n->qs 4 (el g i j):=fun i j a c=>by rw[Sl H a c];exact P i j
 have aq:∀i j,i<n->j<n->qs 4 (el b i j):=fun i j a c=>by rw[Sl l a c];exact F8 (Q i j) (by decide)
 obtain⟨bk,bi,af,b8,Bp,bz⟩:=cV A B fun i j a c=>by
  refine F8 (A2s (k:=8) fun k o=>Nz (X i k a o) (aq k j o c)) ?_;have:=rI 9 A;omega
 simp only;refine⟨aa, ?_⟩;rintro⟨s,ak,_⟩ _ ⟨_,E⟩;change N7 at s;change Int at ak;obtain⟨E,_⟩:=E V;simp only[qT]at E;obtain⟨bl,bj,ag,b9,Bs,c0⟩:=cV A E fun i j a c=>F8 (X j i c a) (by decide)
 rw[bi,af,bj,ag];simp only[qT];have I:(8326+8326)*(n+4)+8<=K1:=by have:=rT (8326+8326) (show n+4<=9 by omega);omega
 refine⟨⟨aa,fun _ _=>⟨_,by decide,Ba,I⟩⟩, ?_⟩;rintro⟨bp,am,_⟩ _ ⟨_,b3⟩;change Int at am;obtain⟨G,a0⟩:=(b3 V).2 (by first|rfl|trivial);refine⟨⟨b7,fun _ _=>⟨_,by decide,Bb,I⟩⟩, ?_⟩;rintro⟨bq,an,_⟩ _ ⟨_,b4⟩;change Int at an;obtain⟨O,a1⟩:=(b4 ab).2 (by first|rfl|trivial);refine⟨⟨b8,fun _ _=>⟨_,by decide,Bp,I⟩⟩, ?_⟩;rintro⟨bs,ao,_⟩ _ ⟨_,b5⟩;change Int at ao;obtain⟨a2,a3⟩:=(b5 bk).2 (by first|rfl|trivial);refine⟨⟨b9,fun _ _=>⟨_,by decide,Bs,I⟩⟩, ?_⟩;rintro⟨bt,ap,_⟩ _ ⟨_,b6⟩;change Int at ap;obtain⟨a4,a5⟩:=(b6 bl).2 (by first|rfl|trivial);simp only at G a0 O a1 a2 a3 a4 a5⊢;subst a0 a1 a3 a5;have av:det n (el p)=det n (el g)*det n (el b):=by
  rw[<-Sd];exact G4 fun i j a c=>Sl B a c
 have aw:det n (el s)=det n (el g):=by
  rw[<-RO n (el g)];exact G4 fun i j a c=>Sl E a c
 refine⟨trivial, ?_⟩;rintro⟨bn,_⟩ _ a6;change Bool at bn;simp only at a6⊢;subst a6;simp only[H9,g1h,g1i];refine⟨fun _=>⟨by rw[G];exact J6 bc (by decide),by rw[O];exact J6 be (by decide)⟩, ?_⟩;rintro⟨bo,_⟩ y;have y:=(y trivial).2;simp only at y⊢;rw[G,O,H8,H8]at y;refine⟨fun _=>trivial, ?_⟩;rintro⟨ac,_⟩ h;change Bool at ac;have h:=(h trivial).2;simp only at h⊢;have h:ac=true:=by rw[h];exact rH (by rw[a2,y,av])
 subst h;refine⟨fun _=>trivial, ?_⟩;rintro⟨bm,_⟩ F;change Bool at bm;have F:=(F (by trivial)).2;simp only at F⊢;rw[F,a4,G,aw];exact rH rfl
def Yb (x:A4 W6.args) (k:awf W6.args x) (_:W6.pre x):Ms x:=by
 obtain⟨a,b,_⟩:=x;have l:a.length<=9223372036854775807:=k.1.1;change List Int at a b;simp only[Ms,iB];refine⟨fun h=> ?_,fun h=> ?_⟩
 . have h:=qA h;exact(rD fun e=>h (by rw[e])).symm
 . have n:a.length=b.length:=by have:=qB h;omega
   refine⟨fun p=>0<=p.1/\p.1<=(a.length:Int)/\a.take p.1.toNat=b.take p.1.toNat,fun p=>((a.length:Int)-p.1).toNat,⟨qI _,qF _,by simp⟩, ?_⟩;rintro⟨i,_⟩ _ ⟨f,j,g⟩;change Int at i;simp only at f j g⊢;refine⟨fun h=> ?_,fun h=> ?_⟩
   . have h:=qA h;refine⟨⟨f,h⟩,⟨f,by omega⟩,fun c=> ?_,fun c=> ?_⟩
     . have c:=qA c;exact(rD fun e=>c (by rw[e])).symm
     . have c:gx 0 a i=gx 0 b i:=by simpa using c
       rw[wv (by omega)];refine⟨⟨by omega,by omega, ?_⟩,by omega⟩;rw[show(i+1).toNat=i.toNat+1 from by omega,rR,rR,H3 (d:=(0:Int)) f h,H3 (d:=(0:Int)) f (by omega),g,c]
   . have h:=qB h;rw[qQ (by omega),qQ (by omega)]at g;exact(rH g).symm
end Go.Proofs.YtljgpjhcieidbaaGreat
namespace Go.Vc
open Go Go.RowKit Go.Gw Go.Shelf
open Go.IntKind (i64 u32)
structure El (t:Ty) (w:World) (Z:Nat->Prop) where
 c:List Value
 v:t.den
 h:C6 t w Z c v
def jC {t:Ty} {w:World} {Z:Nat->Prop} :∀ {l:List t.den} {xs:List Value},G1 (C6 t w Z) xs l->∃L:List (El t w Z),L.flatMap El.c=xs/\L.map El.v=l
 | [],_,h=>⟨[],h.symm,rfl⟩
 |x::l,_,⟨c1,g,e,a,b⟩=>by
  obtain⟨L,d,f⟩:=jC b;exact⟨⟨c1,x,a⟩::L,by rw[yI,d,e],by rw[rW,f]⟩
def jD {t:Ty} {w w':World} {Z Z':Nat->Prop} (a:∀c x,C6 t w Z c x->C6 t w' Z' c x):∀L:List (El t w Z),G1 (C6 t w' Z') (L.flatMap El.c) (L.map El.v)
 | []=>rfl
 |p::L=>⟨p.c,L.flatMap El.c,rfl,a _ _ p.h,jD a L⟩
def jM {α:Type} {enc:α->List Value} {k:Nat} (a:∀x,(enc x).length=k):∀(L:List α) (i r:Nat) {x:α},L[i]? =some x->r<k->(L.flatMap enc)[i*k+r]? =(enc x)[r]?
 | [],_,_,_,h,_=>by cases h
 |y::L,0,r,x,h,b=>by
  simp only[List.getElem?_cons_zero,rB]at h;subst h;rw[yI,xL,sA,vC (by rw[a];exact b)]
 |y::L,i+1,r,x,h,b=>by
  rw[uN]at h;have e:(i+1)*k+r-k=i*k+r:=by rw[uL];omega
  rw[yI,tJ (by rw[a,uL];omega),a,e];exact jM a L i r h b
def jN {α:Type} {enc:α->List Value} {k:Nat} (a:∀x,(enc x).length=k):∀L:List α,(L.flatMap enc).length=L.length*k
 | []=>by simp
 |x::L=>by rw[yI,rQ,jN a L,a,rG,uL];omega
def jL {α:Type} [Inhabited α] {enc:α->List Value} {k:Nat} (c:∀x,(enc x).length=k) (d:Array α) {j:Nat} (a:j<d.size*k):(d.toList.flatMap enc)[j]? =some (Go.Sort.flatK enc k d)[j]!:=by
 have f:0<k:=by
  rcases vD k with h|h
  . rw[h,wN]at a;omega
  . exact h
 have b:j/k<d.size:=(tN f).2 a;have g:j%k<k:=vX _ f;have e:j=j/k*k+j%k:=by rw[sN];exact(wT j k).symm
 rw[Go.Sort.get_flatK enc k d j a];have a:d.toList[j/k]? =some d[j/k]!:=by
  rw[wF,vB b,g0q d _ b]
 have:=jM c d.toList (j/k) (j%k) a g;rw[<-e]at this;have a:j%k<(enc d[j/k]!).length:=by rw[c];exact g
 rw[this,qS a,g0q (enc d[j/k]!) (j%k) a]
def A4y {F cur:Array Value} {n:Nat} {xs:List Value} (c:xs.length=n) (a:F.size=n) (b:n<=cur.size) (h:∀j,j<n->xs[j]? =some F[j]!):(Go.Sort.putCells id 0 F cur).size=cur.size/\(Go.Sort.putCells id 0 F cur).toList.take n=xs:=by
 refine⟨by simp[Go.Sort.putCells], ?_⟩;apply xH;intro j;by_cases a:j<n
 . rw[rX a,h j a,wF];unfold Go.Sort.putCells;rw[Array.getElem?_mapIdx,vB (by omega)];simp only[wD];rw[qL ⟨rK _,by omega⟩];rfl
 . rw[rU (by simp;omega),rU (by omega)]
def B0g {α:Type} [Inhabited α] {d a:Array α} (h:Go.Sort.PermIn 0 d.size d a):a.toList.Perm d.toList:=by
 obtain⟨b,_,a⟩:=h;rw[g2t,g2t]at a;simpa[List.extract_eq_take_drop,qQ,b]using a
def A0f {α:Type} [Inhabited α] {lt:α->α->Bool} {c:Array α} {n:Nat} (d:c.size=n) (h:Go.Sort.SortedIn lt 0 n c):c.toList.Pairwise fun a b=>lt b a=false:=by
 rw[tZ];intro i j d k g;have f:i<c.size:=by simpa using d
 have d:j<c.size:=by simpa using k
 have:=h i j (rK _) g (by omega);rw[g0q c i f,g0q c j d]at this;simpa using this
def B4v {w:World} {b m:Nat} {f:Array Value->Array Value} {a:Array Obj} :w.heap.size<=(Go.Sort.grow (Go.Sort.mapBlock (Go.Sort.ahead w m) b f) a).heap.size:=by
 simp[Go.Sort.grow,Go.Sort.mapBlock,Go.Sort.ahead]
def mE {w:World} {b m j:Nat} {f:Array Value->Array Value} {d:Array Obj} (a:j<w.heap.size) (c:j≠b):(Go.Sort.grow (Go.Sort.mapBlock (Go.Sort.ahead w m) b f) d).heap[j]? =w.heap[j]?:=by
 rw[Go.Sort.heap_grow_old _ _ (by simpa[Go.Sort.mapBlock,Go.Sort.ahead]using a)];unfold Go.Sort.mapBlock;simp only;rw[g2p,qH (Ne.symm c)];rfl
def B4u {w:World} {b m:Nat} {f:Array Value->Array Value} {c:Array Obj} {cur:Array Value} {e:TypeId} (a:w.heap[b]? =some (.cells cur e (0,0))):(Go.Sort.grow (Go.Sort.mapBlock (Go.Sort.ahead w m) b f) c).heap[b]? =some (.cells (f cur) e (0,0)):=by
 have c:b<w.heap.size:=(rV.1 a).1;rw[Go.Sort.heap_grow_old _ _ (by simpa[Go.Sort.mapBlock,Go.Sort.ahead]using c)];unfold Go.Sort.mapBlock;simp only;rw[g2p,qL rfl];have:(Go.Sort.ahead w m).heap[b]? =some (.cells cur e (0,0)):=a;rw[this];rfl
def SA {P:Program} {f:FuncId} (a:Ez P f=true) (args:Array Value) (w:World):(callFunc f args).run P w= .ok (.enter f args) w:=by
 unfold Ez at a;split at a
 . rename_i fn d;simp only[qC,rO]at a;have c:¬fn.body=none:=by intro hb;rw[hb]at a;simp at a
   have b:¬fn.name= "runtime.NumGoroutine" :=by simpa using a.1
   simp[callFunc,d,b,c,go_sem]
 . cases a
def B4w {α d:Type} {φ:α->α->Int} (v:d->α) (f:∀a,¬φ a a<0) (g:∀a b c,φ a b<0->φ b c<0->φ a c<0) (i:∀a b c,¬φ a b<0->¬φ b c<0->¬φ a c<0):
 Go.Sort.SWO (Go.Proofs.ltOf fun x y:d=>φ (v x) (v y)):=by
 refine⟨fun x=> ?_,fun x y z h d=> ?_,fun x y z h d=> ?_⟩
 . exact rD (f _)
 . exact rH (g _ _ _ (qA h) (qA d))
 . exact rD (i _ _ _ (qB h) (qB d))
def A5k {t:Ty} {φ:t.den->t.den->Int} {e:TypeId} {w w':World} {Z:Nat->Prop} {fv:Value} {g c:Nat} {cur F:Array Value} {k:Nat} {x:List t.den} {L L':List (El t w Z)}
 (E:∀b,Z b->b<w.heap.size) (I:¬Z g) (i:t.size=k)
 (a0:w.heap[g]? =some (.cells cur e (0,0))) (n:L.length<=c) (N:c<=maxLen) (s:cur.size=c*k) (D:L.map El.v=x)
 (u:L'.Perm L) (Q:L'.Pairwise fun a b=>¬φ b.v a.v<0)
 (A:F.size=L.length*k) (B:∀j,j<L.length*k->(L'.flatMap El.c)[j]? =some F[j]!)
 (O:w'.os=w.os) (U:w'.tape=w.tape) (P:w'.output=w.output) (T:w.heap.size<=w'.heap.size)
 (l:∀j,j<w.heap.size->j≠g->w'.heap[j]? =w.heap[j]?) (H:w'.heap[g]? =some (.cells (Go.Sort.putCells id 0 F cur) e (0,0))):
 Gl (kR w (Am t e φ).args [.slice (some ⟨g,0,none⟩) L.length c,fv]) w w'/\∃(r:Ae (Am t e φ).res) (o:Lu (Am t e φ).args) (us:List Value) (Zn:Nat->Prop),(Am t e φ).post (x,()) r/\(O8 (Am t e φ).args=true->(Am t e φ).mpost (x,()) r o)/\Value.tuple #[]=Xy us/\(∀b,Zn b->(w.heap.size<=b/\b<w'.heap.size)\/((Am t e φ).shared=true/\Z b))/\Ly w.heap.size w' Zn (Am t e φ).res us r/\Ux w w' Zn (Am t e φ).args [.slice (some ⟨g,0,none⟩) L.length c,fv] o:=by
 have f:L'.length=L.length:=u.length_eq;have G:∀p:El t w Z,p.c.length=k:=fun p=>by rw[<-i];exact C6.length p.h
 have y:(L'.flatMap El.c).length=L.length*k:=by rw[jN G,f]
 obtain⟨W,X⟩:=A4y y A (by rw[s];exact rI _ n) B;have R:M6 Z w w':=fun b d=>l b (E b d) (fun e=>I (e▸d))
 refine⟨⟨O,U,P,T,fun j J M=>l j J (fun z=>M ?_),trivial⟩,(),(L'.map El.v,()),[],Z,trivial,fun _=>⟨?_, ?_⟩,rfl,fun b d=> .inr ⟨rfl,d⟩,rfl, ?_⟩
 . subst z;refine⟨(.row t e, .slice (some ⟨j,0,none⟩) L.length c),rJ, ?_⟩;rfl
 . rw[<-D];exact u.map _
 . exact yL.2 Q
 . refine⟨⟨L'.flatMap El.c,⟨?_, .inr ⟨g,c,Go.Sort.putCells id 0 F cur, ?_,rK _,H, ?_,N, ?_, ?_⟩⟩, ?_⟩,trivial⟩
   . simp only[sR];rw[y,f,i]
   . simp only[sR,f]
   . simp only[sR,f];exact n
   . rw[W,s,i]
   . simp only[sR,f,i];exact X
   . refine jD (fun Y a1 V=> ?_) L';exact C6.mono (fun b d=>d) R V
def B5j (P:Program) (g:FuncId) (t:Ty) (φ:t.den->t.den->Int):Prop:=
 ∀(w:World) (Z:Nat->Prop) (c1 a:List Value) (x y:t.den),C6 t w Z c1 x->C6 t w Z a y->Calls P g #[.agg c1.toArray, .agg a.toArray] w fun e b=>e= .returned (.int .i64 (φ x y))/\∃q a,b=Go.Sort.grow (w.drewN q) a
def B0u {P:Program} {ρ:Ren} (LL:Go.Proofs.SlLaysF0.n6 P ρ) {t:Ty} {e:TypeId} {g:FuncId} {φ:t.den->t.den->Int} (R:∀w,(isAgg (ρ.t 24)).run P w= .ok true w) (ah:∀w,(Go.sizeOf (ρ.t 24)).run P w= .ok t.size w)
 (U:∀a,¬φ a a<0) (V:∀a b c,φ a b<0->φ b c<0->φ a c<0) (W:∀a b c,¬φ a b<0->¬φ b c<0->¬φ a c<0) (a6:Ez P g=true) (a3:B5j P g t φ):A1b P (ρ.f 6) g t e φ:=by
 rintro w Z am aj D ⟨an,M,a5,a0⟩ a8;obtain⟨L,rfl,rfl⟩:=jC a5;have Y:(L.map El.v).length=L.length:=sR ..;rw[Y]at M a8;obtain⟨ai,af⟩:=M;have z:∀(p:Option Addr) (d:Nat),L= []->Gw.nA P (ρ.f 6) [.slice p 0 d, .func (.func g) #[] #[]] w fun u Q=>u= .tuple #[]/\Q=w:=fun p d _=>
  Calls.mono (Go.Proofs.AnyF.slices_SortFunc_none LL p d (.func (.func g) #[] #[]) w) fun _ _ ⟨N,hw⟩=>⟨_,N,rfl,hw⟩
 rcases af with⟨rfl,a9⟩ | ⟨b,d,cur,rfl,_,h,G,J,H,ae⟩
 . have n:L= []:=qN a9;subst n;refine(z none 0 rfl).mono ?_;rintro _ _ ⟨rfl,rfl⟩;refine⟨Gl.of (P9.refl _),(),([],()),[],(fun _=>False),trivial,fun _=>⟨wP _,List.Pairwise.nil⟩,rfl,fun _ s=>s.elim,rfl,⟨⟨[],World.ownsRow_nil _ _ _ _,rfl⟩,trivial⟩⟩
 . have E:¬Z b:=a0 b rfl;have v:∀p:El t w Z,p.c.length=t.size:=fun p=>C6.length p.h
   have a1:b<w.heap.size:=(rV.1 h).1;rcases n:L with _ | ⟨ag,L0⟩
   . subst n;refine(z _ d rfl).mono ?_;rintro _ _ ⟨rfl,rfl⟩;refine⟨Gl.of (P9.refl _),(),([],()),[],(fun _=>False),trivial,fun _=>⟨wP _,List.Pairwise.nil⟩,rfl,fun _ s=>s.elim,rfl,⟨⟨[],⟨by simp, .inr ⟨b,d,cur,rfl,rK _,h,G,J,H,by simp⟩⟩,rfl⟩,trivial⟩⟩
   . rw[<-n];clear z
     haveI:Inhabited (El t w Z):=⟨ag⟩
     have X:Go.Sort.HoldsK El.c t.size w b 0 L.toArray:=by
      intro r j;rw[Go.Sort.size_flatK]at j;have a7:r<L.length*t.size:=by simpa using j
      have N:=jL v L.toArray j;rw[sA];refine⟨?_, ?_⟩
      . have T:cur[r]? =some (Go.Sort.flatK El.c t.size L.toArray)[r]!:=by
         rw[<-N];simp only;rw[<-ae,rX a7,wF]
        simp only[World.cell?,h];exact T
      . simp[World.frozen?,h]
     have a4:Go.Proofs.CmpLays P g #[] El.c t.size (fun x y:El t w Z=>φ x.v y.v) b 0 L.toArray.size w:=by
      intro m O T a7 x y;have N:M6 Z w (Go.Proofs.sortWorldK El.c t.size w b 0 m T O):=by
       intro B o;have:B≠b:=fun e=>E (e▸o)
       exact mE (D B o) this
      exact a3 _ Z x.c y.c x.v y.v (C6.mono (fun _ i=>i) N x.h) (C6.mono (fun _ i=>i) N y.h)
     have a2:=Go.Proofs.AnyQ.slices_SortFunc LL t.size R ah El.c v (fun x=>C6.oneCell x.h) (fun x y:El t w Z=>φ x.v y.v) (B4w El.v U V W) g #[] b 0 d L.toArray w (SA a6) a4 X a1 (by simp;omega);refine Calls.mono a2 ?_;rintro _ Q ⟨rfl,l,ak,O,A,ad,rfl⟩;refine⟨_,rfl, ?_⟩;have ab:=B0g A;have ac:=A0f A.1 ad;have I:l.size=L.length:=by rw[A.1];simp
     refine A5k (k:=t.size) (F:=Go.Sort.flatK El.c t.size l) (L:=L) (L':=l.toList) (cur:=cur) (x:=L.map El.v) D E rfl h G J H rfl ab ?_ ?_ ?_ rfl rfl rfl ?_ ?_ ?_
     . exact ac.imp fun i=>qB i
     . rw[Go.Sort.size_flatK,I]
     . intro r j;exact jL v l (by rw[I];exact j)
     . exact B4v
     . intro B o aa;exact mE o aa
     . exact B4u h
end Go.Vc
namespace Go.Proofs
open Go.Proofs.Tryz
open Go.Shelf
open Go.IntKind (i64 u32)
def Tryz.sortEnt_ren:Go.Shelf.Ren:=⟨fun|6=>103|15=>144|14=>143|28=>181|29=>182|20=>173|21=>174|22=>175|23=>176|24=>177|25=>178|26=>179|27=>180|46=>199|47=>200|48=>201|49=>202|50=>203|57=>210|n=>n,fun|22=>67|24=>70|25=>139|3=>3|39=>154|0=>0|53=>116|55=>133|4=>4|46=>181|45=>180|50=>185|5=>5|9=>9|66=>202|70=>206|76=>211|77=>212|n=>n,fun|n=>n⟩
def Tryz.sortEnt:Go.Proofs.SlLaysF0.n6 prog sortEnt_ren:= {
 mixed:=by kernel_rfl
 f6:=⟨f103.name,by decide,func103.trans (tC some (by kernel_rfl))⟩
 f14:=⟨f143.name,by decide,func143.trans (tC some (by kernel_rfl))⟩
 f15:=func144.trans (tC some (by kernel_rfl))
 f20:=⟨f173.name,by decide,func173.trans (tC some (by kernel_rfl))⟩
 f21:=⟨f174.name,by decide,func174.trans (tC some (by kernel_rfl))⟩
 f22:=⟨f175.name,by decide,func175.trans (tC some (by kernel_rfl))⟩
 f23:=⟨f176.name,by decide,func176.trans (tC some (by kernel_rfl))⟩
 f24:=⟨f177.name,by decide,func177.trans (tC some (by kernel_rfl))⟩
 f25:=⟨f178.name,by decide,func178.trans (tC some (by kernel_rfl))⟩
 f26:=⟨f179.name,by decide,func179.trans (tC some (by kernel_rfl))⟩
 f27:=⟨f180.name,by decide,func180.trans (tC some (by kernel_rfl))⟩
 f28:=func181.trans (tC some (by kernel_rfl))
 f29:=func182.trans (tC some (by kernel_rfl))
 f46:=⟨f199.name,by decide,func199.trans (tC some (by kernel_rfl))⟩
 f47:=func200.trans (tC some (by kernel_rfl))
 f48:=func201.trans (tC some (by kernel_rfl))
 f49:=⟨f202.name,by decide,func202.trans (tC some (by kernel_rfl))⟩
 f50:=⟨f203.name,by decide,func203.trans (tC some (by kernel_rfl))⟩
 f57:=⟨f210.name,by decide,func210.trans (tC some (by kernel_rfl))⟩
 t0:=underlying0
 a0:=isAgg0
 z0:=sizeOf0
 v0:=zeroValue0
 t3:=underlying3
 a3:=isAgg3
 z3:=sizeOf3
 v3:=zeroValue3
 t4:=underlying4
 a4:=isAgg4
 z4:=sizeOf4
 v4:=zeroValue4
 t5:=underlying5
 a5:=isAgg5
 z5:=sizeOf5
 v5:=zeroValue5
 t9:=underlying9
 a9:=isAgg9
 z9:=sizeOf9
 v9:=zeroValue9
 t22:=underlying67
 a22:=isAgg67
 z22:=sizeOf67
 v22:=zeroValue67
 t25:=underlying139
 a25:=isAgg139
 z25:=sizeOf139
 v25:=zeroValue139
 t39:=underlying154
 a39:=isAgg154
 z39:=sizeOf154
 v39:=zeroValue154
 t45:=underlying180
 a45:=isAgg180
 z45:=sizeOf180
 v45:=zeroValue180
 t46:=underlying181
 a46:=isAgg181
 z46:=sizeOf181
 v46:=zeroValue181
 t50:=underlying185
 a50:=isAgg185
 z50:=sizeOf185
 v50:=zeroValue185
 t53:=underlying116
 a53:=isAgg116
 z53:=sizeOf116
 v53:=zeroValue116
 t55:=underlying133
 a55:=isAgg133
 z55:=sizeOf133
 v55:=zeroValue133
 t66:=underlying202
 a66:=isAgg202
 z66:=sizeOf202
 v66:=zeroValue202
 t70:=underlying206
 a70:=isAgg206
 z70:=sizeOf206
 v70:=zeroValue206
 t76:=underlying211
 a76:=isAgg211
 z76:=sizeOf211
 v76:=zeroValue211
 t77:=underlying212
 a77:=isAgg212
 z77:=sizeOf212
 v77:=zeroValue212}
def Tryz.cmpInt_ren:Go.Shelf.Ren:=⟨fun|5=>145|7=>183|n=>n,fun|22=>3|3=>3|4=>4|n=>n,fun|n=>n⟩
def Tryz.cmpInt:Go.Proofs.SlLaysC2.n5 prog cmpInt_ren:= {
 mixed:=by kernel_rfl
 f5:=⟨f145.name,by decide,func145.trans (tC some (by kernel_rfl))⟩
 f7:=⟨f183.name,by decide,func183.trans (tC some (by kernel_rfl))⟩
 t3:=underlying3
 a3:=isAgg3
 z3:=sizeOf3
 v3:=zeroValue3
 t4:=underlying4
 a4:=isAgg4
 z4:=sizeOf4
 v4:=zeroValue4
 t22:=underlying3
 a22:=isAgg3
 z22:=sizeOf3
 v22:=zeroValue3}
end Go.Proofs
namespace Go.Proofs.YtljgpjhcieidbaaGreat
open Go.Proofs.Tryz
open Go.Vc Go.Gw Go.Lib Go.Shelf
open Go.IntKind (i64 u32)
def gI (w:World) (o:Obj):w.alloc o= {w with heap:=w.heap.push o} :=rfl
def B6o (a b:Int):Lib.compareInt a b=O0 a b:=by
 unfold Lib.compareInt O0
 (repeat' split)<;>first|rfl|omega
def A3p (a b:Int) (c d:List Value) (w:World):Calls prog 104 #[.agg (.int .i64 a::c).toArray, .agg (.int .i64 b::d).toArray] w fun e w'=>e= .returned (.int .i64 (Lib.compareInt a b))/\∃q h,w'=Go.Sort.grow (w.drewN q) h:=by
 have i:∀args w,(callFunc 145 args).run prog w= .ok (.enter 145 args) w:=Go.Vc.SA (by kernel_rfl);have f:=fun(w:World)=>AnyG.cmp_Compare_int cmpInt a b w
 go_enter func104,ntmps104
 go_wp2_with (go_at_fn (145);refine(f _).mono ?_;rintro e w' ⟨rfl,g⟩;rw[g])
 go_ret
 refine⟨rfl,0, #[.cells (Value.int .i64 a::c).toArray 70, .cells (Value.int .i64 b::d).toArray 70], ?_⟩;rw[gI,gI];simp[Go.Sort.grow,World.drewN];apply g1m.1;simp
def B2i:B5j prog 104 tE (fun a b:D1=>O0 a.1 b.1):=by
 rintro w Z c1 f x y ⟨g,c,rfl,⟨rfl,_⟩,_⟩ ⟨h,d,rfl,⟨rfl,_⟩,_⟩;have:=A3p x.1 y.1 c d w;rw[B6o]at this;exact this
def B0t:gC prog 103 (A2w 104 tE 70 (fun a b=>O0 a.1 b.1)):=by
 refine A0e (tys:= []) (B0u (ρ:=sortEnt_ren) sortEnt (t:=tE) (e:=70) (g:=104) (φ:=fun a b:D1=>O0 a.1 b.1) isAgg70 sizeOf70 (fun a=> ?_) (fun a b c=> ?_) (fun a b c=> ?_) (by kernel_rfl) B2i);all_goals (simp only[O0];(repeat' split)<;>omega)
end Go.Proofs.YtljgpjhcieidbaaGreat
