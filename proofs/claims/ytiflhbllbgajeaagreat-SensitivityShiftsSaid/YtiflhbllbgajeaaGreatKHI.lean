/- Part. -/
import Derived.Test.YtiflhbllbgajeaaGreatKHH
set_option linter.all false
namespace Go.Proofs.YtiflhbllbgajeaaGreat
open Go.Proofs.Tryz
open Go.Vc Go.Gw
open Go.IntKind (i64 u32)
def QR:An:= {loop:= [(12,⟨[1,2,7,8,9,30,31,55,56],[0],[(57,false,vI)],[],[(1, .row tQ 43)]⟩),(7,⟨[1,2,7,8,30],[0],[(31,false,vI)],[],[(1, .row tQ 43)]⟩),(24,⟨[2,7,8,13,15,16,80,81,95,96],[0,2],[(97,false,vI)],[],[(1, .row tQ 43)]⟩),(19,⟨[2,7,8,13,80],[0],[(81,false,vI)],[],[(1, .row tQ 43),(2, .row tQ 43)]⟩)],plan:= [(14,[5,7,10,12],[15],true,(pZ9 0 5 (.q 5 (.p 6 (.q 7 (.p 8 (.p 9 (.q 10 (.p 11 (.q 12 (.e 13 (.p 14 (.e 15 .done))))))))))))),(26,[5,7,10,12],[15],true,(pZ9 0 5 (.q 5 (.p 6 (.q 7 (.p 8 (.p 9 (.q 10 (.p 11 (.q 12 (.e 13 (.p 14 (.e 15 .done))))))))))))),(28,[5,9],[15],true,(pZ9 0 5 (.q 5 (pZ9 6 3 (.q 9 (.e 10 (pZ9 11 4 (.e 15 .done)))))))),(29,[2,5,9],[11],true,(.p 0 (.p 1 (.q 2 (.p 3 (.p 4 (.q 5 (pZ9 6 3 (.q 9 (.p 10 (.e 11 .done)))))))))))]}
abbrev C3h:=Int×List QQ×List QQ×Unit
abbrev A6b:=Int×List QQ×Unit
def Wg:A2 Z4.args->Prop:=fun(x:C2o)=>let M:=(1:Nat);let A:=(↑x.1.1.length:Int);let q:=(1:Int);let g:=(0:Int);let d:=(x.1.1.length:Int);let v:Prop:=(g<=d/\d<=d/\(↑(56:Nat):Int)*d<=(281474976710656:Int)/\d<=(9223372036854775807:Int));(List.length x.1.1<=16384/\Ax K1 x.1.2.2.1/\Ax K1 x.1.2.2.2)/\Ck fun r=>(¬Cp x.1 d->r.1=q)/\(Cp x.1 d->(List.length x.2.1≠List.length x.1.1->r.1=4)/\(List.length x.2.1=List.length x.1.1->r.1=g))->(iB (decide (r.1≠g)) ((¬Cp x.1 A->Cr QQ= []/\r.1=q)/\(Cp x.1 A->(x.2.1.length≠x.1.1.length->Cr QQ= []/\r.1=4)/\(x.2.1.length=x.1.1.length->r.1=g/\0=x.1.1.length/\(∀(e:QQ),e∈ []->e=rc (rv e))/\(∀(s T:Nat),M<=s->M<=T->Ax s x.1.2.2.1->Ax s x.1.2.2.2->KV T x.2.1->KV (hK s (gK s T x.1.1.length) x.1.1.length+s) [])/\∀(i:Nat),i<x.1.1.length->(D1 x.1.1.length fun(j:Nat)=>luM x.1 x.1.1.length i j*rv ([].getD (ix x.1.2.1 j) zr))=rv (x.2.1.getD (ix x.1.1 i) zr)))) (v/\∃(I:A6b->Prop),∃(b: _->Nat),I (g,List.replicate d.toNat dQ,())/\∀(p:A6b),let E:=p.1.toNat;let m:=(gx [] x.1.2.2.1.2.2 p.1);let B:=(↑m.length:Int);let L:=(i64.wrap (B-q));let a:=(↑(List.drop g.toNat (List.take L.toNat m)).length:Int);(Ty.int i64).wf p.1/\WfL p.2.1/\True->I p->(iB (decide (p.1<d)) ((g<=p.1/\p.1<d)/\(g<=gx g x.1.1 p.1/\gx g x.1.1 p.1<(x.2.1.length:Int))/\(g<=p.1/\p.1<(p.2.1.length:Int))/\(g<=p.1/\p.1<(x.1.2.2.1.2.2.length:Int))/\(g<=g/\g<=i64.wrap (B-q)/\i64.wrap (B-q)<=B)/\∃(I_1:A6b->Prop),∃(h: _->Nat),I_1 (g,List.set p.2.1 E (gx dQ x.2.1 (gx g x.1.1 p.1)),())/\∀(N:A6b),let K:=(List.getD N.2.1 E dQ);let F:=(i64.wrap (p.1+q),N.2.1,());let D:=(N.2.1.length:Int);let c:=(gx E4 (List.drop g.toNat (List.take L.toNat m)) N.1);let t:=(List.getD N.2.1 c.1.toNat dQ);(Ty.int i64).wf N.1/\WfL N.2.1/\True->I_1 N->(iB (decide (N.1<a)) ((g<=N.1/\N.1<a)/\(g<=p.1/\p.1<D)/\(g<=c.1/\c.1<D)/\(sz K1 K/\sz K1 c.2/\sz K1 t)/\H6 fun r=>let z:=(i64.wrap (N.1+q),List.set N.2.1 E r.1,());(rv t=(0:Rat)->r.1=List.getD N.2.1 E dQ)/\(rv t≠(0:Rat)->r.1=rc (rv K-rv c.2*rv t))->(g<=p.1/\p.1<D)/\I_1 z/\h z<h N) (I F/\b F<b p))) (v/\∃(I:C3h->Prop),∃(b: _->Nat),I (g,p.2.1,List.replicate d.toNat dQ,())/\∀(p:C3h),let a:=(i64.wrap (d-q)-p.1);let k:=(i64.wrap a);let c:=(gx [] x.1.2.2.2.2.2 k);let J:=(gx E4 c g);let y:=(↑c.length:Int);let o:=(↑(List.drop q.toNat (List.take y.toNat c)).length:Int);(Ty.int i64).wf p.1/\WfL p.2.1/\WfL p.2.2.1/\True->I p->(iB (decide (p.1<d)) ((g<=i64.wrap a/\i64.wrap a<(x.1.2.2.2.2.2.length:Int))/\(g<=q/\q<=y/\y<=y)/\∃(I_1:A6b->Prop),∃(h: _->Nat),I_1 (g,p.2.1,())/\∀(N:A6b),let G:=(N.2.1.length:Int);let w:=(List.getD N.2.1 k.toNat dQ);let l:Prop:=(g<=i64.wrap a/\i64.wrap a<G);let f:=(gx E4 (List.drop q.toNat (List.take y.toNat c)) N.1);let u:=(List.getD N.2.1 f.1.toNat dQ);(Ty.int i64).wf N.1/\WfL N.2.1/\True->I_1 N->(iB (decide (N.1<o)) ((g<=N.1/\N.1<o)/\l/\(g<=f.1/\f.1<G)/\(sz K1 w/\sz K1 f.2/\sz K1 u)/\H6 fun r=>let C:=(i64.wrap (N.1+q),List.set N.2.1 k.toNat r.1,());(rv u=(0:Rat)->r.1=List.getD N.2.1 k.toNat dQ)/\(rv u≠(0:Rat)->r.1=rc (rv w-rv f.2*rv u))->l/\I_1 C/\h C<h N) (l/\(g<=g/\g<y)/\(E3 w/\E3 J.2)/\∀(r:B6f),let H:=(List.set N.2.1 k.toNat r.1);let n:=(i64.wrap (p.1+q),List.set N.2.1 k.toNat r.1,List.set p.2.2.1 (gx g x.1.2.1 k).toNat (H.getD k.toNat dQ),());ED r.1/\True/\True->(rv J.2=(0:Rat)->r.2.1=false)/\(rv J.2≠(0:Rat)->r.1=rc (rv w/rv J.2)/\r.2.1=true)->l/\(g<=i64.wrap a/\i64.wrap a<(x.1.2.1.length:Int))/\(g<=i64.wrap a/\i64.wrap a<(↑H.length:Int))/\(g<=gx g x.1.2.1 k/\gx g x.1.2.1 k<(p.2.2.1.length:Int))/\I n/\b n<b p))) ((¬Cp x.1 A->p.2.2.1= []/\g=q)/\(Cp x.1 A->(x.2.1.length≠x.1.1.length->p.2.2.1= []/\g=(4:Int))/\(x.2.1.length=x.1.1.length->g=g/\List.length p.2.2.1=x.1.1.length/\(∀(e:QQ),e∈p.2.2.1->e=rc (rv e))/\(∀(s T:Nat),M<=s->M<=T->Ax s x.1.2.2.1->Ax s x.1.2.2.2->KV T x.2.1->KV (hK s (gK s T x.1.1.length) x.1.1.length+s) p.2.2.1)/\∀(i:Nat),i<x.1.1.length->(D1 x.1.1.length fun(j:Nat)=>luM x.1 x.1.1.length i j*rv (List.getD p.2.2.1 (ix x.1.2.1 j) zr))=rv (x.2.1.getD (ix x.1.1 i) zr)))))))))
def zok (k:Nat) (q:Rat) (x:D5):Prop:=sz k x/\Ik x/\rv x=q
def B2w {k:Nat} {q:Rat} (h:qs k q):zok k q (rc q):=⟨KW h,SN q,E6 q⟩
def nK {j k:Nat} {q:Rat} {x:D5} (h:zok j q x) (a:j<=k):zok k q x:=⟨G1 h.1 a,h.2⟩
def Iz {s T:Nat} :∀ {a b:Nat},a<=b->gK s T a<=gK s T b
 |a,0,h=>by have:a=0:=by omega
            subst this;exact qZ _
 |a,b+1,h=>by
  by_cases c:a=b+1
  . subst c;exact qZ _
  . have:=Iz (s:=s) (T:=T) (a:=a) (b:=b) (by omega);simp only[gK];omega
def Kz {s T:Nat} :∀ {a b:Nat},a<=b->hK s T a<=hK s T b
 |a,0,h=>by have:a=0:=by omega
            subst this;exact qZ _
 |a,b+1,h=>by
  by_cases c:a=b+1
  . subst c;exact qZ _
  . have:=Kz (s:=s) (T:=T) (a:=a) (b:=b) (by omega);simp only[hK];omega
def B3w {v:List C9} {i:Nat} (a:∀e∈v,0<=e.1/\e.1<(i:Int)) (h:Nat->Rat):Ue v (fun j=>h j.toNat)=D1 i fun j=>A5 v (j:Int)*h j:=by
 rw[A1i a];exact C1 fun j _=>by rw[qM]
def nJ {s j k:Nat} {a f b r:D5} {x y:Rat} (d:zok j x a) (v:Ik f) (w:sz s f) (B:1<=s) (u:zok k y b) (z:1<=j) (A:1<=k) (o:rv b=0->r=a) (t:rv b≠0->r=rc (rv a-rv f*rv b)):zok (j+(s+k)+1) (x-rv f*y) r:=by
 obtain⟨g,h,c⟩:=id d;obtain⟨i,l,n⟩:=id u;subst c n;by_cases c:rv b=0
 . rw[o c,c,uW,tI,wJ,rN];exact nK d (by omega)
 . rw[t c];exact B2w (HX (Gz h g z) (Zz (Gz v w B) (Gz l i A)))
def FW (s T n i:Nat) (Lm:Nat->Nat->Rat) (b:Nat->Rat) (z:List D5):Prop:=z.length=n/\∀j,j<i->zok (gK s T j) (rv (z.getD j zr)) (z.getD j zr)/\rv (z.getD j zr)+D1 j (fun m=>Lm j m*rv (z.getD m zr))=b j
def FI (s T i:Nat) (c:Rat) (w:List C9) (b:List D5) (t:Nat) (z:List D5):Prop:=∃a,z=b.set i a/\Ik a/\rv a=c-Ue (w.take t) (fun j=>rv (b.getD j.toNat zr))/\∀m:Nat,(∀e∈w.take t,e.1<(m:Int))->sz (gK s T m) a
variable {s T n i:Nat} {c:Rat} {w:List C9} {z0 z:List D5} {Lm:Nat->Nat->Rat} {b:Nat->Rat}
def FI.init {x:D5} (a:zok T c x):FI s T i c w z0 0 (z0.set i x):=
 ⟨x,rfl,a.2.1,by rw[a.2.2];simp only[g0s,Ue];rw[tI,wJ,rN],fun m _=>G1 a.1 (Iz (rM m))⟩
def FI.next (g:FW s T n i Lm b z0) (hT:1<=T) (hs:1<=s) (hi:i<n) (hasc:Fg w) (hw:∀e∈w,0<=e.1/\e.1<(i:Int)/\sz s e.2/\Ik e.2) {t:Int} (t0:0<=t) (t1:t<(w.length:Int)) (h:FI s T i c w z0 t.toNat z):
 (z.length=n/\sz (gK s T i) (z.getD i zr)/\sz (gK s T i) (z.getD (gx E4 w t).1.toNat zr))/\∀r,(rv (z.getD (gx E4 w t).1.toNat zr)=0->r=z.getD i zr)->(rv (z.getD (gx E4 w t).1.toNat zr)≠0->r=rc (rv (z.getD i zr)-rv (gx E4 w t).2*rv (z.getD (gx E4 w t).1.toNat zr)))->FI s T i c w z0 (t+1).toNat (z.set i r):=by
 obtain⟨u,rfl,B,E,G⟩:=h;have f:=H8 (d:=E4) t0 t1;obtain⟨k,l,v,A⟩:=hw _ f;have l:∀y∈w.take t.toNat,y.1<(gx E4 w t).1:=fun y hy=>by
  have f:(w.take (t+1).toNat).Pairwise (fun a b=>a.1<b.1):=zE hasc;rw[show(t+1).toNat=t.toNat+1 from by omega,rQ,G5 (d:=E4) t0 t1,tL]at f;exact f.2.2 y hy (gx E4 w t) (by simp)
 have F:=bL (d:=E4) t0 t1 (fun j=>rv (z0.getD j.toNat zr));have H:∀m:Nat,(∀e∈w.take (t+1).toNat,e.1<(m:Int))->(gx E4 w t).1<(m:Int):=fun m k=>k _ (by
  rw[show(t+1).toNat=t.toNat+1 from by omega,rQ,G5 (d:=E4) t0 t1];simp)
 generalize gx E4 w t=e at*;have o:e.1.toNat≠i:=by omega
 have D:=g.1;rw[D8 o,B6 (by omega)];obtain⟨o,_⟩:=g.2 e.1.toNat (by omega);have f:=G e.1.toNat fun y hy=>by have:=l y hy;omega
 have l:∀m,1<=gK s T m:=fun m=>qY hT (Iz (rM m))
 refine⟨⟨by rw[qN];exact D,G1 f (Iz (by omega)),G1 o.1 (Iz (by omega))⟩,fun r G I=> ?_⟩;have g:=nJ (x:=rv u) ⟨f,B,rfl⟩ A v hs o (l _) (l _) G I;refine⟨r,by rw[g3v],g.2.1, ?_,fun m k=> ?_⟩
 . rw[g.2.2,F,E];grind
 . refine G1 g.1 (qY ?_ (Iz (show e.1.toNat+1<=m by have:=H m k;omega)));simp only[gK];omega
def FI.done (k:FW s T n i Lm b z0) (G:i<n) (r:∀e∈w,0<=e.1/\e.1<(i:Int)) (x:∀j,j<i->A5 w (j:Int)=Lm i j) {t:Nat} (F:w.length<=t) (h:FI s T i (b i) w z0 t z):FW s T n (i+1) Lm b z:=by
 obtain⟨d,rfl,D,l,o⟩:=h;have E:=k.1;rw[qV F]at l o;have c:∀j,j<i->(z0.set i d).getD j zr=z0.getD j zr:=fun j A=>D8 (by omega)
 refine⟨by rw[qN];exact E,fun j A=> ?_⟩;by_cases B:j=i
 . subst B;rw[B6 (by omega)];refine⟨⟨o j fun e y=>(r e y).2,D,rfl⟩, ?_⟩;rw[l,B3w r (fun m=>rv (z0.getD m zr)),C1 (f:=fun m=>Lm j m*rv ((z0.set j d).getD m zr)) (g:=fun m=>A5 w (m:Int)*rv (z0.getD m zr)) fun m a=>by rw[c m a,x m a]];grind
 . rw[c j (by omega)];obtain⟨u,v⟩:=k.2 j (by omega);refine⟨u, ?_⟩;rw[<-v];congr 1;exact C1 fun m a=>by rw[c m (by omega)]
def BW (s Y n i:Nat) (U:Nat->Nat->Rat) (y:Nat->Rat) (z:List D5):Prop:=z.length=n/\(∀j,j<i->zok Y (y j) (z.getD j zr))/\∀j,i<=j->j<n->(∃q,z.getD j zr=rc q/\qs (hK s Y (n-1-j)+s) q)/\D1 n (fun m=>U j m*rv (z.getD m zr))=y j
def BI (s Y n i:Nat) (c:Rat) (w:List C9) (z0:List D5) (t:Nat) (z:List D5):Prop:=∃a,z=z0.set i a/\Ik a/\rv a=c-Ue (w.take t) (fun j=>rv (z0.getD j.toNat zr))/\∀m:Nat,i+1<=m->m<=n->(∀e∈w.take t,e.1<(m:Int))->∃k,1<=k/\sz k a/\k+hK s Y (n-m)<=hK s Y (n-1-i)+Y
variable {s Y n i:Nat} {c:Rat} {w:List C9} {z0 z:List D5} {U:Nat->Nat->Rat} {y:Nat->Rat}
def BI.init (g:BW s Y n (i+1) U y z0) (h:1<=Y) (c:i<n):BI s Y n i (y i) w z0 0 z0:=by
 obtain⟨c,d,f⟩:=g.2.1 i (rU _);refine⟨z0.getD i zr, ?_,d, ?_,fun m g j _=>⟨Y,h,c, ?_⟩⟩
 . refine g1i (by rw[qN]) fun j c d=> ?_
   rw[g4d];split
   . rename_i e;subst e;rw[H5 _ _ c]
   . rfl
 . rw[f];simp only[g0s,Ue];rw[tI,wJ,rN]
 . have:=Kz (s:=s) (T:=Y) (a:=n-m) (b:=n-1-i) (by omega);omega
def BI.next (g:BW s Y n (i+1) U y z0) (hs:1<=s) (hY:1<=Y) (hi:i<n) (hasc:Fg w) (hw:∀e∈w,(i:Int)<e.1/\e.1<(n:Int)/\sz s e.2/\Ik e.2) {t:Int} (t0:0<=t) (t1:t<(w.length:Int)) (h:BI s Y n i c w z0 t.toNat z):
 (z.length=n/\sz (hK s Y n) (z.getD i zr)/\sz (hK s Y n+s) (z.getD (gx E4 w t).1.toNat zr))/\∀r,(rv (z.getD (gx E4 w t).1.toNat zr)=0->r=z.getD i zr)->(rv (z.getD (gx E4 w t).1.toNat zr)≠0->r=rc (rv (z.getD i zr)-rv (gx E4 w t).2*rv (z.getD (gx E4 w t).1.toNat zr)))->BI s Y n i c w z0 (t+1).toNat (z.set i r):=by
 obtain⟨u,rfl,B,G,I⟩:=h;have f:=H8 (d:=E4) t0 t1;obtain⟨k,l,v,A⟩:=hw _ f;have l:∀y∈w.take t.toNat,y.1<(gx E4 w t).1:=fun y hy=>by
  have f:(w.take (t+1).toNat).Pairwise (fun a b=>a.1<b.1):=zE hasc;rw[show(t+1).toNat=t.toNat+1 from by omega,rQ,G5 (d:=E4) t0 t1,tL]at f;exact f.2.2 y hy (gx E4 w t) (by simp)
 have H:=bL (d:=E4) t0 t1 (fun j=>rv (z0.getD j.toNat zr));have J:∀m:Nat,(∀e∈w.take (t+1).toNat,e.1<(m:Int))->(gx E4 w t).1<(m:Int):=fun m k=>k _ (by
  rw[show(t+1).toNat=t.toNat+1 from by omega,rQ,G5 (d:=E4) t0 t1];simp)
 generalize gx E4 w t=e at*;have o:e.1.toNat≠i:=by omega
 have D:=g.1;rw[D8 o,B6 (by omega)];obtain⟨⟨q,E,F⟩,_⟩:=g.2.2 e.1.toNat (by omega) (by omega);obtain⟨g,M,o,N⟩:=I e.1.toNat (by omega) (by omega) fun y hy=>by have:=l y hy;omega
 have l:zok (hK s Y (n-1-e.1.toNat)+s) (rv (z0.getD e.1.toNat zr)) (z0.getD e.1.toNat zr):=by
  rw[E,E6];exact B2w F
 have g:=Kz (s:=s) (T:=Y) (a:=n-1-i) (b:=n) (by omega);have g:=Kz (s:=s) (T:=Y) (a:=n-1-e.1.toNat) (b:=n) (by omega);have g:=Kz (s:=s) (T:=Y) (a:=0) (b:=n-e.1.toNat) (by omega);have g:hK s Y 0=Y:=rfl;refine⟨⟨by rw[qN];exact D,G1 o (by omega),G1 l.1 (by omega)⟩,fun r E F=> ?_⟩;have g:=nJ (x:=rv u) ⟨o,B,rfl⟩ A v hs l M (by omega) E F;refine⟨r,by rw[g3v],g.2.1, ?_,fun m k o l=>⟨_,by omega,g.1, ?_⟩⟩
 . rw[g.2.2,H,G];grind
 . have f:=J m l;have f:=Kz (s:=s) (T:=Y) (a:=n-m) (b:=n-1-e.1.toNat) (by omega);have f:hK s Y (n-e.1.toNat)=2*hK s Y (n-1-e.1.toNat)+2*s+1:=by
    rw[show n-e.1.toNat=(n-1-e.1.toNat)+1 from by omega];rfl
   omega
def BI.done (o:BW s Y n (i+1) U y z0) (a2:1<=s) (a0:1<=Y) (a1:i<n) (g:∀e∈w,(i:Int)<e.1/\e.1<(n:Int)) (M:∀j,i<j->A5 w (j:Int)=U i j) (u:∀k m,m<k->k<n->U k m=0) (R:U i i≠0) (V:qs s (U i i)) {t:Nat} (W:w.length<=t) (h:BI s Y n i (y i) w z0 t z):
 sz (hK s Y n) (z.getD i zr)/\qs (hK s Y (n-1-i)+s) (rv (z.getD i zr)/U i i)/\BW s Y n i U y (z.set i (rc (rv (z.getD i zr)/U i i))):=by
 obtain⟨f,rfl,P,A,D⟩:=h;have Q:=o.1;rw[qV W]at A D;rw[B6 (by omega),g3v];obtain⟨k,X,E,Z⟩:=D n (by omega) (qZ _) fun e c=>(g e c).2
 rw[xL]at Z;have a3:hK s Y 0=Y:=rfl;have a4:=Kz (s:=s) (T:=Y) (a:=n-1-i) (b:=n) (by omega);have x:qs (hK s Y (n-1-i)+s) (rv f/U i i):=K7 (gR (Gz P E X) V) (by omega);refine⟨G1 E (by omega),x,by rw[qN];exact Q,fun j O=> ?_,fun j O l=> ?_⟩
 . rw[D8 (by omega)];exact o.2.1 j (by omega)
 . have B:D1 n (fun m=>U j m*rv ((z0.set i (rc (rv f/U i i))).getD m zr))=D1 n (fun m=>if m=i then U j i*(rv f/U i i)else U j m*rv (z0.getD m zr)):=C1 fun m _=>by
    by_cases d:m=i
    . subst d;rw[qS rfl,B6 (by omega),E6]
    . rw[qL d,D8 d]
   by_cases v:j=i
   . subst v;refine⟨⟨_,B6 (by omega),x⟩, ?_⟩;rw[B];have I:Ue w (fun m=>rv (z0.getD m.toNat zr))=D1 n (fun m=>if m=j then 0 else U j m*rv (z0.getD m zr)):=by
      rw[A1i (n:=n) fun e c=>⟨by have:=(g e c).1;omega,(g e c).2⟩];refine C1 fun m d=> ?_
      rw[qM];rcases Nat.lt_trichotomy m j with hmj|hmj|hmj
      . rw[qL (by omega),D4 fun e c N=>by have:=(g e c).1;omega,u j m hmj l]
      . rw[qS hmj,D4 fun e c N=>by have:=(g e c).1;omega,tJ]
      . rw[qL (by omega),M m hmj]
     have J:D1 n (fun m=>if m=j then U j j*(rv f/U j j)else U j m*rv (z0.getD m zr))=D1 n (fun m=>(if m=j then U j j*(rv f/U j j)else 0)+if m=j then 0 else U j m*rv (z0.getD m zr)):=C1 fun m _=>by
      split
      . rw[rN]
      . rw[tF]
     rw[J,Ha, <-I,O7 l fun m _ d=>qL d,qS rfl,A,wU,g3z,wI,g0v _ R,g2y];grind
   . obtain⟨⟨q,F,G⟩,H⟩:=o.2.2 j (by omega) l;refine⟨⟨q,by rw[D8 v];exact F,G⟩, ?_⟩;rw[B, <-H];refine C1 fun m d=> ?_
     by_cases r:m=i
     . rw[qS r,r,u j i (by omega) l,tJ,tJ]
     . rw[qL r]
def B9s {T n:Nat} {L U:Nat->Nat->Rat} {b:Nat->Rat} {v:Nat->Rat} {y:Nat->Rat} (d:∀j,j<n->y j+D1 j (fun m=>L j m*y m)=b j) (f:∀j,j<n->D1 n (fun m=>U j m*v m)=y j) (h:∀i,i<n->L i i=1) (l:∀i j,i<j->j<n->L i j=0) {i:Nat} (a:i<n):
 D1 n (fun j=>D1 n (fun k=>L i k*U k j)*v j)=b i:=by
 have c:D1 n (fun j=>D1 n (fun k=>L i k*U k j)*v j)=D1 n fun k=>L i k*y k:=by
  rw[C1 (g:=fun j=>D1 n fun k=>L i k*(U k j*v j)) fun j _=>by rw[<-OK];exact C1 fun k _=>wI _ _ _,Lp];exact C1 fun k o=>by rw[Ms,f k o]
 rw[c, <-d i a];have c:∀t,i+1+t<=n->D1 (i+1+t) (fun k=>L i k*y k)=y i+D1 i (fun m=>L i m*y m):=by
  intro t
  induction t with
  |zero=>intro _;rw[tB,D1,h i a,xT,g3y]
  |succ t a=>intro d;rw[<-uG,D1,a (by omega),l i (i+1+t) (by omega) (by omega),tJ,rN]
 have:=c (n-(i+1)) (by omega);rwa[show i+1+(n-(i+1))=n from by omega]at this
def AY (x:A2 Z6.args) (_:awf Z6.args x) (f:Z6.pre x):Oz x:=by
 obtain⟨⟨P,Q,⟨g,lc,L⟩,⟨i,h,U⟩⟩,b,_⟩:=x;obtain⟨d,a,c⟩:=f;simp only[Oz,iB,Nw];refine⟨⟨qD _,Int.ofNat_le.2 d,a,c⟩, ?_⟩;rintro⟨r,_⟩ _ a;change Bool at r;simp only at a⊢;cases r with
 |false=>
  have c:¬Cp (P,Q,(g,lc,L),(i,h,U)) (P.length:Int):=fun h=>by have:=a.2 h;cases this
  exact⟨fun _=>⟨fun _=>by trivial,fun h=>absurd h c⟩,fun h=>(by cases h)⟩
 |true=>
  have h:=a.1 rfl;refine⟨fun h=>(by cases h),fun _=>⟨fun hne=>⟨fun h2=>absurd h h2,fun _=>⟨fun _=>by trivial,fun he=>absurd (tS Int.ofNat he) (qA hne)⟩⟩,fun heq=>⟨fun h2=>absurd h h2,fun _=>⟨fun hne=>absurd (g1e (qU (qB heq))) hne,fun _=>by trivial⟩⟩⟩⟩
def SU {p:List Int} {n:Nat} (h:L9 p (n:Int)):p.length=n/\(∀a,a<n->p.getD a 0=(ix p a:Int)/\ix p a<n)/\∀a b,a<n->b<n->ix p a=ix p b->a=b:=by
 obtain⟨c,g,i⟩:=h;have k:p.length=n:=by omega
 have c:∀a,a<n->p.getD a 0=(ix p a:Int)/\ix p a<n:=fun a f=>by
  have:=g _ (C6 (d:=0) (show a<p.length by omega));unfold ix;omega
 refine⟨k,c,fun a b f j e=> ?_⟩;have g:=(c a f).1;have f:=(c b j).1;rw[<-e]at f;have c:p.getD a 0=p.getD b 0:=g.trans f.symm;rw[H5 _ _ (by omega),H5 _ _ (by omega)]at c;exact(wF i).1 c
def B8w {v:List C9} {n:Int} (h:H4 v n) {i:Nat} (c:(i:Int)<n) (a:∀j:Nat,(j:Int)<n->i<j->A5 v (j:Int)=0) (b:A5 v (i:Int)=1):v≠ []/\Fg (v.take (v.length-1))/\(∀e∈v.take (v.length-1),e∈v/\0<=e.1/\e.1<(i:Int))/\∀j:Nat,j<i->A5 (v.take (v.length-1)) (j:Int)=A5 v (j:Int):=by
 obtain⟨f,g,k⟩:=(A1y h c).2 ⟨a,b⟩;have a:0<v.length:=vA.2 f;have c:v=v.take (v.length-1)++ [gx E4 v ((v.length:Int)-1)]:=by
  have:=Ix (d:=E4) (l:=v) (t:=(v.length:Int)-1) (by omega) (by omega);rw[show((v.length:Int)-1+1).toNat=v.length from by omega,uP,show((v.length:Int)-1).toNat=v.length-1 from by omega]at this;exact this
 generalize gx E4 v ((v.length:Int)-1)=l at*;have b:=h.1;generalize k:v.take (v.length-1)=w at*;have g:∀e∈w,e.1<(i:Int):=fun e a=>by
  rw[c]at b;have:=(tL.1 b).2.2 e a l (qP.2 rfl);omega
 refine⟨f,k▸zE b,fun e a=> ?_,fun j b=> ?_⟩
 . have b:e∈v:=by rw[c];exact sJ _ a
   exact⟨b,(h.2 e b).1,g e a⟩
 . rw[c,N0];have:A5 [l] (j:Int)=0:=D4 fun e a hej=>by
    rw[qP]at a;subst a;omega
   rw[this,rN]
def C3v {v:List C9} {n:Int} (h:H4 v n) {i:Nat} (a:∀j:Nat,j<i->A5 v (j:Int)=0) (c:A5 v (i:Int)≠0):1<=v.length/\gx E4 v 0∈v/\rv (gx E4 v 0).2=A5 v (i:Int)/\Fg (v.drop 1)/\(∀e∈v.drop 1,e∈v/\(i:Int)<e.1/\e.1<n)/\∀j:Nat,i<j->A5 (v.drop 1) (j:Int)=A5 v (j:Int):=by
 obtain⟨d,b⟩:=(B2r h).2 ⟨a,c⟩;cases v with
 |nil=>exact absurd rfl d
 |cons e r=>
  have a:gx E4 (e::r) 0=e:=rfl;rw[a]at b⊢;obtain⟨c,d⟩:=I3.1 h.1;refine⟨by rw[rI];omega,rA, ?_,d,fun x a=>⟨qJ _ a, ?_,(h.2 x (qJ _ a)).2.1⟩,fun j d=> ?_⟩
  . rw[<-b,M8 h.1]
  . have:=c x a;omega
  . exact(Br (by omega)).symm
def fwI (P:List Int) (ML MU:Dn) (b:List D5) (p:Int×List D5×Unit):Prop:=0<=p.1/\p.1<=(P.length:Int)/\∀s T,1<=s->1<=T->Ax s ML->Ax s MU->KV T b->FW s T P.length p.1.toNat (el ML) (fun i=>rv (b.getD (ix P i) zr)) p.2.1
def fiI (i:Nat) (c:Rat) (w:List C9) (ML MU:Dn) (b z0:List D5) (p:Int×List D5×Unit):Prop:=0<=p.1/\p.1<=(w.length:Int)/\∀s T,1<=s->1<=T->Ax s ML->Ax s MU->KV T b->FI s T i c w z0 p.1.toNat p.2.1
def bwI (n:Nat) (Q:List Int) (ML MU:Dn) (b:List D5) (y:Nat->Rat) (p:Int×List D5×List D5×Unit):Prop:=0<=p.1/\p.1<=(n:Int)/\(∀s T,1<=s->1<=T->Ax s ML->Ax s MU->KV T b->BW s (gK s T n) n (n-p.1.toNat) (el MU) y p.2.1)/\p.2.2.1.length=n/\∀j,n-p.1.toNat<=j->j<n->p.2.2.1.getD (ix Q j) zr=p.2.1.getD j zr
def biI (n i:Nat) (c:Rat) (w:List C9) (ML MU:Dn) (b z0:List D5) (p:Int×List D5×Unit):Prop:=0<=p.1/\p.1<=(w.length:Int)/\∀s T,1<=s->1<=T->Ax s ML->Ax s MU->KV T b->BI s (gK s T n) n i c w z0 p.1.toNat p.2.1
def B5u {T:Nat} {b:List D5} (h:KV T b) {i:Nat} (a:i<b.length):sz T (b.getD i zr):=h _ (C6 a)
def IE (x:A2 Z4.args) (b5:awf Z4.args x) (cp:Z4.pre x):Wg x:=by
 obtain⟨⟨P,Q,⟨b7,lc,L⟩,⟨bd,av,U⟩⟩,b,_⟩:=x;change List Int at P Q;change List (List C9)at L U;change List D5 at b;change Int at b7 lc bd av;have cj:pD (b7,lc,L):=JW b5.1.2.2.1.2.2.2;have ck:pD (bd,av,U):=JW b5.1.2.2.2.2.2.2;have cm:∀x∈b,Ik x:=fun x hx=>Ja (b5.2.1.2 x hx)
 obtain⟨b1,cg,ch,ce⟩:=cp;simp only[Wg,iB,Ck,H6];refine⟨⟨b1,cg,ch⟩, ?_⟩;rintro⟨E,_⟩ _ aa;change Int at E;simp only at aa⊢;by_cases O:Cp (P,Q,(b7,lc,L),(bd,av,U)) (P.length:Int)
 case neg=>
  have ah:E=1:=aa.1 O;subst ah;exact⟨fun _=>⟨fun _=>⟨by trivial,by trivial⟩,fun A=>absurd A O⟩,fun A=>absurd A (by simp)⟩
 by_cases Z:b.length=P.length
 case neg=>
  have ah:E=4:=(aa.2 O).1 Z;subst ah;exact⟨fun _=>⟨fun A=>absurd O A,fun _=>⟨fun _=>⟨by trivial,by trivial⟩,fun A=>absurd A Z⟩⟩,fun A=>absurd A (by simp)⟩
 have ah:E=0:=(aa.2 O).2 Z;subst ah;refine⟨fun A=>absurd A (by simp),fun _=> ?_⟩;obtain⟨f,T0,a2,X,a3,R,ai,bl⟩:=ce O Z;obtain⟨bn,bo,⟨bx,ar,bs⟩,⟨bz,au,bt⟩,a4⟩:=id O;simp only at bn bo bx ar bz au;obtain⟨_,bi,d5⟩:=SU bn;obtain⟨cz,bj,bw⟩:=SU bo;subst bx bz;have ar:lc=(P.length:Int):=ar;have au:av=(P.length:Int):=au;subst ar au;have b1:P.length<=16384:=b1;have bl:hK f (gK f T0 P.length) P.length+f<=K1:=bl;have Z:b.length=P.length:=Z;have c7:L.length=P.length:=g1e bs.2.2.2.2.1;have ca:U.length=P.length:=g1e bt.2.2.2.2.1;have c9:∀i,i<P.length->H4 (L.getD i []) (P.length:Int)/\EV (L.getD i []):=fun i D=>by
  have a0:=C6 (d:=([]:List C9)) (show i<L.length by omega);exact⟨bs.2.2.2.2.2 _ a0,cj _ a0⟩
 have cb:∀i,i<P.length->H4 (U.getD i []) (P.length:Int)/\EV (U.getD i []):=fun i D=>by
  have a0:=C6 (d:=([]:List C9)) (show i<U.length by omega);exact⟨bt.2.2.2.2.2 _ a0,ck _ a0⟩
 have cc:∀i,i<P.length->ix P i<b.length/\Ik (b.getD (ix P i) zr):=fun i D=>by
  have:=(bi i D).2;exact⟨by omega,cm _ (C6 (by omega))⟩
 have d7:hK f (gK f T0 P.length) 0<=hK f (gK f T0 P.length) P.length:=Kz (rM _);have d6:hK f (gK f T0 P.length) 0=gK f T0 P.length:=rfl;have d8:T0<=gK f T0 P.length:=Iz (a:=0) (rM _);refine⟨⟨qD _,qI _,by omega,by omega⟩,fwI P (↑P.length, ↑P.length,L) (↑P.length, ↑P.length,U) b,fun p=>((P.length:Int)-p.1).toNat,⟨qI _,qD _,fun s T _ _ _ _ _=>⟨rJ,fun j c=>absurd c (uY j)⟩⟩, ?_⟩;rintro⟨i,z,_⟩ _ ⟨V,cw,a7⟩;change Int at i;change List D5 at z;simp only at V cw a7⊢;have an:=a7 f T0 a2 X a3 R ai;refine⟨fun D=> ?_,fun D=> ?_⟩
 . have D:=qA D;have M:i.toNat<P.length:=by omega
   obtain⟨c5,d2⟩:=bi _ M;obtain⟨ay,cd⟩:=cc _ M;rw[G9 (d:=(0:Int)) V D,VA V (show i<(L.length:Int)by omega),c5];obtain⟨ab,aq⟩:=c9 _ M;obtain⟨co,Y,F,b6⟩:=B8w ab (i:=i.toNat) (by omega) (fun j c hij=>(a4 i.toNat j (sO.2 M) c).1 hij) (a4 i.toNat i.toNat (sO.2 M) (sO.2 M)).2.1;have cn:0<(L.getD i.toNat []).length:=vA.2 co;have d4:=Gf ab;have c8:∀s,Ax s ((P.length:Int),(P.length:Int),L)->∀e∈L.getD i.toNat [],sz s e.2:=fun s hh=>hh _ (C6 (l:=L) (show i.toNat<L.length by omega))
   have a9:∀j:Nat,el ((P.length:Int),(P.length:Int),L) i.toNat j=A5 (L.getD i.toNat []) (j:Int):=fun _=>rfl
   generalize L.getD i.toNat []=v at*;rw[wv (by omega),show((v.length:Int)-1).toNat=v.length-1 from by omega];simp only[show Int.toNat 0=0 from rfl,tW];generalize v.take (v.length-1)=w at*;have a5:∀s,Ax s ((P.length:Int),(P.length:Int),L)->∀e∈w,0<=e.1/\e.1<(i.toNat:Int)/\sz s e.2/\Ik e.2:=fun s hh e o=>by
    obtain⟨bh,c3,c4⟩:=F e o;exact⟨c3,c4,c8 s hh e bh,aq e bh⟩
   have ct:w.length<=16384:=by
    have:=Gf (n:=(i.toNat:Int)) (v:=w) ⟨Y,fun e o=>⟨(F e o).2.1,(F e o).2.2,(ab.2 e (F e o).1).2.2⟩⟩;omega
   refine⟨⟨V,D⟩,⟨qD _,sO.2 ay⟩,⟨V,by rw[an.1];exact D⟩,⟨V,by rw[c7];exact D⟩,⟨qI _,by omega,by omega⟩,fiI i.toNat (rv (b.getD (ix P i.toNat) zr)) w (↑P.length, ↑P.length,L) (↑P.length, ↑P.length,U) b z,fun p=>((w.length:Int)-p.1).toNat,⟨qI _,qD _,fun s T g h t r u=> ?_⟩, ?_⟩
   . show FI s T i.toNat (rv (b.getD (ix P i.toNat) zr)) w z 0 (z.set i.toNat (gx dQ b ↑(ix P i.toNat)));rw[G9 (d:=dQ) (qD _) (sO.2 ay),qM];exact FI.init ⟨B5u u ay,cd,rfl⟩
   rintro⟨am,y,_⟩ _ ⟨G,bc,J⟩;change Int at am;change List D5 at y;simp only at G bc J⊢;have af:=J f T0 a2 X a3 R ai;refine⟨fun B=> ?_,fun B=> ?_⟩
   . have B:=qA B;obtain⟨⟨ad,b8,b9⟩,_⟩:=FI.next an X a2 M Y (a5 f a3) G B af
     have az:=H8 (d:=E4) G B;obtain⟨bf,bg,aw,c2⟩:=a5 f a3 _ az;have d3:gK f T0 i.toNat<=gK f T0 P.length:=Iz (by omega);rw[wv (by omega)];refine⟨⟨G,B⟩,⟨V,by rw[ad];exact D⟩,⟨bf,by rw[ad];omega⟩,⟨G1 b8 (by omega),G1 aw (by omega),G1 b9 (by omega)⟩, ?_⟩;rintro⟨E,_⟩ _ ⟨ba,bb⟩;change D5 at E;exact⟨⟨V,by rw[ad];exact D⟩,⟨by simp only;omega,by simp only;omega,fun s T g h t r u=>(FI.next (a7 s T g h t r u) h g M Y (a5 s t) G B (J s T g h t r u)).2 E ba bb⟩,by omega⟩
   . have B:=qB B;rw[wv (by omega)];refine⟨⟨by simp only;omega,by simp only;omega,fun s T g h t r u=> ?_⟩,by omega⟩;simp only;rw[show(i+1).toNat=i.toNat+1 from by omega];exact FI.done (a7 s T g h t r u) M (fun e o=>⟨(F e o).2.1,(F e o).2.2⟩) (fun j c=>(b6 j c).trans (a9 j).symm) (show w.length<=am.toNat by omega) (J s T g h t r u)
 have D:=qB D;have cf:i.toNat=P.length:=by omega
 rw[cf]at a7 an;refine⟨⟨qD _,qI _,by omega,by omega⟩,bwI P.length Q (↑P.length, ↑P.length,L) (↑P.length, ↑P.length,U) b (fun j=>rv (z.getD j zr)),fun p=>((P.length:Int)-p.1).toNat,⟨qI _,qD _,fun s T g h t r u=> ?_,rJ,fun j H W=> ?_⟩, ?_⟩
 . have A:=a7 s T g h t r u;exact⟨A.1,fun j c=>nK (A.2 j c).1 (Iz (show j<=P.length from vW c)),fun j H W=>absurd W (Nat.not_lt.2 H)⟩
 . simp only[Int.toNat_zero,g1x]at H;omega
 rintro⟨k,ae,be,_⟩ _ ⟨cx,cy,N,aj,ak⟩;change Int at k;change List D5 at ae be;simp only at cx cy N aj ak⊢;have a6:=N f T0 a2 X a3 R ai;refine⟨fun ag=> ?_,fun ag=> ?_⟩
 . have ag:=qA ag;obtain⟨q,I,cq,cr,bp⟩:∃q:Nat,q<P.length/\(P.length:Int)-1-k=(q:Int)/\P.length-k.toNat=q+1/\P.length-(k+1).toNat=q:=⟨P.length-1-k.toNat,by omega,by omega,by omega,by omega⟩;have cu:i64.wrap (i64.wrap ((P.length:Int)-1)-k)=(q:Int):=by
    rw[wv (a:=(P.length:Int)-1) (by omega),wv (by omega)];exact cq
   rw[cr]at N a6 ak;obtain⟨c6,bk⟩:=bj q I;have a1:(q:Int)<(P.length:Int):=sO.2 I;obtain⟨ab,aq⟩:=cb q I;have ax:∀s,Ax s ((P.length:Int),(P.length:Int),U)->∀e∈U.getD q [],sz s e.2:=fun s hh=>hh _ (C6 (l:=U) (show q<U.length by omega))
   have a9:∀j:Nat,el ((P.length:Int),(P.length:Int),U) q j=A5 (U.getD q []) (j:Int):=fun _=>rfl
   have b2:A5 (U.getD q []) (q:Int)≠0:=(a4 q q a1 a1).2.2.2;obtain⟨cn,b0,b4,Y,F,b6⟩:=C3v ab (i:=q) (fun j c=>(a4 q j a1 (by omega)).2.2.1 c) b2;simp only[cu];rw[VA (qD q) (show(q:Int)<(U.length:Int)by omega),G9 (d:=(0:Int)) (qD q) (show(q:Int)<(Q.length:Int)by omega)];simp only[qM,uP,show Int.toNat 1=1 from rfl];rw[c6];simp only[qM];generalize U.getD q []=v at*;generalize v.drop 1=w at*;have a5:∀s,Ax s ((P.length:Int),(P.length:Int),U)->∀e∈w,(q:Int)<e.1/\e.1<(P.length:Int)/\sz s e.2/\Ik e.2:=fun s hh e o=>by
    obtain⟨bh,c3,c4⟩:=F e o;exact⟨c3,c4,ax s hh e bh,aq e bh⟩
   have ct:w.length<=16384:=by
    have:=Gf (n:=(P.length:Int)) (v:=w) ⟨Y,fun e o=>⟨by have:=(F e o).2.1;omega,(F e o).2.2,(ab.2 e (F e o).1).2.2⟩⟩;omega
   have cl:(q:Int)<(U.length:Int):=by rw[ca];exact a1
   have ao:∀s T,1<=T->1<=gK s T P.length:=fun s T A=>qY A (Iz (a:=0) (rM _))
   refine⟨⟨qD _,cl⟩,⟨by decide,by omega,qI _⟩,biI P.length q (rv (z.getD q zr)) w (↑P.length, ↑P.length,L) (↑P.length, ↑P.length,U) b ae,fun p=>((w.length:Int)-p.1).toNat,⟨qI _,qD _,fun s T g h t r u=>BI.init (N s T g h t r u) (ao s T h) I⟩, ?_⟩;rintro⟨am,y,_⟩ _ ⟨G,bc,J⟩;change Int at am;change List D5 at y;simp only at G bc J⊢;have af:=J f T0 a2 X a3 R ai;refine⟨fun B=> ?_,fun B=> ?_⟩
   . have B:=qA B;obtain⟨⟨ad,b8,b9⟩,_⟩:=BI.next a6 a2 (ao f T0 X) I Y (a5 f R) G B af
     have az:=H8 (d:=E4) G B;obtain⟨bf,bg,aw,c2⟩:=a5 f R _ az;have ac:(q:Int)<(y.length:Int):=by rw[ad];exact a1
     rw[wv (by omega)];refine⟨⟨G,B⟩,⟨qD _,ac⟩,⟨by omega,by rw[ad];exact bg⟩,⟨G1 b8 (by omega),G1 aw (by omega),G1 b9 (by omega)⟩, ?_⟩;rintro⟨E,_⟩ _ ⟨ba,bb⟩;change D5 at E;exact⟨⟨qD _,ac⟩,⟨by simp only;omega,by simp only;omega,fun s T g h t r u=>(BI.next (N s T g h t r u) g (ao s T h) I Y (a5 s r) G B (J s T g h t r u)).2 E ba bb⟩,by omega⟩
   have B:=qB B;have bm:∀s T,1<=s->1<=T->Ax s ((P.length:Int),(P.length:Int),L)->Ax s ((P.length:Int),(P.length:Int),U)->KV T b-> _:=fun s T g h t r u=>BI.done (N s T g h t r u) g (ao s T h) I (fun e o=>(F e o).2) (fun j c=>(b6 j c).trans (a9 j).symm) (fun a m a0 a8=>(a4 a m (sO.2 a8) (by omega)).2.2.1 a0) (by rw[a9];exact b2) (by rw[a9, <-b4];exact Gz (aq _ b0) (ax s r _ b0) g) (show w.length<=am.toNat by omega) (J s T g h t r u)
   obtain⟨c0,d0,d1⟩:=bm f T0 a2 X a3 R ai;have ac:y.length=P.length:=by
    obtain⟨bh,rfl,_⟩:=af;rw[qN];exact a6.1
   have cv:∀j,j≠q->y.getD j zr=ae.getD j zr:=fun j c=>by
    obtain⟨bh,rfl,_⟩:=af;exact D8 c
   have b3:(q:Int)<(y.length:Int):=by rw[ac];exact a1
   refine⟨⟨qD _,b3⟩,⟨by decide,by omega⟩,⟨U8 (k:=K1) (G1 c0 (by omega)) (by decide),U8 (ax f R _ b0) (qY (show f<=K1 by omega) (by decide))⟩, ?_⟩;rintro⟨E,d9,_⟩ _ ⟨_,bq⟩;change D5 at E;simp only at bq⊢;have aa:E=rc (rv (y.getD q zr)/el ((P.length:Int),(P.length:Int),U) q q):=by
    rw[a9, <-b4];exact(bq (by rw[b4];exact b2)).1
   rw[show(List.set y q E).getD q dQ=E from B6 (by rw[ac];exact I),wv (by omega)];refine⟨⟨qD _,b3⟩,⟨qD _,by rw[cz];exact a1⟩,⟨qD _,by rw[qN];exact b3⟩,⟨qD _,by rw[aj];exact sO.2 bk⟩,⟨by simp only;omega,by simp only;omega,fun s T g h t r u=> ?_,by simp only;rw[qN];exact aj,fun j H W=> ?_⟩,by omega⟩
   . simp only;rw[bp,aa];exact(bm s T g h t r u).2.2
   . simp only at H⊢;rw[bp]at H;by_cases ap:j=q
     . subst ap;rw[B6 (by rw[aj];exact bk),B6 (by rw[ac];exact I)]
     . rw[D8 fun e=>ap (bw j q W I e),D8 ap,cv j ap];exact ak j (by omega) W
 have ag:=qB ag;have ci:P.length-k.toNat=0:=by omega
 rw[ci]at N a6 ak;have bv:∀j,j<P.length->be.getD (ix Q j) zr=ae.getD j zr:=fun j c=>ak j (rM _) c
 have bu:∀e∈be,∃j,j<P.length/\e=ae.getD j zr:=fun e o=>by
  obtain⟨a,a8,rfl⟩:=Be zr o;obtain⟨j,c,bh⟩:=Gj (fun a a8=>(bj a a8).2) bw (show a<P.length by omega);exact⟨j,c,by rw[<-bh];exact bv j c⟩
 refine⟨fun A=>absurd O A,fun _=>⟨fun A=>absurd Z A,fun _=>⟨by trivial,aj,fun e o=> ?_,fun s T g h t r u e o=> ?_,fun a a8=> ?_⟩⟩⟩
 . obtain⟨j,c,rfl⟩:=bu e o;obtain⟨⟨x,H,_⟩,_⟩:=a6.2.2 j (rM _) c;rw[H,E6]
 . obtain⟨j,c,rfl⟩:=bu e o;obtain⟨⟨x,H,W⟩,_⟩:=(N s T g h t r u).2.2 j (rM _) c;rw[H];have:=Kz (s:=s) (T:=gK s T P.length) (a:=P.length-1-j) (b:=P.length) (by omega);exact KW (K7 W (by omega))
 . have cs:=B9s (T:=T0) (L:=el ((P.length:Int),(P.length:Int),L)) (U:=el ((P.length:Int),(P.length:Int),U)) (v:=fun j=>rv (ae.getD j zr)) (fun j c=>(an.2 j c).2) (fun j c=>(a6.2.2 j (rM _) c).2) (fun i D=>(a4 i i (sO.2 D) (sO.2 D)).2.1) (fun i j hij c=>(a4 i j (by omega) (sO.2 c)).1 hij) a8;refine Eq.trans (C1 fun j c=> ?_) cs;rw[bv j c];rfl
def JJ:An:= {loop:= [(4,⟨[0,13,14],[],[(15,false,vI)],[],[]⟩)]}
def Yl:An:= {loop:= [(3,⟨[3,8],[],[(9,false,vI)],[],[(0, .row (.int .i64) 3)]⟩)]}
def EO:An:= {loop:= [(6,⟨[0,7,20,21],[],[(22,false,vI)],[],[(0, .row (.int .i64) 3)]⟩),(12,⟨[7,10,33],[],[(34,false,vI)],[],[(0, .row (.int .i64) 3),(1, .row (.int .i64) 3)]⟩)]}
def Xd:An:= {plan:= [(1,[2],[3,7],false,(.p 0 (.p 1 (.q 2 (.p 4 (.p 5 (.or 3 (.e 6 (.e 7 (.p 8 (.p 9 .done)))) (.e 6 (.e 3 (.e 7 (.p 8 (.p 9 .done))))))))))))]}
def Ua:An:= {loop:= [(1,⟨[0],[],[(1,false,vI)],[],[(0, .row (.int .i64) 3)]⟩)]}
abbrev C2z:=Int×List (Int×Int)×Unit
def Pp:A2 Ai.args->Prop:=fun(x:C2z)=>let i:=(decide (16384<x.1));let h:=(1:Int);let e:=(↑(2:Nat):Int);let d:=(x.2.1.length:Int);let b:=(0:Int);(iB (I9 (decide (x.1<b)) true i) ((3:Int)=Rm x.1 x.2.1) (∃(I:C5->Prop),∃(k: _->Nat),I (b,())/\∀(p:C5),let f:=(i64.wrap (p.1+h),());let a:=(gx (b,b) x.2.1 p.1);let l:=(decide (x.1<=a.2));let j:=(decide (x.1<=a.1));let g:=(decide (a.2<b));let c:=(I9 (decide (a.1<b)) true j);(Ty.int i64).wf p.1/\True->I p->(iB (decide (p.1<d)) ((b<=p.1/\p.1<d)/\(b<=b/\b<e)/\(decide (a.1<b)=false->b<=b/\b<e)/\(I9 (decide (a.1<b)) true j=false->b<=h/\h<e)/\(I9 c true g=false->b<=h/\h<e)/\(iB (I9 (I9 c true g) true l) ((12:Int)=Rm x.1 x.2.1) (I f/\k f<k p))) (b=Rm x.1 x.2.1))))
def Jw:A2 R3.args->Prop:=fun(x:C5)=>let c:=(0:Int);(c<=x.1/\x.1<=x.1/\(↑(8:Nat):Int)*x.1<=281474976710656/\x.1<=9223372036854775807)/\∃(I:OQ->Prop),∃(d: _->Nat),I (c,List.replicate x.1.toNat c,())/\∀(p:OQ),let b:Prop:=(p.1<(↑(List.replicate x.1.toNat c).length:Int));let a:=(i64.wrap (p.1+1),List.set p.2.1 p.1.toNat p.1,());(Ty.int i64).wf p.1/\TG p.2.1/\True->I p->(iB (decide b) ((c<=p.1/\p.1<(p.2.1.length:Int))/\I a/\d a<d p) (p.2.1=oV x.1))
def Kt:A2 U6.args->Prop:=fun(x:C2z)=>let d:=(x.2.1.length:Int);let b:=(0:Int);True/\Ck fun r=>r.1=Rm x.1 x.2.1->(iB (decide (r.1≠b)) ((Cr Int=if Rm x.1 x.2.1=b then Ap x.1 x.2.1 else [])/\r.1=Rm x.1 x.2.1) ((b<=x.1/\x.1<=16384)/\∀(j:Lf),TG j.1/\True->j.1=oV x.1->∃(I:OQ->Prop),∃(μ: _->Nat),I (b,j)/\∀(p:OQ),let g:=(p.2.1.length:Int);let a:=(gx (b,b) x.2.1 p.1);(Ty.int i64).wf p.1/\TG p.2.1/\True->I p->(iB (decide (p.1<d)) ((b<=p.1/\p.1<d)/\(UF p.2.1/\ZQ g a/\List.length p.2.1<=16384)/\∀(k:X1) (o:Lf),let f:=(i64.wrap (p.1+1),o);True/\True->(Ty.int i64).sl.wf o.1/\True->k.1=decide (root p.2.1 a.1≠root p.2.1 a.2)->(UF o.1/\o.1.length=List.length p.2.1/\∀(i:Int),b<=i->i<g->root o.1 i=if root p.2.1 i=Max.max (root p.2.1 a.1) (root p.2.1 a.2)then Min.min (root p.2.1 a.1) (root p.2.1 a.2)else root p.2.1 i)->I f/\μ f<μ p) ((b<=x.1/\x.1<=x.1/\(↑(8:Nat):Int)*x.1<=281474976710656/\x.1<=9223372036854775807)/\∃(I:B6b->Prop),∃(μ: _->Nat),I (b,p.2.1,List.replicate x.1.toNat b,())/\∀(p:B6b),let h:=(p.2.1.length:Int);let e:Prop:=(p.1<(↑(List.replicate x.1.toNat b).length:Int));(Ty.int i64).wf p.1/\TG p.2.1/\TG p.2.2.1/\True->I p->(iB (decide e) ((UF p.2.1/\b<=p.1/\p.1<h/\List.length p.2.1<=16384)/\∀(r:C5) (o:Lf),let c:=(i64.wrap (p.1+1),o.1,List.set p.2.2.1 p.1.toNat r.1,());L5 r.1/\True->(Ty.int i64).sl.wf o.1/\True->r.1=root p.2.1 p.1->(UF o.1/\o.1.length=List.length p.2.1/\∀(i:Int),b<=i->i<h->root o.1 i=root p.2.1 i)->(b<=p.1/\p.1<(p.2.2.1.length:Int))/\I c/\μ c<μ p) ((p.2.2.1=if Rm x.1 x.2.1=b then Ap x.1 x.2.1 else [])/\b=Rm x.1 x.2.1))))))
def q0 (x:List Int×(Int×Int)×Unit) (r:C5) (j:C5) (k:Lf) (i:Int):Prop:=root (k.1.set (Max.max r.1 j.1).toNat (Min.min r.1 j.1)) i=if root x.1 i=Max.max (root x.1 x.2.1.1) (root x.1 x.2.1.2)then Min.min (root x.1 x.2.1.1) (root x.1 x.2.1.2)else root x.1 i
def Ic:A2 P6.args->Prop:=fun(x:List Int×(Int×Int)×Unit)=>let g:=(↑x.1.length:Int);let e:=(16384:Nat);let d:Prop:=(root x.1 x.2.1.1≠root x.1 x.2.1.2);let c:=(x.1.length:Int);let b:=(0:Int);let a:Prop:=(UF x.1/\b<=x.2.1.1/\x.2.1.1<c/\List.length x.1<=e);(b<=b/\b<(↑(2:Nat):Int))/\(b<=(1:Int)/\(1:Int)<(↑(2:Nat):Int))/\(a/\∀(r:C5) (o:Lf),let f:=(↑o.1.length:Int);L5 r.1/\True->(Ty.int i64).sl.wf o.1/\True->r.1=root x.1 x.2.1.1->(UF o.1/\o.1.length=List.length x.1/\∀(i:Int),b<=i->i<c->root o.1 i=root x.1 i)->(UF o.1/\b<=x.2.1.2/\x.2.1.2<f/\o.1.length<=e)/\∀(j:C5) (k:Lf),L5 j.1/\True->(Ty.int i64).sl.wf k.1/\True->j.1=root o.1 x.2.1.2->(UF k.1/\k.1.length=o.1.length/\∀(i:Int),b<=i->i<f->root k.1 i=root o.1 i)->(b<=Max.max r.1 j.1/\Max.max r.1 j.1<(↑k.1.length:Int))/\decide (r.1≠j.1)=decide d/\UF (k.1.set (Max.max r.1 j.1).toNat (Min.min r.1 j.1))/\(k.1.set (Max.max r.1 j.1).toNat (Min.min r.1 j.1)).length=x.1.length/\∀(i:Int),b<=i->i<g->q0 x r j k i)/\a/\∀(r:C5) (o:Lf),let h:=(↑o.1.length:Int);L5 r.1/\True->(Ty.int i64).sl.wf o.1/\True->r.1=root x.1 x.2.1.1->(UF o.1/\o.1.length=List.length x.1/\∀(i:Int),b<=i->i<c->root o.1 i=root x.1 i)->(UF o.1/\b<=x.2.1.2/\x.2.1.2<h/\o.1.length<=e)/\∀(j:C5) (k:Lf),L5 j.1/\True->(Ty.int i64).sl.wf k.1/\True->j.1=root o.1 x.2.1.2->(UF k.1/\k.1.length=o.1.length/\∀(i:Int),b<=i->i<h->root k.1 i=root o.1 i)->(b<=Max.max r.1 j.1/\Max.max r.1 j.1<(↑k.1.length:Int))/\decide (r.1≠j.1)=decide d/\UF (k.1.set (Max.max r.1 j.1).toNat (Min.min r.1 j.1))/\(k.1.set (Max.max r.1 j.1).toNat (Min.min r.1 j.1)).length=x.1.length/\∀(i:Int),b<=i->i<g->q0 x r j k i
def Hn:A2 N8.args->Prop:=fun(x:XU)=>let d:=(0:Int);∃(I:OQ->Prop),∃(g: _->Nat),I (x.2.1,x.1,())/\∀(p:OQ),let f:=(p.2.1.length:Int);let c:Prop:=(d<=p.1/\p.1<f);let b:=p.1.toNat;let j:Prop:=(List.getD p.2.1 b d≠p.1);let a:=(List.getD p.2.1 (List.getD p.2.1 b d).toNat d);let h:=(List.set p.2.1 b a);let e:=(h.getD b d,List.set p.2.1 b a,());(Ty.int i64).wf p.1/\TG p.2.1/\True->I p->c/\(iB (decide j) (c/\(d<=List.getD p.2.1 b d/\List.getD p.2.1 b d<f)/\c/\(d<=p.1/\p.1<(↑h.length:Int))/\I e/\g e<g p) (p.1=root x.1 x.2.1/\UF p.2.1/\List.length p.2.1=x.1.length/\∀(i:Int),d<=i->i<(↑x.1.length:Int)->root p.2.1 i=root x.1 i))
def CC (x:A2 Ai.args) (b:awf Ai.args x) (_:Ai.pre x):Pp x:=by
 obtain⟨n,a,_⟩:=x;have c:a.length<=9223372036854775807:=b.2.1.1;change Int at n;simp only[Pp,iB,G6,uA,rG,rR,rK];refine⟨fun h=>by rw[Rm,qS h],fun h=> ?_⟩;refine⟨fun p=>0<=p.1/\p.1<=(a.length:Int)/\∀l∈a.take p.1.toNat,ZQ n l,fun p=>((a.length:Int)-p.1).toNat,⟨by omega,by omega,by simp⟩, ?_⟩;rintro⟨i,_⟩ _ ⟨a,c,b⟩;change Int at i;simp only at a c b⊢;refine⟨fun c=>⟨⟨a,c⟩,by omega,fun _=>by omega,fun _=>by omega,fun _=>by omega,fun f=> ?_,fun f=> ?_⟩,fun c=> ?_⟩
 . rw[Rm,qL (by omega),qL];intro f;have:=f _ (H8 (d:=((0:Int),(0:Int))) a c);unfold ZQ at this;omega
 . rw[wv (by omega)];refine⟨⟨by omega,by omega,Fo (d:=((0:Int),(0:Int))) a c b ?_⟩,by omega⟩;unfold ZQ;omega
 . rw[D7 (by omega)]at b;rw[Rm,qL (by omega),qS b]
def Tp (x:A2 R3.args) (b:awf R3.args x) (a:R3.pre x):Jw x:=by
 obtain⟨n,_⟩:=x;change Int at n;obtain⟨b,c⟩:0<=n/\n<=16384:=a;simp only[Jw,iB,rJ];refine⟨by omega,fun p=>0<=p.1/\p.1<=n/\p.2.1.length=n.toNat/\∀i:Nat,(i:Int)<p.1->p.2.1[i]? =some (i:Int),fun p=>(n-p.1).toNat,⟨by omega,by omega,by simp,fun i a=>by omega⟩, ?_⟩;rintro⟨i,t,_⟩ _ ⟨b,d,c,a⟩;change Int at i;change List Int at t;simp only at b d c a⊢;refine⟨fun h=> ?_,fun h=> ?_⟩
 . have h:=qA h;rw[wv (by omega)];refine⟨⟨b,by omega⟩,⟨by omega,by omega,by rw[qN];exact c,fun j d=> ?_⟩,by omega⟩;rw[xI];by_cases b:i.toNat=j
   . rw[qS b,qS (by omega)];congr 1;omega
   . rw[qL b];exact a j (by omega)
 . have h:=qB h;unfold oV;apply wN;intro j;by_cases d:j<n.toNat
   . rw[a j (by omega),wO,g0j d];rfl
   . rw[rV (by omega),rV (by simp;omega)]
def Oc (x:A2 N8.args) (a:awf N8.args x) (f:N8.pre x):Hn x:=by
 obtain⟨s,b,_⟩:=x;change List Int at s;change Int at b;obtain⟨g,a,d,h⟩:UF s/\0<=b/\b<(s.length:Int)/\s.length<=16384:=f;simp only[Hn,iB];refine⟨fun p=>UF p.2.1/\p.2.1.length=s.length/\0<=p.1/\p.1<(s.length:Int)/\root s p.1=root s b/\∀i:Int,0<=i->i<(s.length:Int)->root p.2.1 i=root s i,fun p=>p.1.toNat,⟨g,rfl,a,d,rfl,fun _ _ _=>rfl⟩, ?_⟩;rintro⟨c,t,_⟩ _ ⟨d,g,a,j,k,f⟩;change Int at c;change List Int at t;simp only at d g a j k f⊢;have l:=d.le a (by omega:c<(t.length:Int));have h:t.getD c.toNat 0=I7 t c:=rfl;rw[h];refine⟨⟨a,by omega⟩,fun h=> ?_,fun h=> ?_⟩
 . have n:I7 t c≠c:=qA h;have n:=d.le l.1 (by omega:I7 t c<(t.length:Int));have o:t.getD (I7 t c).toNat 0=I7 t (I7 t c):=rfl;rw[o];obtain⟨r,u⟩:=C1l d a (by omega:c<(t.length:Int));have o:c.toNat<t.length:=by omega
   have w:(t.set c.toNat (I7 t (I7 t c))).getD c.toNat 0=I7 t (I7 t c):=by
    have:=Ul (v:=I7 t (I7 t c)) (i:=c) o;rw[qS rfl]at this;exact this
   rw[w,qN];refine⟨⟨a,by omega⟩,⟨l.1,by omega⟩,⟨a,by omega⟩,⟨a,by omega⟩,⟨r,g,n.1,by omega, ?_,fun i o w=>by rw[u i o (by omega)];exact f i o w⟩,by omega⟩;rw[<-k, <-f _ n.1 (by omega), <-f c a j,Dy d l.1 (by omega),Dy d a (by omega)]
 . have l:I7 t c=c:=by simpa using h
   refine⟨?_,d,g,f⟩;rw[<-k, <-f c a j,Cv d a (by omega) l]
def Qs (x:A2 P6.args) (Q:awf P6.args x) (N:P6.pre x):Ic x:=by
 obtain⟨s,⟨a,b⟩,_⟩:=x;change List Int at s;change Int at a b;obtain⟨l,⟨n,o,j,r⟩,J⟩:UF s/\ZQ s.length (a,b)/\s.length<=16384:=N;simp only at n o j r;simp only[Ic,q0];refine⟨by omega,by omega, ?_, ?_⟩;all_goals
  refine⟨⟨l,n,o,J⟩, ?_⟩;rintro⟨T,_⟩ ⟨R,_⟩ _ _ g ⟨A,I,u⟩;simp only at g A I u⊢;refine⟨⟨A,j,by omega,by omega⟩, ?_⟩;rintro⟨U,_⟩ ⟨f,_⟩ _ _ d ⟨k,H,z⟩;simp only at d k H z⊢;rw[u b j r]at d;subst g d;obtain⟨F,V,O⟩:=gZ l n o;obtain⟨G,W,P⟩:=gZ l j r;have B:∀i:Int,0<=i->i<(s.length:Int)->root f i=root s i:=fun i h v=>by rw[z i h (by omega),u i h v]
  have D:∀c:Int,0<=c->c<(s.length:Int)->I7 s c=c->I7 f c=c:=fun c c0 c1 hc=>by
   have e:=B c c0 c1;rw[Cv l c0 c1 hc]at e;have:=(gZ k c0 (by omega)).2.2;rw[e]at this;exact this
  have w:=D _ F (by omega) O;have y:=D _ G (by omega) P;have M:(max (root s a) (root s b)=root s a/\min (root s a) (root s b)=root s b/\root s b<=root s a)\/(max (root s a) (root s b)=root s b/\min (root s a) (root s b)=root s a/\root s a<=root s b):=by omega
  have E:UF (f.set (max (root s a) (root s b)).toNat (min (root s a) (root s b)))/\∀i:Int,0<=i->i<(f.length:Int)->root (f.set (max (root s a) (root s b)).toNat (min (root s a) (root s b))) i=if root f i=max (root s a) (root s b)then min (root s a) (root s b)else root f i:=by
   rcases M with⟨g,d,t⟩ | ⟨g,d,t⟩
   . rw[g,d];exact A9r k G t (by omega) y w
   . rw[g,d];exact A9r k F t (by omega) w y
  refine⟨⟨by omega,by omega⟩,rfl,E.1,by rw[qN];omega,fun i h v=> ?_⟩;rw[E.2 i h (by omega),B i h v]
def A6x (s L:List Int):Prop:=UF s/\s.length=L.length/\∀i:Int,0<=i->i<(s.length:Int)->root s i=I7 L i
def B5l {n:Int} (a:0<=n):A6x (oV n) (oV n):=by
 have b:UF (oV n):=fun i hi=>by
  rw[Oi]at hi;rw[DF (by omega) (by omega)];omega
 refine⟨b,rfl,fun i a c=> ?_⟩;have d:=c;rw[Oi]at d;rw[Cv b a c (DF a (by omega)),DF a (by omega)]
def A5m {s o L:List Int} {l:Ln} (h:A6x s L) (k:ZQ s.length l) (b:UF o) (a:o.length=s.length) (j:∀i:Int,0<=i->i<(s.length:Int)->root o i=if root s i=max (root s l.1) (root s l.2)then min (root s l.1) (root s l.2)else root s i):A6x o (Ft L l):=by
 obtain⟨c,d,a⟩:=h;obtain⟨c,d,f,g⟩:=k;refine⟨b,by rw[Dt];omega,fun i b k=> ?_⟩;rw[j i b (by omega),Du b (by omega),a i b (by omega),a _ c d,a _ f g]
def Vv (x:A2 U6.args) (c:awf U6.args x) (_:U6.pre x):Kt x:=by
 obtain⟨n,a,_⟩:=x;have f:a.length<=9223372036854775807:=c.2.1.1;change Int at n;change List (Int×Int)at a;simp only[Kt,iB,Ck];refine⟨trivial, ?_⟩;rintro⟨e,_⟩ _ c;simp only at c⊢;subst c;refine⟨fun h=> ?_,fun h=> ?_⟩
 . have h:=qA h;exact⟨by rw[qL h],rfl⟩
 . have h:Rm n a=0:=by simpa using h
   have c:=A2e.1 h;obtain⟨f,g,k⟩:=c;refine⟨⟨f,g⟩, ?_⟩;rintro⟨g,_⟩ _ c;simp only at c⊢;subst c;refine⟨fun p=>0<=p.1/\p.1<=(a.length:Int)/\A6x p.2.1 (Ap n (a.take p.1.toNat)),fun p=>((a.length:Int)-p.1).toNat,⟨by omega,by omega,by simpa[Ap]using B5l f⟩, ?_⟩;rintro⟨i,s,_⟩ _ ⟨j,c,f⟩;change Int at i;change List Int at s;simp only at j c f⊢;have g:s.length=n.toNat:=by rw[f.2.1,Zg]
   refine⟨fun c=> ?_,fun c=> ?_⟩
   . have c:=qA c;have o:ZQ (s.length:Int) (gx ((0:Int),(0:Int)) a i):=by
      rw[g,show((n.toNat:Nat):Int)=n from by omega];exact k _ (H8 j c)
     refine⟨⟨j,c⟩,⟨f.1,o,by omega⟩, ?_⟩;rintro⟨y,_⟩ ⟨w,_⟩ _ _ _ ⟨g,k,l⟩;simp only at g k l⊢;rw[wv (by omega)];refine⟨⟨by omega,by omega, ?_⟩,by omega⟩;rw[show(i+1).toNat=i.toNat+1 from by omega,A5x (d:=((0:Int),(0:Int))) (by omega),A4m, <-G9 j c];exact A5m f o g k l
   . have c:=qB c;rw[D7 (by omega)]at f;simp only[rJ];refine⟨by omega,fun p=>0<=p.1/\p.1<=n/\A6x p.2.1 (Ap n a)/\p.2.2.1.length=n.toNat/\∀j:Nat,(j:Int)<p.1->p.2.2.1[j]? =some (I7 (Ap n a) j),fun p=>(n-p.1).toNat,⟨by omega,by omega,f,by simp,fun j t=>by omega⟩, ?_⟩;rintro⟨b,f,out,_⟩ _ ⟨o,u,c,v,r⟩;change Int at b;change List Int at f out;simp only at o u c v r⊢;have u:f.length=n.toNat:=by rw[c.2.1,Zg]
     refine⟨fun f=> ?_,fun f=> ?_⟩
     . have f:=qA f;refine⟨⟨c.1,o,by omega,by omega⟩, ?_⟩;rintro⟨y,_⟩ ⟨w,_⟩ _ _ u ⟨g,k,l⟩;simp only at u g k l⊢;rw[wv (by omega)];refine⟨⟨o,by omega⟩,⟨by omega,by omega,⟨g,by rw[k];exact c.2.1,fun i g k=>by rw[l i g (by omega)];exact c.2.2 i g (by omega)⟩,by rw[qN];exact v,fun j t=> ?_⟩,by omega⟩;rw[xI];by_cases g:b.toNat=j
       . rw[qS g,qS (by omega),u,c.2.2 b o (by omega),show((j:Nat):Int)=b from by omega]
       . rw[qL g];exact r j (by omega)
     . have f:=qB f;rw[qS h];refine⟨?_,h.symm⟩;apply wN;intro j;by_cases t:j<n.toNat
       . rw[r j (by omega)];have:=SL (L:=Ap n a) (i:=(j:Int)) (by omega) (by rw[Zg];omega);rw[qM]at this;exact this.symm
       . rw[rV (by omega),rV (by rw[Zg];omega)]
def QP:An:= {loop:= [(4,⟨[1,20,21],[0],[(22,false,vI)],[],[]⟩)]}
abbrev B5v:=(Int×List (Int×Int×QQ×(Bool×List Int)×List Int))×Unit
def We:A2 Cw.args->Prop:=fun(x:B5v)=>let e:=(0:Int);let a:=(I9 (decide (x.1.1<e)) true (decide (16384<x.1.1)));let c:=(x.1.2.length:Int);let g:=(decide ((16384:Int)<c));(iB (I9 a true g) (false=decide (I2 x.1)) (∃(I:C5->Prop),∃(d: _->Nat),I (e,())/\∀(p:C5),let f:=(i64.wrap (p.1+1),());let a:=(gx (e,e,dQ,(false,[]),[]) x.1.2 p.1);let h:=(decide (a.1=a.2.1));let b:=(I9 (I9 (I9 (decide (a.1<e)) true (decide (x.1.1<=a.1))) true (decide (a.2.1<e))) true (decide (x.1.1<=a.2.1)));(Ty.int i64).wf p.1/\True->I p->(iB (decide (p.1<c)) ((e<=p.1/\p.1<c)/\(iB (I9 b true h) (false=decide (I2 x.1)) (True/\Ck fun r=>r.1=(rv a.2.2.1).num.sign->(iB (decide (r.1<=e)) (false=decide (I2 x.1)) (I f/\d f<d p))))) (true=decide (I2 x.1)))))
def B5b {q:Rat} :0<q.num↔0<q:=by
 rw[<-Rat.not_le, <-Int.not_le];refine g4r ?_;have a:=Rat.num_nonneg (q:= -q);rw[g2z]at a;constructor
 . intro h;have:0<= -q:=a.1 (by omega);grind
 . intro h;have:0<= -q:=by grind
   have:=a.2 this;omega
def A1z (n:Nat) (f:Nat->Rat):(cH n f).length=n:=by simp[cH]
def B0b {n:Nat} {f:Nat->Rat} {b:Nat} (h:b<n):(cH n f).getD b zr=rc (f b):=by
 unfold cH;rw[qF,wO,g0j h];rfl
def VY {N:Ge} (h:I2 N) {i:Nat} (a:i<N.2.length):jR N.1 (N.2.getD i dB):=h.2.2.2 _ (C6 a)
def pJ {N:Ge} (h:I2 N) {i:Nat} (a:i<N.2.length):Ez N.2 i<N.1.toNat/\Fa N.2 i<N.1.toNat:=by
 obtain⟨d,b,c,f,_⟩:=VY h a;unfold Ez Fa;exact⟨by omega,by omega⟩
def B9a {N:Ge} (h:I2 N) {i:Nat} (a:i<N.2.length):Ez N.2 i≠Fa N.2 i:=by
 obtain⟨d,b,c,f,e,_⟩:=VY h a;unfold Ez Fa;omega
def B4q {N:Ge} (h:I2 N) {i:Nat} (a:i<N.2.length):0<Oe N.2 i:=(VY h a).2.2.2.2.2
def gB {N:Ge} (h:I2 N):B0p N.1 (KO N.2):=by
 refine⟨h.1,h.2.1,fun l a=> ?_⟩;unfold KO at a;obtain⟨e,f,rfl⟩:=tA.1 a;obtain⟨a,b,c,d,_⟩:=h.2.2.2 e f;exact⟨a,b,c,d⟩
def B1o {E:List Yd} {i:Int} (a:0<=i) (b:i<(E.length:Int)):KO (E.take (i+1).toNat)=KO (E.take i.toNat)++ [((gx dB E i).1,(gx dB E i).2.1)]:=by
 unfold KO;rw[Ix (d:=dB) a b,uX];rfl
def ID (x:A2 Cw.args) (a:awf Cw.args x) (_:Cw.pre x):We x:=by
 obtain⟨⟨n,E⟩,_⟩:=x;have f:E.length<=9223372036854775807:=a.1.2.1;change Int at n;change List Yd at E;simp only[We,iB,Ck];refine⟨fun h=> ?_,fun h=> ?_⟩
 . rw[G6,G6]at h;simp only[uA,rR]at h;refine(rE fun k=> ?_).symm;obtain⟨a,b,c,_⟩:=k;simp only at a b c;rcases h with(h|h) |h
   . omega
   . omega
   . exact absurd (sO.1 h) (by omega)
 . rw[G6,G6]at h;simp only[rG,rK]at h;obtain⟨⟨a,f⟩,j⟩:=h;have j:E.length<=16384:=g4i fun h=>j (sO.2 h)
   refine⟨fun p=>0<=p.1/\p.1<=(E.length:Int)/\∀e∈E.take p.1.toNat,jR n e,fun p=>((E.length:Int)-p.1).toNat,⟨qI _,qD _,fun e a=>(by cases a)⟩, ?_⟩;rintro⟨i,_⟩ _ ⟨f,a,g⟩;change Int at i;simp only at f a g⊢;refine⟨fun a=> ?_,fun a=> ?_⟩
   . have a:=qA a;have s:=Ix (d:=dB) f a;have o:=H8 (d:=dB) f a;have h:gx (0,0,dQ,(false,[]),[]) E i=gx dB E i:=rfl;rw[h];generalize gx dB E i=e at*;have l:¬jR n e->false=decide (I2 (n,E)):=fun hn=>(rE fun k=>hn (k.2.2.2 e o)).symm
     refine⟨⟨f,a⟩,fun k=>l fun h=> ?_,fun k=>⟨trivial, ?_⟩⟩
     . obtain⟨f,o,r,t,u,v⟩:=h;simp only[G6,uA,rR]at k;omega
     . simp only[G6,rG,rK]at k;rintro⟨r,_⟩ _ f;change Int at r;simp only at f⊢;have k:0<r↔0<rv e.2.2.1:=by rw[f,Int.sign_pos_iff];exact B5b
       refine⟨fun f=>l fun h=> ?_,fun f=> ?_⟩
       . have:=k.2 h.2.2.2.2.2;have:=qA f;omega
       . have f:=qB f;rw[wv (by omega)];refine⟨⟨by omega,by omega,fun y f=> ?_⟩,by omega⟩;rw[s]at f;rcases qX.1 f with f|f
         . exact g y f
         . rw[qP]at f;subst f;exact⟨by omega,by omega,by omega,by omega,by omega,k.1 (by omega)⟩
   . have a:=qB a;rw[D7 (by omega)]at g;exact(rF ⟨by simp only;omega,by simp only;omega,j,g⟩).symm
def A7q {k:Nat} {fr to:Nat->Nat} {b i:Nat} {f:Rat} (g:1<=k) (d:qs k f):qs k (PE fr to b i*f):=by
 unfold PE;by_cases a:fr i=b<;>by_cases c:to i=b
 . rw[qS a,qS c,show(1:Rat)-1=0 from by grind,tJ];exact P9 g
 . rw[qS a,qL c,show(1:Rat)-0=1 from by grind,xT];exact d
 . rw[qL a,qS c,show(0:Rat)-1= -1 from by grind,Rat.neg_mul,xT];exact OF d
 . rw[qL a,qL c,show(0:Rat)-0=0 from by grind,tJ];exact P9 g
def EF:An:= {loop:= [(5,⟨[1,2,4,18,19],[0,1],[(20,false,vI)],[],[(2, .rows tE 79 106)]⟩),(12,⟨[1,2,4,68,69],[0,1],[(70,false,vI)],[],[(2, .row (.sl tE) 79)]⟩)],plan:= [(8,[5,7,9,11,14,15],[18,20],false,(.p 0 (.p 1 (.p 3 (.p 4 (.q 5 (.p 6 (.q 7 (.p 8 (.q 9 (.p 10 (.q 11 (.p 12 (.p 13 (.q 14 (.q 15 (.p 16 (.or 2 (.e 17 (.e 18 (.p 19 (.e 20 .done)))) (.e 17 (.or 2 (.e 18 (.p 19 (.e 20 .done))) (.e 18 (.e 2 (.p 19 (.e 20 .done)))))))))))))))))))))))),(9,[5,7,9,11,14,15],[18,20],false,(.p 0 (.p 1 (.p 3 (.p 4 (.q 5 (.p 6 (.q 7 (.p 8 (.q 9 (.p 10 (.q 11 (.p 12 (.p 13 (.q 14 (.q 15 (.p 16 (.or 2 (.e 17 (.e 18 (.p 19 (.e 20 .done)))) (.e 17 (.or 2 (.e 18 (.p 19 (.e 20 .done))) (.e 18 (.e 2 (.p 19 (.e 20 .done))))))))))))))))))))))))]}
def Kp:A2 T9.args->Prop:=fun(x:B5v)=>let A:=(140737488355328:Nat);let f:=(x.1.2.length:Int);let n:=(1:Int);let j:=(0:Int);True/\Nw fun r=>r.1=decide (I2 x.1)->(iB ((!r.1)) ((¬I2 x.1->(j,j,[])=zm/\n=n)/\(I2 x.1->Pw x.1.1.toNat x.1.1.toNat (ET x.1.2) (j,j,[])/\n=j)) ((j<=x.1.1/\x.1.1<=x.1.1/\(↑(24:Nat):Int)*x.1.1<=281474976710656/\x.1.1<=9223372036854775807)/\∃(I:nA->Prop),∃(d: _->Nat),I (j,List.replicate x.1.1.toNat [],())/\∀(p:nA),let o:=(p.2.1.length:Int);let a:=(gx (j,j,dQ,(false,[]),[]) x.1.2 p.1);let v:=(a.1,a.2.2.1);let t:Prop:=(j<=a.1/\a.1<o);let s:=a.1.toNat;let z:=(List.getD p.2.1 s []);let i:=(a.2.1,a.2.2.1);let g:=a.2.1.toNat;(Ty.int i64).wf p.1/\Qx p.2.1/\True->I p->(iB (decide (p.1<f)) ((j<=p.1/\p.1<f)/\E3 a.2.2.1/\H6 fun r=>let w:=(a.2.1,r.1);let l:=(a.1,r.1);let k:Prop:=((z.length+ [v,w].length)*(64:Nat)<=A/\z.length+ [v,w].length<=9223372036854775807);let b:=(List.set p.2.1 s (List.getD p.2.1 s []++ [v,w]));let h:Prop:=(j<=a.2.1/\a.2.1<(↑b.length:Int));let e:Prop:=(((b.getD g []).length+ [i,l].length)*(64:Nat)<=A/\(b.getD g []).length+ [i,l].length<=9223372036854775807);let c:Prop:=(e/\h/\Int.toNat a.2.1=Int.toNat a.2.1/\I (i64.wrap (p.1+n),b.set g (b.getD g []++ [i,l]),())/\d (i64.wrap (p.1+n),b.set g (b.getD g []++ [i,l]),())<d p);let f:Prop:=(k/\t/\Int.toNat a.1=Int.toNat a.1/\h/\c/\c/\e/\h/\Int.toNat a.2.1=Int.toNat a.2.1/\I (i64.wrap (p.1+n),b.set g (b.getD g []++ [i,l]),())/\d (i64.wrap (p.1+n),b.set g (b.getD g []++ [i,l]),())<d p);r.1=rc (-rv a.2.2.1)->t/\f/\f/\k/\t/\Int.toNat a.1=Int.toNat a.1/\h/\c/\c/\e/\h/\Int.toNat a.2.1=Int.toNat a.2.1/\I (i64.wrap (p.1+n),b.set g (b.getD g []++ [i,l]),())/\d (i64.wrap (p.1+n),b.set g (b.getD g []++ [i,l]),())<d p) (∃(I:nA->Prop),∃(d: _->Nat),I (j,p.2.1,())/\∀(B:nA),let y:=(x.1.1,x.1.1,B.2.1);let u:=(List.getD B.2.1 B.1.toNat []);let q:Prop:=(j<=B.1/\B.1<(B.2.1.length:Int));(Ty.int i64).wf B.1/\Qx B.2.1/\True->I B->(iB (decide (B.1<o)) (q/\Me u/\gS fun r=>let m:=(i64.wrap (B.1+n),List.set B.2.1 B.1.toNat r.1,());RO (A5 u) r.1->q/\I m/\d m<d B) ((¬I2 x.1->y=zm/\j=n)/\(I2 x.1->Pw x.1.1.toNat x.1.1.toNat (ET x.1.2) y/\j=j)))))))
def HI (n t:Nat) (E:List Yd) (b:Nat) (row:List C9):Prop:=row.length<=2*t/\(∀e∈row,0<=e.1/\e.1<(n:Int)/\sz 2 e.2)/\∀j:Nat,A5 row (j:Int)=NJ t (Ez E) (Fa E) (Oe E) b j
def C1v (n:Nat) (E:List Yd) (p:Int×List (List C9)×Unit):Prop:=0<=p.1/\p.1<=(E.length:Int)/\p.2.1.length=n/\∀b,b<n->HI n p.1.toNat E b (p.2.1.getD b [])
def cC (t:Nat) (fr to:Nat->Nat) (s:Nat->Rat) (b c:Nat):NJ (t+1) fr to s b c=NJ t fr to s b c+s t*(PE fr to b t*PE fr to c t):=rfl
def HI.skip {n t:Nat} {E:List Yd} {b:Nat} {row:List C9} (h:HI n t E b row) (a:Ez E t≠b) (c:Fa E t≠b):HI n (t+1) E b row:=by
 refine⟨qY h.1 (by omega),h.2.1,fun j=> ?_⟩;rw[cC,h.2.2,show PE (Ez E) (Fa E) b t=0 from by unfold PE;rw[qL a,qL c];grind,tJ,uW,rN]
def HI.add {n t:Nat} {E:List Yd} {b:Nat} {row:List C9} (h:HI n t E b row) {x y:C9} (d:0<=x.1/\x.1<(n:Int)/\sz 2 x.2) (f:0<=y.1/\y.1<(n:Int)/\sz 2 y.2)
 (c:∀j:Nat,(if x.1=(j:Int)then rv x.2 else 0)+(if y.1=(j:Int)then rv y.2 else 0)=Oe E t*(PE (Ez E) (Fa E) b t*PE (Ez E) (Fa E) j t)):HI n (t+1) E b (row++ [x,y]):=by
 refine⟨by rw[rO,rI,rH];have:=h.1;omega,fun e a=> ?_,fun j=> ?_⟩
 . rcases qX.1 a with a|a
   . exact h.2.1 e a
   . simp only[qG,rY,vF]at a;rcases a with rfl|rfl
     . exact d
     . exact f
 . rw[N0,h.2.2,cC, <-c];simp only[A5,rN]
def C4x (n:Nat) (rows:List (List C9)) (p:Int×List (List C9)×Unit):Prop:=0<=p.1/\p.1<=(n:Int)/\p.2.1.length=n/\(∀b:Nat,(b:Int)<p.1->RO (A5 (rows.getD b [])) (p.2.1.getD b []))/\∀b:Nat,p.1<=(b:Int)->p.2.1.getD b []=rows.getD b []
def Vr (x:A2 T9.args) (A:awf T9.args x) (d:T9.pre x):Kp x:=by
 obtain⟨⟨n,E⟩,_⟩:=x;have I:∀e∈E,Ik e.2.2.1:=fun e l=>Ja (A.1.2.2 e l).2.2.1
 change Int at n;change List Yd at E;have d:I2 (n,E)->Al (n,E):=d;simp only[Kp,iB,H6,Nw,gS];refine⟨trivial, ?_⟩;rintro⟨f,_⟩ _ a;change Bool at f;simp only at a⊢;by_cases h:I2 (n,E)
 case neg=>
  rw[a,rE h];exact⟨fun _=>⟨fun _=>⟨rfl,by trivial⟩,fun s=>absurd s h⟩,fun s=>(by cases s)⟩
 rw[a,rF h];refine⟨fun s=>(by cases s),fun _=> ?_⟩;obtain⟨j,g,F⟩:=d h;simp only at j g F;obtain⟨n,rfl⟩:∃k:Nat,n=(k:Int):=⟨n.toNat,by have:=h.1;simp only at this;omega⟩;have d:n<=16384:=by omega
 simp only[qM];refine⟨⟨qD _,qI _,by omega,by omega⟩,C1v n E,fun p=>((E.length:Int)-p.1).toNat,⟨qI _,qD _,rJ,fun b d=> ?_⟩, ?_⟩
 . have e:(List.replicate n ([]:List C9)).getD b []= []:=by
    rw[qF,uO];split<;>rfl
   simp only;rw[e];exact⟨rM _,fun e l=>(by cases l),fun j=>rfl⟩
 rintro⟨i,rows,_⟩ _ ⟨B,o,rl,g⟩;change Int at i;change List (List C9)at rows;simp only at B o rl g⊢;refine⟨fun t=> ?_,fun t=> ?_⟩
 . have t:=qA t;have v:i.toNat<E.length:=by omega
   obtain⟨o,r⟩:=pJ h v;have u:=B9a h v;simp only[qM]at o r u;obtain⟨G,D,H,J,M,N⟩:=VY h v;have D:gx (0,0,dQ,(false,[]),[]) E i=E.getD i.toNat dB:=G9 B t;rw[D];have D:E.getD i.toNat dB∈E:=C6 v;obtain⟨v,_⟩:=F _ D;have M:=I _ D;have D:(E.getD i.toNat dB).1.toNat=Ez E i.toNat:=rfl;have J:(E.getD i.toNat dB).2.1.toNat=Fa E i.toNat:=rfl;have F:rv (E.getD i.toNat dB).2.2.1=Oe E i.toNat:=rfl;have I:(E.getD i.toNat dB).1=(Ez E i.toNat:Int):=(sN G).symm;have G:(E.getD i.toNat dB).2.1=(Fa E i.toNat:Int):=(sN H).symm;refine⟨⟨B,t⟩,U8 v (by decide), ?_⟩;rintro⟨f,_⟩ _ a;change D5 at f;simp only at a⊢;rw[D,J,I,G];have G:sz 2 f:=by rw[a];exact KW (OF (Gz M v (by decide)))
   have H:rv f= -Oe E i.toNat:=by rw[a,E6];rfl
   have a:∀X:List C9,(List.set rows (Ez E i.toNat) X).getD (Fa E i.toNat) []=rows.getD (Fa E i.toNat) []:=fun X=>D8 (Ne.symm u)
   simp only[a];rw[wv (by omega)];have I:0<=(Ez E i.toNat:Int)/\(Ez E i.toNat:Int)<(rows.length:Int):=⟨qD _,by rw[rl];exact sO.2 o⟩;have O:∀X:List C9,0<=(Fa E i.toNat:Int)/\(Fa E i.toNat:Int)<((List.set rows (Ez E i.toNat) X).length:Int):=fun X=>⟨qD _,by rw[qN,rl];exact sO.2 r⟩
   have a:∀z:Nat,z<=18->(z+2)*64<=140737488355328/\z+2<=9223372036854775807:=fun z a=>⟨by omega,by omega⟩
   have J:=a _ (qY (g _ o).1 (by omega));have M:=a _ (qY (g _ r).1 (by omega));have N:C1v n E (i+1,(rows.set (Ez E i.toNat) (rows.getD (Ez E i.toNat) []++ [((Ez E i.toNat:Int),(E.getD i.toNat dB).2.2.1),((Fa E i.toNat:Int),f)])).set (Fa E i.toNat) (rows.getD (Fa E i.toNat) []++ [((Fa E i.toNat:Int),(E.getD i.toNat dB).2.2.1),((Ez E i.toNat:Int),f)]),()):=by
    refine⟨by simp only;omega,by simp only;omega,by simp only;rw[qN,qN];exact rl,fun b d=> ?_⟩;simp only;rw[show(i+1).toNat=i.toNat+1 from by omega];by_cases D:b=Fa E i.toNat
    . subst D;rw[B6 (by rw[qN,rl];exact r)];refine(g _ r).add ⟨qD _,sO.2 r,v⟩ ⟨qD _,sO.2 o,G⟩ fun j=> ?_
      simp only;rw[F,H];unfold PE;rw[qL u,qS rfl];by_cases a:Ez E i.toNat=j<;>by_cases f:Fa E i.toNat=j
      . exact absurd (a.trans f.symm) u
      . rw[qL (by omega),qS (by omega),qS a,qL f];grind
      . rw[qS (by omega),qL (by omega),qL a,qS f];grind
      . rw[qL (by omega),qL (by omega),qL a,qL f];grind
    . rw[D8 D];by_cases B:b=Ez E i.toNat
      . subst B;rw[B6 (by rw[rl];exact o)];refine(g _ o).add ⟨qD _,sO.2 o,v⟩ ⟨qD _,sO.2 r,G⟩ fun j=> ?_
        simp only;rw[F,H];unfold PE;rw[qS rfl,qL (Ne.symm u)];by_cases a:Ez E i.toNat=j<;>by_cases f:Fa E i.toNat=j
        . exact absurd (a.trans f.symm) u
        . rw[qS (by omega),qL (by omega),qS a,qL f];grind
        . rw[qL (by omega),qS (by omega),qL a,qS f];grind
        . rw[qL (by omega),qL (by omega),qL a,qL f];grind
      . rw[D8 B];exact(g b d).skip (Ne.symm B) (Ne.symm D)
   have f:((E.length:Int)-(i+1)).toNat<((E.length:Int)-i).toNat:=by omega
   repeat' first
    |exact N
    |exact f
    |exact True.intro
    |exact rfl
    |exact I.1
    |exact I.2
    |exact qD _
    |exact(O _).2
    |exact J.1
    |exact J.2
    |exact M.1
    |exact M.2
    |apply And.intro
 have t:=qB t;rw[show i.toNat=E.length from by omega]at g;refine⟨C4x n rows,fun p=>((n:Int)-p.1).toNat,⟨qI _,qD _,rl,fun b d=>by simp only at d;omega,fun b _=>rfl⟩, ?_⟩;rintro⟨j,out,_⟩ _ ⟨o,f,r,t,u⟩;change Int at j;change List (List C9)at out;simp only at o f r t u⊢;refine⟨fun f=> ?_,fun f=> ?_⟩
 . have f:=qA f;have B:j<(n:Int):=by rw[rl]at f;exact f
   have v:0<=j/\j<(out.length:Int):=⟨o,by rw[r];exact B⟩;have o:=g j.toNat (by omega);rw[u j.toNat (by omega)];refine⟨v, .inr ⟨qY o.1 (by omega),fun e l=>G1 (o.2.1 e l).2.2 (by decide)⟩, ?_⟩;rintro⟨w,_⟩ _ A;change List C9 at w;simp only at A⊢;rw[wv (by omega)];refine⟨v,⟨by simp only;omega,by simp only;omega,by simp only;rw[qN];exact r,fun b d=> ?_,fun b d=> ?_⟩,by omega⟩
   . simp only at d⊢;by_cases v:b=j.toNat
     . subst v;rw[B6 (by rw[r];omega)];exact A
     . rw[D8 v];exact t b (by omega)
   . simp only at d⊢;rw[D8 (by omega)];exact u b (by omega)
 . have f:=qB f;have B:¬j<(n:Int):=by rw[rl]at f;exact f
   refine⟨fun s=>absurd h s,fun _=>⟨⟨rfl,rfl,r,fun b d=> ?_⟩,by trivial⟩⟩;obtain⟨c1,f⟩:=t b (by omega);have o:=g b d;refine⟨c1,fun e l=> ?_,fun c _=> ?_⟩
   . have a:A5 (rows.getD b []) e.1≠0:=by rw[<-f,Q8 c1.1 l];exact(c1.2 e l).1
     obtain⟨y,d,g⟩:=CS a;rw[<-g];exact⟨(o.2.1 y d).1,(o.2.1 y d).2.1⟩
   . rw[f,o.2.2];rfl
def QV:An:= {join:= [(8,⟨[2,3,4,5,6],[0,2,3],[],[(1,98,[.val (.sl (.int .i64)), .val (.int .i64)]),(4,45,[.val (.int .i64), .val (.int .i64), .val .bool, .val (.sl (.int .u32)), .val (.sl (.int .u32)), .val .bool, .val (.sl (.int .u32)), .val (.sl (.int .u32))])],[]⟩),(10,⟨[2,3,4,5,6],[0,2,3],[],[(1,98,[.val (.sl (.int .i64)), .val (.int .i64)]),(4,45,[.val (.int .i64), .val (.int .i64), .val .bool, .val (.sl (.int .u32)), .val (.sl (.int .u32)), .val .bool, .val (.sl (.int .u32)), .val (.sl (.int .u32))])],[]⟩)],loop:= [(4,⟨[2,3,4],[0],[(5,false,vI)],[(1,98,[.val (.sl (.int .i64)), .val (.int .i64)]),(2,25,[.val (.int .i64), .own (.pair (.int .i64) (.pair (.int .i64) (.pair tQ tQ))) 45])],[]⟩)],plan:= [(7,[5],[7,13],false,(.p 0 (.p 3 (.p 4 (.q 5 (.p 6 (.p 9 (.or 1 (.p 2 (.or 7 (.p 8 (.e 10 (.p 11 (.p 12 (.e 13 .done))))) (.e 10 (.e 7 (.p 8 (.p 11 (.p 12 (.e 13 .done)))))))) (.or 7 (.or 1 (.p 2 (.p 8 (.e 10 (.p 11 (.p 12 (.e 13 .done)))))) (.e 10 (.e 1 (.p 2 (.p 8 (.p 11 (.p 12 (.e 13 .done)))))))) (.e 10 (.or 1 (.p 2 (.e 7 (.p 8 (.p 11 (.p 12 (.e 13 .done)))))) (.e 7 (.e 1 (.p 2 (.p 8 (.p 11 (.p 12 (.e 13 .done))))))))))))))))))]}
abbrev C3d:=Int×List Int×Int×Int×List (Int×Int×QQ×(Bool×List Int)×List Int)×Unit
abbrev B6c:=List Int×Int×Int×Int×Bool×List Int×List Int×Bool×List Int×List Int×Unit
def Wj:A2 Da.args->Prop:=fun(x:Lf)=>let h:=(1:Int);let d:=(0:Int);True/\∀(r:AV),let j:=(r.1.1.length:Int);(TG r.1.1/\L5 r.1.2)/\True->r.1=(x.1,d)->(d<(6:Int)/\d<=r.1.2/\r.1.2<=j)/\∀(C:C5) (o:AV),let k:=(o.1.1.length:Int);L5 C.1/\True->((Ty.int i64).sl.pair (Ty.int i64)).wf o.1/\True->d<=C.1/\C.1<6->o.1.1=r.1.1/\d<=o.1.2/\o.1.2<=j->(d<(10:Int)/\d<=o.1.2/\o.1.2<=k)/\∀(r:C5) (A:AV),L5 r.1/\True->((Ty.int i64).sl.pair (Ty.int i64)).wf A.1/\True->d<=r.1/\r.1<10->A.1.1=o.1.1/\d<=A.1.2/\A.1.2<=k->∃(I:C3d->Prop),∃(x: _->Nat),I (r.1,A.1.1,A.1.2,i64.wrap (h+C.1),[],())/\∀(p:C3d),let q:=(decide (h<p.2.2.2.1));let l:=(p.2.1.length:Int);(Ty.int i64).wf p.1/\(Ty.int i64).sl.wf p.2.1/\(Ty.int i64).wf p.2.2.1/\(Ty.int i64).wf p.2.2.2.1/\((Ty.int i64).pair ((Ty.int i64).pair (tQ.pair tQ))).sl.wf p.2.2.2.2.1/\True->I p->(iB (I9 (decide (d<p.1)) q false) ((d<p.2.2.2.1/\d<=p.2.2.1/\p.2.2.1<=l)/\∀(r:C5) (o:AV),let m:=(o.1.1.length:Int);L5 r.1/\True->((Ty.int i64).sl.pair (Ty.int i64)).wf o.1/\True->d<=r.1/\r.1<p.2.2.2.1->o.1.1=p.2.1/\d<=o.1.2/\o.1.2<=l->(d<=o.1.2/\o.1.2<=m)/\∀(w:G7) (z:AV),let g:=(z.1.1.length:Int);let c:Prop:=(d<i64.wrap (p.2.2.2.1-h)/\d<=z.1.2/\z.1.2<=g);ED w.1/\True->((Ty.int i64).sl.pair (Ty.int i64)).wf z.1/\True->Zb w.1/\(0:Rat)<rv w.1->z.1.1=o.1.1/\d<=z.1.2/\z.1.2<=m->True/\H6 fun y=>y.1=rc (0:Rat)->∃(J:B6c->Prop),let a:Prop:=(c/\∀(v:C5) (o:AV),L5 v.1/\True->((Ty.int i64).sl.pair (Ty.int i64)).wf o.1/\True->d<=v.1/\v.1<i64.wrap (p.2.2.2.1-h)->o.1.1=z.1.1/\d<=o.1.2/\o.1.2<=g->p.2.2.2.1≠d/\J (o.1.1,o.1.2,r.1,(i64.wrap (i64.wrap (r.1+h)+v.1)).tmod p.2.2.2.1,w.1.1.1,w.1.1.2,w.1.2,y.1.1.1,y.1.1.2,y.1.2,()));((a/\c/\∀(v:C5) (o:AV),L5 v.1/\True->((Ty.int i64).sl.pair (Ty.int i64)).wf o.1/\True->d<=v.1/\v.1<i64.wrap (p.2.2.2.1-h)->o.1.1=z.1.1/\d<=o.1.2/\o.1.2<=g->p.2.2.2.1≠d/\J (o.1.1,o.1.2,r.1,(i64.wrap (i64.wrap (r.1+h)+v.1)).tmod p.2.2.2.1,w.1.1.1,w.1.1.2,w.1.2,y.1.1.1,y.1.1.2,y.1.2,()))/\(c/\∀(v:C5) (o:AV),let f:=(o.1.1,o.1.2,r.1,(i64.wrap (i64.wrap (r.1+h)+v.1)).tmod p.2.2.2.1,w.1.1.1,w.1.1.2,w.1.2,y.1.1.1,y.1.1.2,y.1.2,());L5 v.1/\True->((Ty.int i64).sl.pair (Ty.int i64)).wf o.1/\True->d<=v.1/\v.1<i64.wrap (p.2.2.2.1-h)->o.1.1=z.1.1/\d<=o.1.2/\o.1.2<=g->(p.2.2.2.1≠d/\J f)/\p.2.2.2.1≠d/\J f)/\a/\c/\∀(v:C5) (o:AV),L5 v.1/\True->((Ty.int i64).sl.pair (Ty.int i64)).wf o.1/\True->d<=v.1/\v.1<i64.wrap (p.2.2.2.1-h)->o.1.1=z.1.1/\d<=o.1.2/\o.1.2<=g->p.2.2.2.1≠d/\J (o.1.1,o.1.2,r.1,(i64.wrap (i64.wrap (r.1+h)+v.1)).tmod p.2.2.2.1,w.1.1.1,w.1.1.2,w.1.2,y.1.1.1,y.1.1.2,y.1.2,()))/\∀(t:B6c),let s:=(t.1.length:Int);(Ty.int i64).sl.wf t.1/\(Ty.int i64).wf t.2.1/\(Ty.int i64).wf t.2.2.1/\(Ty.int i64).wf t.2.2.2.1/\Ty.bool.wf t.2.2.2.2.1/\(Ty.int u32).sl.wf t.2.2.2.2.2.1/\(Ty.int u32).sl.wf t.2.2.2.2.2.2.1/\Ty.bool.wf t.2.2.2.2.2.2.2.1/\(Ty.int u32).sl.wf t.2.2.2.2.2.2.2.2.1/\(Ty.int u32).sl.wf t.2.2.2.2.2.2.2.2.2.1/\True->J t->∃(J:B6c->Prop),((d<(4:Int)/\d<=t.2.1/\t.2.1<=s)/\∀(r:C5) (o:AV),let n:=(o.1.1.length:Int);L5 r.1/\True->((Ty.int i64).sl.pair (Ty.int i64)).wf o.1/\True->d<=r.1/\r.1<4->o.1.1=t.1/\d<=o.1.2/\o.1.2<=s->(iB (decide (r.1=3)) ((d<=o.1.2/\o.1.2<=n)/\∀(r:G7) (B:AV),ED r.1/\True->((Ty.int i64).sl.pair (Ty.int i64)).wf B.1/\True->Zb r.1->B.1.1=o.1.1/\d<=B.1.2/\B.1.2<=n->J (B.1.1,B.1.2,t.2.2.1,t.2.2.2.1,t.2.2.2.2.1,t.2.2.2.2.2.1,t.2.2.2.2.2.2.1,r.1.1.1,r.1.1.2,r.1.2,())) (J (o.1.1,o.1.2,t.2.2.1,t.2.2.2.1,t.2.2.2.2.1,t.2.2.2.2.2.1,t.2.2.2.2.2.2.1,t.2.2.2.2.2.2.2.1,t.2.2.2.2.2.2.2.2.1,t.2.2.2.2.2.2.2.2.2.1,()))))/\∀(u:B6c),let b:=(u.2.2.1,u.2.2.2.1,((u.2.2.2.2.1,u.2.2.2.2.2.1),u.2.2.2.2.2.2.1),(u.2.2.2.2.2.2.2.1,u.2.2.2.2.2.2.2.2.1),u.2.2.2.2.2.2.2.2.2.1);let i:=(i64.wrap (p.1-h),u.1,u.2.1,p.2.2.2.1,p.2.2.2.2.1++ [b],());(Ty.int i64).sl.wf u.1/\(Ty.int i64).wf u.2.1/\(Ty.int i64).wf u.2.2.1/\(Ty.int i64).wf u.2.2.2.1/\Ty.bool.wf u.2.2.2.2.1/\(Ty.int u32).sl.wf u.2.2.2.2.2.1/\(Ty.int u32).sl.wf u.2.2.2.2.2.2.1/\Ty.bool.wf u.2.2.2.2.2.2.2.1/\(Ty.int u32).sl.wf u.2.2.2.2.2.2.2.2.1/\(Ty.int u32).sl.wf u.2.2.2.2.2.2.2.2.2.1/\True->J u->((p.2.2.2.2.1.length+ [b].length)*(128:Nat)<=(140737488355328:Nat)/\p.2.2.2.2.1.length+ [b].length<=9223372036854775807)/\I i/\x i<x p) (I2 (p.2.2.2.1,p.2.2.2.2.1)/\h<=p.2.2.2.1/\p.2.2.2.1<=6/\p.2.2.2.2.1.length<=(9:Nat)/\∀(e:Yd),e∈p.2.2.2.2.1->Zb e.2.2.1/\Zb e.2.2.2))
def B2l {s n:Int} (a:0<=s) (b:s<n+n):s.tmod n=if s<n then s else s-n:=by
 rw[tV a];split
 . rename_i h;exact g3q a h
 . rename_i h;have:s%n=(s-n)%n:=by rw[Int.sub_emod_right]
   rw[this];exact g3q (by omega) (by omega)
def C4z (p:Int×List Int×Int×Int×List Yd×Unit):Prop:=(0<=p.2.2.1/\p.2.2.1<=(p.2.1.length:Int))/\(1<=p.2.2.2.1/\p.2.2.2.1<=6)/\(0<=p.1/\(p.2.2.2.2.1.length:Int)+p.1<=9)/\∀e∈p.2.2.2.2.1,jR p.2.2.2.1 e/\Zb e.2.2.1/\Zb e.2.2.2
def brJ (n:Int) (q:List Int×Int×Int×Int×Bool×List Int×List Int×Bool×List Int×List Int×Unit):Prop:=(0<=q.2.1/\q.2.1<=(q.1.length:Int))/\jR n (q.2.2.1,q.2.2.2.1,((q.2.2.2.2.1,q.2.2.2.2.2.1),q.2.2.2.2.2.2.1),((q.2.2.2.2.2.2.2.1,q.2.2.2.2.2.2.2.2.1),q.2.2.2.2.2.2.2.2.2.1))/\Zb ((q.2.2.2.2.1,q.2.2.2.2.2.1),q.2.2.2.2.2.2.1)/\Zb ((q.2.2.2.2.2.2.2.1,q.2.2.2.2.2.2.2.2.1),q.2.2.2.2.2.2.2.2.2.1)
def IH (x:A2 Da.args) (ag:awf Da.args x) (_:Da.pre x):Wj x:=by
 obtain⟨t,_⟩:=x;have av:t.length<=9223372036854775807:=ag.1.1;change List Int at t;simp only[Wj,iB,H6];refine⟨trivial, ?_⟩;rintro⟨⟨ba,G⟩,_⟩ _ ar;cases ar;simp only;refine⟨⟨by decide,qI _,qD _⟩, ?_⟩;rintro⟨n,_⟩ ⟨⟨b0,r⟩,_⟩ _ _ ⟨f,g⟩ ⟨ac,B,D⟩;change Int at n r;change List Int at b0;simp only at f g ac B D⊢;subst ac;refine⟨⟨by decide,B,D⟩, ?_⟩;rintro⟨J,_⟩ ⟨⟨b1,aw⟩,_⟩ _ _ ⟨h,s⟩ ⟨ad,E,F⟩;change Int at J aw;change List Int at b1;simp only at h s ad E F⊢;subst ad;rw[wv (by omega)];refine⟨C4z,fun p=>p.1.toNat,⟨⟨E,F⟩,⟨by simp only;omega,by simp only;omega⟩,⟨h,by simp only[xF];omega⟩,fun e d=>(by cases d)⟩, ?_⟩;clear ag av f g B D h s E F;rintro⟨J,t,i,n,br,_⟩ _ ⟨⟨G,r⟩,⟨f,g⟩,⟨h,s⟩,k⟩;change Int at J i n;change List Int at t;change List Yd at br;simp only at G r f g h s k⊢;refine⟨fun l=> ?_,fun l=>⟨⟨by simp only;omega,by simp only;omega,by simp only;omega,fun e d=>(k e d).1⟩,f,g,by omega,fun e d=>(k e d).2⟩⟩;rw[J1]at l;simp only[qC,rR]at l;obtain⟨c1,b6⟩:=l;refine⟨⟨by omega,G,r⟩, ?_⟩;rintro⟨j,_⟩ ⟨⟨b2,ax⟩,_⟩ _ _ ⟨aa,ab⟩ ⟨a1,a2,a3⟩;change Int at j ax;change List Int at b2;simp only at aa ab a1 a2 a3⊢;subst a1;refine⟨⟨a2,a3⟩, ?_⟩;rintro⟨S,_⟩ ⟨⟨u,I⟩,_⟩ _ _ ⟨ak,am⟩ ⟨a4,a5,a6⟩;change D5 at S;change Int at I;change List Int at u;simp only at ak am a4 a5 a6⊢;subst a4;refine⟨trivial, ?_⟩;rintro⟨Z,_⟩ _ af;change D5 at Z;simp only at af⊢;have au:Zb Z:=⟨0,P9 (by decide),af⟩;rw[wv (a:=n-1) (by omega)];have A:0<n-1/\0<=I/\I<=(u.length:Int):=⟨by omega,a5,a6⟩;have K:∀(r_4:Int×Unit) (o:(List Int×Int)×Unit),L5 r_4.1/\True->((Ty.int i64).sl.pair (Ty.int i64)).wf o.1/\True->0<=r_4.1/\r_4.1<n-1->o.1.1=u/\0<=o.1.2/\o.1.2<=(u.length:Int)->n≠0/\brJ n (o.1.1,o.1.2,j,(i64.wrap (i64.wrap (j+1)+r_4.1)).tmod n,S.1.1,S.1.2,S.2,Z.1.1,Z.1.2,Z.2,()):=by
  rintro⟨ao,_⟩ ⟨⟨b3,ay⟩,_⟩ _ _ ⟨ap,aq⟩ ⟨a7,a8,a9⟩;change Int at ao ay;change List Int at b3;simp only at ap aq a7 a8 a9⊢;subst a7;rw[wv (a:=j+1) (by omega),wv (by omega),B2l (by omega) (by omega)];refine⟨by omega,⟨a8,a9⟩,⟨aa,ab, ?_, ?_, ?_,am⟩,ak,au⟩
  . simp only;split<;>omega
  . simp only;split<;>omega
  . simp only;split<;>omega
 refine⟨brJ n,⟨⟨⟨A,K⟩,A,K⟩,⟨A,fun aj o a b c V=>⟨K aj o a b c V,K aj o a b c V⟩⟩,⟨A,K⟩,A,K⟩, ?_⟩;rintro⟨b4,az,an,b5,S1,S2,S3,Z1,Z2,Z3,_⟩ _ ⟨⟨M,N⟩,v,w,Q⟩;change Int at az an b5;change List Int at b4;simp only at M N v w Q⊢;refine⟨brJ n,⟨⟨by decide,M,N⟩, ?_⟩, ?_⟩
 . rintro⟨c,_⟩ ⟨⟨ai,ah⟩,_⟩ _ _ _ ⟨W,y,z⟩;change Int at ah;change List Int at ai;simp only at W y z⊢;subst W;refine⟨fun _=>⟨⟨y,z⟩, ?_⟩,fun _=>⟨⟨y,z⟩,v,w,Q⟩⟩;rintro⟨H,_⟩ ⟨⟨bb,b9⟩,_⟩ _ _ ae ⟨X,Y,a0⟩;change D5 at H;simp only at ae X Y a0⊢;exact⟨⟨Y,by rw[X];exact a0⟩,v,w,ae⟩
 . rintro⟨ai,ah,b7,bc,T1,T2,T3,Y1,Y2,Y3,_⟩ _ ⟨⟨O,P⟩,R,T,U⟩;simp only at O P R T U⊢;have b8:br.length<=9:=by omega
   rw[wv (by omega)];refine⟨⟨by rw[rH];omega,by rw[rH];omega⟩,⟨⟨O,P⟩,⟨f,g⟩,⟨by simp only;omega,by simp only;rw[rO,rH];omega⟩,fun e d=> ?_⟩,by omega⟩;simp only at d⊢;rcases qX.1 d with d|d
   . exact k e d
   . rw[qP]at d;subst d;exact⟨R,T,U⟩
def Qm (x:A2 O8.args) (c:awf O8.args x) (a:O8.pre x):Hw x:=by
 obtain⟨⟨l,i⟩,_⟩:=x;change Int at i;change List Int at l;obtain⟨c,d⟩:0<=i/\i<=(l.length:Int):=a;simp only[Hw,H6];refine⟨⟨by omega,c,d⟩, ?_⟩;rintro⟨f,_⟩ ⟨⟨g,d⟩,_⟩ _ _ c a;change Int at d f;change List Int at g;simp only at c a⊢;obtain⟨rfl,c,d⟩:=a;refine⟨⟨by omega,c,d⟩, ?_⟩;rintro⟨b,_⟩ ⟨⟨j,h⟩,_⟩ _ _ g a;change Int at h b;change List Int at j;simp only at g a⊢;obtain⟨rfl,c,d⟩:=a;refine⟨trivial, ?_⟩;rintro⟨q,_⟩ _ a;simp only at a⊢;rw[wv (by omega),wv (by omega)]at a;refine⟨⟨by rw[a];exact Oh (by omega) (by omega) (by omega), ?_⟩,by trivial,c,d⟩;rw[a,E6,HB (by omega),zW];have a:(0:Rat)<((1+f:Int):Rat):=Rat.intCast_pos.2 (by omega);have c:(0:Rat)<((1+b).natAbs:Rat):=g2d.2 (by omega);exact(Rat.lt_div_iff c).2 (by rw[tJ];exact a)
def Lv:An:= {plan:= [(3,[0,1,4,6],[7],true,(.q 0 (.q 1 (.p 2 (.p 3 (.q 4 (.p 5 (.q 6 (.e 7 .done)))))))))]}
def Xc:An:= {join:= [(8,⟨[1,2,7,8,9,10,12,13,14],[1,2],[],[(3,43,[.val .bool, .val (.sl (.int .u32)), .val (.sl (.int .u32))])],[]⟩),(11,⟨[1,2,12,13,14],[],[(7,false,[.own tE 106])],[],[]⟩)],loop:= [(3,⟨[1,2,12,13],[],[(7,false,[.own tE 106]),(14,false,vI)],[],[]⟩)],plan:= [(5,[2,6],[10],true,(.p 0 (.p 1 (.q 2 (.p 4 (.p 5 (.q 6 (.or 3 (.or 7 (.or 8 (.e 9 (.e 10 .done)) (.e 9 (.e 8 (.e 10 .done)))) (.e 9 (.e 7 (.e 8 (.e 10 .done))))) (.e 9 (.e 3 (.e 7 (.e 8 (.e 10 .done))))))))))))),(7,[0],[3],true,(.q 0 (.e 1 (.e 2 (.e 3 .done)))))]}
def Xb:An:= {}
def Tz:An:= {loop:= [(9,⟨[1,2,51,52],[],[(8,false,[.own tQ 43]),(53,false,vI)],[],[]⟩)],plan:= [(5,[1,4,6,9],[],true,(.p 0 (.q 1 (.p 2 (.p 3 (.q 4 (.p 5 (.q 6 (.p 7 (.p 8 (.q 9 (.p 10 .done))))))))))))]}
def Dj:A2 G8.args->Prop:=fun(x:Int×List Int×List QQ×Unit)=>let a:=(0:Int);let b:Prop:=(a<=x.1/\x.1<(x.2.1.length:Int));b/\(iB (decide (gx a x.2.1 x.1<a)) (True/\H6 fun r=>r.1=ri a->(r.1=if I7 x.2.1 x.1<a then rc (0:Rat)else x.2.2.1.getD (I7 x.2.1 x.1).toNat zr)/\x.2.1=x.2.1/\x.2.2.1=x.2.2.1) (b/\(a<=gx a x.2.1 x.1/\gx a x.2.1 x.1<(x.2.2.1.length:Int))/\(gx dQ x.2.2.1 (gx a x.2.1 x.1)=if I7 x.2.1 x.1<a then rc (0:Rat)else x.2.2.1.getD (I7 x.2.1 x.1).toNat zr)/\x.2.1=x.2.1/\x.2.2.1=x.2.2.1))
def Ib:A2 P5.args->Prop:=fun(x:(Int×List (Int×Int×QQ×(Bool×List Int)×List Int))×Int×List EE×Unit)=>let u:=(64:Nat);let s:=(1:Int);let f:=(140737488355328:Nat);let d:=(x.1.2.length:Int);let c:=(0:Int);∃(I:KZ->Prop),∃(B: _->Nat),I ([],c,())/\∀(p:KZ),let t:=(p.1,());let b:Prop:=(p.2.1=x.2.1);let a:=(gx (c,c,dQ,(false,[]),[]) x.1.2 p.2.1);tE.sl.wf p.1/\(Ty.int i64).wf p.2.1/\True->I p->(iB (decide (p.2.1<d)) (∃(J:AW->Prop),((c<=p.2.1/\p.2.1<d)/\(DO K1 x.2.2.1/\H6 fun r=>r.1=rc (A5 x.2.2.1 a.2.1)->(DO K1 x.2.2.1/\H6 fun A=>let v:=(rv r.1-rv A.1);A.1=rc (A5 x.2.2.1 a.1)->((E3 r.1/\E3 A.1)/\H6 fun z=>z.1=rc v->∃(J_1:Sz->Prop),((iB (decide b) (True/\H6 fun r=>r.1=ri s->(E3 z.1/\E3 r.1)/\H6 fun y=>y.1=rc (rv z.1+rv r.1)->J_1 (y.1.1.1,y.1.1.2,y.1.2,())) (J_1 (z.1.1.1,z.1.1.2,z.1.2,()))))/\∀(w:Sz),let h:=((w.1,w.2.1),w.2.2.1);Ty.bool.wf w.1/\(Ty.int u32).sl.wf w.2.1/\(Ty.int u32).sl.wf w.2.2.1/\True->J_1 w->(E3 a.2.2.1/\E3 h)/\H6 fun r=>let m:=(p.2.1,r.1);r.1=rc (rv a.2.2.1*rv h)->True/\Ck fun y=>y.1=(rv r.1).num.sign->(iB (decide (y.1≠c)) (((p.1.length+ [m].length)*u<=f/\p.1.length+ [m].length<=9223372036854775807)/\J (p.1++ [m],())) (J t)))/\(E3 r.1/\E3 A.1)/\H6 fun z=>z.1=rc v->∃(J_1:Sz->Prop),((iB (decide b) (True/\H6 fun r=>r.1=ri s->(E3 z.1/\E3 r.1)/\H6 fun y=>y.1=rc (rv z.1+rv r.1)->J_1 (y.1.1.1,y.1.1.2,y.1.2,())) (J_1 (z.1.1.1,z.1.1.2,z.1.2,()))))/\∀(w:Sz),let i:=((w.1,w.2.1),w.2.2.1);Ty.bool.wf w.1/\(Ty.int u32).sl.wf w.2.1/\(Ty.int u32).sl.wf w.2.2.1/\True->J_1 w->(E3 a.2.2.1/\E3 i)/\H6 fun r=>let n:=(p.2.1,r.1);r.1=rc (rv a.2.2.1*rv i)->True/\Ck fun y=>y.1=(rv r.1).num.sign->(iB (decide (y.1≠c)) (((p.1.length+ [n].length)*u<=f/\p.1.length+ [n].length<=9223372036854775807)/\J (p.1++ [n],())) (J t)))/\DO K1 x.2.2.1/\H6 fun A=>A.1=rc (A5 x.2.2.1 a.1)->(E3 r.1/\E3 A.1)/\H6 fun z=>z.1=rc (rv r.1-rv A.1)->∃(J_1:Sz->Prop),((iB (decide b) (True/\H6 fun r=>r.1=ri s->(E3 z.1/\E3 r.1)/\H6 fun y=>y.1=rc (rv z.1+rv r.1)->J_1 (y.1.1.1,y.1.1.2,y.1.2,())) (J_1 (z.1.1.1,z.1.1.2,z.1.2,()))))/\∀(w:Sz),let k:=((w.1,w.2.1),w.2.2.1);Ty.bool.wf w.1/\(Ty.int u32).sl.wf w.2.1/\(Ty.int u32).sl.wf w.2.2.1/\True->J_1 w->(E3 a.2.2.1/\E3 k)/\H6 fun r=>let o:=(p.2.1,r.1);r.1=rc (rv a.2.2.1*rv k)->True/\Ck fun y=>y.1=(rv r.1).num.sign->(iB (decide (y.1≠c)) (((p.1.length+ [o].length)*u<=f/\p.1.length+ [o].length<=9223372036854775807)/\J (p.1++ [o],())) (J t)))/\DO K1 x.2.2.1/\H6 fun r=>r.1=rc (A5 x.2.2.1 a.2.1)->DO K1 x.2.2.1/\H6 fun A=>A.1=rc (A5 x.2.2.1 a.1)->(E3 r.1/\E3 A.1)/\H6 fun z=>z.1=rc (rv r.1-rv A.1)->∃(J_1:Sz->Prop),((iB (decide b) (True/\H6 fun r=>r.1=ri s->(E3 z.1/\E3 r.1)/\H6 fun y=>y.1=rc (rv z.1+rv r.1)->J_1 (y.1.1.1,y.1.1.2,y.1.2,())) (J_1 (z.1.1.1,z.1.1.2,z.1.2,()))))/\∀(w:Sz),let l:=((w.1,w.2.1),w.2.2.1);Ty.bool.wf w.1/\(Ty.int u32).sl.wf w.2.1/\(Ty.int u32).sl.wf w.2.2.1/\True->J_1 w->(E3 a.2.2.1/\E3 l)/\H6 fun r=>let q:=(p.2.1,r.1);r.1=rc (rv a.2.2.1*rv l)->True/\Ck fun y=>y.1=(rv r.1).num.sign->(iB (decide (y.1≠c)) (((p.1.length+ [q].length)*u<=f/\p.1.length+ [q].length<=9223372036854775807)/\J (p.1++ [q],())) (J t)))/\∀(w:AW),let g:=(w.1,i64.wrap (p.2.1+s),());tE.sl.wf w.1/\True->J w->I g/\B g<B p) (Y7 p.1/\(∀(e:C9),e∈p.1->c<=e.1/\e.1<(↑x.1.2.length:Int))/\∀(j:Nat),j<x.1.2.length->A5 p.1 (↑j:Int)=Oe x.1.2 j*(A5 x.2.2.1 (↑(Fa x.1.2 j):Int)-A5 x.2.2.1 (↑(Ez x.1.2 j):Int)+if(↑j:Int)=x.2.1 then(1:Rat)else(0:Rat))))
def Ia:A2 P4.args->Prop:=fun(x:(List Int×MM×Int×Int×List (List EE))×Unit)=>True/\Nw fun r=>r.1=decide (D2 x.1.2.1)->((!r.1)=false->True)/\∀(a:X1),((!r.1)=false->(True/\True)/\a.1=decide (D2 x.1.2.2))->(iB ((I9 (!r.1) true !a.1)) (false=decide (Ql x.1)) (I9 (I9 (decide (x.1.2.2.1=x.1.2.1.1)) (decide (x.1.2.2.2.1=x.1.2.1.1)) false) (decide (x.1.2.1.2.1=(x.1.1.length:Int))) false=decide (Ql x.1)))
abbrev B6e:=List QQ×Int×Unit
def Hl:A2 N7.args->Prop:=fun(x:(List Int×MM×Int×Int×List (List EE))×Int×Int×Unit)=>let k:=(3:Int);let i:=(13:Int);let h:=(1:Int);let g:=(x.1.2.1.2.2.length:Int);let d:=(x.1.1.length:Int);let n:=(decide (d<=x.2.2.1));let b:=(↑x.1.1.length:Int);let a:=(0:Int);let m:Prop:=(gx a x.1.1 x.2.1≠gx a x.1.1 x.2.2.1);let f:=(I9 (I9 (decide (x.2.1<a)) true (decide (d<=x.2.1))) true (decide (x.2.2.1<a)));let c:Prop:=(a<=x.2.1/\x.2.1<b/\a<=x.2.2.1/\x.2.2.1<b);True/\Nw fun r=>r.1=decide (Ql x.1)->(iB ((!r.1)) ((¬Ql x.1->Cr QQ= []/\h=h)/\(Ql x.1->(¬c->Cr QQ= []/\h=k)/\(a<=x.2.1/\x.2.1<b/\a<=x.2.2.1/\x.2.2.1<b->(x.1.1.getD x.2.1.toNat a≠x.1.1.getD x.2.2.1.toNat a->Cr QQ= []/\h=i)/\(x.1.1.getD x.2.1.toNat a=x.1.1.getD x.2.2.1.toNat a->h=a/\Cr QQ=cH x.1.2.1.1.toNat fun(l:Nat)=>A5 (x.1.2.1.2.2.getD l []) x.2.1-A5 (x.1.2.1.2.2.getD l []) x.2.2.1)))) ((iB (I9 f true n) ((¬Ql x.1->Cr QQ= []/\k=h)/\(Ql x.1->(¬c->Cr QQ= []/\k=k)/\(a<=x.2.1/\x.2.1<b/\a<=x.2.2.1/\x.2.2.1<b->(x.1.1.getD x.2.1.toNat a≠x.1.1.getD x.2.2.1.toNat a->Cr QQ= []/\k=i)/\(x.1.1.getD x.2.1.toNat a=x.1.1.getD x.2.2.1.toNat a->k=a/\Cr QQ=cH x.1.2.1.1.toNat fun(l:Nat)=>A5 (x.1.2.1.2.2.getD l []) x.2.1-A5 (x.1.2.1.2.2.getD l []) x.2.2.1)))) ((a<=x.2.1/\x.2.1<d)/\(a<=x.2.2.1/\x.2.2.1<d)/\(iB (decide m) ((¬Ql x.1->Cr QQ= []/\i=h)/\(Ql x.1->(¬c->Cr QQ= []/\i=k)/\(a<=x.2.1/\x.2.1<b/\a<=x.2.2.1/\x.2.2.1<b->(x.1.1.getD x.2.1.toNat a≠x.1.1.getD x.2.2.1.toNat a->Cr QQ= []/\i=i)/\(x.1.1.getD x.2.1.toNat a=x.1.1.getD x.2.2.1.toNat a->i=a/\Cr QQ=cH x.1.2.1.1.toNat fun(l:Nat)=>A5 (x.1.2.1.2.2.getD l []) x.2.1-A5 (x.1.2.1.2.2.getD l []) x.2.2.1)))) ((a<=a/\a<=x.1.2.1.1/\(↑(56:Nat):Int)*x.1.2.1.1<=281474976710656/\x.1.2.1.1<=9223372036854775807)/\∃(I:B6e->Prop),∃(d: _->Nat),I (List.replicate a.toNat dQ,a,())/\∀(p:B6e),let e:=(gx [] x.1.2.1.2.2 p.2.1);tQ.sl.wf p.1/\(Ty.int i64).wf p.2.1/\True->I p->(iB (decide (p.2.1<g)) ((a<=p.2.1/\p.2.1<g)/\DO K1 e/\H6 fun r=>r.1=rc (A5 e x.2.1)->DO K1 e/\H6 fun q=>q.1=rc (A5 e x.2.2.1)->(E3 r.1/\E3 q.1)/\H6 fun o=>let j:=(p.1++ [o.1],i64.wrap (p.2.1+h),());o.1=rc (rv r.1-rv q.1)->((p.1.length+ [o.1].length)*(56:Nat)<=(140737488355328:Nat)/\p.1.length+ [o.1].length<=9223372036854775807)/\I j/\d j<d p) ((¬Ql x.1->p.1= []/\a=h)/\(Ql x.1->(¬c->p.1= []/\a=k)/\(a<=x.2.1/\x.2.1<b/\a<=x.2.2.1/\x.2.2.1<b->(x.1.1.getD x.2.1.toNat a≠x.1.1.getD x.2.2.1.toNat a->p.1= []/\a=i)/\(x.1.1.getD x.2.1.toNat a=x.1.1.getD x.2.2.1.toNat a->a=a/\p.1=cH x.1.2.1.1.toNat fun(l:Nat)=>A5 (x.1.2.1.2.2.getD l []) x.2.1-A5 (x.1.2.1.2.2.getD l []) x.2.2.1)))))))))))
def A5j {n:Nat} {d:Nat->Nat} (i:∀a,a<n->d a<n) (h:∀a b,a<n->b<n->d a=d b->a=b) (f:Nat->Rat):D1 n (fun a=>f (d a))=D1 n f:=by
 have j:D1 n f=D1 n fun c=>D1 n fun a=>if d a=c then f c else 0:=C1 fun c g=>by
  obtain⟨a,d,rfl⟩:=Gj i h g;rw[O7 d fun b k l=>qL fun e=>l (h b a k d e),qS rfl]
 rw[j,Lp];refine C1 fun a d=> ?_
 rw[O7 (i a d) fun c _ g=>qL (Ne.symm g),qS rfl]
def ZS {n:Nat} {A B:Nat->Nat->Rat} (h:∀i j,i<n->j<n->A i j=B i j) (b:nonsing n A):nonsing n B:=fun x c=>b x fun i a=>by
 rw[<-c i a];exact C1 fun j b=>by rw[h i j a b]
def B8r {t:Nat} {E:List Yd} (h:∀i,i<t->qs 2 (Oe E i)) (a:t<=9) (b c:Nat):qs 28 (NJ t (Ez E) (Fa E) (Oe E) b c):=by
 unfold NJ;refine K7 (B5h (k:=2) fun i a=> ?_) (by omega);rw[show Oe E i*(PE (Ez E) (Fa E) b i*PE (Ez E) (Fa E) c i)=PE (Ez E) (Fa E) b i*(PE (Ez E) (Fa E) c i*Oe E i)from by grind];exact A7q (by decide) (A7q (by decide) (h i a))
def A5q {N:Ge} (d:Al N) (f:∀e∈N.2,Ik e.2.2.1) (b c:Nat):qs 28 (ET N.2 b c):=B8r (fun i a=>Gz (f _ (C6 a)) (d.2.2 _ (C6 a)).1 (by decide)) d.2.1 b c
def B0x {k:Nat} {m:Dn} (b:D2 m) (c:∀v∈m.2.2,Y7 v) (l:1<=k) (h:∀i j:Nat,(i:Int)<m.1->qs k (el m i j)):Ax k m:=fun v a=>by
 obtain⟨i,d,rfl⟩:=Be [] a;have f:(i:Int)<m.1:=by rw[<-b.2.2.2.2.1];exact sO.2 d
 refine JO (c _ a) fun j=> ?_
 by_cases g:0<=j
 . have:=h i j.toNat f;unfold el at this;rwa[show((j.toNat:Nat):Int)=j from by omega]at this
 . rw[D4 fun e c d=>g (by rw[<-d];exact((b.2.2.2.2.2 _ a).2 e c).1)];exact P9 l
def B9r {k:Nat} (h:k<=6):hK (sK 28 k) (gK (sK 28 k) 256 k) k+sK 28 k<=K0/\1<=sK 28 k/\sK 28 (k-1)<=K1/\sK 28 k<=K1:=by
 have:k=0\/k=1\/k=2\/k=3\/k=4\/k=5\/k=6:=by omega
 rcases this with rfl|rfl|rfl|rfl|rfl|rfl|rfl<;>decide+kernel
variable {N:Ge}
def Fu (a:I2 N):(Ap N.1 (KO N.2)).length=N.1.toNat/\∀b,b<N.1.toNat->(Ap N.1 (KO N.2)).getD b 0=(O5 N b:Int)/\O5 N b<=b/\O5 N (O5 N b)=O5 N b:=by
 have c:=gB a;have a:=Zg N.1 (KO N.2);have g:=A9x c.1 c.2.2;refine⟨a,fun b c=> ?_⟩;obtain⟨d,h,f⟩:=g (b:Int) (qD b) (by rw[a];exact sO.2 c);have c:I7 (Ap N.1 (KO N.2)) (b:Int)=(Ap N.1 (KO N.2)).getD b 0:=rfl;have a:((O5 N b:Nat):Int)=I7 (Ap N.1 (KO N.2)) (b:Int):=sN d;refine⟨by rw[a,c],by omega, ?_⟩;have c:O5 N (O5 N b)=(I7 (Ap N.1 (KO N.2)) (O5 N b:Int)).toNat:=rfl;rw[c,a,f];rfl
def B8q (c:I2 N) {b:Nat} (a:b<N.1.toNat):O5 N b<N.1.toNat:=xW ((Fu c).2 b a).2.1 a
def B7w {i:Nat} (a:i<N.2.length):((N.2.getD i dB).1,(N.2.getD i dB).2.1)∈KO N.2:=vB (f:=fun e:Yd=>(e.1,e.2.1)) (C6 a)
def eM (f:I2 N) {i:Nat} (d:i<N.2.length):(N.2.getD i dB).1=(Ez N.2 i:Int)/\(N.2.getD i dB).2.1=(Fa N.2 i:Int):=by
 obtain⟨a,b,c,g,_⟩:=VY f d;exact⟨(sN a).symm,(sN c).symm⟩
def pB (c:I2 N) {i:Nat} (a:i<N.2.length):O5 N (Ez N.2 i)=O5 N (Fa N.2 i):=by
 have b:=gB c;have h:=A4l b.1 b.2.2 (B7w a);obtain⟨b,d⟩:=eM c a;simp only[b,d]at h;unfold O5;rw[h]
def A9w (c:I2 N) {φ:Nat->Rat} (h:∀i,i<N.2.length->φ (Ez N.2 i)=φ (Fa N.2 i)):∀b,b<N.1.toNat->φ b=φ (O5 N b):=by
 have a:=gB c;intro b c;have:=A4k a.1 a.2.2 (f:=fun i:Int=>φ i.toNat) (fun l hl=> ?_) (b:Int) (qD b) (by omega)
 . exact this.symm
 . unfold KO at hl;obtain⟨e,a,rfl⟩:=tA.1 hl;obtain⟨i,c,rfl⟩:=Be dB a;exact h i c
def I8 (N:Ge) (b:Nat):List Int:=List.map (fun c:Nat=>(c:Int)) ((List.range b).filter fun c=>decide (O5 N c≠c))
def A5b (N:Ge) (b:Nat):I8 N (b+1)=if O5 N b≠b then I8 N b++ [(b:Int)]else I8 N b:=by
 unfold I8;rw[g0c,g3k,uX];by_cases h:O5 N b≠b
 . rw[qS h];congr 1;simp[h]
 . rw[qL h];simp[h]
def Zs {b:Nat} {c:Int} :c∈I8 N b↔0<=c/\c<(b:Int)/\O5 N c.toNat≠c.toNat:=by
 unfold I8;rw[tA];constructor
 . rintro⟨d,a,rfl⟩;rw[vZ,wY]at a;exact⟨qD d,sO.2 a.1,qA a.2⟩
 . rintro⟨d,f,a⟩;exact⟨c.toNat,vZ.2 ⟨wY.2 (by omega),rF a⟩,by omega⟩
def HV (N:Ge) (b:Nat):(I8 N b).Nodup:=by
 unfold I8 List.Nodup;rw[vK];refine g3u (R:=fun a b:Nat=>a<b) (fun {a b} h=>by omega) ?_;exact List.pairwise_lt_range.filter _
def B1c (d:I2 N):(I8 N N.1.toNat).length<=N.1.toNat-1:=by
 have h:=DN (l:=(I8 N N.1.toNat).map fun c=>c-1) (n:=N.1.toNat-1) ?_ ?_
 . rwa[tK]at h
 . unfold List.Nodup;rw[vK];exact(HV N _).imp fun h=>by omega
 . intro y a;obtain⟨c,b,rfl⟩:=tA.1 a;obtain⟨f,g,a⟩:=Zs.1 b;have b:c.toNat<N.1.toNat:=by omega
   have:=((Fu d).2 c.toNat b).2.1;have:c≠0:=fun e=>by subst e;simp at a this;omega
   omega
def WU (f:I2 N):(∀a,a<(I8 N N.1.toNat).length->ix (I8 N N.1.toNat) a<N.1.toNat/\O5 N (ix (I8 N N.1.toNat) a)≠ix (I8 N N.1.toNat) a/\(I8 N N.1.toNat).getD a 0=(ix (I8 N N.1.toNat) a:Int))/\(∀a c,a<(I8 N N.1.toNat).length->c<(I8 N N.1.toNat).length->ix (I8 N N.1.toNat) a=ix (I8 N N.1.toNat) c->a=c)/\∀b,b<N.1.toNat->O5 N b≠b->∃a,a<(I8 N N.1.toNat).length/\ix (I8 N N.1.toNat) a=b:=by
 have g:∀a,a<(I8 N N.1.toNat).length->0<=(I8 N N.1.toNat).getD a 0/\(I8 N N.1.toNat).getD a 0<(N.1.toNat:Int)/\O5 N ((I8 N N.1.toNat).getD a 0).toNat≠((I8 N N.1.toNat).getD a 0).toNat:=fun a f=>Zs.1 (C6 (d:=(0:Int)) f)
 refine⟨fun a f=> ?_,fun a c f h e=> ?_,fun b l i=> ?_⟩
 . obtain⟨i,j,k⟩:=g a f;unfold ix;exact⟨by omega,k,by omega⟩
 . have e:((I8 N N.1.toNat).getD a 0).toNat=((I8 N N.1.toNat).getD c 0).toNat:=e;have i:=g a f;have j:=g c h;have g:(I8 N N.1.toNat).getD a 0=(I8 N N.1.toNat).getD c 0:=by omega
   rw[H5 _ _ f,H5 _ _ h]at g;exact(wF (HV N _)).1 g
 . have h:(b:Int)∈I8 N N.1.toNat:=Zs.2 ⟨qD b,sO.2 l,by rwa[qM]⟩;obtain⟨a,f,g⟩:=Be (0:Int) h;exact⟨a,f,by unfold ix;rw[g,qM]⟩
def mA (d:I2 N):nonsing (I8 N N.1.toNat).length fun a c=>ET N.2 (ix (I8 N N.1.toNat) a) (ix (I8 N N.1.toNat) c):=by
 obtain⟨h,k,f⟩:=WU d;refine mE (lab:=O5 N) (fun i g=>pJ d g) (fun i g=>B4q d g) (fun a f=>(h a f).1) k (fun l j b g=>A9w d j b g) fun b g a f e=> ?_
 have:=(h a f).2.1;rw[e,((Fu d).2 b g).2.2]at this;exact this rfl
def B1d (f:I2 N) {J right X:Nat->Rat} (k:∀a,a<(I8 N N.1.toNat).length->D1 (I8 N N.1.toNat).length (fun c=>ET N.2 (ix (I8 N N.1.toNat) a) (ix (I8 N N.1.toNat) c)*X c)=right a)
 (n:∀a,a<(I8 N N.1.toNat).length->right a=J (ix (I8 N N.1.toNat) a)-iN N.2 (fun i=>Oe N.2 i*brH N.2 i) (ix (I8 N N.1.toNat) a)) (j:∀t,t<N.1.toNat->D1 N.1.toNat (fun b=>(if O5 N b=t then 1 else 0)*J b)=0):∀b,b<N.1.toNat->iN N.2 (flN N.2 (Pv (I8 N N.1.toNat).length (ix (I8 N N.1.toNat)) X)) b=J b:=by
 obtain⟨g,d,h⟩:=WU f;exact B1v (lab:=O5 N) (fun i d=>pJ f d) (fun a l=>(g a l).1) h (fun i d=>pB f d) k n j
def B0c (f:Nat->Rat) {i:Int} (a:0<=i):cH (i+1).toNat f=cH i.toNat f++ [rc (f i.toNat)]:=by
 unfold cH;rw[show(i+1).toNat=i.toNat+1 from by omega,g0c,uX];rfl
end Go.Proofs.YtiflhbllbgajeaaGreat
namespace Go.Proofs.YtiflhbllbgajeaaGreat
open Go.Proofs.Tryz
open Go.IntKind (i64 u32)
section
variable {N:Ge} {G:Nat->Nat->Rat}
def UD (b:I2 N) {i:Nat} (a:i<N.2.length):Ez N.2 i<N.1.toNat/\Fa N.2 i<N.1.toNat:=by
 obtain⟨c,f,g,d, -, -⟩:=b.2.2.2 _ (C6 (d:=dB) a);unfold Ez Fa;omega
def gM (E:List Yd) (G:Nat->Nat->Rat) (l k:Nat):Kn E G l (Ez E k)-Kn E G l (Fa E k)=Oe E l*xch E G l k:=by unfold Kn xch;grind
end
section
variable {N:Ge}
def B1m (f g:Nat->Rat) (c:Nat):iN N.2 (fun i=>f i+g i) c=iN N.2 f c+iN N.2 g c:=by
 unfold iN iO;rw[<-Ha];exact C1 fun i _=>by grind
def B2q (d:I2 N) {b:Nat} (a:b<N.1.toNat) (t:Nat):D1 N.1.toNat (fun c=>(if O5 N c=t then 1 else 0)*((if b=c then 1 else 0)-(if O5 N b=c then 1 else 0)))=0:=by
 rw[C1 (g:=fun c=>(if b=c then 1 else 0)*(if O5 N c=t then 1 else 0)-(if O5 N b=c then 1 else 0)*(if O5 N c=t then 1 else 0)) fun c _=>by grind,XI,KN a,KN (B8q d a),((Fu d).2 b a).2.2];grind
def A9e (h:I2 N) (X:Nat->Nat->Rat) (s:∀b,b<N.1.toNat->O5 N b≠b->∀a,a<(I8 N N.1.toNat).length->D1 (I8 N N.1.toNat).length (fun c=>ET N.2 (ix (I8 N N.1.toNat) a) (ix (I8 N N.1.toNat) c)*X b c)=if ix (I8 N N.1.toNat) a=b then 1 else 0):
 Lz N (fun c b=>if O5 N b=b then 0 else Pv (I8 N N.1.toNat).length (ix (I8 N N.1.toNat)) (X b) c):=by
 obtain⟨o,d,i⟩:=WU h;intro b k;by_cases d:O5 N b=b
 . refine⟨fun c _ _=>qS d,fun c _=> ?_⟩;rw[d];unfold iN iO;rw[Bu fun i _=>by unfold Kn;simp only[qS d];grind];grind
 . refine⟨fun c r u=> ?_,fun c r=> ?_⟩
   . simp only[qL d];exact Yv _ fun a j e=>(o a j).2.1 (by rw[e];exact u)
   . have u:=B1d h (J:=fun c=>((if b=c then 1 else 0)-(if O5 N b=c then 1 else 0))+iN N.2 (fun i=>Oe N.2 i*brH N.2 i) c) (right:=fun a=>if ix (I8 N N.1.toNat) a=b then 1 else 0) (X:=X b) (s b k d) (fun a j=> ?_) (fun t _=> ?_) c r
     . have e:iN N.2 (flN N.2 (Pv (I8 N N.1.toNat).length (ix (I8 N N.1.toNat)) (X b))) c=iN N.2 (fun l=>Kn N.2 (fun c b=>if O5 N b=b then 0 else Pv (I8 N N.1.toNat).length (ix (I8 N N.1.toNat)) (X b) c) l b) c+iN N.2 (fun i=>Oe N.2 i*brH N.2 i) c:=by
        rw[<-B1m];refine bK (fun i _=> ?_) c;unfold flN flw Kn;simp only[qL d];grind
       rw[e]at u;grind
     . obtain⟨d,r,s⟩:=o a j;have d:O5 N b≠ix (I8 N N.1.toNat) a:=fun e=>r (by rw[<-e];exact((Fu h).2 b k).2.2)
       simp only[qL d];by_cases d:b=ix (I8 N N.1.toNat) a
       . rw[qS d,qS d.symm];grind
       . rw[qL d,qL (Ne.symm d)];grind
     . rw[C1 (g:=fun c=>(if O5 N c=t then 1 else 0)*((if b=c then 1 else 0)-(if O5 N b=c then 1 else 0))+(if O5 N c=t then 1 else 0)*iN N.2 (fun i=>Oe N.2 i*brH N.2 i) c) fun c _=>by grind,Ha,B2q h k t];have:=VI (n:=N.1.toNat) (m:=N.2.length) (fr:=Ez N.2) (to:=Fa N.2) (f:=fun i=>Oe N.2 i*brH N.2 i) (lab:=O5 N) (fun i hi=>UD h hi) (fun i hi=>pB h hi) t;unfold iN;rw[this];grind
end
end Go.Proofs.YtiflhbllbgajeaaGreat
namespace Go.Proofs.YtiflhbllbgajeaaGreat
open Go.Proofs.Tryz
open Go.Vc Go.Gw
open Go.IntKind (i64 u32)
def Hh (o:List Int) (E:List Yd) (G:Nat->Nat->Rat) (i l:Nat) (row:List C9):Prop:=Y7 row/\(∀e∈row,∃a,a<i/\e.1=(ix o a:Int))/\∀a,a<i->A5 row (ix o a:Int)=Kn E G l (ix o a)
def B4v (N:Ge) (b:Nat) {a c:Nat} (f:a<c) (d:c<(I8 N b).length):ix (I8 N b) a<ix (I8 N b) c:=by
 have g:(I8 N b).Pairwise (· < ·):=by
  unfold I8;rw[vK];refine g3u (R:=fun a b:Nat=>a<b) (fun {a b} h=>by omega) ?_;exact List.pairwise_lt_range.filter _
 have h:=(tY.1 g) a c (by omega) d f;have f:=(Zs.1 (wV (show a<(I8 N b).length by omega))).1;unfold ix;rw[H5 _ _ (by omega),H5 _ _ d];omega
section
variable {o:List Int} {E:List Yd} {G G':Nat->Nat->Rat} {i l:Nat} {row:List C9}
def Hh.zero:Hh o E G 0 l []:=⟨Yq,fun _ c=>absurd c rY,fun a b=>absurd b (uY a)⟩
def Hh.congr (h:Hh o E G i l row) (d:∀a,a<i->∀c,G c (ix o a)=G' c (ix o a)):Hh o E G' i l row:=⟨h.1,h.2.1,fun a b=>by rw[h.2.2 a b];unfold Kn;rw[d a b,d a b]⟩
def Hh.skip (h:Hh o E G i l row) (f:∀a,a<i->ix o a<ix o i) (g:Kn E G l (ix o i)=0):Hh o E G (i+1) l row:=by
 refine⟨h.1,fun e b=> ?_,fun a d=> ?_⟩
 . obtain⟨a,d,c⟩:=h.2.1 e b;exact⟨a,by omega,c⟩
 . by_cases d:a=i
   . subst d;rw[g];exact D4 fun e b c=>by
      obtain⟨c,d,g⟩:=h.2.1 e b;have:=f c d;omega
   . exact h.2.2 a (by omega)
def Hh.add (h:Hh o E G i l row) (f:∀a,a<i->ix o a<ix o i) (b:Kn E G l (ix o i)≠0):Hh o E G (i+1) l (row++ [((ix o i:Int),rc (Kn E G l (ix o i)))]):=by
 refine⟨Lk h.1 b fun x g=> ?_,fun e b=> ?_,fun a d=> ?_⟩
 . obtain⟨a,d,c⟩:=h.2.1 x g;have:=f a d;omega
 . rcases qX.1 b with b|b
   . obtain⟨a,d,c⟩:=h.2.1 e b;exact⟨a,by omega,c⟩
   . exact⟨i,by omega,by rw[qP.1 b]⟩
 . rw[Fp];by_cases d:a=i
   . subst d;rw[qS rfl,D4 fun e b c=>by
      obtain⟨c,d,g⟩:=h.2.1 e b;have:=f c d;omega,tF]
   . have:=f a (by omega);rw[h.2.2 a (by omega),qL (by omega),rN]
def Hh.len {n:Nat} (h:Hh o E G i l row) (d:∀a,a<i->ix o a<n):row.length<=n:=fU (f:=fun j=>A5 row (j:Int)) ⟨h.1,fun e c=>by
 obtain⟨a,b,g⟩:=h.2.1 e c;have:=d a b;omega,fun j _=>rfl⟩
end
def Hh.done {N:Ge} {G:Nat->Nat->Rat} {l:Nat} {row:List C9} (a:I2 N) (h:Hh (I8 N N.1.toNat) N.2 G (I8 N N.1.toNat).length l row) (j:∀c b,O5 N b=b->G c b=0):RP N.1.toNat (fun b=>Kn N.2 G l b) row:=by
 obtain⟨i,d,n⟩:=WU a;refine⟨h.1,fun e g=> ?_,fun b o=> ?_⟩
 . obtain⟨a,d,k⟩:=h.2.1 e g;have:=(i a d).1;omega
 . by_cases f:O5 N b=b
   . rw[D4 fun e g k=> ?_]
     . show 0=Oe N.2 l*(G (Ez N.2 l) b-G (Fa N.2 l) b);rw[j _ _ f,j _ _ f];grind
     . obtain⟨a,d,j⟩:=h.2.1 e g;have:=(i a d).2.1;exact this (by rw[show ix (I8 N N.1.toNat) a=b by omega];exact f)
   . obtain⟨a,d,rfl⟩:=n b o f;exact h.2.2 a d
def Jv (x:A2 G8.args) (k:awf G8.args x) (j:G8.pre x):Dj x:=by
 obtain⟨b,a,X,_⟩:=x;change Int at b;change List Int at a;change List D5 at X;obtain⟨c,d,f⟩:0<=b/\b<(a.length:Int)/\I7 a b<(X.length:Int):=j;have i:gx 0 a b=I7 a b:=G9 c d;simp only[Dj,iB,H6,i];refine⟨⟨c,d⟩,fun h=>⟨trivial, ?_⟩,fun h=> ?_⟩
 . rintro⟨r,_⟩ _ g;simp only at g⊢;exact⟨by rw[qS (qA h),g,KQ];rfl,trivial,trivial⟩
 . have h:=qB h;refine⟨⟨c,d⟩,⟨by omega,f⟩, ?_⟩;rw[qL h];exact⟨G9 (by omega) f,trivial,trivial⟩
def Qr (x:A2 P5.args) (c:awf P5.args x) (g:P5.pre x):Ib x:=by
 obtain⟨⟨n,E⟩,l,b,_⟩:=x;have a:∀e∈E,Ik e.2.2.1:=fun e a=>Ja (c.1.2.2 e a).2.2.1
 have d:EV b:=fun e a=>Ja (c.2.2.1.2 e a).2
 change Int at n;change List Yd at E;change Int at l;change List C9 at b;obtain⟨v,y,h,o,c⟩:I2 (n,E)/\Al (n,E)/\0<=l/\l<(E.length:Int)/\DO K2 b:=g;have g:E.length<=9:=y.2.1;have w:DO K1 b:=B0y c (by decide);have o:∀i,qs K2 (A5 b i):=fun i=>JP c.1 d c.2.1 (by decide) i
 simp only[Ib,iB,Ck,H6,g4o];generalize t:(fun k:Nat=>Oe E k*(A5 b (Fa E k:Int)-A5 b (Ez E k:Int)+if(k:Int)=l then 1 else 0))=S;refine⟨fun p=>0<=p.2.1/\p.2.1<=(E.length:Int)/\Y7 p.1/\(∀e∈p.1,0<=e.1/\e.1<p.2.1)/\∀j:Nat,(j:Int)<p.2.1->A5 p.1 (j:Int)=S j,fun p=>((E.length:Int)-p.2.1).toNat,⟨qI _,qD _,Yq,fun e a=>(by cases a),fun j d=>by simp only at d;omega⟩, ?_⟩;rintro⟨row,k,_⟩ _ ⟨c,g,h,a,d⟩;change List C9 at row;change Int at k;simp only at c g h a d⊢;refine⟨fun g=> ?_,fun g=> ?_⟩
 . have g:=qA g;have u:k.toNat<E.length:=by omega
   have z:gx (0,0,dQ,(false,[]),[]) E k=E.getD k.toNat dB:=G9 c g;have A:E.getD k.toNat dB∈E:=C6 u;obtain⟨r,s⟩:=eM v u;simp only at r s;have v:((k.toNat:Nat):Int)=k:=by omega
   have u:sz 2 (E.getD k.toNat dB).2.2.1:=(y.2.2 _ A).1;have y:row.length<=9:=by
    have:=fU (n:=k.toNat) (f:=fun j=>A5 row (j:Int)) ⟨h,fun e hh=>⟨(a e hh).1,by have:=(a e hh).2;omega⟩,fun j _=>rfl⟩;omega
   rw[z,r,s];refine⟨fun q=>Y7 q.1/\(∀e∈q.1,0<=e.1/\e.1<k+1)/\∀j:Nat,(j:Int)<k+1->A5 q.1 (j:Int)=S j,⟨⟨c,g⟩,w, ?_⟩, ?_⟩
   . rintro⟨c,_⟩ _ r;simp only at r⊢;refine⟨w, ?_⟩;rintro⟨c,_⟩ _ s;simp only at s⊢;refine⟨⟨by rw[r];exact Q7 (o _) (by decide),by rw[s];exact Q7 (o _) (by decide)⟩, ?_⟩;rintro⟨w,_⟩ _ c;simp only at c⊢;rw[r,s,E6,E6]at c;have r:qs (K2+K2+1) (A5 b (Fa E k.toNat:Int)-A5 b (Ez E k.toNat:Int)):=HX (o _) (o _);have o:qs (K2+K2+1+1+1) (A5 b (Fa E k.toNat:Int)-A5 b (Ez E k.toNat:Int)+if k=l then 1 else 0):=by
      have:qs 1 (if k=l then(1:Rat)else 0):=by
       split
       . exact XC (qZ 1)
       . exact P9 (qZ 1)
      exact OE (j:=K2+K2+1) (k:=1) r this
     refine⟨fun q=>((q.1,q.2.1),q.2.2.1)=rc (A5 b (Fa E k.toNat:Int)-A5 b (Ez E k.toNat:Int)+if k=l then 1 else 0),⟨fun hkl=>⟨trivial, ?_⟩,fun hkl=> ?_⟩, ?_⟩
     . rintro⟨l,_⟩ _ b;simp only at b⊢;refine⟨⟨by rw[c];exact Q7 r (by decide),by rw[b,KQ];exact Q7 (k:=1) (q:=1) (XC (qZ 1)) (by decide)⟩, ?_⟩;rintro⟨r,_⟩ _ l;simp only at l⊢;rw[l,c,b,E6,KQ,E6,qS (qA hkl)];rfl
     . rw[qL (qB hkl),rN];exact c
     . rintro⟨c,l,r,_⟩ _ b;simp only at b⊢;rw[b];refine⟨⟨U8 u (by decide),Q7 o (by decide)⟩, ?_⟩;rintro⟨c,_⟩ _ b;simp only at b⊢;have s:c=rc (S k.toNat):=by
        rw[b,E6, <-t];simp only;rw[v];rfl
       have u:∀j:Nat,(j:Int)<k+1->(j:Int)<k\/j=k.toNat:=fun j d=>by omega
       refine⟨trivial, ?_⟩;rintro⟨y,_⟩ _ l;simp only at l⊢;rw[s,E6]at l;refine⟨fun c=> ?_,fun o=> ?_⟩
       . have c:S k.toNat≠0:=fun e=>qA c (by rw[l,e];rfl)
         refine⟨⟨by rw[rH];omega,by rw[rH];omega⟩, ?_,fun e b=> ?_,fun j r=> ?_⟩
         . rw[s];exact Lk h c fun z w=>(a z w).2
         . rcases qX.1 b with b|b
           . have:=a e b;omega
           . rw[qP.1 b];simp only;omega
         . rw[s,Fp];rcases u j r with c|c
           . rw[d j c,qL (by omega),rN]
           . subst c;rw[qS v.symm,D4 fun e b s=>by have:=(a e b).2;omega,tF]
       . have o:S k.toNat=0:=by
          have c:y=0:=qU (qB o);rw[c]at l;exact AQ l.symm
         refine⟨h,fun e b=>by have:=a e b;omega,fun j r=> ?_⟩;rcases u j r with c|c
         . exact d j c
         . subst c;rw[o,D4 fun e b s=>by have:=(a e b).2;omega]
   . rintro⟨r,_⟩ _ ⟨c,l,o⟩;simp only at c l o⊢;rw[wv (by omega)];exact⟨⟨by omega,by omega,c,l,o⟩,by omega⟩
 . have g:=qB g;refine⟨h,fun e b=> ?_,fun j c=> ?_⟩
   . have:=a e b;omega
   . rw[d j (by omega), <-t]
def Qq (x:A2 P4.args) (b:awf P4.args x) (a:P4.pre x):Ia x:=by
 obtain⟨⟨sl,⟨f,j,c⟩,i,g,h⟩,_⟩:=x;simp only[Ia,iB,Nw];refine⟨trivial, ?_⟩;rintro⟨r,_⟩ _ b;simp only at b⊢;refine⟨fun _=>trivial, ?_⟩;rintro⟨d,_⟩ a;simp only at a⊢;by_cases d:D2 (f,j,c)
 . rw[rF d]at b;subst b;have a:=(a rfl).2;by_cases c:D2 (i,g,h)
   . rw[rF c]at a;subst a;refine⟨fun h=>(by cases h),fun _=> ?_⟩;by_cases k:i=f<;>by_cases i:g=f<;>by_cases f:j=(sl.length:Int)<;>simp[I9,Ql,d,c,k,i,f]<;>simp_all
   . rw[rE c]at a;subst a;exact⟨fun _=>(rE fun h=>c h.2.1).symm,fun h=>(by cases h)⟩
 . rw[rE d]at b;subst b;exact⟨fun _=>(rE fun h=>d h.1).symm,fun h=>(by cases h)⟩
def Ob (x:A2 N7.args) (i:awf N7.args x) (h:N7.pre x):Hl x:=by
 obtain⟨⟨sl,⟨f,g,a⟩,M2⟩,b,c,_⟩:=x;have E:pD (f,g,a):=JW i.1.2.1.2.2.2;change List Int at sl;change Int at f g b c;change List (List C9)at a;have A:Ax K3 (f,g,a):=h;have D:Ax K1 (f,g,a):=fun v k e he=>G1 (A v k e he) (by decide)
 simp only[Hl,iB,H6,Nw,g4o];refine⟨trivial, ?_⟩;rintro⟨F,_⟩ _ i;simp only at i⊢;by_cases k:Ql (sl,(f,g,a),M2)
 case neg=>
  rw[rE k]at i;subst i;exact⟨fun _=>⟨fun _=>by first|trivial|exact⟨by trivial,by trivial⟩,fun h=>absurd h k⟩,fun h=>(by cases h)⟩
 rw[rF k]at i;subst i;refine⟨fun h=>(by cases h),fun _=> ?_⟩;have w:D2 (f,g,a):=k.1;have g:(a.length:Int)=f:=w.2.2.2.2.1;have g:f<=16384:=w.2.1;have n:I9 (I9 (I9 (decide (b<0)) true (decide ((sl.length:Int)<=b))) true (decide (c<0))) true (decide ((sl.length:Int)<=c))=true↔¬(0<=b/\b<(sl.length:Int)/\0<=c/\c<(sl.length:Int)):=by
  rw[G6,G6,G6];simp only[uA,decide_eq_true_iff];omega
 refine⟨fun h=> ?_,fun h=> ?_⟩
 . have h:=n.1 h;exact⟨fun g=>absurd k g,fun _=>⟨fun _=>by first|trivial|exact⟨by trivial,by trivial⟩,fun g=>absurd g h⟩⟩
 have t:0<=b/\b<(sl.length:Int)/\0<=c/\c<(sl.length:Int):=qU fun g=>by rw[n.2 g]at h;cases h
 obtain⟨n,o,r,s⟩:=t;have h:gx 0 sl b=sl.getD b.toNat 0:=G9 n o;have t:gx 0 sl c=sl.getD c.toNat 0:=G9 r s;rw[h,t];refine⟨⟨n,o⟩,⟨r,s⟩,fun h=> ?_,fun u=> ?_⟩
 . have h:=qA h;exact⟨fun g=>absurd k g,fun _=>⟨fun g=>absurd ⟨n,o,r,s⟩ g,fun _=>⟨fun _=>by first|trivial|exact⟨by trivial,by trivial⟩,fun g=>absurd g h⟩⟩⟩
 have u:sl.getD b.toNat 0=sl.getD c.toNat 0:=qU (qB u);refine⟨⟨qI _,by omega,by omega,by omega⟩,fun p=>0<=p.2.1/\p.2.1<=(a.length:Int)/\p.1=cH p.2.1.toNat fun l=>A5 (a.getD l []) b-A5 (a.getD l []) c,fun p=>((a.length:Int)-p.2.1).toNat,⟨qI _,qD _,rfl⟩, ?_⟩;rintro⟨out,b,_⟩ _ ⟨h,c,t⟩;change List D5 at out;change Int at b;simp only at h c t⊢;have c:out.length=b.toNat:=by rw[t,A1z]
 refine⟨fun c=> ?_,fun c=> ?_⟩
 . have c:=qA c;have z:gx [] a b=a.getD b.toNat []:=G9 h c;have B:a.getD b.toNat []∈a:=C6 (by omega);have y:DO K1 (a.getD b.toNat []):=by rw[<-z];exact XG w D (H8 (d:=([]:List C9)) (l:=a) h (by omega))
   have w:∀j,qs K3 (A5 (a.getD b.toNat []) j):=fun j=>JP y.1 (E _ B) (A _ B) (by decide) j
   rw[z];refine⟨⟨h,c⟩,y, ?_⟩;rintro⟨F,_⟩ _ i;simp only at i⊢;refine⟨y, ?_⟩;rintro⟨y,_⟩ _ a;simp only at a⊢;refine⟨⟨by rw[i];exact Q7 (w _) (by decide),by rw[a];exact Q7 (w _) (by decide)⟩, ?_⟩;rintro⟨y,_⟩ _ w;simp only at w⊢;rw[i,a,E6,E6]at w;rw[wv (by omega)];exact⟨⟨by rw[rH];omega,by rw[rH];omega⟩,⟨by omega,by omega,by rw[B0c _ h,t,w]⟩,by omega⟩
 . have c:=qB c;refine⟨fun g=>absurd k g,fun _=>⟨fun g=>absurd ⟨n,o,r,s⟩ g,fun _=>⟨fun g=>absurd u g,fun _=>⟨by trivial, ?_⟩⟩⟩⟩;rw[t];show cH b.toNat _=cH f.toNat _;rw[show b.toNat=f.toNat from by omega]
def C1w (g:Nat->Pl):List Nat->Pl
 | []=> .done
 | [i]=> .e i (g i)
 |i::j::r=> .or i (g i) (C1w g (j::r))
def lin (D:List (Nat×List Nat)):Nat->List Nat->Pl
 |0,_=> .done
 |f+1,L=>C1w (fun i=>lin D f (i::L)) ((D.filter fun x=> !(L.any (Nat.beq x.1))&&x.2.all fun y=>L.any (Nat.beq y)).map Prod.fst)
def trA (b:Int) (n:Nat) (k:List QQ->List Int->List QQ->Prop) (l:List QQ) (a:List Int) (c:List QQ):Prop:=bif Nat.beq l.length n then((0:Int)<=b/\b<(↑(List.length a):Int)/\I7 a b<(↑(List.length c):Int))/\∀(r:QQ×Unit) (o:List Int×List QQ×Unit),ED r.1/\True->(Ty.int i64).sl.wf o.1/\tQ.sl.wf o.2.1/\True->(r.1=if I7 a b<(0:Int)then rc (0:Rat)else List.getD c (I7 a b).toNat zr)->o.1=a/\o.2.1=c->k (l++ [r.1]) o.1 o.2.1 else True
def trE (d f:Int) (c:QQ) (i:Nat) (k:List QQ->List Int->List QQ->Prop) (l:List QQ) (b:List Int) (a:List QQ):Prop:=match i with
 |5=>trA d 0 k l b a
 |9=>trA f 1 k l b a
 |10=>bif Nat.beq l.length 2 then(E3 (l.getD 0 dQ)/\E3 (l.getD 1 dQ))/\∀(r:QQ×Unit),ED r.1/\True->r.1=rc (rv (l.getD 0 dQ)-rv (l.getD 1 dQ))->k (l++ [r.1]) b a else True
 |11=>bif Nat.beq l.length 3 then(E3 c/\E3 (l.getD 2 dQ))/\∀(r:QQ×Unit),ED r.1/\True->r.1=rc (rv c*rv (l.getD 2 dQ))->k (l++ [r.1]) b a else True
 | _=>k l b a
def trD (a b:Int) (c:QQ) (J:QQ->List Int->List QQ->Prop):Pl->List QQ->List Int->List QQ->Prop
 | .done,l,f,d=>bif Nat.beq l.length 4 then J (l.getD 3 dQ) f d else True
 | .q _ p,l,f,d=>trD a b c J p l f d
 | .p _ p,l,f,d=>trD a b c J p l f d
 | .e i p,l,f,d=>trE a b c i (trD a b c J p) l f d
 | .or i p q,l,f,d=>trE a b c i (trD a b c J p) l f d/\trD a b c J q l f d
 | .al _ _ _,_,_,_=>True
def B9v {g h:Int} {d:QQ} {J:QQ->List Int->List QQ->Prop} {c:List Int} {f:List QQ} (l:0<=g/\g<(c.length:Int)/\I7 c g<(f.length:Int)) (o:0<=h/\h<(c.length:Int)/\I7 c h<(f.length:Int)) {a b:QQ}
 (r:a=if I7 c g<0 then rc 0 else f.getD (I7 c g).toNat zr) (hb:b=if I7 c h<0 then rc 0 else f.getD (I7 c h).toNat zr) (s1:E3 a) (s2:E3 b) (s3:E3 d) (s4:E3 (rc (rv a-rv b))) (hJ:J (rc (rv d*rv (rc (rv a-rv b)))) c f):
 ∀(p:Pl) (n:Nat),trD g h d J p ([a,b,rc (rv a-rv b),rc (rv d*rv (rc (rv a-rv b)))].take n) c f:=by
 have step:∀(i:Nat) (k:List QQ->List Int->List QQ->Prop) (n:Nat),(∀n,k ([a,b,rc (rv a-rv b),rc (rv d*rv (rc (rv a-rv b)))].take n) c f)->trE g h d i k ([a,b,rc (rv a-rv b),rc (rv d*rv (rc (rv a-rv b)))].take n) c f:=by
  intro i k n c;have g:([a,b,rc (rv a-rv b),rc (rv d*rv (rc (rv a-rv b)))].take n).length=min n 4:=qW;have f:∀m,m<4->Nat.beq (min n 4) m=true->n=m:=fun m hm h=>by have:=qE h;omega
  unfold trE;split
  . unfold trA;rw[g];cases h:Nat.beq (min n 4) 0 with
    |false=>trivial
    |true=>
     have:=f 0 (by omega) h;subst this;refine⟨l,fun t s _ _ k j=> ?_⟩;rw[j.1,j.2,k, <-r];exact c 1
  . unfold trA;rw[g];cases h:Nat.beq (min n 4) 1 with
    |false=>trivial
    |true=>
     have:=f 1 (by omega) h;subst this;refine⟨o,fun r l _ _ k j=> ?_⟩;rw[j.1,j.2,k, <-hb];exact c 2
  . rw[g];cases h:Nat.beq (min n 4) 2 with
    |false=>trivial
    |true=>
     have:=f 2 (by omega) h;subst this;refine⟨⟨s1,s2⟩,fun r _ j=> ?_⟩;rw[j];exact c 3
  . rw[g];cases h:Nat.beq (min n 4) 3 with
    |false=>trivial
    |true=>
     have:=f 3 (by omega) h;subst this;refine⟨⟨s3,s4⟩,fun r _ f=> ?_⟩;rw[f];exact c 4
  . exact c n
 intro p
 induction p with
 |done=>
  intro n;have c:([a,b,rc (rv a-rv b),rc (rv d*rv (rc (rv a-rv b)))].take n).length=min n 4:=qW;unfold trD;rw[c];cases h:Nat.beq (min n 4) 4 with
  |false=>trivial
  |true=>
   have c:4<=n:=by have:=qE h;omega
   rw[qV (by simpa using c)];exact hJ
 |q i p c=>intro n;exact c n
 |p i p c=>intro n;exact c n
 |e i p c=>intro n;exact step i _ n c
 |or i p q c d=>intro n;exact⟨step i _ n c,d n⟩
 |al _ _ _ _=>intro n;trivial
def trP:Pl:=lin [(1,[]),(5,[]),(8,[]),(9,[5,8]),(10,[9]),(11,[1,10]),(12,[]),(13,[11,12])] 8 []
def Eh:An:= {join:= [(10,⟨[3,4,9,27,28,29],[0,1,3],[(8,false,[.own (.int .i64) 3])],[],[(2, .row (.int .i64) 3)]⟩),(33,⟨[3,8,9,13,14,16,20,72,73,74,97,98,99],[0,5],[],[(3,22,[.val (.sl (.int .i64))]),(8,46,[.val (.sl tQ)])],[(6, .rows tE 79 106)]⟩)],loop:= [(4,⟨[3,4,9,27,28],[0,1,3],[(8,false,[.own (.int .i64) 3]),(29,false,vI)],[],[(2, .row (.int .i64) 3)]⟩),(28,⟨[3,8,9,13,14,16,20,72,73,74,97,98],[0,5],[(99,false,vI)],[(3,22,[.val (.sl (.int .i64))]),(8,46,[.val (.sl tQ)])],[(6, .rows tE 79 106)]⟩),(19,⟨[3,8,9,13,14,72,73],[0,5],[(74,false,vI)],[(3,22,[.val (.sl (.int .i64))])],[(6, .rows tE 79 106)]⟩)],plan:= [(30,[4],[5,9,13],false,(.p 0 (.p 2 (.p 3 (.q 4 (.p 6 (.p 7 trP))))))),(32,[5,7],[10,12],false,(pZ9 0 5 (.q 5 (.p 6 (.q 7 (.p 8 (.e 9 (.e 10 (.p 11 (.e 12 .done))))))))))]}
def Qk:H0:= [(44,Af),(67,U5),(77,V4),(78,N2),(79,L3),(80,Z4),(81,G8),(82,V7)]
abbrev C3e:=Int×List Int×List (List EE)×Unit
abbrev C3g:=Int×List Int×List QQ×List (List EE)×Unit
abbrev C3s:=List Int×List QQ×List (List EE)×Unit
def X7:A2 G4.args->Prop:=fun(x:(Int×List (Int×Int×QQ×(Bool×List Int)×List Int))×MM×List Int×Unit)=>let M:=(140737488355328:Nat);let E:=(281474976710656:Int);let D:=(1:Nat);let C:=(16384:Nat);let B:=(1:Int);let A:=(9223372036854775807:Int);let q:=(x.2.2.1.length:Int);let f:=(x.1.2.length:Int);let c:=(0:Int);(c<=x.1.1/\x.1.1<=x.1.1/\(↑(8:Nat):Int)*x.1.1<=E/\x.1.1<=A)/\∃(I:B6d->Prop),∃(h: _->Nat),I ([],c,List.replicate x.1.1.toNat c,())/\∀(p:B6d),let H:Prop:=(p.2.1≠gx c x.2.2.1 p.2.1);let w:=p.2.1.toNat;let K:=(List.set p.2.2.1 w (-1:Int));let a:Prop:=((∃(i:Int),i∈p.1/\(i<c\/x.2.1.1<=i))\/∃(i:Int),i∈p.1/\(i<c\/x.2.1.2.1<=i));let d:=(↑p.1.length:Int);(Ty.int i64).sl.wf p.1/\(Ty.int i64).wf p.2.1/\TG p.2.2.1/\True->I p->(decide (p.2.1<q)=true->∃(J:Ey->Prop),((c<=p.2.1/\p.2.1<q)/\(c<=p.2.1/\p.2.1<(p.2.2.1.length:Int))/\(decide H=true->(c<=p.2.1/\p.2.1<(↑K.length:Int))/\((p.1.length+ [p.2.1].length)*(8:Nat)<=M/\p.1.length+ [p.2.1].length<=9223372036854775807)/\J (p.1++ [p.2.1],K.set w d,()))/\(decide H=false->J (p.1,List.set p.2.2.1 w (-1:Int),())))/\∀(Q:Ey),let t:=(Q.1,i64.wrap (p.2.1+B),Q.2.1,());(Ty.int i64).sl.wf Q.1/\TG Q.2.1/\True->J Q->I t/\h t<h p)/\(decide (p.2.1<q)=false->(Ax K1 x.2.1/\p.1.length<=(1000:Nat)/\p.1.length<=(1000:Nat)/\p.1.Nodup)/\∀(r:A0p),let y:=r.1.1.toNat;WfM r.1/\L5 r.2.1/\True->(¬D2 x.2.1->r.1=zm/\r.2.1=B)/\(D2 x.2.1->(a->r.1=zm/\r.2.1=3)/\(¬a->(C<p.1.length\/C<p.1.length->r.1=zm/\r.2.1=8)/\(p.1.length<=C/\p.1.length<=C->Pw p.1.length p.1.length (fun(i j:Nat)=>el x.2.1 (p.1.getD i c).toNat (p.1.getD j c).toNat) r.1/\r.2.1=c)))->(decide (r.2.1≠c)=true->r.2.1=c/\∃(G:Nat->Nat->Rat),Lz x.1 G/\(∀(a b:Nat),a<x.1.1.toNat->b<x.1.1.toNat->qs K0 (G a b))/\0=x.1.2.length/\∀(l:Nat),l<x.1.2.length->RP x.1.1.toNat (fun(b:Nat)=>Kn x.1.2 G l b) ([].getD l []))/\(decide (r.2.1≠c)=false->(∃(s:Nat),D<=s/\Ax s r.1/\s<=K1/\(D2 r.1->r.1.1=r.1.2.1->sK s (Int.toNat r.1.1-D)<=K1))/\∀(O:C2n),let g:=O.1.1.length;let N:=(↑g:Int);(TG O.1.1/\TG O.1.2.1/\WfM O.1.2.2.1/\L5 O.1.2.2.2.1/\L5 O.1.2.2.2.2.1/\Qx O.1.2.2.2.2.2)/\L5 O.2.1/\True->(¬D2 r.1->O.1=iS/\O.2.1=B)/\(D2 r.1->(r.1.1≠r.1.2.1->O.1=iS/\O.2.1=4)/\(r.1.1=r.1.2.1->(¬nonsing y (el r.1)->O.1=iS/\O.2.1=6)/\(nonsing y (el r.1)->Cp O.1 r.1.1/\O.2.1=c/\(∀(v:List EE),v∈O.1.2.2.1.2.2->Y7 v)/\(∀(v:List EE),v∈O.1.2.2.2.2.2->Y7 v)/\(∀(s:Nat),D<=s->Ax s r.1->∀(i j:Nat),i<Int.toNat r.1.1->qs (sK s y) (el O.1.2.2.1 i j)/\qs (sK s i) (el O.1.2.2.2 i j))/\∀(i j:Nat),i<Int.toNat r.1.1->j<Int.toNat r.1.1->luM O.1 y i j=el r.1 (ix O.1.1 i) (ix O.1.2.1 j))))->(decide (O.2.1≠c)=true->O.2.1=c/\∃(G:Nat->Nat->Rat),Lz x.1 G/\(∀(a b:Nat),a<x.1.1.toNat->b<x.1.1.toNat->qs K0 (G a b))/\0=x.1.2.length/\∀(l:Nat),l<x.1.2.length->RP x.1.1.toNat (fun(b:Nat)=>Kn x.1.2 G l b) ([].getD l []))/\(decide (O.2.1≠c)=false->(c<=f/\f<=f/\(↑(24:Nat):Int)*f<=E/\f<=A)/\∃(I:C3e->Prop),∃(h: _->Nat),I (c,p.2.2.1,List.replicate f.toNat [],())/\∀(Q:C3e),let m:=Q.1.toNat;(Ty.int i64).wf Q.1/\(Ty.int i64).sl.wf Q.2.1/\Qx Q.2.2.1/\True->I Q->(decide (Q.1<d)=true->(c<=Q.1/\Q.1<d)/\(c<=d/\d<=d/\(↑(56:Nat):Int)*d<=E/\d<=A)/\True/\∀(r:G7),ED r.1/\True->r.1=ri B->(c<=Q.1/\Q.1<(↑(List.replicate d.toNat dQ).length:Int))/\(List.length O.1.1<=C/\Ax K1 O.1.2.2.1/\Ax K1 O.1.2.2.2/\(Cp O.1 N->((List.replicate d.toNat dQ).set m r.1).length=List.length O.1.1->∃(s:Nat),∃(T:Nat),D<=s/\D<=T/\Ax s O.1.2.2.1/\Ax s O.1.2.2.2/\KV T ((List.replicate d.toNat dQ).set m r.1)/\hK s (gK s T g) g+s<=K1))/\∀(R:B6e),WfL R.1/\L5 R.2.1/\True->(¬Cp O.1 N->R.1= []/\R.2.1=B)/\(Cp O.1 N->(((List.replicate d.toNat dQ).set m r.1).length≠List.length O.1.1->R.1= []/\R.2.1=4)/\(((List.replicate d.toNat dQ).set m r.1).length=List.length O.1.1->R.2.1=c/\R.1.length=List.length O.1.1/\(∀(e:QQ),e∈R.1->e=rc (rv e))/\(∀(s T:Nat),D<=s->D<=T->Ax s O.1.2.2.1->Ax s O.1.2.2.2->KV T ((List.replicate d.toNat dQ).set m r.1)->KV (hK s (gK s T g) g+s) R.1)/\∀(i:Nat),i<List.length O.1.1->(D1 g fun(j:Nat)=>luM O.1 g i j*rv (R.1.getD (ix O.1.2.1 j) zr))=rv (((List.replicate d.toNat dQ).set m r.1).getD (ix O.1.1 i) zr)))->(decide (R.2.1≠c)=true->R.2.1=c/\∃(G:Nat->Nat->Rat),Lz x.1 G/\(∀(a b:Nat),a<x.1.1.toNat->b<x.1.1.toNat->qs K0 (G a b))/\0=x.1.2.length/\∀(l:Nat),l<x.1.2.length->RP x.1.1.toNat (fun(b:Nat)=>Kn x.1.2 G l b) ([].getD l []))/\(decide (R.2.1≠c)=false->∃(I_1:C3g->Prop),∃(j: _->Nat),I_1 (c,Q.2.1,R.1,Q.2.2.1,())/\∀(P:C3g),let z:=P.1.toNat;let L:=(List.getD P.2.2.2.1 z []);let u:Prop:=(c<=P.1/\P.1<(P.2.2.2.1.length:Int));let n:=(i64.wrap (Q.1+B),P.2.1,P.2.2.2.1,());let k:=(gx (c,c,dQ,(false,[]),[]) x.1.2 P.1);(Ty.int i64).wf P.1/\(Ty.int i64).sl.wf P.2.1/\tQ.sl.wf P.2.2.1/\Qx P.2.2.2.1/\True->I_1 P->(decide (P.1<f)=true->∃(J:C3s->Prop),((c<=P.1/\P.1<f)/\trD k.1 k.2.1 k.2.2.1 (fun v i g=>let F:=(gx c p.1 Q.1,v);True/\∀(S:C5),L5 S.1/\True->S.1=(rv v).num.sign->(decide (S.1≠c)=true->u/\((L.length+ [F].length)*(64:Nat)<=M/\L.length+ [F].length<=9223372036854775807)/\u/\Int.toNat P.1=Int.toNat P.1/\J (i,g,List.set P.2.2.2.1 z (List.getD P.2.2.2.1 z []++ [F]),()))/\(decide (S.1≠c)=false->J (i,g,P.2.2.2.1,()))) trP [] P.2.1 P.2.2.1)/\∀(p:C3s),let o:=(i64.wrap (P.1+B),p.1,p.2.1,p.2.2.1,());(Ty.int i64).sl.wf p.1/\tQ.sl.wf p.2.1/\Qx p.2.2.1/\True->J p->I_1 o/\j o<j P)/\(decide (P.1<f)=false->I n/\h n<h Q)))/\(decide (Q.1<d)=false->c=c/\∃(G:Nat->Nat->Rat),Lz x.1 G/\(∀(a b:Nat),a<x.1.1.toNat->b<x.1.1.toNat->qs K0 (G a b))/\List.length Q.2.2.1=x.1.2.length/\∀(l:Nat),l<x.1.2.length->RP x.1.1.toNat (fun(b:Nat)=>Kn x.1.2 G l b) (List.getD Q.2.2.1 l [])))))
def Lg (x:A2 G4.args):B5m prog B6h Qk Eh G4 f38 x=X7 x:=by kernel_rfl
def B8p {o:List Int} {v:Int} {k:Nat} (a:k<o.length):ix (o++ [v]) k=ix o k:=by
 unfold ix;rw[qF,wA a,qF]
def B4i {o:List Int} {v:Int} :ix (o++ [v]) o.length=v.toNat:=by
 unfold ix;rw[qF,uC (qZ _),xL];rfl
def A2k (N:Ge) (o a:List Int) (c:Nat):Prop:=(O5 N c=c->a.getD c 0= -1)/\(O5 N c≠c->0<=a.getD c 0/\(a.getD c 0).toNat<o.length/\ix o (a.getD c 0).toNat=c)
def GX (N:Ge) (o:List Int) (X:Nat->Nat->Rat) (c b:Nat):Rat:=if O5 N b=b then 0 else Pv o.length (ix o) (X b) c
def oR {k:Nat} {o:Nat->Nat} (f:∀a c,a<k->c<k->o a=o c->a=c) (x:Nat->Rat) (b:Nat):Pv k o x b=0\/∃c,c<k/\o c=b/\Pv k o x b=x c:=by
 by_cases h:∃c,c<k/\o c=b
 . obtain⟨c,d,rfl⟩:=h;exact .inr ⟨c,d,rfl,fD f x d⟩
 . exact .inl (Yv x fun c d e=>h ⟨c,d,e⟩)
def mW {n:Nat} {i:Nat} :KV 256 ((List.replicate n dQ).set i (ri 1)):=fun e a=>by
 rcases g0z a with a|rfl
 . rw[List.eq_of_mem_replicate a];exact⟨rM _,rM _⟩
 . rw[KQ];exact G1 (KW (k:=1) (q:=1) (XC (qZ 1))) (by decide)
def B1t {n i a:Nat} (c:i<n) (b:a<n):rat ((List.replicate n dQ).set i (ri 1)) a=if a=i then 1 else 0:=by
 unfold rat;by_cases h:a=i
 . subst h;rw[qS rfl,B6 (by rw[rJ];exact c),KQ,E6];rfl
 . rw[qL h,D8 h,qF,uO,qS b];exact dD
set_option maxHeartbeats 4000000 in
def Lh (x:A2 G4.args) (dd:awf G4.args x) (da:G4.pre x):X7 x:=by
 obtain⟨⟨n,E⟩,m,sl,_⟩:=x;have cz:∀e∈E,Ik e.2.2.1:=fun e he=>Ja (dd.1.2.2 e he).2.2.1
 change Int at n;change List Yd at E;change List Int at sl;change Dn at m;obtain⟨u,ak,U,db⟩:I2 (n,E)/\Al (n,E)/\Pw n.toNat n.toNat (ET E) m/\sl=Ap n (KO E):=da;obtain⟨n,rfl⟩:∃Y:Nat,n=(Y:Int):=⟨n.toNat,by have:=u.1;simp only at this;omega⟩;have dt:n<=7:=by have:=ak.1;simp only at this;omega
 have ds:E.length<=9:=ak.2.1;simp only[qM]at U;have bp:∀b c,qs 28 (ET E b c):=A5q ak cz;obtain⟨bg,au⟩:=Fu u;simp only[qM]at bg au;rw[<-db]at bg au;have bw:=B1c u;have b6:=WU u;have b9:=mA u;have bt:=fun a c=>B4v ((n:Int),E) n (a:=a) (c:=c)
 simp only[qM]at bw b6 b9;simp only[X7,qM];refine⟨⟨qD _,qI _,by omega,by omega⟩,fun p=>0<=p.2.1/\p.2.1<=(n:Int)/\p.1=I8 ((n:Int),E) p.2.1.toNat/\p.2.2.1.length=n/\∀c:Nat,(c:Int)<p.2.1->A2k ((n:Int),E) p.1 p.2.2.1 c,fun p=>((n:Int)-p.2.1).toNat,⟨qI _,qD _,rfl,rJ,fun c s=>by simp only at s;omega⟩, ?_⟩;rintro⟨o,b,B,_⟩ _ ⟨a1,a5,w,ba,ae⟩;change List Int at o;change Int at b;change List Int at B;simp only at a1 a5 w ba ae⊢;refine⟨fun I=> ?_,fun I=> ?_⟩
 . have I:=qA I;have b2:b.toNat<n:=by omega
   have cu:((b.toNat:Nat):Int)=b:=by omega
   have eL:gx 0 sl b=(O5 ((n:Int),E) b.toNat:Int):=by rw[G9 a1 I];exact(au _ b2).1
   have du:o.length<=b.toNat:=by rw[w];unfold I8;rw[tK];exact qY (List.length_filter_le _ _) (by rw[g1d];exact qZ _)
   have a3:=A5b ((n:Int),E) b.toNat;rw[show b.toNat+1=(b+1).toNat from by omega]at a3;rw[eL];refine⟨fun q=>q.1=I8 ((n:Int),E) (b+1).toNat/\q.2.1.length=n/\∀c:Nat,(c:Int)<b+1->A2k ((n:Int),E) q.1 q.2.1 c,⟨⟨a1,I⟩,⟨a1,by omega⟩,fun M=> ?_,fun R=> ?_⟩, ?_⟩
   . have M:=qA M;have t:O5 ((n:Int),E) b.toNat≠b.toNat:=fun e=>M (by rw[e];omega)
     rw[qS t,cu, <-w]at a3;refine⟨⟨a1,by rw[qN];omega⟩,⟨by rw[rH];omega,by rw[rH];omega⟩,a3.symm,by rw[qN,qN];exact ba,fun c s=> ?_⟩;by_cases Q:c=b.toNat
     . subst Q;refine⟨fun e=>absurd e t,fun _=> ?_⟩;rw[B6 (by rw[qN];omega),qM,B4i];exact⟨qD _,by rw[rO,rH];omega,rfl⟩
     . obtain⟨D,k⟩:=ae c (by omega);unfold A2k;rw[D8 Q,D8 Q];refine⟨D,fun h=> ?_⟩;obtain⟨aq,ar,cg⟩:=k h;exact⟨aq,by rw[rO];omega,by rw[B8p ar];exact cg⟩
   . have R:b=(O5 ((n:Int),E) b.toNat:Int):=qU (qB R);have t:O5 ((n:Int),E) b.toNat=b.toNat:=by omega
     rw[qL (fun h=>h t), <-w]at a3;refine⟨a3.symm,by rw[qN];exact ba,fun c s=> ?_⟩;by_cases Q:c=b.toNat
     . subst Q;refine⟨fun _=>B6 (by omega),fun h=>absurd t h⟩
     . unfold A2k;rw[D8 Q];exact ae c (by omega)
   . rintro⟨dx,bc,_⟩ _ ⟨D,k,a6⟩;simp only at D k a6⊢;rw[wv (by omega)];exact⟨⟨by omega,by omega,D,k,a6⟩,by omega⟩
 have I:=qB I;have b2:b=(n:Int):=by omega
 subst b2;simp only[qM]at w;rw[<-w]at bw b6 b9;simp only[<-w]at bt;obtain⟨a0,an,c2⟩:=b6;have d6:o.length<=6:=by omega
 have d4:o.Nodup:=w▸HV _ _;have d3:=DC U (by omega) (by omega);have d9:∀c∈o,0<=c/\c<(n:Int):=fun c s=>by
  rw[w]at s;obtain⟨ab,c1,_⟩:=Zs.1 s;exact⟨ab,c1⟩
 refine⟨⟨VH U (by decide) fun i j _ _=>K7 (bp i j) (by decide),show o.length<=1000 by omega,show o.length<=1000 by omega,d4⟩, ?_⟩;rintro⟨Z,cc,_⟩ _ ⟨_,k⟩;change Int at cc;simp only at k⊢;have F:¬((∃i,i∈o/\(i<0\/m.1<=i))\/∃i,i∈o/\(i<0\/m.2.1<=i)):=by
  rw[U.1,U.2.1];rintro(⟨i,f,h⟩ | ⟨i,f,h⟩)<;>(have:=d9 i f;omega)
 obtain⟨V,cv⟩:=((k d3).2 F).2 ⟨show o.length<=16384 by omega,show o.length<=16384 by omega⟩;clear k;subst cv;refine⟨fun h=>absurd h (by simp),fun _=> ?_⟩;have b3:∀i j,i<o.length->j<o.length->el Z i j=ET E (ix o i) (ix o j):=fun i j f r=>by
  rw[fT V f r];exact fT U (a0 i f).1 (a0 j r).1
 have d0:=DC V (by omega) (by omega);have bu:Ax 28 Z:=VH V (by decide) fun i j f r=>by
  rw[<-fT V f r,b3 i j f r];exact bp _ _
 obtain⟨c8,ap,dr,c9⟩:=B9r d6;have aw:Z.1=(o.length:Int):=V.1;have ch:Z.2.1=(o.length:Int):=V.2.1;have cl:Int.toNat Z.1=o.length:=by rw[aw,qM]
 rw[cl];refine⟨⟨28,by decide,bu,by decide,fun _ _=>dr⟩, ?_⟩;rintro⟨O,cd,_⟩ _ ⟨_,k⟩;change Int at cd;simp only at k⊢;have d5:nonsing o.length (el Z):=ZS (fun i j f r=>(b3 i j f r).symm) b9;obtain⟨T,cw,c1,ca,ag,d2⟩:=((k d0).2 (aw.trans ch.symm)).2 d5;clear k;subst cw;refine⟨fun h=>absurd h (by simp),fun _=> ?_⟩;rw[aw]at T;have a7:=SU T.1;have av:=SU T.2.1;have ck:List.length O.1=o.length:=a7.1;obtain⟨dn,e0,dp⟩:=T.2.2.1;obtain⟨c7,e1,dq⟩:=T.2.2.2.1;have bz:=ag 28 (by decide) bu;have b7:Ax (sK 28 o.length) O.2.2.1:=B0x dp c1 ap fun i j f=>(bz i j (by rw[dn]at f;omega)).1
 have b8:Ax (sK 28 o.length) O.2.2.2:=B0x dq ca ap fun i j f=>K7 (bz i j (by rw[c7]at f;omega)).2 (DU (by rw[c7]at f;omega))
 have d7:Ax K1 O.2.2.1:=fun v u e he=>G1 (b7 v u e he) c9
 have d8:Ax K1 O.2.2.2:=fun v u e he=>G1 (b8 v u e he) c9
 rw[ck];refine⟨⟨qD _,qI _,by omega,by omega⟩,fun p=>0<=p.1/\p.1<=(o.length:Int)/\p.2.1=B/\p.2.2.1.length=E.length/\∃X:Nat->Nat->Rat,(∀a,a<p.1.toNat->∀z,z<o.length->D1 o.length (fun c=>ET E (ix o z) (ix o c)*X (ix o a) c)=if ix o z=ix o a then 1 else 0)/\(∀a,a<p.1.toNat->∀c,c<o.length->qs K0 (X (ix o a) c))/\∀l,l<E.length->Hh o E (GX ((n:Int),E) o X) p.1.toNat l (p.2.2.1.getD l []),fun p=>((o.length:Int)-p.1).toNat,⟨qI _,qD _,rfl,rJ,fun _ _=>0,fun a g=>absurd g (uY a),fun a g=>absurd g (uY a),fun l A=> ?_⟩, ?_⟩
 . simp only;rw[qF,uO,qS A];exact Hh.zero
 rintro⟨i,dk,rows,_⟩ _ ⟨am,de,af,bb,X,a9,aa,aj⟩;change Int at i;change List Int at dk;change List (List C9)at rows;simp only at am de af bb a9 aa aj⊢;have af:=af.symm;subst af;refine⟨fun f=> ?_,fun f=> ?_⟩
 . have f:=qA f;have F:i.toNat<o.length:=by omega
   have cf:gx 0 o i=(ix o i.toNat:Int):=by rw[G9 am f];exact(a0 _ F).2.2
   rw[cf];refine⟨⟨am,f⟩,⟨qD _,qI _,by omega,by omega⟩,trivial, ?_⟩;rintro⟨one,_⟩ _ bv;simp only at bv⊢;subst bv;have dc:((List.replicate o.length dQ).set i.toNat (ri 1)).length=o.length:=by rw[qN,rJ]
   refine⟨⟨am,by rw[rJ];exact f⟩,⟨show o.length<=16384 by omega,d7,d8,fun _ _=>⟨sK 28 o.length,256,ap,by decide,b7,b8,mW,qY c8 (by decide)⟩⟩, ?_⟩;rintro⟨Xl,ce,_⟩ _ ⟨_,k⟩;change Int at ce;change List D5 at Xl;simp only at k⊢;obtain⟨cx,az,bj,cn,cm⟩:=(k T).2 dc;clear k;subst cx;have co:KV K0 Xl:=fun y hy=>G1 (cn _ _ ap (by decide) b7 b8 mW y hy) c8
   have cp:∀z,z<o.length->D1 o.length (fun c=>ET E (ix o z) (ix o c)*rat Xl c)=if ix o z=ix o i.toNat then 1 else 0:=fun z W=>by
    obtain⟨j,r,rfl⟩:=Gj (fun a g=>(a7.2.1 a g).2) a7.2.2 W;have a6:=cm j r;rw[<-A5j (fun a g=>(av.2.1 a g).2) av.2.2 (fun c=>ET E (ix o (ix O.1 j)) (ix o c)*rat Xl c)];refine Eq.trans (C1 fun q ag=> ?_) (a6.trans ?_)
    . rw[d2 j q r ag,b3 _ _ (a7.2.1 j r).2 (av.2.1 q ag).2];rfl
    . refine(B1t F W).trans ?_;by_cases ab:ix O.1 j=i.toNat
      . rw[qS ab,qS (by rw[ab])]
      . rw[qL ab,qL fun e=>ab (an _ _ W F e)]
   have bk:∀c,c<o.length->qs K0 (rat Xl c):=fun c s=>by
    have D:=bj _ (C6 (d:=zr) (show c<Xl.length by rw[az];exact s));have k:=co _ (C6 (d:=zr) (show c<Xl.length by rw[az];exact s));rw[D]at k;exact k
   refine⟨fun h=>absurd h (by simp),fun _=> ?_⟩;generalize bh:(fun b:Nat=>if b=ix o i.toNat then rat Xl else X b)=X';have ay:X' (ix o i.toNat)=rat Xl:=by rw[<-bh];exact qS rfl
   have b0:∀a,a<i.toNat->X' (ix o a)=X (ix o a):=fun a g=>by
    rw[<-bh];exact qL fun e=>by have:=an _ _ (by omega) F e;omega
   have cj:∀a,a<i.toNat->∀c,GX ((n:Int),E) o X c (ix o a)=GX ((n:Int),E) o X' c (ix o a):=fun a g c=>by
    unfold GX;rw[b0 a g]
   have bq:∀a,a<i.toNat->ix o a<ix o i.toNat:=fun a g=>bt a i.toNat g F
   have ci:∀c,GX ((n:Int),E) o X' c (ix o i.toNat)=Pv o.length (ix o) (rat Xl) c:=fun c=>by
    unfold GX;rw[qL (a0 _ F).2.1,ay]
   have bm:∀c,c<n->I7 B (c:Int)<(Xl.length:Int)/\∃q,(if I7 B (c:Int)<0 then rc 0 else Xl.getD (I7 B (c:Int)).toNat zr)=rc q/\qs K0 q/\q=GX ((n:Int),E) o X' c (ix o i.toNat):=fun c s=>by
    have el:I7 B (c:Int)=B.getD c 0:=rfl;rw[el,ci,az];obtain⟨aq,ar⟩:=ae c (by omega);by_cases t:O5 ((n:Int),E) c=c
    . rw[aq t,qS (by decide)];exact⟨by omega,0,rfl,P9 (by decide),(Yv _ fun a g e=>(a0 a g).2.1 (by rw[e];exact t)).symm⟩
    . obtain⟨dw,ab,dh⟩:=ar t;rw[qL (by omega)];refine⟨by omega,rat Xl (B.getD c 0).toNat, ?_,bk _ ab, ?_⟩
      . exact bj _ (C6 (by omega))
      . conv=>rhs;rw[<-dh]
        exact(fD an _ ab).symm
   refine⟨fun p=>0<=p.1/\p.1<=(E.length:Int)/\p.2.1=B/\p.2.2.1=Xl/\p.2.2.2.1.length=E.length/\∀l:Nat,l<E.length->Hh o E (GX ((n:Int),E) o X') (if(l:Int)<p.1 then i.toNat+1 else i.toNat) l (p.2.2.2.1.getD l []),fun p=>((E.length:Int)-p.1).toNat,⟨qI _,qD _,rfl,rfl,bb,fun l A=> ?_⟩, ?_⟩
   . simp only;rw[qL (by omega)];exact(aj l A).congr cj
   rintro⟨j,bc,X2,H,_⟩ _ ⟨a4,df,bx,bi,ah,r⟩;change Int at j;change List Int at bc;change List D5 at X2;change List (List C9)at H;simp only at a4 df bx bi ah r⊢;subst bx bi;refine⟨fun J=> ?_,fun J=> ?_⟩
   . have J:=qA J;have ac:j.toNat<E.length:=by omega
     have cb:gx (0,0,dQ,(false,[]),[]) E j=E.getD j.toNat dB:=G9 a4 J;have d1:E.getD j.toNat dB∈E:=C6 ac;obtain⟨a5,bd⟩:=eM u ac;obtain⟨be,bf⟩:=UD u ac;simp only[qM]at a5 bd be bf;rw[cb,a5,bd];obtain⟨di,c5,cq,bl,cr⟩:=bm _ be;obtain⟨dj,c6,cs,bn,ct⟩:=bm _ bf;have ai:=r j.toNat ac;rw[qL (by omega)]at ai;have dv:=ai.len (n:=n) fun a g=>(a0 a (by omega)).1
     have c0:rc (rv (E.getD j.toNat dB).2.2.1*rv (rc (rv (rc c5)-rv (rc c6))))=rc (Kn E (GX ((n:Int),E) o X') j.toNat (ix o i.toNat)):=by
      rw[E6,E6,E6,cr,ct];rfl
     generalize ax:Kn E (GX ((n:Int),E) o X') j.toNat (ix o i.toNat)=S at c0;refine⟨fun q=>q.1=bc/\q.2.1=X2/\q.2.2.1=if S≠0 then H.set j.toNat (H.getD j.toNat []++ [((ix o i.toNat:Int),rc S)])else H,⟨⟨a4,J⟩, ?_⟩, ?_⟩
     . refine B9v (a:=rc c5) (b:=rc c6) ⟨qD _,by omega,di⟩ ⟨qD _,by omega,dj⟩ cq.symm cs.symm (Q7 bl (by decide)) (Q7 bn (by decide)) (U8 (ak.2.2 _ d1).1 (by decide)) (by rw[E6,E6];exact Q7 (HX bl bn) (by decide)) ?_ trP 0;rw[c0];refine⟨trivial, ?_⟩;rintro⟨dm,_⟩ _ a2;simp only at a2⊢;rw[E6]at a2;refine⟨fun M=> ?_,fun R=> ?_⟩
       . have M:S≠0:=fun e=>qA M (by rw[a2,e];rfl)
         refine⟨⟨a4,by omega⟩,⟨by rw[rH];omega,by rw[rH];omega⟩,⟨a4,by omega⟩,by trivial,by trivial,by trivial, ?_⟩;rw[qS M]
       . have R:S=0:=by
          have D:dm=0:=qU (qB R);rw[D]at a2;exact AQ a2.symm
         exact⟨by trivial,by trivial,by rw[qL (fun h=>h R)]⟩
     . rintro⟨dy,X3,dz,_⟩ _ ⟨c3,c4,ao⟩;simp only at c3 c4 ao⊢;rw[wv (by omega)];refine⟨⟨by omega,by omega,c3,c4, ?_,fun l A=> ?_⟩,by omega⟩
       . rw[ao];split
         . rw[qN];exact ah
         . exact ah
       . by_cases bo:l=j.toNat
         . subst bo;rw[qS (by omega),ao];by_cases a8:S≠0
           . rw[qS a8,B6 (by omega), <-ax];exact ai.add bq (by rw[ax];exact a8)
           . rw[qL a8];exact ai.skip bq (by rw[ax];exact qU a8)
         . have ad:=r l A;rw[ao];have:(if S≠0 then H.set j.toNat (H.getD j.toNat []++ [((ix o i.toNat:Int),rc S)])else H).getD l []=H.getD l []:=by
            split
            . exact D8 bo
            . rfl
           rw[this];by_cases bs:(l:Int)<j
           . rw[qS bs]at ad;rw[qS (by omega)];exact ad
           . rw[qL bs]at ad;rw[qL (by omega)];exact ad
   . have J:=qB J;rw[wv (by omega)];refine⟨⟨by omega,by omega,rfl,ah,X',fun a g z W=> ?_,fun a g c s=> ?_,fun l A=> ?_⟩,by omega⟩
     . by_cases b1:a=i.toNat
       . subst b1;rw[ay];exact cp z W
       . rw[b0 a (by omega)];exact a9 a (by omega) z W
     . by_cases b1:a=i.toNat
       . subst b1;rw[ay];exact bk c s
       . rw[b0 a (by omega)];exact aa a (by omega) c s
     . have:=r l A;rw[qS (by omega)]at this;rw[show(i+1).toNat=i.toNat+1 from by omega];exact this
 . have f:=qB f;have cy:i.toNat=o.length:=by omega
   rw[cy]at a9 aa aj;refine⟨by trivial,GX ((n:Int),E) o X, ?_,fun a b g P=> ?_,bb,fun l A=> ?_⟩
   . have b4:=A9e (N:=((n:Int),E)) u X (fun b P t a g=> ?_)
     . simp only[qM]at b4;rw[<-w]at b4;exact b4
     . simp only[qM, <-w]at P g⊢;obtain⟨Y,b5,rfl⟩:=c2 b P t;exact a9 Y b5 a g
   . unfold GX;split
     . exact P9 (by decide)
     . rename_i t;obtain⟨Y,b5,rfl⟩:=c2 b P t;rcases oR an (X (ix o Y)) a with h| ⟨c,s,_,h⟩
       . rw[h];exact P9 (by decide)
       . rw[h];exact aa Y b5 c s
   . have:=Hh.done (N:=((n:Int),E)) (G:=GX ((n:Int),E) o X) (l:=l) (row:=rows.getD l []) u (by simp only[qM];rw[<-w];exact aj l A) (fun c b P=>qS P);simp only[qM]at this;exact this
def JI:An:= {loop:= [(6,⟨[1,2,4,27,28],[0,1,2],[(6,false,[.own (.pair (.int .i64) (.int .i64)) 74]),(29,false,vI)],[],[]⟩),(18,⟨[1,2,9,10,11,70],[0,1],[(71,false,vI)],[],[(5, .row (.sl tE) 79)]⟩)],plan:= [(20,[2,7],[10],true,(.p 0 (.p 1 (.q 2 (pZ9 3 4 (.q 7 (.e 8 (.p 9 (.e 10 .done)))))))))]}
abbrev C3i:=List (Int×Int)×Int×Unit
def Po:A2 S8.args->Prop:=fun(x:B5v)=>let s:=(281474976710656:Int);let q:=x.1.2.length;let o:=(9223372036854775807:Int);let j:=(1:Int);let i:=(KO x.1.2);let g:=x.1.1.toNat;let e:=(0:Int);let c:=(↑q:Int);(I2 x.1->Al x.1)/\∀(r:A0p),WfM r.1/\L5 r.2.1/\True->(¬I2 x.1->r.1=zm/\r.2.1=j)/\(I2 x.1->Pw g g (ET x.1.2) r.1/\r.2.1=e)->(iB (decide (r.2.1≠e)) ((¬I2 x.1->r.2.1=j)/\(I2 x.1->r.2.1=e/\Cr Int=Ap x.1.1 i/\∃(G:Nat->Nat->Rat),Lz x.1 G/\(∀(a b:Nat),a<x.1.1.toNat->b<x.1.1.toNat->qs K0 (G a b))/\Pw x.1.2.length x.1.1.toNat (Kn x.1.2 G) (e,e,[])/\Pw x.1.2.length x.1.2.length (shF x.1.2 G) (e,e,[]))) ((e<=e/\e<=c/\(↑(16:Nat):Int)*c<=s/\c<=o)/\∃(I:C3i->Prop),∃(d: _->Nat),I (List.replicate e.toNat (e,e),e,())/\∀(p:C3i),let f:=(gx (e,e,dQ,(false,[]),[]) x.1.2 p.2.1);let n:=(f.1,f.2.1);let h:=(p.1++ [n],i64.wrap (p.2.1+j),());((Ty.int i64).pair (Ty.int i64)).sl.wf p.1/\(Ty.int i64).wf p.2.1/\True->I p->(iB (decide (p.2.1<c)) ((e<=p.2.1/\p.2.1<c)/\((p.1.length+ [n].length)*(16:Nat)<=(140737488355328:Nat)/\p.1.length+ [n].length<=9223372036854775807)/\I h/\d h<d p) (True/\∀(t:XU),TG t.1/\L5 t.2.1/\True->(t.1=if Rm x.1.1 p.1=e then Ap x.1.1 p.1 else [])/\t.2.1=Rm x.1.1 p.1->(iB (decide (t.2.1≠e)) ((¬I2 x.1->t.2.1=j)/\(I2 x.1->t.2.1=e/\Cr Int=Ap x.1.1 i/\∃(G:Nat->Nat->Rat),Lz x.1 G/\(∀(a b:Nat),a<x.1.1.toNat->b<x.1.1.toNat->qs K0 (G a b))/\Pw x.1.2.length x.1.1.toNat (Kn x.1.2 G) (e,e,[])/\Pw x.1.2.length x.1.2.length (shF x.1.2 G) (e,e,[]))) ((I2 x.1/\Al x.1/\Pw g g (ET x.1.2) r.1/\t.1=Ap x.1.1 i)/\∀(r:List (List EE)×Int×Unit),Qx r.1/\L5 r.2.1/\True->(r.2.1=e/\∃(G:Nat->Nat->Rat),Lz x.1 G/\(∀(a b:Nat),a<Int.toNat x.1.1->b<Int.toNat x.1.1->qs K0 (G a b))/\r.1.length=List.length x.1.2/\∀(l:Nat),l<List.length x.1.2->RP g (fun(b:Nat)=>Kn x.1.2 G l b) (r.1.getD l []))->(iB (decide (r.2.1≠e)) ((¬I2 x.1->r.2.1=j)/\(I2 x.1->r.2.1=e/\Cr Int=Ap x.1.1 i/\∃(G:Nat->Nat->Rat),Lz x.1 G/\(∀(a b:Nat),a<x.1.1.toNat->b<x.1.1.toNat->qs K0 (G a b))/\Pw x.1.2.length x.1.1.toNat (Kn x.1.2 G) (e,e,[])/\Pw x.1.2.length x.1.2.length (shF x.1.2 G) (e,e,[]))) ((e<=c/\c<=c/\(↑(24:Nat):Int)*c<=s/\c<=o)/\∃(I:nA->Prop),∃(d: _->Nat),I (e,List.replicate c.toNat [],())/\∀(p:nA),let m:=(gx [] r.1 p.1);(Ty.int i64).wf p.1/\Qx p.2.1/\True->I p->(iB (decide (p.1<c)) ((e<=p.1/\p.1<(r.1.length:Int))/\(I2 x.1/\Al x.1/\e<=p.1/\p.1<c/\DO K2 m)/\gS fun u=>let f:=(i64.wrap (p.1+j),List.set p.2.1 p.1.toNat u.1,());RP q (fun(k:Nat)=>Oe x.1.2 k*(A5 m (↑(Fa x.1.2 k):Int)-A5 m (↑(Ez x.1.2 k):Int)+if(↑k:Int)=p.1 then(1:Rat)else(0:Rat))) u.1->(e<=p.1/\p.1<(p.2.1.length:Int))/\I f/\d f<d p) ((¬I2 x.1->e=j)/\(I2 x.1->e=e/\t.1=Ap x.1.1 i/\∃(G:Nat->Nat->Rat),Lz x.1 G/\(∀(a b:Nat),a<x.1.1.toNat->b<x.1.1.toNat->qs K0 (G a b))/\Pw x.1.2.length x.1.1.toNat (Kn x.1.2 G) (c,x.1.1,r.1)/\Pw x.1.2.length x.1.2.length (shF x.1.2 G) (c,c,p.2.1))))))))))))
def OD {N:Ge} {G:Nat->Nat->Rat} (n:I2 N) (k:Al N) (j:∀e∈N.2,Ik e.2.2.1) (c:∀a b,a<N.1.toNat->b<N.1.toNat->qs K0 (G a b)) {l b:Nat} (f:l<N.2.length) (d:b<N.1.toNat):qs (2+(K0+K0+1)) (Kn N.2 G l b):=by
 have g:N.2.getD l dB∈N.2:=C6 f;obtain⟨h,i⟩:=UD n f;exact Zz (Gz (j _ g) (k.2.2 _ g).1 (by decide)) (HX (c _ _ h d) (c _ _ i d))
def CB (x:A2 S8.args) (a:awf S8.args x) (c:S8.pre x):Po x:=by
 obtain⟨⟨n,E⟩,_⟩:=x;have r:∀e∈E,Ik e.2.2.1:=fun e f=>Ja (a.1.2.2 e f).2.2.1
 change Int at n;change List Yd at E;have c:I2 (n,E)->Al (n,E):=c;simp only[Po,iB,gS,g4o];refine⟨c, ?_⟩;rintro⟨m,e,_⟩ _ ⟨d,g⟩;change Int at e;simp only at d g⊢;by_cases a:I2 (n,E)
 case neg=>
  obtain⟨_,rfl⟩:=d a;exact⟨fun _=>⟨fun _=>rfl,fun h=>absurd h a⟩,fun h=>by simp at h⟩
 obtain⟨o,rfl⟩:=g a;clear d g;refine⟨fun h=>by simp at h,fun _=> ?_⟩;have g:=c a;have c:E.length<=9:=g.2.1;have c:n<=7:=g.1;have A:0<=n:=a.1;refine⟨⟨qI _,qD _,by omega,by omega⟩,fun p=>0<=p.2.1/\p.2.1<=(E.length:Int)/\p.1=KO (E.take p.2.1.toNat),fun p=>((E.length:Int)-p.2.1).toNat,⟨qI _,qD _,rfl⟩, ?_⟩;rintro⟨l,c,_⟩ _ ⟨i,j,d⟩;change List Ln at l;change Int at c;simp only at i j d⊢;have k:l.length<=16384:=by rw[d];unfold KO;rw[tK,qW];omega
 refine⟨fun c=> ?_,fun c=>⟨trivial, ?_⟩⟩
 . have c:=qA c;rw[wv (by omega)];have j:∀z:Nat,z<=16384->(z+1)*16<=140737488355328/\z+1<=9223372036854775807:=fun z j=>⟨by omega,by omega⟩
   exact⟨⟨i,c⟩,j _ k,⟨by omega,by omega,by rw[B1o i c,d];rfl⟩,by omega⟩
 have c:=qB c;rw[D7 (by omega)]at d;subst d;rintro⟨sl,e,_⟩ _ ⟨l,c⟩;change List Int at sl;change Int at e;simp only at l c⊢;have d:Rm n (KO E)=0:=A2e.2 (gB a);rw[qS d]at l;rw[d]at c;subst c;refine⟨fun h=>by simp at h,fun _=>⟨⟨a,g,o,l⟩, ?_⟩⟩;rintro⟨T,e,_⟩ _ ⟨f,G,u,o,v,s⟩;change List (List C9)at T;change Int at e;simp only at f u o v s⊢;subst f;refine⟨fun h=>by simp at h,fun _=> ?_⟩;have y:∀k b,k<E.length->b<n.toNat->qs K2 (Kn E G k b):=fun k b f hb=>K7 (OD (N:=(n,E)) a g r o f hb) (by decide)
 simp only[qM];refine⟨⟨qD _,qI _,by omega,by omega⟩,fun p=>0<=p.1/\p.1<=(E.length:Int)/\p.2.1.length=E.length/\∀k:Nat,(k:Int)<p.1->RP E.length (shF E G k) (p.2.1.getD k []),fun p=>((E.length:Int)-p.1).toNat,⟨qI _,qD _,rJ,fun k f=>by simp only at f;omega⟩, ?_⟩;rintro⟨j,S,_⟩ _ ⟨i,c,r,n⟩;change Int at j;change List (List C9)at S;simp only at i c r n⊢;refine⟨fun c=> ?_,fun c=> ?_⟩
 . have c:=qA c;have w:j.toNat<E.length:=by omega
   have t:gx [] T j=T.getD j.toNat []:=G9 i (by omega);have d:=s j.toNat w;have B:=fU d;have B:((j.toNat:Nat):Int)=j:=by omega
   rw[t];refine⟨⟨i,by omega⟩,⟨a,g,i,c,d.1.1,JO d.1 fun t=> ?_,by omega⟩, ?_⟩
   . rw[JU d];split
     . exact y _ _ w (by omega)
     . exact P9 (by decide)
   rintro⟨w,_⟩ _ g;change List C9 at w;simp only at g⊢;rw[wv (by omega)];refine⟨⟨i,by omega⟩,⟨by omega,by omega,by rw[qN];exact r,fun k f=> ?_⟩,by omega⟩;by_cases w:k=j.toNat
   . subst w;rw[B6 (by omega)];refine A4i g fun t y=> ?_
     obtain⟨g,i⟩:=UD a y;simp only at g i;unfold shF;rw[d.2.2 _ g,d.2.2 _ i];by_cases d:t=j.toNat
     . rw[qS (by omega),qS d]
     . rw[qL (by omega),qL d]
   . rw[D8 w];exact n k (by omega)
 . have c:=qB c;refine⟨fun h=>absurd a h,fun _=>⟨by trivial,l,G,u,o,⟨rfl, ?_,v,s⟩,⟨rfl,rfl,r,fun k f=>n k (by omega)⟩⟩⟩;exact(sN A).symm
end Go.Proofs.YtiflhbllbgajeaaGreat
namespace Go.Proofs.YtiflhbllbgajeaaGreat
open Go.Proofs.Tryz
open Go Go.Vc Go.Gw
open Go.IntKind (i64 u32)
def sq1:Code->Code
 | .seq a _=>a
 |c=>c
def sq2:Code->Code
 | .seq _ b=>b
 |c=>c
def C2b:Code->Array Oper
 | .region _ ops _=>ops
 | _=> #[]
noncomputable def nO (i:Nat):Code:=(List.range i).foldl (fun c _=>sq2 c) (f10.body.getD .skip)
noncomputable def Kl:List Oper:=(C2b (sq1 (nO 4))).toList
noncomputable def Cg (i:Nat):Oper:=Kl.getD i default
noncomputable abbrev RN:Cx:=⟨prog,tys⟩
def MD (x:QQ):DV:= .one ⟨true,explode tQ x⟩
def awL (l:List QQ):DV:= .one ⟨false,[.val (.sl tQ) l]⟩
def awV (l:List (List QQ)):DV:= .one ⟨false,[.val (.sl (.sl tQ)) l]⟩
abbrev iE:Ty:= .pair (.int .i64) (.pair (.int .i64) (.sl (.sl tE)))
def awM (m:MM):DV:= .one ⟨true,explode iE m⟩
def TZ (a b z:QQ):List (List QQ):= [[z,rc (-rv b),rc (-rv a)],[z,a,rc (-rv a)],[z,rc (-rv a),rc (-rv b)]]
def Xq:H0:= [(9,S8),(16,Bw),(17,Iu),(19,V5),(23,Lq),(34,Ir),(40,Sp),(41,S6)]
def awZ:LC:= .box 29 (Ki iE)
def Cl (a b z:QQ) (m:MM):Nat->Option (Nat×DV)
 |24=>some (0,MD z)
 |25=>some (1,MD b)
 |26=>some (2,MD (rc (-rv b)))
 |27=>some (3,MD a)
 |28=>some (4,MD (rc (-rv a)))
 |29=>some (5,awL [z,rc (-rv b),rc (-rv a)])
 |30=>some (6,MD z)
 |31=>some (7,MD a)
 |32=>some (8,MD a)
 |33=>some (9,MD (rc (-rv a)))
 |34=>some (10,awL [z,a,rc (-rv a)])
 |35=>some (11,MD z)
 |36=>some (12,MD a)
 |37=>some (13,MD (rc (-rv a)))
 |38=>some (14,MD b)
 |39=>some (15,MD (rc (-rv b)))
 |40=>some (16,awL [z,rc (-rv a),rc (-rv b)])
 |41=>some (17,awV (TZ a b z))
 |42=>some (18,awM m)
 |7=>some (19,one1 (.box 6 0))
 | _=>none
structure AwB (st:St) (a b z:QQ):Prop where
 nx:st.nx=6
 nm:st.nm<=6
 fr:st.fr= []
 s4:st.S 4=one1 (.box 3 0)
 s5:st.S 5=one1 (.box 4 0)
 s6:st.S 6=one1 (.box 5 0)
 l3:st.L 3= .box 43 (explode tQ a)
 l4:st.L 4= .box 43 (explode tQ b)
 l5:st.L 5= .box 43 (explode tQ z)
 dd:∀s,24<=s\/s=7->st.S s= .dead
 nc:∀d s,Ma d (st.S s)=false
 rf:∀s,Ny 6 (st.S s)
 rl:∀k,Ld 6 (st.L k)
 fh:∀k,6<=k->st.L k= .none
structure QM (s0:St) (a b z:QQ) (m:MM) (L:List Nat) (st:St):Prop where
 nx:st.nx=if 19∈L then 7 else 6
 nm:st.nm=s0.nm
 fr:st.fr= []
 S:∀s,st.S s=match Cl a b z m s with
  |some (i,v)=>if i∈L then v else .dead
  |none=>s0.S s
 L:∀k,st.L k=if k=6 then(if 19∈L then awZ else .none)else s0.L k
section
variable {s0 st:St} {a b z:QQ} {m:MM} {L:List Nat}
def A7d (a b z:QQ) (m:MM) {s i:Nat} {v:DV} (h:Cl a b z m s=some (i,v)) (d:Nat):Ma d v=false:=by
 unfold Cl at h;split at h<;>first| (cases h;rfl) |cases h
def A7e (a b z:QQ) (m:MM) {s i:Nat} {v:DV} (h:Cl a b z m s=some (i,v)):Ny (if i=19 then 7 else 0) v:=by
 unfold Cl at h;split at h<;>first
  | (cases h;intro d c;simp only[MD,awL,awV,awM,one1,explode,qG,rY,vF,wD,vG]at c;rcases c with rfl|rfl|rfl<;>trivial)
  | (cases h;intro d c;simp only[MD,awL,awV,awM,one1,explode,qG,rY,vF,wD,vG]at c;subst c;first|trivial| (show(6:Nat)<7;omega))
  |cases h
def QM.nc (h:QM s0 a b z m L st) (c:AwB s0 a b z) (d s:Nat):Ma d (st.S s)=false:=by
 rw[h.S];split
 . rename_i i v e;split
   . exact A7d a b z m e d
   . rfl
 . exact c.nc d s
def gW {n k:Nat} (a:n<=k):∀ {d:DV},Ny n d->Ny k d
 | .one _,h=>fun c b=>(h c b).le a
 | .tup _,h=>fun s f c b=>(h s f c b).le a
 | .cnd _ _ _,h=>fun c b=>(h c b).le a
 | .dead,_=>trivial
def QM.rf (h:QM s0 a b z m L st) (f:AwB s0 a b z) (s:Nat):Ny st.nx (st.S s):=by
 have d:6<=st.nx:=by rw[h.nx];split<;>omega
 rw[h.S];split
 . rename_i i v e;split
   . rename_i g;refine gW ?_ (A7e a b z m e);by_cases c:i=19
     . subst c;rw[h.nx,qS g,qS rfl];exact qZ _
     . rw[qL c];exact rM _
   . trivial
 . exact gW d (f.rf s)
def A2o {n k:Nat} (a:n<=k):∀ {l:LC},Ld n l->Ld k l:=fun {l} h=>by
 cases l with
 |box T b=>exact fun c b=>(h c b).le a
 |rows _ _ _ _ al _=>exact fun p b=>rB (h p b) a
 |mapE _ _ _ _ _ _ q=>exact rB h a
 |sbox q _ _=>exact rB h a
 |nest _ _ _ _ b _=>exact fun p b=>rB (h p b) a
 |itM _ _ _ _ _ _ _ q=>exact rB h a
 | _=>trivial
def B7o (n:Nat):Ld n awZ:=fun c a=>by
 obtain⟨v,_,rfl⟩:=tA.1 (show c∈List.map Ka (Dl iE)from a);unfold Ka;split
 . rename_i k i h;generalize (decide (k.min<=i)&&decide (i<=k.max))=q;cases q<;>trivial
 . trivial
 . trivial
 . generalize Value.oneCell' _=q;cases q<;>trivial
def QM.rl (h:QM s0 a b z m L st) (d:AwB s0 a b z) (k:Nat):Ld st.nx (st.L k):=by
 have c:6<=st.nx:=by rw[h.nx];split<;>omega
 rw[h.L];split
 . split
   . exact B7o _
   . trivial
 . exact A2o c (d.rl k)
def QM.fh (h:QM s0 a b z m L st) (f:AwB s0 a b z) (k:Nat) (c:st.nx<=k):st.L k= .none:=by
 rw[h.nx]at c;rw[h.L];by_cases d:19∈L
 . rw[qS d]at c;rw[qL (by omega)];exact f.fh k (by omega)
 . rw[qL d]at c;split
   . rfl
   . exact f.fh k (by omega)
def QM.nn (h:QM s0 a b z m L st) (c:AwB s0 a b z):st.nm<=st.nx:=by
 have:=c.nm;rw[h.nm,h.nx];split<;>omega
def QM.at (h:QM s0 a b z m L st) {s i:Nat} {v:DV} (d:Cl a b z m s=some (i,v)) (c:i∈L):st.S s=v:=by
 rw[h.S,d];exact qS c
def aW (a b z:QQ) (m:MM) {s d i:Nat} {u v:DV} (h:Cl a b z m d=some (i,v)) (c:Cl a b z m s=some (i,u)):s=d:=by
 unfold Cl at h c;split at h<;>cases h<;>(split at c<;>first|rfl|cases c)
def QM.val (h:QM s0 a b z m L st) {i d:Nat} {v:DV} (k:Cl a b z m d=some (i,v)) (g:i≠19):QM s0 a b z m (i::L) (hd1 st d v):=by
 have c:∀j,j≠i->(j∈i::L↔j∈L):=fun j hj=>⟨fun hh=>(qG.1 hh).resolve_left hj,qJ _⟩
 refine⟨?_,h.nm,h.fr,fun s=> ?_,fun o=> ?_⟩
 . show st.nx= _;rw[h.nx];simp only[c 19 (Ne.symm g)]
 . rw[FT];by_cases f:s=d
   . subst f;rw[qS rfl,k];exact(qS (rA)).symm
   . rw[qL f,h.S];cases l:Cl a b z m s with
     |none=>rfl
     |some p=>
      obtain⟨j,u⟩:=p;have n:j≠i:=fun e=>f (by subst e;exact aW a b z m k l)
      simp only[c j n]
 . show st.L o= _;rw[h.L];simp only[c 19 (Ne.symm g)]
end
section
variable {za:Zn} {w0:World} {s0 st:St} {a b z:QQ} {m:MM} {L:List Nat} {E:F9} {w:World} {Z:Nat->Prop} {B:Nat->Value}
def AwH (a b z:QQ) (m:MM) (L:List Nat):Prop:=18∈L->WfM m/\Pw 3 3 (fun i j=>rv (((TZ a b z).getD i []).getD j zr)) m
def AwH.up {i:Nat} (h:AwH a b z m L) (d:18≠i):AwH a b z m (i::L):=fun c=>h ((qG.1 c).resolve_left d)
def AwI (za:Zn) (w0:World) (s0:St) (a b z:QQ) (L:List Nat) (E:F9) (w:World):Prop:=∃m st Z B,B7 za w0 st E w Z B/\QM s0 a b z m L st/\AwH a b z m L
def oH (f:AwB s0 a b z) (g:QM s0 a b z m L st) {i d:Nat} {v:DV} (t:Cl a b z m d=some (i,v)) (j:i≠19) {c:St} (h:B7 za w0 (c.setS d v) E w Z B) (n:∀s,c.S s=st.S s) (l:∀k,c.L k=st.L k) (r:c.nm=st.nm) (o:c.fr= []):B7 za w0 (hd1 st d v) E w Z B:=by
 have c:=g.val t j;refine h.look (fun s=> .inl ?_) (fun k=>(l k).symm) r.symm (c.nn f) c.fr o (c.rf f) (c.rl f) (c.fh f);rw[FT,St.S_setS,n];by_cases c:s=d
 . rw[qS c,qS c]
 . rw[qL c,qL c,g.nc f d s];rfl
def Jy {st:St} {d:Nat} {v:DV} (h:st.S d=v) (s:Nat):(hd1 st d v).S s=st.S s:=by
 rw[FT];split
 . rename_i e;subst e;exact h.symm
 . rfl
def A6t {st:St} {d:Nat} {v:LC} (h:st.L d=v) (s:Nat):(hdL st d v).L s=st.L s:=by
 rw[A0v];split
 . rename_i e;subst e;exact h.symm
 . rfl
variable {i d s k:Nat} {v:QQ} (hsp:Jc prog Xq) (hb0:za.b0=0) (hB:AwB s0 a b z) (h:B7 za w0 st E w Z B) (g:QM s0 a b z m L st)
include hsp hb0 hB h g
theorem Kx (r:AwH a b z m L) (e:∀K,Ko RN Xq Kl (Cg i) K (hdL (hd1 st s (one1 (.box k 0))) k (.box 43 (explode tQ v)))=K ((hdL (hd1 st s (one1 (.box k 0))) k (.box 43 (explode tQ v))).setS d (MD v))) (j:st.S s=one1 (.box k 0)) (n:st.L k= .box 43 (explode tQ v)) (l:Cl a b z m d=some (i,MD v)) (c:i≠19) (o:18≠i):Gw.I5 prog Kl (Cg i) (AwI za w0 s0 a b z (i::L)) E w:=by
 have f:(hd1 st s (one1 (.box k 0))).L k= .box 43 (explode tQ v):=n;refine B9 ?_ (Hf (cx:=RN) (k:=fun n=>n=(hdL (hd1 st s (one1 (.box k 0))) k (.box 43 (explode tQ v))).setS d (MD v)) ((h.hd1 j).hdL f) (.inl hb0) A4 hsp (by rw[e]));rintro E' t ⟨_,_,Z',B',n,rfl⟩;exact⟨m,_,Z',B',oH hB g l c n (Jy j) (A6t f) rfl g.fr,g.val l c,r.up o⟩
theorem UA (o:AwH a b z m L) (e:∀K,Ko RN Xq Kl (Cg i) K (hd1 st s (MD v))=(E3 v/\∀r:QQ×Unit,ED r.1/\True->r.1=rc (-rv v)->K ((hd1 st s (MD v)).setS d (MD r.1)))) (f:st.S s=MD v) (j:Cl a b z m d=some (i,MD (rc (-rv v)))) (c:i≠19) (n:18≠i) (l:E3 v):Gw.I5 prog Kl (Cg i) (AwI za w0 s0 a b z (i::L)) E w:=by
 refine B9 ?_ (Hf (cx:=RN) (k:=fun u=>u=(hd1 st s (MD v)).setS d (MD (rc (-rv v)))) (h.hd1 f) (.inl hb0) A4 hsp ((e _).mpr ⟨l,fun r _ t=>tS (fun q=>(hd1 st s (MD v)).setS d (MD q)) t⟩));rintro E' t ⟨_,_,Z',B',l,rfl⟩;exact⟨m,_,Z',B',oH hB g j c l (Jy f) (fun _=>rfl) rfl g.fr,g.val j c,o.up n⟩
theorem eF (A:AwH a b z m L) {t:Ty} {q:Nat} {l:List t.den} {c f j:Nat} {v1 v2 n:DV} (e:∀K,Ko RN Xq Kl (Cg i) K (hd1 (hd1 (hd1 st c v1) f v2) j n)=K (rowS (hd1 (hd1 (hd1 st c v1) f v2) j n) d t q l)) (o:st.S c=v1) (r:st.S f=v2) (B:st.S j=n) (D:Cl a b z m d=some (i, .one ⟨false,[.val (.sl t) l]⟩)) (y:i≠19) (x:18≠i):Gw.I5 prog Kl (Cg i) (AwI za w0 s0 a b z (i::L)) E w:=by
 have u:(hd1 st c v1).S f=v2:=(Jy o _).trans r;have v:(hd1 (hd1 st c v1) f v2).S j=n:=((Jy u _).trans (Jy o _)).trans B;have r:∀s,(hd1 (hd1 (hd1 st c v1) f v2) j n).S s=st.S s:=fun s=>((Jy v s).trans (Jy u s)).trans (Jy o s)
 refine B9 ?_ (Hf (cx:=RN) (k:=fun s0=>s0=rowS (hd1 (hd1 (hd1 st c v1) f v2) j n) d t q l) (((h.hd1 o).hd1 u).hd1 v) (.inl hb0) A4 hsp (by rw[e]));rintro E' u ⟨_,_,Z',B',o,rfl⟩;obtain⟨Z2,u⟩:=o.unrow (g.nn hB) g.fr (fun s=>by rw[r];exact g.rf hB s) (g.rl hB) (g.fh hB) (fun s=>by rw[r];exact g.nc hB _ s);have o:=g.val D y;refine⟨m,hd1 st d (.one ⟨false,[.val (.sl t) l]⟩),Z2,B',u.look (fun s=> .inl ?_) (fun _=>rfl) rfl (o.nn hB) o.fr g.fr (o.rf hB) (o.rl hB) (o.fh hB),o,A.up x⟩;rw[FT st,FT (hd1 (hd1 (hd1 st c v1) f v2) j n),r]
omit hsp hb0 hB h g
theorem B3i {a b z:QQ} (m M:MM) {s:Nat} (c:s≠42):Cl a b z m s=Cl a b z M s:=by
 unfold Cl;split<;>first|rfl|exact absurd rfl c
theorem QM.chg (g:QM s0 a b z m L st) (c:18∉L) (M:MM):QM s0 a b z M L st:=by
 refine⟨g.nx,g.nm,g.fr,fun s=> ?_,g.L⟩;rw[g.S];by_cases d:s=42
 . subst d;show(if 18∈L then _ else _)=(if 18∈L then _ else _);rw[qL c,qL c]
 . rw[B3i m M d]
set_option maxRecDepth 100000 in
theorem C0q (hsp:Jc prog Xq) (hb0:za.b0=0) (hB:AwB s0 a b z) (h:B7 za w0 st E w Z B) (g:QM s0 a b z m L st) (n:18∉L) (f:17∈L) (c:∀l∈TZ a b z,KV K1 l/\(l.length:Int)=3):Gw.I5 prog Kl (Cg 18) (AwI za w0 s0 a b z (18::L)) E w:=by
 have d:st.S 41=awV (TZ a b z):=g.at (i:=17) rfl f;have e:∀K,Ko RN Xq Kl (Cg 18) K (hd1 st 41 (awV (TZ a b z)))=(((∀(l:List QQ),l∈TZ a b z->KV K1 l/\(↑l.length:Int)=(3:Int))/\(0:Int)<=(3:Int)/\(3:Int)<=(16384:Int)/\(TZ a b z).length<=(16384:Nat))/\∀(r:MM×Unit),WfM r.1/\True->Pw (TZ a b z).length (Int.toNat (3:Int)) (fun(i j:Nat)=>rv (((TZ a b z).getD i []).getD j zr)) r.1->K ((hd1 st 41 (awV (TZ a b z))).setS 42 (awM r.1))):=fun K=>by kernel_rfl
 refine B9 ?_ (Hf (cx:=RN) (k:=fun s=>∃M,(WfM M/\Pw 3 3 (fun i j=>rv (((TZ a b z).getD i []).getD j zr)) M)/\s=(hd1 st 41 (awV (TZ a b z))).setS 42 (awM M)) (h.hd1 d) (.inl hb0) A4 hsp ((e _).mpr ⟨⟨c,by decide,by decide,(by decide:3<=16384)⟩,fun r o f=>⟨r.1,⟨o.1,f⟩,rfl⟩⟩));rintro E' c ⟨_,_,Z',B',f,M,j,rfl⟩;have c:=g.chg n M;exact⟨M,_,Z',B',oH hB c rfl (by decide) f (Jy d) (fun _=>rfl) rfl g.fr,c.val rfl (by decide),fun _=>j⟩
set_option maxRecDepth 100000 in
theorem C0r (hsp:Jc prog Xq) (hb0:za.b0=0) (hB:AwB s0 a b z) (h:B7 za w0 st E w Z B) (g:QM s0 a b z m L st) (t:AwH a b z m L) (c:19∉L):Gw.I5 prog Kl (Cg 19) (AwI za w0 s0 a b z (19::L)) E w:=by
 have e:∀K,Ko RN Xq Kl (Cg 19) K st=K (boxS st 7 29 (Ki iE)):=fun K=>by kernel_rfl
 refine B9 ?_ (Hf (cx:=RN) (k:=fun f=>f=boxS st 7 29 (Ki iE)) h (.inl hb0) A4 hsp (by rw[e]));rintro E' f ⟨_,_,Z',B',n,rfl⟩;have l:st.nx=6:=by rw[g.nx,qL c]
 have r:∀j,j≠19->(j∈19::L↔j∈L):=fun j hj=>⟨fun hh=>(qG.1 hh).resolve_left hj,qJ _⟩
 have f:QM s0 a b z m (19::L) ⟨(7,0,one1 (.box 6 0))::st.sl,(6,0,awZ)::st.lc,7,st.ct,st.nm,st.fr⟩:=by
  refine⟨(qS rA).symm,g.nm,g.fr,fun s=> ?_,fun k=> ?_⟩
  . refine(FT st 7 s (one1 (.box 6 0))).trans ?_;by_cases c:s=7
    . subst c;rw[qS rfl];exact(qS (rA)).symm
    . rw[qL c,g.S];cases i:Cl a b z m s with
      |none=>rfl
      |some p=>
       obtain⟨j,u⟩:=p;have o:j≠19:=fun e=>c (by subst e;exact aW a b z m (d:=7) (v:=one1 (.box 6 0)) rfl i)
       simp only[r j o]
  . refine(A0v st 6 k awZ).trans ?_;by_cases i:k=6
    . rw[qS i,qS i];exact(qS rA).symm
    . rw[qL i,qL i,g.L,qL i]
 refine⟨m,⟨(7,0,one1 (.box 6 0))::st.sl,(6,0,awZ)::st.lc,7,st.ct,st.nm,st.fr⟩,Z',B',n.look (fun s=> .inl ?_) (fun k=> ?_) rfl (f.nn hB) f.fr g.fr (f.rf hB) (f.rl hB) (f.fh hB),f,t.up (by decide)⟩
 . refine(FT st 7 s (one1 (.box 6 0))).trans ?_;show _=((st.newL _).setS 7 (one1 (.box st.nx 0))).S s;rw[St.S_setS,St.S_newL,l];by_cases c:s=7
   . rw[qS c,qS c]
   . rw[qL c,qL c,g.nc hB 7 s];rfl
 . refine(A0v st 6 k awZ).trans ?_;show _=(st.newL (.box 29 (Ki iE))).L k;rw[St.L_newL,l];rfl
set_option maxRecDepth 100000 in
theorem C0s (hsp:Jc prog Xq) (hb0:za.b0=0) (hB:AwB s0 a b z) (h:B7 za w0 st E w Z B) (g:QM s0 a b z m L st) (d:18∈L) (l:19∈L) {k:St->Prop} (hK:k (boxS s0 7 29 (explode iE m))):Gw.I5 prog Kl (Cg 20) (Nx za w0 k) E w:=by
 have c:st.S 7=one1 (.box 6 0):=g.at (i:=19) rfl l;have f:st.S 42=awM m:=g.at (i:=18) rfl d;have d:st.L 6=awZ:=(g.L 6).trans ((qS rfl).trans (qS l));have o:(hd1 st 7 (one1 (.box 6 0))).S 42=awM m:=(Jy c _).trans f;have r:(hd1 (hd1 st 7 (one1 (.box 6 0))) 42 (awM m)).L 6=awZ:=d;have e:∀K,Ko RN Xq Kl (Cg 20) K (hdL (hd1 (hd1 st 7 (one1 (.box 6 0))) 42 (awM m)) 6 awZ)=K ((hdL (hd1 (hd1 st 7 (one1 (.box 6 0))) 42 (awM m)) 6 awZ).setL 6 (.box 29 (explode iE m))):=fun K=>by kernel_rfl
 refine B9 ?_ (Hf (cx:=RN) (k:=fun d=>d=(hdL (hd1 (hd1 st 7 (one1 (.box 6 0))) 42 (awM m)) 6 awZ).setL 6 (.box 29 (explode iE m))) (((h.hd1 c).hd1 o).hdL r) (.inl hb0) A4 hsp (by rw[e]));rintro E' f ⟨_,_,Z',B',d,rfl⟩;have n:∀s,(boxS s0 7 29 (explode iE m)).S s=if s=7 then one1 (.box 6 0)else s0.S s:=fun s=>by
  show((s0.newL _).setS 7 (one1 (.box s0.nx 0))).S s= _;rw[St.S_setS,St.S_newL,hB.nx];by_cases c:s=7
  . rw[qS c,qS c]
  . rw[qL c,qL c,hB.nc 7 s];rfl
 have j:∀q,(boxS s0 7 29 (explode iE m)).L q=if q=6 then .box 29 (explode iE m)else s0.L q:=fun q=>by
  show(s0.newL (.box 29 (explode iE m))).L q= _;rw[St.L_newL,hB.nx]
 have f:(boxS s0 7 29 (explode iE m)).nx=7:=by show s0.nx+1=7;rw[hB.nx]
 refine⟨boxS s0 7 29 (explode iE m),Z',B',d.look (fun s=> ?_) (fun q=> ?_) g.nm.symm (by rw[f];exact qY hB.nm (by omega)) hB.fr g.fr (fun s=> ?_) (fun q=> ?_) (fun q d=> ?_),hK⟩
 . show(boxS s0 7 29 (explode iE m)).S s=(hd1 (hd1 st 7 (one1 (.box 6 0))) 42 (awM m)).S s\/ _;rw[n,Jy o,Jy c,g.S];by_cases c:s=7
   . subst c;exact .inl ((qS rfl).trans (qS l).symm)
   . rw[qL c];by_cases c:24<=s
     . exact .inr (hB.dd s (.inl c))
     . refine .inl ?_;have:Cl a b z m s=none:=by
        unfold Cl;split<;>first|rfl|omega
       rw[this]
 . show(boxS s0 7 29 (explode iE m)).L q= _;rw[j,St.L_setL];by_cases d:q=6
   . rw[qS d,qS d]
   . rw[qL d,qL d,A6t r];show s0.L q=st.L q;rw[g.L,qL d]
 . rw[n,f];split
   . intro l c;simp only[one1,qP]at c;subst c;show(6:Nat)<7;omega
   . exact gW (by omega) (hB.rf s)
 . rw[j,f];split
   . intro l c;simp only[explode,qG,rY,vF,wD,vG]at c;rcases c with rfl|rfl|rfl<;>trivial
   . exact A2o (by omega) (hB.rl q)
 . rw[f]at d;rw[j,qL (by omega)];exact hB.fh q (by omega)
theorem C0t:O0 (Cg 0)= []:=by kernel_rfl
theorem C0u:O0 (Cg 1)= []:=by kernel_rfl
theorem B6q:O0 (Cg 2)= [1]:=by kernel_rfl
theorem C0v:O0 (Cg 3)= []:=by kernel_rfl
theorem B6r:O0 (Cg 4)= [3,2]:=by kernel_rfl
theorem A1c:O0 (Cg 5)= [0,2,4]:=by kernel_rfl
theorem C0w:O0 (Cg 6)= []:=by kernel_rfl
theorem C0x:O0 (Cg 7)= []:=by kernel_rfl
theorem C0y:O0 (Cg 8)= []:=by kernel_rfl
theorem B6s:O0 (Cg 9)= [8,4]:=by kernel_rfl
theorem eG:O0 (Cg 10)= [6,7,9]:=by kernel_rfl
theorem B7r:O0 (Cg 11)= []:=by kernel_rfl
theorem B7s:O0 (Cg 12)= []:=by kernel_rfl
theorem A7j:O0 (Cg 13)= [12,9]:=by kernel_rfl
theorem B7t:O0 (Cg 14)= []:=by kernel_rfl
theorem A7k:O0 (Cg 15)= [14,13]:=by kernel_rfl
theorem eH:O0 (Cg 16)= [11,13,15]:=by kernel_rfl
theorem eI:O0 (Cg 17)= [5,10,16]:=by kernel_rfl
theorem A7l:O0 (Cg 18)= [17,15]:=by kernel_rfl
theorem B7u:O0 (Cg 19)= []:=by kernel_rfl
theorem MV:O0 (Cg 20)= [19,18,18,0,1,2,3,4,5,6,7,8,9,10,11,12,13,14,15,16,17,18,19]:=by kernel_rfl
theorem A7h:Kl.length=21:=by kernel_rfl
theorem B3j:sq1 (nO 4)= .region 4 (C2b (sq1 (nO 4))) true:=by kernel_rfl
theorem A7i:prog.follows .mixedOrders=true:=by kernel_rfl
theorem A7g {i:Nat} {o:Oper} (h:Kl[i]? =some o):i<21/\o=Cg i:=by
 have a:=(sB.1 h).1;rw[A7h]at a;refine⟨a, ?_⟩;unfold Cg;rw[qF,h];rfl
theorem B7p {i j:Nat} (b:i<21) (a:j∈O0 (Cg i)):j<i:=by
 rcases(show i=0\/i=1\/i=2\/i=3\/i=4\/i=5\/i=6\/i=7\/i=8\/i=9\/i=10\/i=11\/i=12\/i=13\/i=14\/i=15\/i=16\/i=17\/i=18\/i=19\/i=20 by omega)with rfl|rfl|rfl|rfl|rfl|rfl|rfl|rfl|rfl|rfl|rfl|rfl|rfl|rfl|rfl|rfl|rfl|rfl|rfl|rfl|rfl
 . rw[C0t]at a;cases a
 . rw[C0u]at a;cases a
 . rw[B6q]at a;simp only[qG,rY,vF]at a;omega
 . rw[C0v]at a;cases a
 . rw[B6r]at a;simp only[qG,rY,vF]at a;omega
 . rw[A1c]at a;simp only[qG,rY,vF]at a;omega
 . rw[C0w]at a;cases a
 . rw[C0x]at a;cases a
 . rw[C0y]at a;cases a
 . rw[B6s]at a;simp only[qG,rY,vF]at a;omega
 . rw[eG]at a;simp only[qG,rY,vF]at a;omega
 . rw[B7r]at a;cases a
 . rw[B7s]at a;cases a
 . rw[A7j]at a;simp only[qG,rY,vF]at a;omega
 . rw[B7t]at a;cases a
 . rw[A7k]at a;simp only[qG,rY,vF]at a;omega
 . rw[eH]at a;simp only[qG,rY,vF]at a;omega
 . rw[eI]at a;simp only[qG,rY,vF]at a;omega
 . rw[A7l]at a;simp only[qG,rY,vF]at a;omega
 . rw[B7u]at a;cases a
 . rw[MV]at a;simp only[qG,rY,vF]at a;omega
set_option maxRecDepth 100000 in
theorem A3j {n:Nat} (hsp:Jc prog Xq) (hb0:za.b0=0) (hB:AwB s0 a b z) (y:E3 a) (F:E3 b) (J:∀l∈TZ a b z,KV K1 l/\(l.length:Int)=3) (h:B7 za w0 s0 E w Z B) {k:St->Prop} (hK:∀M,WfM M->Pw 3 3 (fun i j=>rv (((TZ a b z).getD i []).getD j zr)) M->k (boxS s0 7 29 (explode iE M))):Gw.Wp prog n (sq1 (nO 4)) (post za w0 ⟨k,fun _ _=>False,fun _=>False⟩) E w:=by
 rw[B3j];have H:=h.more (Z':=Z) (w':=w.drew) (R7.refl w).drew (fun _ h=>h) (fun _=> .inl);refine B5d (Inv:=fun L E w=>(20∈L/\(∀j,j<21->j∈L)/\Nx za w0 k E w)\/(20∉L/\AwI za w0 s0 a b z L E w)) A7i (fun i Q A j G=> ?_) (fun L i Q E w A t f x=> ?_) (fun L E w I x=> ?_) (.inr ⟨by simp,(0,0,[]),s0,Z,B,H,⟨?_,rfl,hB.fr,fun s=> ?_,fun q=> ?_⟩,fun c=>by simp at c⟩)
 . obtain⟨t,rfl⟩:=A7g A;exact B7p t G
 . obtain⟨O,rfl⟩:=A7g A;rcases x with⟨_,N,_⟩ | ⟨o,m,st,Z,B,h,g,r⟩
   . exact absurd (N i O) t
   rcases(show i=0\/i=1\/i=2\/i=3\/i=4\/i=5\/i=6\/i=7\/i=8\/i=9\/i=10\/i=11\/i=12\/i=13\/i=14\/i=15\/i=16\/i=17\/i=18\/i=19\/i=20 by omega)with rfl|rfl|rfl|rfl|rfl|rfl|rfl|rfl|rfl|rfl|rfl|rfl|rfl|rfl|rfl|rfl|rfl|rfl|rfl|rfl|rfl
   . exact B9 (fun _ _ c=> .inr ⟨fun h=>o ((qG.1 h).resolve_left (by decide)),c⟩) (Kx hsp hb0 hB h g r (d:=24) (fun _=>by kernel_rfl) ((g.S 6).trans hB.s6) ((g.L 5).trans hB.l5) rfl (by decide) (by decide))
   . exact B9 (fun _ _ c=> .inr ⟨fun h=>o ((qG.1 h).resolve_left (by decide)),c⟩) (Kx hsp hb0 hB h g r (d:=25) (fun _=>by kernel_rfl) ((g.S 5).trans hB.s5) ((g.L 4).trans hB.l4) rfl (by decide) (by decide))
   . exact B9 (fun _ _ c=> .inr ⟨fun h=>o ((qG.1 h).resolve_left (by decide)),c⟩) (UA hsp hb0 hB h g r (d:=26) (fun _=>by kernel_rfl) (g.at (s:=25) (i:=1) rfl (f 1 (by rw[B6q];decide))) rfl (by decide) (by decide) F)
   . exact B9 (fun _ _ c=> .inr ⟨fun h=>o ((qG.1 h).resolve_left (by decide)),c⟩) (Kx hsp hb0 hB h g r (d:=27) (fun _=>by kernel_rfl) ((g.S 4).trans hB.s4) ((g.L 3).trans hB.l3) rfl (by decide) (by decide))
   . exact B9 (fun _ _ c=> .inr ⟨fun h=>o ((qG.1 h).resolve_left (by decide)),c⟩) (UA hsp hb0 hB h g r (d:=28) (fun _=>by kernel_rfl) (g.at (s:=27) (i:=3) rfl (f 3 (by rw[B6r];decide))) rfl (by decide) (by decide) y)
   . exact B9 (fun _ _ c=> .inr ⟨fun h=>o ((qG.1 h).resolve_left (by decide)),c⟩) (eF hsp hb0 hB h g r (d:=29) (q:=43) (fun _=>by kernel_rfl) (g.at (s:=24) (i:=0) rfl (f 0 (by rw[A1c];decide))) (g.at (s:=26) (i:=2) rfl (f 2 (by rw[A1c];decide))) (g.at (s:=28) (i:=4) rfl (f 4 (by rw[A1c];decide))) rfl (by decide) (by decide))
   . exact B9 (fun _ _ c=> .inr ⟨fun h=>o ((qG.1 h).resolve_left (by decide)),c⟩) (Kx hsp hb0 hB h g r (d:=30) (fun _=>by kernel_rfl) ((g.S 6).trans hB.s6) ((g.L 5).trans hB.l5) rfl (by decide) (by decide))
   . exact B9 (fun _ _ c=> .inr ⟨fun h=>o ((qG.1 h).resolve_left (by decide)),c⟩) (Kx hsp hb0 hB h g r (d:=31) (fun _=>by kernel_rfl) ((g.S 4).trans hB.s4) ((g.L 3).trans hB.l3) rfl (by decide) (by decide))
   . exact B9 (fun _ _ c=> .inr ⟨fun h=>o ((qG.1 h).resolve_left (by decide)),c⟩) (Kx hsp hb0 hB h g r (d:=32) (fun _=>by kernel_rfl) ((g.S 4).trans hB.s4) ((g.L 3).trans hB.l3) rfl (by decide) (by decide))
   . exact B9 (fun _ _ c=> .inr ⟨fun h=>o ((qG.1 h).resolve_left (by decide)),c⟩) (UA hsp hb0 hB h g r (d:=33) (fun _=>by kernel_rfl) (g.at (s:=32) (i:=8) rfl (f 8 (by rw[B6s];decide))) rfl (by decide) (by decide) y)
   . exact B9 (fun _ _ c=> .inr ⟨fun h=>o ((qG.1 h).resolve_left (by decide)),c⟩) (eF hsp hb0 hB h g r (d:=34) (q:=43) (fun _=>by kernel_rfl) (g.at (s:=30) (i:=6) rfl (f 6 (by rw[eG];decide))) (g.at (s:=31) (i:=7) rfl (f 7 (by rw[eG];decide))) (g.at (s:=33) (i:=9) rfl (f 9 (by rw[eG];decide))) rfl (by decide) (by decide))
   . exact B9 (fun _ _ c=> .inr ⟨fun h=>o ((qG.1 h).resolve_left (by decide)),c⟩) (Kx hsp hb0 hB h g r (d:=35) (fun _=>by kernel_rfl) ((g.S 6).trans hB.s6) ((g.L 5).trans hB.l5) rfl (by decide) (by decide))
   . exact B9 (fun _ _ c=> .inr ⟨fun h=>o ((qG.1 h).resolve_left (by decide)),c⟩) (Kx hsp hb0 hB h g r (d:=36) (fun _=>by kernel_rfl) ((g.S 4).trans hB.s4) ((g.L 3).trans hB.l3) rfl (by decide) (by decide))
   . exact B9 (fun _ _ c=> .inr ⟨fun h=>o ((qG.1 h).resolve_left (by decide)),c⟩) (UA hsp hb0 hB h g r (d:=37) (fun _=>by kernel_rfl) (g.at (s:=36) (i:=12) rfl (f 12 (by rw[A7j];decide))) rfl (by decide) (by decide) y)
   . exact B9 (fun _ _ c=> .inr ⟨fun h=>o ((qG.1 h).resolve_left (by decide)),c⟩) (Kx hsp hb0 hB h g r (d:=38) (fun _=>by kernel_rfl) ((g.S 5).trans hB.s5) ((g.L 4).trans hB.l4) rfl (by decide) (by decide))
   . exact B9 (fun _ _ c=> .inr ⟨fun h=>o ((qG.1 h).resolve_left (by decide)),c⟩) (UA hsp hb0 hB h g r (d:=39) (fun _=>by kernel_rfl) (g.at (s:=38) (i:=14) rfl (f 14 (by rw[A7k];decide))) rfl (by decide) (by decide) F)
   . exact B9 (fun _ _ c=> .inr ⟨fun h=>o ((qG.1 h).resolve_left (by decide)),c⟩) (eF hsp hb0 hB h g r (d:=40) (q:=43) (fun _=>by kernel_rfl) (g.at (s:=35) (i:=11) rfl (f 11 (by rw[eH];decide))) (g.at (s:=37) (i:=13) rfl (f 13 (by rw[eH];decide))) (g.at (s:=39) (i:=15) rfl (f 15 (by rw[eH];decide))) rfl (by decide) (by decide))
   . exact B9 (fun _ _ c=> .inr ⟨fun h=>o ((qG.1 h).resolve_left (by decide)),c⟩) (eF hsp hb0 hB h g r (d:=41) (q:=46) (fun _=>by kernel_rfl) (g.at (s:=29) (i:=5) rfl (f 5 (by rw[eI];decide))) (g.at (s:=34) (i:=10) rfl (f 10 (by rw[eI];decide))) (g.at (s:=40) (i:=16) rfl (f 16 (by rw[eI];decide))) rfl (by decide) (by decide))
   . exact B9 (fun _ _ c=> .inr ⟨fun h=>o ((qG.1 h).resolve_left (by decide)),c⟩) (C0q hsp hb0 hB h g t (f 17 (by rw[A7l];decide)) J)
   . exact B9 (fun _ _ c=> .inr ⟨fun h=>o ((qG.1 h).resolve_left (by decide)),c⟩) (C0r hsp hb0 hB h g r t)
   . exact B9 (fun _ _ c=> .inl ⟨rA,fun j G=>if e:j=20 then qG.2 (.inl e)else qJ _ (f j (by rw[MV];simp only[qG,rY,vF];omega)),c⟩) (C0s hsp hb0 hB h g (f 18 (by rw[MV];decide)) (f 19 (by rw[MV];decide)) (hK m (r (f 18 (by rw[MV];decide))).1 (r (f 18 (by rw[MV];decide))).2))
 . rcases x with⟨_,_,P⟩ | ⟨o,_⟩
   . exact P
   . exact absurd (I 20 (show 20<Kl.length by rw[A7h];decide)) o
 . rw[hB.nx];exact(qL (by simp)).symm
 . cases u:Cl a b z (0,0,[]) s with
   |none=>rfl
   |some p=>
    obtain⟨i,v⟩:=p;have:s=7\/24<=s:=by
     unfold Cl at u;split at u<;>first| (cases u;omega) |cases u
    simp only[rY,yA];exact hB.dd s (this.symm)
 . by_cases D:q=6
   . rw[qS D,D,qL (by simp)];exact hB.fh 6 (qZ _)
   . rw[qL D]
end
end Go.Proofs.YtiflhbllbgajeaaGreat
namespace Go.Proofs.YtiflhbllbgajeaaGreat
open Go.Proofs.Tryz
open Go.Vc Go.Gw
open Go.IntKind (i64 u32)
def A7p (a:St) (s k:Nat):Option QQ:=match a.S s with
 | .one ⟨false,[.box b 0]⟩=>bif Nat.beq b k then(match a.L k with
  | .box T [.val .bool a, .val (.sl (.int .u32)) b, .val (.sl (.int .u32)) c]=>bif Nat.beq T 43 then some ((a,b),c)else none
  | _=>none)else none
 | _=>none
def eK {a:St} {s k:Nat} {q:QQ} (h:A7p a s k=some q):a.S s=one1 (.box k 0)/\a.L k= .box 43 (explode tQ q):=by
 unfold A7p at h;split at h
 . rename_i a c;obtain⟨a,h⟩:=D6 h;have a:=qE a;subst a;split at h
   . rename_i T a d f b;obtain⟨a,h⟩:=D6 h;have a:=qE a;subst a;cases h;exact⟨c,b⟩
   . cases h
 . cases h
def slB (x:Nat×Nat×DV):Bool:=Nat.blt x.1 24&& !(Nat.beq x.1 7)&&(match x.2.2 with
 | .cnd _ _ _=>false
 | _=>true)
def awK (a:St):Bool:=Nat.beq a.nx 6&&Nat.ble a.nm 6&&a.fr.isEmpty&&a.sl.all slB
def TY:∀ {sl:List (Nat×Nat×DV)},sl.all slB=true->∀s,((24<=s\/s=7)->(find (0, .dead) s sl).2= .dead)/\∀d,Ma d (find (0, .dead) s sl).2=false
 | [],_,s=>⟨fun _=>rfl,fun _=>rfl⟩
 | (t,c,v)::l,h,s=>by
  simp only[sW,qC]at h;have f:=TY h.2 s;simp only[slB,qC,rP]at h;obtain⟨⟨⟨a,b⟩,c⟩,_⟩:=h;have a:t<24:=qQ a;have b:t≠7:=uV b;simp only[find];by_cases a:t=s
  . subst a;simp only[xJ,qR];refine⟨fun b=>by omega,fun d=> ?_⟩;cases v with
    |cnd _ _ _=>cases c
    | _=>rfl
  . rw[C8 a];exact f
def awS (k:St->Prop) (a:St):Prop:=match A7p a 4 3,A7p a 5 4,A7p a 6 5 with
 |some b,some c,some z=>bif awK a then(E3 b/\E3 c/\∀(l:List QQ),l∈TZ b c z->KV K1 l/\(l.length:Int)=3)/\∀(p:MM),WfM p->Pw 3 3 (fun i j=>rv (((TZ b c z).getD i []).getD j zr)) p->k (boxS a 7 29 (explode iE p))else False
 | _,_,_=>False
def B7m {a:Zn} {d:World} {n:Nat} {c:St} {E:F9} {w:World} {Z:Nat->Prop} {B:Nat->Value} {k:St->Prop} (v:Jc prog Xq) (t:a.b0=0) (h:B7 a d c E w Z B) (b:awS k c):Gw.Wp prog n (sq1 (nO 4)) (post a d ⟨k,fun _ _=>False,fun _=>False⟩) E w:=by
 unfold awS at b;split at b
 . rename_i a d z i s x;obtain⟨d,⟨j,l,o⟩,r⟩:=B4 b;simp only[awK,qC]at d;obtain⟨⟨⟨a,y⟩,f⟩,g⟩:=d;have a:=qE a;have u:c.fr= []:=by
    cases d:c.fr with
    |nil=>rfl
    |cons c z=>rw[d]at f;cases f
   obtain⟨c,d⟩:=eK i;obtain⟨f,i⟩:=eK s;obtain⟨z,A⟩:=eK x;exact A3j v t ⟨a,qQ y,u,c,f,z,d,i,A,fun s=>(TY g s).1,fun d s=>(TY g s).2 d,fun s=>by rw[<-a];exact h.refs s,fun q=>by rw[<-a];exact h.refl q,fun q c=>h.fresh q (by rw[a];exact c)⟩ j l o h r
 . exact b.elim
def awN (k:St->Prop):K:=⟨k,fun _ _=>False,fun _=>False⟩
noncomputable def awF (x:A2 H7.args):Prop:=
 Iw RN Xq {} (sq1 (nO 0)) (awN (Iw RN Xq {} (sq1 (nO 1)) (awN (Iw RN Xq {} (sq1 (nO 2)) (awN (Iw RN Xq {} (sq1 (nO 3)) (awN (awS (Iw RN Xq {} (nO 5) ⟨fin RN H7 f10.results.toList x,fun _ _=>False,fin RN H7 f10.results.toList x⟩))))))))) (VG prog H7.args x)
def awE (q:QQ):List (Int×Int×QQ×QQ):= [(0,1,q,(false,[]),[]),(1,2,q,(false,[]),[]),(0,2,q,(false,[]),[])]
abbrev C2p:=(List Int×MM×Int×Int×List (List EE))×Int×Unit
def Hk:A2 H7.args->Prop:=fun(x:Unit)=>let g:=(0:Int);let f:=(3:Int);True/\∀(r:G7),let c:=(f,(awE r.1));ED r.1/\True->r.1=ri (1:Int)->(I2 c->Al c)/\∀(h:C2p),let d:Prop:=(h.2.1=g);(TG h.1.1/\WfM h.1.2.1/\L5 h.1.2.2.1/\L5 h.1.2.2.2.1/\Qx h.1.2.2.2.2)/\L5 h.2.1/\True->(¬I2 c->h.2.1=1)/\(I2 c->h.2.1=g/\h.1.1=Ap f (KO (awE r.1))/\∃(G:Nat->Nat->Rat),Lz c G/\(∀(a b:Nat),a<Int.toNat f->b<Int.toNat f->qs K0 (G a b))/\Pw (awE r.1).length f.toNat (Kn (awE r.1) G) h.1.2.1/\Pw (awE r.1).length (awE r.1).length (shF (awE r.1) G) h.1.2.2)->True/\∀(r:G7),ED r.1/\True->r.1=rc (Rat.divInt (1:Int) f)->True/\∀(k:G7),ED k.1/\True->k.1=rc (Rat.divInt (2:Int) f)->True/\∀(m:G7),ED m.1/\True->m.1=rc (0:Rat)->(E3 r.1/\E3 k.1/\∀(l:List QQ),l∈(TZ r.1 k.1 m.1)->KV K1 l/\(l.length:Int)=3)/\∀(p:MM),WfM p->Pw 3 3 (fun i j=>rv (((TZ r.1 k.1 m.1).getD i []).getD j zr)) p->(decide d=true->True)/\∀(r:X1),(decide d=true->(True/\True)/\r.1=decide (h.1.1= [g,g,g]))->(I9 (decide d) r.1 false=true->Ax K1 h.1.2.1)/\∀(n:X1),(I9 (decide d) r.1 false=true->(True/\True)/\(n.1=true↔h.1.2.1=p/\∀(v:List EE),v∈h.1.2.1.2.2->∀(e:EE),e∈v->e.2=rc (rv e.2)))->I9 (I9 (decide d) r.1 false) n.1 false=true
def LG (x:A2 H7.args):awF x=Hk x:=by kernel_rfl
def B7q:f10.body.getD .skip= .seq (sq1 (nO 0)) (.seq (sq1 (nO 1)) (.seq (sq1 (nO 2)) (.seq (sq1 (nO 3)) (.seq (sq1 (nO 4)) (nO 5))))):=by kernel_rfl
set_option maxRecDepth 100000 in
def ZR (f:Jc prog Xq) (h:∀x,awf H7.args x->H7.pre x->Hk x):A8 prog 10 H7:=by
 refine A4u (cx:=RN) (fn:=f10) (c:=f10.body.getD .skip) func10 (by kernel_rfl) (qQ (by kernel_rfl)) (by kernel_rfl) A4 fun x i g j b E w Z B d a=> ?_
 have b:awF x:=(LG x).mpr (h x i g);rw[B7q];exact B1z (Va (cx:=RN) (an:= {}) A4 f d a b) fun _ _ _ _ _ a b=>B1z (Va (cx:=RN) (an:= {}) A4 f d a b) fun _ _ _ _ _ a b=>B1z (Va (cx:=RN) (an:= {}) A4 f d a b) fun _ _ _ _ _ a b=>B1z (Va (cx:=RN) (an:= {}) A4 f d a b) fun _ _ _ _ _ a b=>B1z (B7m f d a b) fun _ _ _ _ _ a b=>Va (cx:=RN) (an:= {}) A4 f d a b
def Lu:An:= {join:= [(17,⟨[3,4,6,7,8,10,11,50,51,52,78,79],[0,1,2],[],[(3,43,[.val .bool, .val (.sl (.int .u32)), .val (.sl (.int .u32))])],[]⟩)],loop:= [(12,⟨[3,4,6,7,8,50,51,52,78],[0,1,2],[(79,false,vI)],[],[]⟩),(6,⟨[3,4,50,51],[0,1],[(52,false,vI)],[],[]⟩)],plan:= [(14,[1,5],[9],true,(.p 0 (.q 1 (pZ9 2 3 (.q 5 (.or 6 (.or 7 (.e 8 (.e 9 .done)) (.e 8 (.e 7 (.e 9 .done)))) (.e 8 (.e 6 (.e 7 (.e 9 .done)))))))))),(17,[1,5],[],true,(.p 0 (.q 1 (.p 2 (.p 3 (.q 5 (.e 4 (.e 6 (.p 7 .done)))))))))]}
def Di:A2 F6.args->Prop:=fun(x:Lf)=>let v:=(1:Int);let g:=(0:Int);True/\∀(r:B5v),let k:=r.1.2.length;let d:=(↑k:Int);(L5 r.1.1/\List.length r.1.2<=9223372036854775807/\∀(x:Int×Int×QQ×(Bool×List Int)×List Int),x∈r.1.2->L5 x.1/\L5 x.2.1/\ED x.2.2.1/\ED x.2.2.2)/\True->A9a r.1->(I2 r.1->Al r.1)/\∀(z:C2p),let i:=(z.1.1.length:Int);let h:=(decide (z.1.2.2.2.1≠d));(TG z.1.1/\WfM z.1.2.1/\L5 z.1.2.2.1/\L5 z.1.2.2.2.1/\Qx z.1.2.2.2.2)/\L5 z.2.1/\True->(¬I2 r.1->z.2.1=v)/\(I2 r.1->z.2.1=g/\z.1.1=Ap r.1.1 (KO r.1.2)/\∃(G:Nat->Nat->Rat),Lz r.1 G/\(∀(a b:Nat),a<Int.toNat r.1.1->b<Int.toNat r.1.1->qs K0 (G a b))/\Pw k r.1.1.toNat (Kn r.1.2 G) z.1.2.1/\Pw k k (shF r.1.2 G) z.1.2.2)->True/\Nw fun L=>let e:=(I9 (I9 (!L.1) true (decide (z.2.1≠g))) true (decide (z.1.2.2.1≠d)));L.1=true->(I9 e true h=false->Ax K1 z.1.2.2)/\∀(M:X1),(I9 e true h=false->(True/\True)/\M.1=decide (D2 z.1.2.2))->(iB ((I9 (I9 e true h) true !M.1)) (false=true) (∃(I:C5->Prop),∃(b: _->Nat),I (g,())/\∀(p:C5),let t:=p.1.toNat;let o:=(i64.wrap (p.1+v),());let c:=(gx (g,g,dQ,(false,[]),[]) r.1.2 p.1);(Ty.int i64).wf p.1/\True->I p->(iB (decide (p.1<d)) ((g<=p.1/\p.1<d)/\Ax K3 z.1.2.1/\∀(F:B6e),let u:=(decide (F.2.1≠g));let n:=(F.1.length:Int);WfL F.1/\L5 F.2.1/\True->(¬Ql z.1->F.1= []/\F.2.1=v)/\(Ql z.1->(¬(g<=c.1/\c.1<i/\g<=c.2.1/\c.2.1<i)->F.1= []/\F.2.1=3)/\(g<=c.1/\c.1<i/\g<=c.2.1/\c.2.1<i->(List.getD z.1.1 c.1.toNat g≠List.getD z.1.1 c.2.1.toNat g->F.1= []/\F.2.1=13)/\(List.getD z.1.1 c.1.toNat g=List.getD z.1.1 c.2.1.toNat g->F.2.1=g/\F.1=cH z.1.2.1.1.toNat fun(l:Nat)=>let q:=(List.getD z.1.2.1.2.2 l []);A5 q c.1-A5 q c.2.1)))->(iB (I9 u true (decide (n≠d))) (false=true) (∃(I_1:C5->Prop),∃(a: _->Nat),I_1 (g,())/\∀(D:C5),let s:=D.1.toNat;let m:=(gx dQ F.1 D.1);let y:Prop:=(E3 c.2.2.1/\E3 m);let w:=(rv c.2.2.1*rv m);let j:Prop:=(D.1=p.1);let f:=(i64.wrap (D.1+v),());(Ty.int i64).wf D.1/\True->I_1 D->(iB (decide (D.1<d)) ((g<=D.1/\D.1<n)/\(y/\H6 fun H=>H.1=rc w->(E3 H.1/\H6 fun C=>C.1=rc (-rv H.1)->∃(J:Sz->Prop),((iB (decide j) ((E3 C.1/\E3 c.2.2.1)/\H6 fun A=>A.1=rc (rv C.1+rv c.2.2.1)->J (A.1.1.1,A.1.1.2,A.1.2,())) (J (C.1.1.1,C.1.1.2,C.1.2,()))))/\∀(B:Sz),Ty.bool.wf B.1/\(Ty.int u32).sl.wf B.2.1/\(Ty.int u32).sl.wf B.2.2.1/\True->J B->Ax K1 z.1.2.2/\H6 fun A=>A.1=rc (if D2 z.1.2.2/\g<=D.1/\D.1<z.1.2.2.1/\g<=p.1/\p.1<z.1.2.2.2.1 then el z.1.2.2 s t else(0:Rat))->True/\Nw fun K=>K.1=decide (A.1=((B.1,B.2.1),B.2.2.1))->(iB ((!K.1)) (false=true) (I_1 f/\a f<a D)))/\E3 H.1/\H6 fun C=>C.1=rc (-rv H.1)->∃(J:Sz->Prop),((iB (decide j) ((E3 C.1/\E3 c.2.2.1)/\H6 fun A=>A.1=rc (rv C.1+rv c.2.2.1)->J (A.1.1.1,A.1.1.2,A.1.2,())) (J (C.1.1.1,C.1.1.2,C.1.2,()))))/\∀(B:Sz),Ty.bool.wf B.1/\(Ty.int u32).sl.wf B.2.1/\(Ty.int u32).sl.wf B.2.2.1/\True->J B->Ax K1 z.1.2.2/\H6 fun A=>A.1=rc (if D2 z.1.2.2/\g<=D.1/\D.1<z.1.2.2.1/\g<=p.1/\p.1<z.1.2.2.2.1 then el z.1.2.2 s t else(0:Rat))->True/\Nw fun K=>K.1=decide (A.1=((B.1,B.2.1),B.2.2.1))->(iB ((!K.1)) (false=true) (I_1 f/\a f<a D)))/\y/\H6 fun H=>H.1=rc w->E3 H.1/\H6 fun C=>C.1=rc (-rv H.1)->∃(J:Sz->Prop),((iB (decide j) ((E3 C.1/\E3 c.2.2.1)/\H6 fun A=>A.1=rc (rv C.1+rv c.2.2.1)->J (A.1.1.1,A.1.1.2,A.1.2,())) (J (C.1.1.1,C.1.1.2,C.1.2,()))))/\∀(B:Sz),Ty.bool.wf B.1/\(Ty.int u32).sl.wf B.2.1/\(Ty.int u32).sl.wf B.2.2.1/\True->J B->Ax K1 z.1.2.2/\H6 fun A=>A.1=rc (if D2 z.1.2.2/\g<=D.1/\D.1<z.1.2.2.1/\g<=p.1/\p.1<z.1.2.2.2.1 then el z.1.2.2 s t else(0:Rat))->True/\Nw fun K=>K.1=decide (A.1=((B.1,B.2.1),B.2.2.1))->(iB ((!K.1)) (false=true) (I_1 f/\a f<a D))) (I o/\b o<b p))))) (true=true))))
def A9c {e:D5} (h:Zb e) {k:Nat} (b:1<=k):sz k e:=by
 obtain⟨q,a,rfl⟩:=h;exact⟨qY a.1 b,qY a.2 b⟩
def A4c {N:Ge} (h:A9a N):Al N:=⟨by have:=h.2.2.1;omega,h.2.2.2.1,fun e a=>⟨A9c (h.2.2.2.2 e a).1 (by decide),A9c (h.2.2.2.2 e a).2 (by decide)⟩⟩
def C2d {k:Int} (b:k.natAbs<4294967296):sz 1 (ri k)/\qs 1 (k:Rat):=by
 have:=B1r (a:=k) (by omega);exact⟨by rw[KQ];exact⟨this.1,this.2⟩,this⟩
def Am:List Yd:= [(0,1,rc 1,zr),(1,2,rc 1,zr),(0,2,rc 1,zr)]
def B9y:I2 (3,Am):=by
 refine⟨show(0:Int)<=3 by decide,show(3:Int)<=16384 by decide,show 3<=16384 by decide,fun e b=> ?_⟩;have a:(0:Rat)<rv (rc 1):=by rw[E6];decide
 simp only[Am,qG,rY,vF]at b;rcases b with rfl|rfl|rfl
 . exact⟨show(0:Int)<=0 by decide,show(0:Int)<3 by decide,show(0:Int)<=1 by decide,show(1:Int)<3 by decide,show(0:Int)≠1 by decide,a⟩
 . exact⟨show(0:Int)<=1 by decide,show(1:Int)<3 by decide,show(0:Int)<=2 by decide,show(2:Int)<3 by decide,show(1:Int)≠2 by decide,a⟩
 . exact⟨show(0:Int)<=0 by decide,show(0:Int)<3 by decide,show(0:Int)<=2 by decide,show(2:Int)<3 by decide,show(0:Int)≠2 by decide,a⟩
def A0m:Al (3,Am):=by
 refine⟨show(3:Int)<=7 by decide,show 3<=9 by decide,fun e a=> ?_⟩;have c:sz 2 (rc 1):=by
  have:=(C2d (k:=1) (by decide)).1;rw[KQ]at this;exact G1 this (by decide)
 have b:sz 2 zr:=⟨rM _,rM _⟩;simp only[Am,qG,rY,vF]at a;rcases a with rfl|rfl|rfl<;>exact⟨c,b⟩
def dK:Ap 3 (KO Am)= [0,0,0]:=by
 have:KO Am= [(0,1),(1,2),(0,2)]:=rfl;rw[this];decide
def mX {b:Nat} (a:b<3):O5 (3,Am) b=0:=by
 unfold O5;rw[show Ap (3:Int) (KO Am)= [0,0,0]from dK];rcases(show b=0\/b=1\/b=2 by omega)with rfl|rfl|rfl<;>rfl
def B9x (G:Nat->Nat->Rat) (b:Nat):Kn Am G 0 b=G 0 b-G 1 b/\Kn Am G 1 b=G 1 b-G 2 b/\Kn Am G 2 b=G 0 b-G 2 b:=by
 have a:Oe Am 0=1:=E6 1;have c:Oe Am 1=1:=E6 1;have d:Oe Am 2=1:=E6 1;refine⟨?_, ?_, ?_⟩<;>unfold Kn
 . rw[a,xT];rfl
 . rw[c,xT];rfl
 . rw[d,xT];rfl
def B9w (f:Nat->Rat):iN Am f 0=f 0+f 2/\iN Am f 1=f 1-f 0/\iN Am f 2= -f 1-f 2:=by
 have e:∀b,iN Am f b=0+PE (Ez Am) (Fa Am) b 0*f 0+PE (Ez Am) (Fa Am) b 1*f 1+PE (Ez Am) (Fa Am) b 2*f 2:=fun b=>rfl
 have a:Ez Am 0=0:=rfl;have c:Ez Am 1=1:=rfl;have d:Ez Am 2=0:=rfl;have g:Fa Am 0=1:=rfl;have h:Fa Am 1=2:=rfl;have i:Fa Am 2=2:=rfl;refine⟨?_, ?_, ?_⟩<;>rw[e]<;>unfold PE<;>simp only[a,c,d,g,h,i]<;>simp<;>grind
def B7d (l b:Nat):Rat:=(([[0, -2, -1],[0,1, -1],[0, -1, -2]]:List (List Int)).getD l []).getD b 0/3
def dL {G:Nat->Nat->Rat} (y:Lz (3,Am) G):∀l b,l<3->b<3->Kn Am G l b=B7d l b:=by
 have z:∀b,b<3->G 0 b=0/\(Kn Am G 0 b+Kn Am G 2 b=(if b=0 then 1 else 0)-1)/\(Kn Am G 1 b-Kn Am G 0 b=if b=1 then 1 else 0)/\(-Kn Am G 1 b-Kn Am G 2 b=if b=2 then 1 else 0):=fun b n=>by
  obtain⟨x,t⟩:=y b n;obtain⟨u,v,w⟩:=B9w fun l=>Kn Am G l b
  have i:=t 0 (show 0<3 by decide);have j:=t 1 (show 1<3 by decide);have k:=t 2 (show 2<3 by decide);rw[mX n]at i j k;simp only at i j k;rw[u]at i;rw[v]at j;rw[w]at k;refine⟨x 0 (show 0<3 by decide) (mX (by decide)),i, ?_, ?_⟩
  . rw[j,qL (show¬(0:Nat)=1 by decide)];grind
  . rw[k,qL (show¬(0:Nat)=2 by decide)];grind
 intro l b A n;obtain⟨d,o,r,s⟩:=z b n;obtain⟨f,g,h⟩:=B9x G b;rw[f,h]at o;rw[g,f]at r;rw[g,h]at s;rcases(show b=0\/b=1\/b=2 by omega)with rfl|rfl|rfl
 . rw[qS rfl]at o;rw[qL (by decide)]at r s;have a:G 1 0=0:=by grind
   have c:G 2 0=0:=by grind
   rcases(show l=0\/l=1\/l=2 by omega)with rfl|rfl|rfl
   . rw[f,d,a];decide+kernel
   . rw[g,a,c];decide+kernel
   . rw[h,d,c];decide+kernel
 . rw[qL (by decide)]at o s;rw[qS rfl]at r;have a:G 1 1=2/3:=by grind
   have c:G 2 1=1/3:=by grind
   rcases(show l=0\/l=1\/l=2 by omega)with rfl|rfl|rfl
   . rw[f,d,a];decide+kernel
   . rw[g,a,c];decide+kernel
   . rw[h,d,c];decide+kernel
 . rw[qL (by decide)]at o r;rw[qS rfl]at s;have a:G 1 2=1/3:=by grind
   have c:G 2 2=2/3:=by grind
   rcases(show l=0\/l=1\/l=2 by omega)with rfl|rfl|rfl
   . rw[f,d,a];decide+kernel
   . rw[g,a,c];decide+kernel
   . rw[h,d,c];decide+kernel
end Go.Proofs.YtiflhbllbgajeaaGreat
