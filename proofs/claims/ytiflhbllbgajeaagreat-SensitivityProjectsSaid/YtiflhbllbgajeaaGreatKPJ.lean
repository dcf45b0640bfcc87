/- Part. -/
import Derived.Shelf.SlSortCmp.NoneTotal
import Derived.Lib.QuietBelow
import Derived.Shelf.SlGeneric
import Derived.Shelf.SlicesG.Cmp
import Derived.Ground.SlsfProg
import Derived.Ground.SlgcProg
import Derived.Test.YtiflhbllbgajeaaGreatProg
import Derived.Test.YtiflhbllbgajeaaGreatKPI
set_option linter.all false
namespace Go.Proofs.YtiflhbllbgajeaaGreat
open Go.Proofs.Tryz
open Go Go.Vc Go.Gw
open Go.IntKind (i64)
def sq1:Code->Code
 | .seq a _=>a
 |c=>c
def sq2:Code->Code
 | .seq _ b=>b
 |c=>c
def C3u:Code->Array Oper
 | .region _ ops _=>ops
 | _=> #[]
noncomputable def oO (i:Nat):Code:=(List.range i).foldl (fun c _=>sq2 c) (f10.body.getD .skip)
noncomputable def Kt:List Oper:=(C3u (sq1 (oO 4))).toList
noncomputable def Ci (i:Nat):Oper:=Kt.getD i default
noncomputable abbrev SD:Cx:=⟨prog,tys⟩
def MQ (x:QQ):DV:= .one ⟨true,explode tQ x⟩
def awL (l:List QQ):DV:= .one ⟨false,[.val (.sl tQ) l]⟩
def awV (l:List (List QQ)):DV:= .one ⟨false,[.val (.sl (.sl tQ)) l]⟩
abbrev jF:Ty:= .pair (.int .i64) (.pair (.int .i64) (.sl (.sl tE)))
def awM (m:MM):DV:= .one ⟨true,explode jF m⟩
def UP (a b z:QQ):List (List QQ):= [[z,rc (-rv b),rc (-rv a)],[z,a,rc (-rv a)],[z,rc (-rv a),rc (-rv b)]]
def Yn:H1:= [(9,S8),(16,Ca),(17,Iv),(19,V6),(23,Lz),(34,Iu),(40,Tb),(41,S6)]
def awZ:LC:= .box 29 (Kq jF)
def Cq (a b z:QQ) (m:MM):Nat->Option (Nat×DV)
 |24=>some (0,MQ z)
 |25=>some (1,MQ b)
 |26=>some (2,MQ (rc (-rv b)))
 |27=>some (3,MQ a)
 |28=>some (4,MQ (rc (-rv a)))
 |29=>some (5,awL [z,rc (-rv b),rc (-rv a)])
 |30=>some (6,MQ z)
 |31=>some (7,MQ a)
 |32=>some (8,MQ a)
 |33=>some (9,MQ (rc (-rv a)))
 |34=>some (10,awL [z,a,rc (-rv a)])
 |35=>some (11,MQ z)
 |36=>some (12,MQ a)
 |37=>some (13,MQ (rc (-rv a)))
 |38=>some (14,MQ b)
 |39=>some (15,MQ (rc (-rv b)))
 |40=>some (16,awL [z,rc (-rv a),rc (-rv b)])
 |41=>some (17,awV (UP a b z))
 |42=>some (18,awM m)
 |7=>some (19,one1 (.box 6 0))
 | _=>none
structure AwB (st:St) (a b z:QQ):Prop where
 nx:st.nx=6
 nm:st.nm<=6
 fr:st.fr= []
 s4:st.S 4=one1 (.box 3 0)
 s5:st.S 5=one1 (.box 4 0)
 s6:st.S 6=one1 (.box 5 0)
 l3:st.L 3= .box 43 (explode tQ a)
 l4:st.L 4= .box 43 (explode tQ b)
 l5:st.L 5= .box 43 (explode tQ z)
 dd:∀s,24<=s\/s=7->st.S s= .dead
 nc:∀d s,Mh d (st.S s)=false
 rf:∀s,Oe 6 (st.S s)
 rl:∀k,Lp 6 (st.L k)
 fh:∀k,6<=k->st.L k= .none
structure RB (s0:St) (a b z:QQ) (m:MM) (L:List Nat) (st:St):Prop where
 nx:st.nx=if 19∈L then 7 else 6
 nm:st.nm=s0.nm
 fr:st.fr= []
 S:∀s,st.S s=match Cq a b z m s with
  |some (i,v)=>if i∈L then v else .dead
  |none=>s0.S s
 L:∀k,st.L k=if k=6 then(if 19∈L then awZ else .none)else s0.L k
section
variable {s0 st:St} {a b z:QQ} {m:MM} {L:List Nat}
def A8o (a b z:QQ) (m:MM) {s i:Nat} {v:DV} (h:Cq a b z m s=some (i,v)) (d:Nat):Mh d v=false:=by
 unfold Cq at h;split at h<;>first| (cases h;rfl) |cases h
def A8p (a b z:QQ) (m:MM) {s i:Nat} {v:DV} (h:Cq a b z m s=some (i,v)):Oe (if i=19 then 7 else 0) v:=by
 unfold Cq at h;split at h<;>first
  | (cases h;intro d c;simp only[MQ,awL,awV,awM,one1,explode,qG,rY,vG,wI,vH]at c;rcases c with rfl|rfl|rfl<;>trivial)
  | (cases h;intro d c;simp only[MQ,awL,awV,awM,one1,explode,qG,rY,vG,wI,vH]at c;subst c;first|trivial| (show(6:Nat)<7;omega))
  |cases h
def RB.nc (h:RB s0 a b z m L st) (c:AwB s0 a b z) (d s:Nat):Mh d (st.S s)=false:=by
 rw[h.S];split
 . rename_i i v e;split
   . exact A8o a b z m e d
   . rfl
 . exact c.nc d s
def iZ {n k:Nat} (a:n<=k):∀ {d:DV},Oe n d->Oe k d
 | .one _,h=>fun c b=>(h c b).le a
 | .tup _,h=>fun s f c b=>(h s f c b).le a
 | .cnd _ _ _,h=>fun c b=>(h c b).le a
 | .dead,_=>trivial
def RB.rf (h:RB s0 a b z m L st) (f:AwB s0 a b z) (s:Nat):Oe st.nx (st.S s):=by
 have d:6<=st.nx:=by rw[h.nx];split<;>omega
 rw[h.S];split
 . rename_i i v e;split
   . rename_i g;refine iZ ?_ (A8p a b z m e);by_cases c:i=19
     . subst c;rw[h.nx,qR g,qR rfl];exact qZ _
     . rw[qK c];exact rM _
   . trivial
 . exact iZ d (f.rf s)
def A3x {n k:Nat} (a:n<=k):∀ {l:LC},Lp n l->Lp k l:=fun {l} h=>by
 cases l with
 |box T b=>exact fun c b=>(h c b).le a
 |rows _ _ _ _ al _=>exact fun p b=>rB (h p b) a
 |mapE _ _ _ _ _ _ q=>exact rB h a
 |sbox q _ _=>exact rB h a
 |nest _ _ _ _ b _=>exact fun p b=>rB (h p b) a
 |itM _ _ _ _ _ _ _ q=>exact rB h a
 | _=>trivial
def B9h (n:Nat):Lp n awZ:=fun c a=>by
 obtain⟨v,_,rfl⟩:=sP.1 (show c∈List.map Kh (Dq jF)from a);unfold Kh;split
 . rename_i k i h;generalize (decide (k.min<=i)&&decide (i<=k.max))=q;cases q<;>trivial
 . trivial
 . trivial
 . generalize Value.oneCell' _=q;cases q<;>trivial
def RB.rl (h:RB s0 a b z m L st) (d:AwB s0 a b z) (k:Nat):Lp st.nx (st.L k):=by
 have c:6<=st.nx:=by rw[h.nx];split<;>omega
 rw[h.L];split
 . split
   . exact B9h _
   . trivial
 . exact A3x c (d.rl k)
def RB.fh (h:RB s0 a b z m L st) (f:AwB s0 a b z) (k:Nat) (c:st.nx<=k):st.L k= .none:=by
 rw[h.nx]at c;rw[h.L];by_cases d:19∈L
 . rw[qR d]at c;rw[qK (by omega)];exact f.fh k (by omega)
 . rw[qK d]at c;split
   . rfl
   . exact f.fh k (by omega)
def RB.nn (h:RB s0 a b z m L st) (c:AwB s0 a b z):st.nm<=st.nx:=by
 have:=c.nm;rw[h.nm,h.nx];split<;>omega
def RB.at (h:RB s0 a b z m L st) {s i:Nat} {v:DV} (d:Cq a b z m s=some (i,v)) (c:i∈L):st.S s=v:=by
 rw[h.S,d];exact qR c
def bR (a b z:QQ) (m:MM) {s d i:Nat} {u v:DV} (h:Cq a b z m d=some (i,v)) (c:Cq a b z m s=some (i,u)):s=d:=by
 unfold Cq at h c;split at h<;>cases h<;>(split at c<;>first|rfl|cases c)
def RB.val (h:RB s0 a b z m L st) {i d:Nat} {v:DV} (k:Cq a b z m d=some (i,v)) (g:i≠19):RB s0 a b z m (i::L) (hd1 st d v):=by
 have c:∀j,j≠i->(j∈i::L↔j∈L):=fun j hj=>⟨fun hh=>(qG.1 hh).resolve_left hj,qJ _⟩
 refine⟨?_,h.nm,h.fr,fun s=> ?_,fun o=> ?_⟩
 . show st.nx= _;rw[h.nx];simp only[c 19 (Ne.symm g)]
 . rw[GE];by_cases f:s=d
   . subst f;rw[qR rfl,k];exact(qR (rA)).symm
   . rw[qK f,h.S];cases l:Cq a b z m s with
     |none=>rfl
     |some p=>
      obtain⟨j,u⟩:=p;have n:j≠i:=fun e=>f (by subst e;exact bR a b z m k l)
      simp only[c j n]
 . show st.L o= _;rw[h.L];simp only[c 19 (Ne.symm g)]
end
section
variable {za:Zn} {w0:World} {s0 st:St} {a b z:QQ} {m:MM} {L:List Nat} {E:G2} {w:World} {Z:Nat->Prop} {B:Nat->Value}
def AwH (a b z:QQ) (m:MM) (L:List Nat):Prop:=18∈L->WfM m/\Kd 3 3 (fun i j=>rv (((UP a b z).getD i []).getD j zr)) m
def AwH.up {i:Nat} (h:AwH a b z m L) (d:18≠i):AwH a b z m (i::L):=fun c=>h ((qG.1 c).resolve_left d)
def AwI (za:Zn) (w0:World) (s0:St) (a b z:QQ) (L:List Nat) (E:G2) (w:World):Prop:=∃m st Z B,B8 za w0 st E w Z B/\RB s0 a b z m L st/\AwH a b z m L
def pI (f:AwB s0 a b z) (g:RB s0 a b z m L st) {i d:Nat} {v:DV} (t:Cq a b z m d=some (i,v)) (j:i≠19) {c:St} (h:B8 za w0 (c.setS d v) E w Z B) (n:∀s,c.S s=st.S s) (l:∀k,c.L k=st.L k) (r:c.nm=st.nm) (o:c.fr= []):B8 za w0 (hd1 st d v) E w Z B:=by
 have c:=g.val t j;refine h.look (fun s=> .inl ?_) (fun k=>(l k).symm) r.symm (c.nn f) c.fr o (c.rf f) (c.rl f) (c.fh f);rw[GE,St.S_setS,n];by_cases c:s=d
 . rw[qR c,qR c]
 . rw[qK c,qK c,g.nc f d s];rfl
def Ke {st:St} {d:Nat} {v:DV} (h:st.S d=v) (s:Nat):(hd1 st d v).S s=st.S s:=by
 rw[GE];split
 . rename_i e;subst e;exact h.symm
 . rfl
def A8e {st:St} {d:Nat} {v:LC} (h:st.L d=v) (s:Nat):(hdL st d v).L s=st.L s:=by
 rw[A2a];split
 . rename_i e;subst e;exact h.symm
 . rfl
variable {i d s k:Nat} {v:QQ} (hsp:Jd prog Yn) (hb0:za.b0=0) (hB:AwB s0 a b z) (h:B8 za w0 st E w Z B) (g:RB s0 a b z m L st)
include hsp hb0 hB h g
theorem Lg (r:AwH a b z m L) (e:∀K,Kx SD Yn Kt (Ci i) K (hdL (hd1 st s (one1 (.box k 0))) k (.box 43 (explode tQ v)))=K ((hdL (hd1 st s (one1 (.box k 0))) k (.box 43 (explode tQ v))).setS d (MQ v))) (j:st.S s=one1 (.box k 0)) (n:st.L k= .box 43 (explode tQ v)) (l:Cq a b z m d=some (i,MQ v)) (c:i≠19) (o:18≠i):Gw.I7 prog Kt (Ci i) (AwI za w0 s0 a b z (i::L)) E w:=by
 have f:(hd1 st s (one1 (.box k 0))).L k= .box 43 (explode tQ v):=n;refine C0 ?_ (Hf (cx:=SD) (k:=fun n=>n=(hdL (hd1 st s (one1 (.box k 0))) k (.box 43 (explode tQ v))).setS d (MQ v)) ((h.hd1 j).hdL f) (.inl hb0) A5 hsp (by rw[e]));rintro E' t ⟨_,_,Z',B',n,rfl⟩;exact⟨m,_,Z',B',pI hB g l c n (Ke j) (A8e f) rfl g.fr,g.val l c,r.up o⟩
theorem UQ (o:AwH a b z m L) (e:∀K,Kx SD Yn Kt (Ci i) K (hd1 st s (MQ v))=(E6 v/\∀r:QQ×Unit,CY r.1/\True->r.1=rc (-rv v)->K ((hd1 st s (MQ v)).setS d (MQ r.1)))) (f:st.S s=MQ v) (j:Cq a b z m d=some (i,MQ (rc (-rv v)))) (c:i≠19) (n:18≠i) (l:E6 v):Gw.I7 prog Kt (Ci i) (AwI za w0 s0 a b z (i::L)) E w:=by
 refine C0 ?_ (Hf (cx:=SD) (k:=fun u=>u=(hd1 st s (MQ v)).setS d (MQ (rc (-rv v)))) (h.hd1 f) (.inl hb0) A5 hsp ((e _).mpr ⟨l,fun r _ t=>tS (fun q=>(hd1 st s (MQ v)).setS d (MQ q)) t⟩));rintro E' t ⟨_,_,Z',B',l,rfl⟩;exact⟨m,_,Z',B',pI hB g j c l (Ke f) (fun _=>rfl) rfl g.fr,g.val j c,o.up n⟩
theorem fC (A:AwH a b z m L) {t:Ty} {q:Nat} {l:List t.den} {c f j:Nat} {v1 v2 n:DV} (e:∀K,Kx SD Yn Kt (Ci i) K (hd1 (hd1 (hd1 st c v1) f v2) j n)=K (rowS (hd1 (hd1 (hd1 st c v1) f v2) j n) d t q l)) (o:st.S c=v1) (r:st.S f=v2) (B:st.S j=n) (D:Cq a b z m d=some (i, .one ⟨false,[.val (.sl t) l]⟩)) (y:i≠19) (x:18≠i):Gw.I7 prog Kt (Ci i) (AwI za w0 s0 a b z (i::L)) E w:=by
 have u:(hd1 st c v1).S f=v2:=(Ke o _).trans r;have v:(hd1 (hd1 st c v1) f v2).S j=n:=((Ke u _).trans (Ke o _)).trans B;have r:∀s,(hd1 (hd1 (hd1 st c v1) f v2) j n).S s=st.S s:=fun s=>((Ke v s).trans (Ke u s)).trans (Ke o s)
 refine C0 ?_ (Hf (cx:=SD) (k:=fun s0=>s0=rowS (hd1 (hd1 (hd1 st c v1) f v2) j n) d t q l) (((h.hd1 o).hd1 u).hd1 v) (.inl hb0) A5 hsp (by rw[e]));rintro E' u ⟨_,_,Z',B',o,rfl⟩;obtain⟨Z2,u⟩:=o.unrow (g.nn hB) g.fr (fun s=>by rw[r];exact g.rf hB s) (g.rl hB) (g.fh hB) (fun s=>by rw[r];exact g.nc hB _ s);have o:=g.val D y;refine⟨m,hd1 st d (.one ⟨false,[.val (.sl t) l]⟩),Z2,B',u.look (fun s=> .inl ?_) (fun _=>rfl) rfl (o.nn hB) o.fr g.fr (o.rf hB) (o.rl hB) (o.fh hB),o,A.up x⟩;rw[GE st,GE (hd1 (hd1 (hd1 st c v1) f v2) j n),r]
omit hsp hb0 hB h g
theorem B5a {a b z:QQ} (m M:MM) {s:Nat} (c:s≠42):Cq a b z m s=Cq a b z M s:=by
 unfold Cq;split<;>first|rfl|exact absurd rfl c
theorem RB.chg (g:RB s0 a b z m L st) (c:18∉L) (M:MM):RB s0 a b z M L st:=by
 refine⟨g.nx,g.nm,g.fr,fun s=> ?_,g.L⟩;rw[g.S];by_cases d:s=42
 . subst d;show(if 18∈L then _ else _)=(if 18∈L then _ else _);rw[qK c,qK c]
 . rw[B5a m M d]
set_option maxRecDepth 100000 in
theorem C2j (hsp:Jd prog Yn) (hb0:za.b0=0) (hB:AwB s0 a b z) (h:B8 za w0 st E w Z B) (g:RB s0 a b z m L st) (n:18∉L) (f:17∈L) (c:∀l∈UP a b z,GN K1 l/\(l.length:Int)=3):Gw.I7 prog Kt (Ci 18) (AwI za w0 s0 a b z (18::L)) E w:=by
 have d:st.S 41=awV (UP a b z):=g.at (i:=17) rfl f;have e:∀K,Kx SD Yn Kt (Ci 18) K (hd1 st 41 (awV (UP a b z)))=(((∀(l:List QQ),l∈UP a b z->GN K1 l/\(↑l.length:Int)=(3:Int))/\(0:Int)<=(3:Int)/\(3:Int)<=(16384:Int)/\(UP a b z).length<=(16384:Nat))/\∀(r:MM×Unit),WfM r.1/\True->Kd (UP a b z).length (Int.toNat (3:Int)) (fun(i j:Nat)=>rv (((UP a b z).getD i []).getD j zr)) r.1->K ((hd1 st 41 (awV (UP a b z))).setS 42 (awM r.1))):=fun K=>by kernel_rfl
 refine C0 ?_ (Hf (cx:=SD) (k:=fun s=>∃M,(WfM M/\Kd 3 3 (fun i j=>rv (((UP a b z).getD i []).getD j zr)) M)/\s=(hd1 st 41 (awV (UP a b z))).setS 42 (awM M)) (h.hd1 d) (.inl hb0) A5 hsp ((e _).mpr ⟨⟨c,by decide,by decide,(by decide:3<=16384)⟩,fun r o f=>⟨r.1,⟨o.1,f⟩,rfl⟩⟩));rintro E' c ⟨_,_,Z',B',f,M,j,rfl⟩;have c:=g.chg n M;exact⟨M,_,Z',B',pI hB c rfl (by decide) f (Ke d) (fun _=>rfl) rfl g.fr,c.val rfl (by decide),fun _=>j⟩
set_option maxRecDepth 100000 in
theorem C2k (hsp:Jd prog Yn) (hb0:za.b0=0) (hB:AwB s0 a b z) (h:B8 za w0 st E w Z B) (g:RB s0 a b z m L st) (t:AwH a b z m L) (c:19∉L):Gw.I7 prog Kt (Ci 19) (AwI za w0 s0 a b z (19::L)) E w:=by
 have e:∀K,Kx SD Yn Kt (Ci 19) K st=K (boxS st 7 29 (Kq jF)):=fun K=>by kernel_rfl
 refine C0 ?_ (Hf (cx:=SD) (k:=fun f=>f=boxS st 7 29 (Kq jF)) h (.inl hb0) A5 hsp (by rw[e]));rintro E' f ⟨_,_,Z',B',n,rfl⟩;have l:st.nx=6:=by rw[g.nx,qK c]
 have r:∀j,j≠19->(j∈19::L↔j∈L):=fun j hj=>⟨fun hh=>(qG.1 hh).resolve_left hj,qJ _⟩
 have f:RB s0 a b z m (19::L) ⟨(7,0,one1 (.box 6 0))::st.sl,(6,0,awZ)::st.lc,7,st.ct,st.nm,st.fr⟩:=by
  refine⟨(qR rA).symm,g.nm,g.fr,fun s=> ?_,fun k=> ?_⟩
  . refine(GE st 7 s (one1 (.box 6 0))).trans ?_;by_cases c:s=7
    . subst c;rw[qR rfl];exact(qR (rA)).symm
    . rw[qK c,g.S];cases i:Cq a b z m s with
      |none=>rfl
      |some p=>
       obtain⟨j,u⟩:=p;have o:j≠19:=fun e=>c (by subst e;exact bR a b z m (d:=7) (v:=one1 (.box 6 0)) rfl i)
       simp only[r j o]
  . refine(A2a st 6 k awZ).trans ?_;by_cases i:k=6
    . rw[qR i,qR i];exact(qR rA).symm
    . rw[qK i,qK i,g.L,qK i]
 refine⟨m,⟨(7,0,one1 (.box 6 0))::st.sl,(6,0,awZ)::st.lc,7,st.ct,st.nm,st.fr⟩,Z',B',n.look (fun s=> .inl ?_) (fun k=> ?_) rfl (f.nn hB) f.fr g.fr (f.rf hB) (f.rl hB) (f.fh hB),f,t.up (by decide)⟩
 . refine(GE st 7 s (one1 (.box 6 0))).trans ?_;show _=((st.newL _).setS 7 (one1 (.box st.nx 0))).S s;rw[St.S_setS,St.S_newL,l];by_cases c:s=7
   . rw[qR c,qR c]
   . rw[qK c,qK c,g.nc hB 7 s];rfl
 . refine(A2a st 6 k awZ).trans ?_;show _=(st.newL (.box 29 (Kq jF))).L k;rw[St.L_newL,l];rfl
set_option maxRecDepth 100000 in
theorem C2l (hsp:Jd prog Yn) (hb0:za.b0=0) (hB:AwB s0 a b z) (h:B8 za w0 st E w Z B) (g:RB s0 a b z m L st) (d:18∈L) (l:19∈L) {k:St->Prop} (hK:k (boxS s0 7 29 (explode jF m))):Gw.I7 prog Kt (Ci 20) (Nx za w0 k) E w:=by
 have c:st.S 7=one1 (.box 6 0):=g.at (i:=19) rfl l;have f:st.S 42=awM m:=g.at (i:=18) rfl d;have d:st.L 6=awZ:=(g.L 6).trans ((qR rfl).trans (qR l));have o:(hd1 st 7 (one1 (.box 6 0))).S 42=awM m:=(Ke c _).trans f;have r:(hd1 (hd1 st 7 (one1 (.box 6 0))) 42 (awM m)).L 6=awZ:=d;have e:∀K,Kx SD Yn Kt (Ci 20) K (hdL (hd1 (hd1 st 7 (one1 (.box 6 0))) 42 (awM m)) 6 awZ)=K ((hdL (hd1 (hd1 st 7 (one1 (.box 6 0))) 42 (awM m)) 6 awZ).setL 6 (.box 29 (explode jF m))):=fun K=>by kernel_rfl
 refine C0 ?_ (Hf (cx:=SD) (k:=fun d=>d=(hdL (hd1 (hd1 st 7 (one1 (.box 6 0))) 42 (awM m)) 6 awZ).setL 6 (.box 29 (explode jF m))) (((h.hd1 c).hd1 o).hdL r) (.inl hb0) A5 hsp (by rw[e]));rintro E' f ⟨_,_,Z',B',d,rfl⟩;have n:∀s,(boxS s0 7 29 (explode jF m)).S s=if s=7 then one1 (.box 6 0)else s0.S s:=fun s=>by
  show((s0.newL _).setS 7 (one1 (.box s0.nx 0))).S s= _;rw[St.S_setS,St.S_newL,hB.nx];by_cases c:s=7
  . rw[qR c,qR c]
  . rw[qK c,qK c,hB.nc 7 s];rfl
 have j:∀q,(boxS s0 7 29 (explode jF m)).L q=if q=6 then .box 29 (explode jF m)else s0.L q:=fun q=>by
  show(s0.newL (.box 29 (explode jF m))).L q= _;rw[St.L_newL,hB.nx]
 have f:(boxS s0 7 29 (explode jF m)).nx=7:=by show s0.nx+1=7;rw[hB.nx]
 refine⟨boxS s0 7 29 (explode jF m),Z',B',d.look (fun s=> ?_) (fun q=> ?_) g.nm.symm (by rw[f];exact qX hB.nm (by omega)) hB.fr g.fr (fun s=> ?_) (fun q=> ?_) (fun q d=> ?_),hK⟩
 . show(boxS s0 7 29 (explode jF m)).S s=(hd1 (hd1 st 7 (one1 (.box 6 0))) 42 (awM m)).S s\/ _;rw[n,Ke o,Ke c,g.S];by_cases c:s=7
   . subst c;exact .inl ((qR rfl).trans (qR l).symm)
   . rw[qK c];by_cases c:24<=s
     . exact .inr (hB.dd s (.inl c))
     . refine .inl ?_;have:Cq a b z m s=none:=by
        unfold Cq;split<;>first|rfl|omega
       rw[this]
 . show(boxS s0 7 29 (explode jF m)).L q= _;rw[j,St.L_setL];by_cases d:q=6
   . rw[qR d,qR d]
   . rw[qK d,qK d,A8e r];show s0.L q=st.L q;rw[g.L,qK d]
 . rw[n,f];split
   . intro l c;simp only[one1,qP]at c;subst c;show(6:Nat)<7;omega
   . exact iZ (by omega) (hB.rf s)
 . rw[j,f];split
   . intro l c;simp only[explode,qG,rY,vG,wI,vH]at c;rcases c with rfl|rfl|rfl<;>trivial
   . exact A3x (by omega) (hB.rl q)
 . rw[f]at d;rw[j,qK (by omega)];exact hB.fh q (by omega)
theorem C2m:O0 (Ci 0)= []:=by kernel_rfl
theorem C2n:O0 (Ci 1)= []:=by kernel_rfl
theorem B8j:O0 (Ci 2)= [1]:=by kernel_rfl
theorem C2o:O0 (Ci 3)= []:=by kernel_rfl
theorem B8k:O0 (Ci 4)= [3,2]:=by kernel_rfl
theorem A2i:O0 (Ci 5)= [0,2,4]:=by kernel_rfl
theorem C2p:O0 (Ci 6)= []:=by kernel_rfl
theorem C2q:O0 (Ci 7)= []:=by kernel_rfl
theorem C2r:O0 (Ci 8)= []:=by kernel_rfl
theorem B8l:O0 (Ci 9)= [8,4]:=by kernel_rfl
theorem fD:O0 (Ci 10)= [6,7,9]:=by kernel_rfl
theorem B9k:O0 (Ci 11)= []:=by kernel_rfl
theorem B9l:O0 (Ci 12)= []:=by kernel_rfl
theorem A8u:O0 (Ci 13)= [12,9]:=by kernel_rfl
theorem B9m:O0 (Ci 14)= []:=by kernel_rfl
theorem A8v:O0 (Ci 15)= [14,13]:=by kernel_rfl
theorem fE:O0 (Ci 16)= [11,13,15]:=by kernel_rfl
theorem fF:O0 (Ci 17)= [5,10,16]:=by kernel_rfl
theorem A8w:O0 (Ci 18)= [17,15]:=by kernel_rfl
theorem B9n:O0 (Ci 19)= []:=by kernel_rfl
theorem NJ:O0 (Ci 20)= [19,18,18,0,1,2,3,4,5,6,7,8,9,10,11,12,13,14,15,16,17,18,19]:=by kernel_rfl
theorem A8s:Kt.length=21:=by kernel_rfl
theorem B5b:sq1 (oO 4)= .region 4 (C3u (sq1 (oO 4))) true:=by kernel_rfl
theorem A8t:prog.follows .mixedOrders=true:=by kernel_rfl
theorem A8r {i:Nat} {o:Oper} (h:Kt[i]? =some o):i<21/\o=Ci i:=by
 have a:=(sB.1 h).1;rw[A8s]at a;refine⟨a, ?_⟩;unfold Ci;rw[qF,h];rfl
theorem B9i {i j:Nat} (b:i<21) (a:j∈O0 (Ci i)):j<i:=by
 rcases(show i=0\/i=1\/i=2\/i=3\/i=4\/i=5\/i=6\/i=7\/i=8\/i=9\/i=10\/i=11\/i=12\/i=13\/i=14\/i=15\/i=16\/i=17\/i=18\/i=19\/i=20 by omega)with rfl|rfl|rfl|rfl|rfl|rfl|rfl|rfl|rfl|rfl|rfl|rfl|rfl|rfl|rfl|rfl|rfl|rfl|rfl|rfl|rfl
 . rw[C2m]at a;cases a
 . rw[C2n]at a;cases a
 . rw[B8j]at a;simp only[qG,rY,vG]at a;omega
 . rw[C2o]at a;cases a
 . rw[B8k]at a;simp only[qG,rY,vG]at a;omega
 . rw[A2i]at a;simp only[qG,rY,vG]at a;omega
 . rw[C2p]at a;cases a
 . rw[C2q]at a;cases a
 . rw[C2r]at a;cases a
 . rw[B8l]at a;simp only[qG,rY,vG]at a;omega
 . rw[fD]at a;simp only[qG,rY,vG]at a;omega
 . rw[B9k]at a;cases a
 . rw[B9l]at a;cases a
 . rw[A8u]at a;simp only[qG,rY,vG]at a;omega
 . rw[B9m]at a;cases a
 . rw[A8v]at a;simp only[qG,rY,vG]at a;omega
 . rw[fE]at a;simp only[qG,rY,vG]at a;omega
 . rw[fF]at a;simp only[qG,rY,vG]at a;omega
 . rw[A8w]at a;simp only[qG,rY,vG]at a;omega
 . rw[B9n]at a;cases a
 . rw[NJ]at a;simp only[qG,rY,vG]at a;omega
set_option maxRecDepth 100000 in
theorem A4s {n:Nat} (hsp:Jd prog Yn) (hb0:za.b0=0) (hB:AwB s0 a b z) (y:E6 a) (F:E6 b) (J:∀l∈UP a b z,GN K1 l/\(l.length:Int)=3) (h:B8 za w0 s0 E w Z B) {k:St->Prop} (hK:∀M,WfM M->Kd 3 3 (fun i j=>rv (((UP a b z).getD i []).getD j zr)) M->k (boxS s0 7 29 (explode jF M))):Gw.Wp prog n (sq1 (oO 4)) (post za w0 ⟨k,fun _ _=>False,fun _=>False⟩) E w:=by
 rw[B5b];have H:=h.more (Z':=Z) (w':=w.drew) (R7.refl w).drew (fun _ h=>h) (fun _=> .inl);refine B6x (Inv:=fun L E w=>(20∈L/\(∀j,j<21->j∈L)/\Nx za w0 k E w)\/(20∉L/\AwI za w0 s0 a b z L E w)) A8t (fun i Q A j G=> ?_) (fun L i Q E w A t f x=> ?_) (fun L E w I x=> ?_) (.inr ⟨by simp,(0,0,[]),s0,Z,B,H,⟨?_,rfl,hB.fr,fun s=> ?_,fun q=> ?_⟩,fun c=>by simp at c⟩)
 . obtain⟨t,rfl⟩:=A8r A;exact B9i t G
 . obtain⟨O,rfl⟩:=A8r A;rcases x with⟨_,N,_⟩ | ⟨o,m,st,Z,B,h,g,r⟩
   . exact absurd (N i O) t
   rcases(show i=0\/i=1\/i=2\/i=3\/i=4\/i=5\/i=6\/i=7\/i=8\/i=9\/i=10\/i=11\/i=12\/i=13\/i=14\/i=15\/i=16\/i=17\/i=18\/i=19\/i=20 by omega)with rfl|rfl|rfl|rfl|rfl|rfl|rfl|rfl|rfl|rfl|rfl|rfl|rfl|rfl|rfl|rfl|rfl|rfl|rfl|rfl|rfl
   . exact C0 (fun _ _ c=> .inr ⟨fun h=>o ((qG.1 h).resolve_left (by decide)),c⟩) (Lg hsp hb0 hB h g r (d:=24) (fun _=>by kernel_rfl) ((g.S 6).trans hB.s6) ((g.L 5).trans hB.l5) rfl (by decide) (by decide))
   . exact C0 (fun _ _ c=> .inr ⟨fun h=>o ((qG.1 h).resolve_left (by decide)),c⟩) (Lg hsp hb0 hB h g r (d:=25) (fun _=>by kernel_rfl) ((g.S 5).trans hB.s5) ((g.L 4).trans hB.l4) rfl (by decide) (by decide))
   . exact C0 (fun _ _ c=> .inr ⟨fun h=>o ((qG.1 h).resolve_left (by decide)),c⟩) (UQ hsp hb0 hB h g r (d:=26) (fun _=>by kernel_rfl) (g.at (s:=25) (i:=1) rfl (f 1 (by rw[B8j];decide))) rfl (by decide) (by decide) F)
   . exact C0 (fun _ _ c=> .inr ⟨fun h=>o ((qG.1 h).resolve_left (by decide)),c⟩) (Lg hsp hb0 hB h g r (d:=27) (fun _=>by kernel_rfl) ((g.S 4).trans hB.s4) ((g.L 3).trans hB.l3) rfl (by decide) (by decide))
   . exact C0 (fun _ _ c=> .inr ⟨fun h=>o ((qG.1 h).resolve_left (by decide)),c⟩) (UQ hsp hb0 hB h g r (d:=28) (fun _=>by kernel_rfl) (g.at (s:=27) (i:=3) rfl (f 3 (by rw[B8k];decide))) rfl (by decide) (by decide) y)
   . exact C0 (fun _ _ c=> .inr ⟨fun h=>o ((qG.1 h).resolve_left (by decide)),c⟩) (fC hsp hb0 hB h g r (d:=29) (q:=43) (fun _=>by kernel_rfl) (g.at (s:=24) (i:=0) rfl (f 0 (by rw[A2i];decide))) (g.at (s:=26) (i:=2) rfl (f 2 (by rw[A2i];decide))) (g.at (s:=28) (i:=4) rfl (f 4 (by rw[A2i];decide))) rfl (by decide) (by decide))
   . exact C0 (fun _ _ c=> .inr ⟨fun h=>o ((qG.1 h).resolve_left (by decide)),c⟩) (Lg hsp hb0 hB h g r (d:=30) (fun _=>by kernel_rfl) ((g.S 6).trans hB.s6) ((g.L 5).trans hB.l5) rfl (by decide) (by decide))
   . exact C0 (fun _ _ c=> .inr ⟨fun h=>o ((qG.1 h).resolve_left (by decide)),c⟩) (Lg hsp hb0 hB h g r (d:=31) (fun _=>by kernel_rfl) ((g.S 4).trans hB.s4) ((g.L 3).trans hB.l3) rfl (by decide) (by decide))
   . exact C0 (fun _ _ c=> .inr ⟨fun h=>o ((qG.1 h).resolve_left (by decide)),c⟩) (Lg hsp hb0 hB h g r (d:=32) (fun _=>by kernel_rfl) ((g.S 4).trans hB.s4) ((g.L 3).trans hB.l3) rfl (by decide) (by decide))
   . exact C0 (fun _ _ c=> .inr ⟨fun h=>o ((qG.1 h).resolve_left (by decide)),c⟩) (UQ hsp hb0 hB h g r (d:=33) (fun _=>by kernel_rfl) (g.at (s:=32) (i:=8) rfl (f 8 (by rw[B8l];decide))) rfl (by decide) (by decide) y)
   . exact C0 (fun _ _ c=> .inr ⟨fun h=>o ((qG.1 h).resolve_left (by decide)),c⟩) (fC hsp hb0 hB h g r (d:=34) (q:=43) (fun _=>by kernel_rfl) (g.at (s:=30) (i:=6) rfl (f 6 (by rw[fD];decide))) (g.at (s:=31) (i:=7) rfl (f 7 (by rw[fD];decide))) (g.at (s:=33) (i:=9) rfl (f 9 (by rw[fD];decide))) rfl (by decide) (by decide))
   . exact C0 (fun _ _ c=> .inr ⟨fun h=>o ((qG.1 h).resolve_left (by decide)),c⟩) (Lg hsp hb0 hB h g r (d:=35) (fun _=>by kernel_rfl) ((g.S 6).trans hB.s6) ((g.L 5).trans hB.l5) rfl (by decide) (by decide))
   . exact C0 (fun _ _ c=> .inr ⟨fun h=>o ((qG.1 h).resolve_left (by decide)),c⟩) (Lg hsp hb0 hB h g r (d:=36) (fun _=>by kernel_rfl) ((g.S 4).trans hB.s4) ((g.L 3).trans hB.l3) rfl (by decide) (by decide))
   . exact C0 (fun _ _ c=> .inr ⟨fun h=>o ((qG.1 h).resolve_left (by decide)),c⟩) (UQ hsp hb0 hB h g r (d:=37) (fun _=>by kernel_rfl) (g.at (s:=36) (i:=12) rfl (f 12 (by rw[A8u];decide))) rfl (by decide) (by decide) y)
   . exact C0 (fun _ _ c=> .inr ⟨fun h=>o ((qG.1 h).resolve_left (by decide)),c⟩) (Lg hsp hb0 hB h g r (d:=38) (fun _=>by kernel_rfl) ((g.S 5).trans hB.s5) ((g.L 4).trans hB.l4) rfl (by decide) (by decide))
   . exact C0 (fun _ _ c=> .inr ⟨fun h=>o ((qG.1 h).resolve_left (by decide)),c⟩) (UQ hsp hb0 hB h g r (d:=39) (fun _=>by kernel_rfl) (g.at (s:=38) (i:=14) rfl (f 14 (by rw[A8v];decide))) rfl (by decide) (by decide) F)
   . exact C0 (fun _ _ c=> .inr ⟨fun h=>o ((qG.1 h).resolve_left (by decide)),c⟩) (fC hsp hb0 hB h g r (d:=40) (q:=43) (fun _=>by kernel_rfl) (g.at (s:=35) (i:=11) rfl (f 11 (by rw[fE];decide))) (g.at (s:=37) (i:=13) rfl (f 13 (by rw[fE];decide))) (g.at (s:=39) (i:=15) rfl (f 15 (by rw[fE];decide))) rfl (by decide) (by decide))
   . exact C0 (fun _ _ c=> .inr ⟨fun h=>o ((qG.1 h).resolve_left (by decide)),c⟩) (fC hsp hb0 hB h g r (d:=41) (q:=46) (fun _=>by kernel_rfl) (g.at (s:=29) (i:=5) rfl (f 5 (by rw[fF];decide))) (g.at (s:=34) (i:=10) rfl (f 10 (by rw[fF];decide))) (g.at (s:=40) (i:=16) rfl (f 16 (by rw[fF];decide))) rfl (by decide) (by decide))
   . exact C0 (fun _ _ c=> .inr ⟨fun h=>o ((qG.1 h).resolve_left (by decide)),c⟩) (C2j hsp hb0 hB h g t (f 17 (by rw[A8w];decide)) J)
   . exact C0 (fun _ _ c=> .inr ⟨fun h=>o ((qG.1 h).resolve_left (by decide)),c⟩) (C2k hsp hb0 hB h g r t)
   . exact C0 (fun _ _ c=> .inl ⟨rA,fun j G=>if e:j=20 then qG.2 (.inl e)else qJ _ (f j (by rw[NJ];simp only[qG,rY,vG];omega)),c⟩) (C2l hsp hb0 hB h g (f 18 (by rw[NJ];decide)) (f 19 (by rw[NJ];decide)) (hK m (r (f 18 (by rw[NJ];decide))).1 (r (f 18 (by rw[NJ];decide))).2))
 . rcases x with⟨_,_,P⟩ | ⟨o,_⟩
   . exact P
   . exact absurd (I 20 (show 20<Kt.length by rw[A8s];decide)) o
 . rw[hB.nx];exact(qK (by simp)).symm
 . cases u:Cq a b z (0,0,[]) s with
   |none=>rfl
   |some p=>
    obtain⟨i,v⟩:=p;have:s=7\/24<=s:=by
     unfold Cq at u;split at u<;>first| (cases u;omega) |cases u
    simp only[rY,yD];exact hB.dd s (this.symm)
 . by_cases D:q=6
   . rw[qR D,D,qK (by simp)];exact hB.fh 6 (qZ _)
   . rw[qK D]
end
end Go.Proofs.YtiflhbllbgajeaaGreat
namespace Go.Proofs.YtiflhbllbgajeaaGreat
open Go.Proofs.Tryz
open Go.Vc Go.Gw
open Go.IntKind (i64)
def A9a (a:St) (s k:Nat):Option QQ:=match a.S s with
 | .one ⟨false,[.box b 0]⟩=>bif Nat.beq b k then(match a.L k with
  | .box T [.val .bool a, .val (.sl (.int .u32)) b, .val (.sl (.int .u32)) c]=>bif Nat.beq T 43 then some ((a,b),c)else none
  | _=>none)else none
 | _=>none
def fH {a:St} {s k:Nat} {q:QQ} (h:A9a a s k=some q):a.S s=one1 (.box k 0)/\a.L k= .box 43 (explode tQ q):=by
 unfold A9a at h;split at h
 . rename_i a c;obtain⟨a,h⟩:=D6 h;have a:=qE a;subst a;split at h
   . rename_i T a d f b;obtain⟨a,h⟩:=D6 h;have a:=qE a;subst a;cases h;exact⟨c,b⟩
   . cases h
 . cases h
def slB (x:Nat×Nat×DV):Bool:=Nat.blt x.1 24&& !(Nat.beq x.1 7)&&(match x.2.2 with
 | .cnd _ _ _=>false
 | _=>true)
def awK (a:St):Bool:=Nat.beq a.nx 6&&Nat.ble a.nm 6&&a.fr.isEmpty&&a.sl.all slB
def UO:∀ {sl:List (Nat×Nat×DV)},sl.all slB=true->∀s,((24<=s\/s=7)->(find (0, .dead) s sl).2= .dead)/\∀d,Mh d (find (0, .dead) s sl).2=false
 | [],_,s=>⟨fun _=>rfl,fun _=>rfl⟩
 | (t,c,v)::l,h,s=>by
  simp only[sY,qC]at h;have f:=UO h.2 s;simp only[slB,qC,rP]at h;obtain⟨⟨⟨a,b⟩,c⟩,_⟩:=h;have a:t<24:=qQ a;have b:t≠7:=uX b;simp only[find];by_cases a:t=s
  . subst a;simp only[xK,qS];refine⟨fun b=>by omega,fun d=> ?_⟩;cases v with
    |cnd _ _ _=>cases c
    | _=>rfl
  . rw[D2 a];exact f
def awS (k:St->Prop) (a:St):Prop:=match A9a a 4 3,A9a a 5 4,A9a a 6 5 with
 |some b,some c,some z=>bif awK a then(E6 b/\E6 c/\∀(l:List QQ),l∈UP b c z->GN K1 l/\(l.length:Int)=3)/\∀(p:MM),WfM p->Kd 3 3 (fun i j=>rv (((UP b c z).getD i []).getD j zr)) p->k (boxS a 7 29 (explode jF p))else False
 | _,_,_=>False
def B9f {a:Zn} {d:World} {n:Nat} {c:St} {E:G2} {w:World} {Z:Nat->Prop} {B:Nat->Value} {k:St->Prop} (v:Jd prog Yn) (t:a.b0=0) (h:B8 a d c E w Z B) (b:awS k c):Gw.Wp prog n (sq1 (oO 4)) (post a d ⟨k,fun _ _=>False,fun _=>False⟩) E w:=by
 unfold awS at b;split at b
 . rename_i a d z i s x;obtain⟨d,⟨j,l,o⟩,r⟩:=B4 b;simp only[awK,qC]at d;obtain⟨⟨⟨a,y⟩,f⟩,g⟩:=d;have a:=qE a;have u:c.fr= []:=by
    cases d:c.fr with
    |nil=>rfl
    |cons c z=>rw[d]at f;cases f
   obtain⟨c,d⟩:=fH i;obtain⟨f,i⟩:=fH s;obtain⟨z,A⟩:=fH x;exact A4s v t ⟨a,qQ y,u,c,f,z,d,i,A,fun s=>(UO g s).1,fun d s=>(UO g s).2 d,fun s=>by rw[<-a];exact h.refs s,fun q=>by rw[<-a];exact h.refl q,fun q c=>h.fresh q (by rw[a];exact c)⟩ j l o h r
 . exact b.elim
def awN (k:St->Prop):K:=⟨k,fun _ _=>False,fun _=>False⟩
noncomputable def awF (x:A2 H7.args):Prop:=
 Ix SD Yn {} (sq1 (oO 0)) (awN (Ix SD Yn {} (sq1 (oO 1)) (awN (Ix SD Yn {} (sq1 (oO 2)) (awN (Ix SD Yn {} (sq1 (oO 3)) (awN (awS (Ix SD Yn {} (oO 5) ⟨fin SD H7 f10.results.toList x,fun _ _=>False,fin SD H7 f10.results.toList x⟩))))))))) (VW prog H7.args x)
def awE (q:QQ):List (Int×Int×QQ×QQ):= [(0,1,q,(false,[]),[]),(1,2,q,(false,[]),[]),(0,2,q,(false,[]),[])]
abbrev C4h:=(List Int×MM×Int×Int×List (List EE))×Int×Unit
def Hk:A2 H7.args->Prop:=fun(x:Unit)=>let g:=(0:Int);let f:=(3:Int);True/\∀(r:H0),let c:=(f,(awE r.1));CY r.1/\True->r.1=ri (1:Int)->(H2 c->Bb c)/\∀(h:C4h),let d:Prop:=(h.2.1=g);(TW h.1.1/\WfM h.1.2.1/\K9 h.1.2.2.1/\K9 h.1.2.2.2.1/\Rh h.1.2.2.2.2)/\K9 h.2.1/\True->(¬H2 c->h.2.1=1)/\(H2 c->h.2.1=g/\h.1.1=Ar f (KZ (awE r.1))/\∃(G:Nat->Nat->Rat),En c G/\(∀(a b:Nat),a<Int.toNat f->b<Int.toNat f->qs K0 (G a b))/\Kd (awE r.1).length f.toNat (Kw (awE r.1) G) h.1.2.1/\Kd (awE r.1).length (awE r.1).length (shF (awE r.1) G) h.1.2.2)->True/\∀(r:H0),CY r.1/\True->r.1=rc (Rat.divInt (1:Int) f)->True/\∀(k:H0),CY k.1/\True->k.1=rc (Rat.divInt (2:Int) f)->True/\∀(m:H0),CY m.1/\True->m.1=rc (0:Rat)->(E6 r.1/\E6 k.1/\∀(l:List QQ),l∈(UP r.1 k.1 m.1)->GN K1 l/\(l.length:Int)=3)/\∀(p:MM),WfM p->Kd 3 3 (fun i j=>rv (((UP r.1 k.1 m.1).getD i []).getD j zr)) p->(decide d=true->True)/\∀(r:V2),(decide d=true->(True/\True)/\r.1=decide (h.1.1= [g,g,g]))->(I6 (decide d) r.1 false=true->X5 K1 h.1.2.1)/\∀(n:V2),(I6 (decide d) r.1 false=true->(True/\True)/\(n.1=true↔h.1.2.1=p/\∀(v:List EE),v∈h.1.2.1.2.2->∀(e:EE),e∈v->e.2=rc (rv e.2)))->I6 (I6 (decide d) r.1 false) n.1 false=true
def LR (x:A2 H7.args):awF x=Hk x:=by kernel_rfl
def B9j:f10.body.getD .skip= .seq (sq1 (oO 0)) (.seq (sq1 (oO 1)) (.seq (sq1 (oO 2)) (.seq (sq1 (oO 3)) (.seq (sq1 (oO 4)) (oO 5))))):=by kernel_rfl
set_option maxRecDepth 100000 in
def aK (f:Jd prog Yn) (h:∀x,awf H7.args x->H7.pre x->Hk x):A8 prog 10 H7:=by
 refine A6e (cx:=SD) (fn:=f10) (c:=f10.body.getD .skip) func10 (by kernel_rfl) (qQ (by kernel_rfl)) (by kernel_rfl) A5 fun x i g j b E w Z B d a=> ?_
 have b:awF x:=(LR x).mpr (h x i g);rw[B9j];exact B3o (Vq (cx:=SD) (an:= {}) A5 f d a b) fun _ _ _ _ _ a b=>B3o (Vq (cx:=SD) (an:= {}) A5 f d a b) fun _ _ _ _ _ a b=>B3o (Vq (cx:=SD) (an:= {}) A5 f d a b) fun _ _ _ _ _ a b=>B3o (Vq (cx:=SD) (an:= {}) A5 f d a b) fun _ _ _ _ _ a b=>B3o (B9f f d a b) fun _ _ _ _ _ a b=>Vq (cx:=SD) (an:= {}) A5 f d a b
def Kf:An:= {loop:= [(7,⟨[3,4,28,29],[0,1],[(6,false,[.own (.sl tQ) 46]),(30,false,vI)],[],[]⟩)]}
def Br:A2 F1.args->Prop:=fun(x:Lr)=>let w:=(1:Int);let g:=(0:Int);True/\∀(r:B7p),let m:=r.1.2.length;let f:=(↑m:Int);(K9 r.1.1/\List.length r.1.2<=9223372036854775807/\∀(x:Int×Int×QQ×(Bool×List Int)×List Int),x∈r.1.2->K9 x.1/\K9 x.2.1/\CY x.2.2.1/\CY x.2.2.2)/\True->B0p r.1->(H2 r.1->Bb r.1)/\∀(z:C4h),let s:=(decide (z.2.1≠g));let h:=(z.1.1.length:Int);(TW z.1.1/\WfM z.1.2.1/\K9 z.1.2.2.1/\K9 z.1.2.2.2.1/\Rh z.1.2.2.2.2)/\K9 z.2.1/\True->(¬H2 r.1->z.2.1=w)/\(H2 r.1->z.2.1=g/\z.1.1=Ar r.1.1 (KZ r.1.2)/\∃(G:Nat->Nat->Rat),En r.1 G/\(∀(a b:Nat),a<Int.toNat r.1.1->b<Int.toNat r.1.1->qs K0 (G a b))/\Kd m r.1.1.toNat (Kw r.1.2 G) z.1.2.1/\Kd m m (shF r.1.2 G) z.1.2.2)->True/\Ql fun B=>B.1=true->(iB (I6 (!B.1) true s) (false=true) (∃(I:C1v->Prop),∃(a: _->Nat),I ([],g,())/\∀(p:C1v),let d:=(gx (g,g,dQ,(false,[]),[]) r.1.2 p.2.1);tQ.sl.sl.wf p.1/\(Ty.int i64).wf p.2.1/\True->I p->(iB (decide (p.2.1<f)) ((g<=p.2.1/\p.2.1<f)/\X5 K3 z.1.2.1/\∀(y:B7x),let t:=(decide (y.2.1≠g));let o:=(decide ((y.1.length:Int)≠f));let n:=(p.1++ [y.1],i64.wrap (p.2.1+w),());WfL y.1/\K9 y.2.1/\True->(¬Qt z.1->y.1= []/\y.2.1=w)/\(Qt z.1->(¬(g<=d.1/\d.1<h/\g<=d.2.1/\d.2.1<h)->y.1= []/\y.2.1=3)/\(g<=d.1/\d.1<h/\g<=d.2.1/\d.2.1<h->(List.getD z.1.1 d.1.toNat g≠List.getD z.1.1 d.2.1.toNat g->y.1= []/\y.2.1=13)/\(List.getD z.1.1 d.1.toNat g=List.getD z.1.1 d.2.1.toNat g->y.2.1=g/\y.1=TG z.1.2.1.1.toNat fun(l:Nat)=>let q:=(List.getD z.1.2.1.2.2 l []);A4 q d.1-A4 q d.2.1)))->(iB (I6 t true o) (false=true) (((p.1.length+ [y.1].length)*(24:Nat)<=(140737488355328:Nat)/\p.1.length+ [y.1].length<=9223372036854775807)/\I n/\a n<a p))) (((∀(l:List QQ),l∈p.1->GN K1 l/\(↑l.length:Int)=f)/\g<=f/\f<=(16384:Int)/\p.1.length<=(16384:Nat))/\∀(y:IP),let u:=y.1.2.1.toNat;WfM y.1/\True->Kd p.1.length f.toNat (fun(i j:Nat)=>rv ((p.1.getD i []).getD j zr)) y.1->(∃(A:Nat),∃(c:Nat),(1:Nat)<=A/\X5 A y.1/\X5 A y.1/\y.1.2.1<=(↑c:Int)/\(A+A+(1:Nat))*(c+(1:Nat))<=K1)/\∀(r:jH),WfM r.1/\K9 r.2.1/\True->(¬(C2 y.1/\C2 y.1)->r.1=zm/\r.2.1=w)/\(C2 y.1/\C2 y.1->(y.1.2.1≠y.1.1->r.1=zm/\r.2.1=4)/\(y.1.2.1=y.1.1->Kd y.1.1.toNat u (fun(i j:Nat)=>C6 u fun(k:Nat)=>el y.1 i k*el y.1 k j) r.1/\r.2.1=g))->X5 K1 r.1/\Ql fun C=>(C.1=true↔r.1=y.1/\∀(v:List EE),v∈r.1.2.2->∀(e:EE),e∈v->e.2=rc (rv e.2))->C.1=true))))
def B0r {e:D3} (h:AA e) {k:Nat} (b:1<=k):sz k e:=by
 obtain⟨q,a,rfl⟩:=h;exact⟨qX a.1 b,qX a.2 b⟩
def A5l {N:Hq} (h:B0p N):Bb N:=⟨by have:=h.2.2.1;omega,h.2.2.2.1,fun e a=>⟨B0r (h.2.2.2.2 e a).1 (by decide),B0r (h.2.2.2.2 e a).2 (by decide)⟩⟩
def C3w {k:Int} (b:k.natAbs<4294967296):sz 1 (ri k)/\qs 1 (k:Rat):=by
 have:=B3g (a:=k) (by omega);exact⟨by rw[LB];exact⟨this.1,this.2⟩,this⟩
def Aq:List Wv:= [(0,1,rc 1,zr),(1,2,rc 1,zr),(0,2,rc 1,zr)]
def C1r:H2 (3,Aq):=by
 refine⟨show(0:Int)<=3 by decide,show(3:Int)<=16384 by decide,show 3<=16384 by decide,fun e b=> ?_⟩;have a:(0:Rat)<rv (rc 1):=by rw[E3];decide
 simp only[Aq,qG,rY,vG]at b;rcases b with rfl|rfl|rfl
 . exact⟨show(0:Int)<=0 by decide,show(0:Int)<3 by decide,show(0:Int)<=1 by decide,show(1:Int)<3 by decide,show(0:Int)≠1 by decide,a⟩
 . exact⟨show(0:Int)<=1 by decide,show(1:Int)<3 by decide,show(0:Int)<=2 by decide,show(2:Int)<3 by decide,show(1:Int)≠2 by decide,a⟩
 . exact⟨show(0:Int)<=0 by decide,show(0:Int)<3 by decide,show(0:Int)<=2 by decide,show(2:Int)<3 by decide,show(0:Int)≠2 by decide,a⟩
def A1r:Bb (3,Aq):=by
 refine⟨show(3:Int)<=7 by decide,show 3<=9 by decide,fun e a=> ?_⟩;have c:sz 2 (rc 1):=by
  have:=(C3w (k:=1) (by decide)).1;rw[LB]at this;exact F9 this (by decide)
 have b:sz 2 zr:=⟨rM _,rM _⟩;simp only[Aq,qG,rY,vG]at a;rcases a with rfl|rfl|rfl<;>exact⟨c,b⟩
def eJ:Ar 3 (KZ Aq)= [0,0,0]:=by
 have:KZ Aq= [(0,1),(1,2),(0,2)]:=rfl;rw[this];decide
def nY {b:Nat} (a:b<3):O1 (3,Aq) b=0:=by
 unfold O1;rw[show Ar (3:Int) (KZ Aq)= [0,0,0]from eJ];rcases(show b=0\/b=1\/b=2 by omega)with rfl|rfl|rfl<;>rfl
def C1q (G:Nat->Nat->Rat) (b:Nat):Kw Aq G 0 b=G 0 b-G 1 b/\Kw Aq G 1 b=G 1 b-G 2 b/\Kw Aq G 2 b=G 0 b-G 2 b:=by
 have a:Un Aq 0=1:=E3 1;have c:Un Aq 1=1:=E3 1;have d:Un Aq 2=1:=E3 1;refine⟨?_, ?_, ?_⟩<;>unfold Kw
 . rw[a,xV];rfl
 . rw[c,xV];rfl
 . rw[d,xV];rfl
def C1p (f:Nat->Rat):SE Aq f 0=f 0+f 2/\SE Aq f 1=f 1-f 0/\SE Aq f 2= -f 1-f 2:=by
 have e:∀b,SE Aq f b=0+PR (Cj Aq) (Ck Aq) b 0*f 0+PR (Cj Aq) (Ck Aq) b 1*f 1+PR (Cj Aq) (Ck Aq) b 2*f 2:=fun b=>rfl
 have a:Cj Aq 0=0:=rfl;have c:Cj Aq 1=1:=rfl;have d:Cj Aq 2=0:=rfl;have g:Ck Aq 0=1:=rfl;have h:Ck Aq 1=2:=rfl;have i:Ck Aq 2=2:=rfl;refine⟨?_, ?_, ?_⟩<;>rw[e]<;>unfold PR<;>simp only[a,c,d,g,h,i]<;>simp<;>grind
def B8x (l b:Nat):Rat:=(([[0, -2, -1],[0,1, -1],[0, -1, -2]]:List (List Int)).getD l []).getD b 0/3
def eK {G:Nat->Nat->Rat} (y:En (3,Aq) G):∀l b,l<3->b<3->Kw Aq G l b=B8x l b:=by
 have z:∀b,b<3->G 0 b=0/\(Kw Aq G 0 b+Kw Aq G 2 b=(if b=0 then 1 else 0)-1)/\(Kw Aq G 1 b-Kw Aq G 0 b=if b=1 then 1 else 0)/\(-Kw Aq G 1 b-Kw Aq G 2 b=if b=2 then 1 else 0):=fun b n=>by
  obtain⟨x,t⟩:=y b n;obtain⟨u,v,w⟩:=C1p fun l=>Kw Aq G l b
  have i:=t 0 (show 0<3 by decide);have j:=t 1 (show 1<3 by decide);have k:=t 2 (show 2<3 by decide);rw[nY n]at i j k;simp only at i j k;rw[u]at i;rw[v]at j;rw[w]at k;refine⟨x 0 (show 0<3 by decide) (nY (by decide)),i, ?_, ?_⟩
  . rw[j,qK (show¬(0:Nat)=1 by decide)];grind
  . rw[k,qK (show¬(0:Nat)=2 by decide)];grind
 intro l b A n;obtain⟨d,o,r,s⟩:=z b n;obtain⟨f,g,h⟩:=C1q G b;rw[f,h]at o;rw[g,f]at r;rw[g,h]at s;rcases(show b=0\/b=1\/b=2 by omega)with rfl|rfl|rfl
 . rw[qR rfl]at o;rw[qK (by decide)]at r s;have a:G 1 0=0:=by grind
   have c:G 2 0=0:=by grind
   rcases(show l=0\/l=1\/l=2 by omega)with rfl|rfl|rfl
   . rw[f,d,a];decide+kernel
   . rw[g,a,c];decide+kernel
   . rw[h,d,c];decide+kernel
 . rw[qK (by decide)]at o s;rw[qR rfl]at r;have a:G 1 1=2/3:=by grind
   have c:G 2 1=1/3:=by grind
   rcases(show l=0\/l=1\/l=2 by omega)with rfl|rfl|rfl
   . rw[f,d,a];decide+kernel
   . rw[g,a,c];decide+kernel
   . rw[h,d,c];decide+kernel
 . rw[qK (by decide)]at o r;rw[qR rfl]at s;have a:G 1 2=1/3:=by grind
   have c:G 2 2=2/3:=by grind
   rcases(show l=0\/l=1\/l=2 by omega)with rfl|rfl|rfl
   . rw[f,d,a];decide+kernel
   . rw[g,a,c];decide+kernel
   . rw[h,d,c];decide+kernel
def cQ {R C:Nat} {f:Nat->Nat->Rat} {m:U9} (h:Kd R C f m):∀v∈m.2.2,∀e∈v,e.2=rc (rv e.2):=fun v c e a=>by
 obtain⟨i,b,rfl⟩:=Z7 [] c;exact((h.2.2.2 i (by rw[<-h.2.2.1];exact b)).1.2 e a).2
def C3t {N:Hq} {G:Nat->Nat->Rat} {f:TFV} (h:H2 N) (g:Bb N) (n:∀e∈N.2,Jh e.2.2.1) (j:∀a b,a<N.1.toNat->b<N.1.toNat->qs K0 (G a b)) (i:f.1=Ar N.1 (KZ N.2)) (c:Kd N.2.length N.1.toNat (Kw N.2 G) f.2.1) (d:Kd N.2.length N.2.length (shF N.2 G) f.2.2):Qt f/\X5 K3 f.2.1:=by
 have k:=g.2.1;have k:=g.1;refine⟨⟨Rr c (by omega) (by omega),Rr d (by omega) (by omega),d.1.trans c.1.symm,d.2.1.trans c.1.symm, ?_⟩,VX c (by decide) fun o r k l=>L8 (iN h g n j k l) (by decide)⟩;rw[i,(Dx h).1];exact c.2.1
def btw {N:Hq} {G:Nat->Nat->Rat} {f:TFV} (d:H2 N) (j:f.1=Ar N.1 (KZ N.2)) (a:Kd N.2.length N.1.toNat (Kw N.2 G) f.2.1) {k:Nat} (i:k<N.2.length):((0<=(Cj N.2 k:Int)/\(Cj N.2 k:Int)<(f.1.length:Int)/\0<=(Ck N.2 k:Int)/\(Ck N.2 k:Int)<(f.1.length:Int))/\f.1.getD (Cj N.2 k:Int).toNat 0=f.1.getD (Ck N.2 k:Int).toNat 0)/\
 TG f.2.1.1.toNat (fun l=>A4 (f.2.1.2.2.getD l []) (Cj N.2 k:Int)-A4 (f.2.1.2.2.getD l []) (Ck N.2 k:Int))=TG N.2.length fun l=>Un N.2 l*bL N.2 G l k:=by
 obtain⟨g,h⟩:=Wx d i;obtain⟨c,b⟩:=Dx d;rw[<-j]at c b;refine⟨⟨⟨qD _,by omega,qD _,by omega⟩, ?_⟩, ?_⟩
 . rw[qM,qM,(b _ g).1,(b _ h).1,gU d i]
 . rw[a.1,qM];unfold TG;refine g3g fun l c=> ?_
   have b:=vS.1 c;show rc (A4 (f.2.1.2.2.getD l []) (Cj N.2 k:Int)-A4 (f.2.1.2.2.getD l []) (Ck N.2 k:Int))=rc (Un N.2 l*bL N.2 G l k);rw[(a.2.2.2 l b).2.2 _ g,(a.2.2.2 l b).2.2 _ h,iO]
def B0q {N:Hq} (b:B0p N):∀e∈N.2,Jh e.2.2.1:=fun e a=>by
 obtain⟨⟨q,_,h⟩,_⟩:=b.2.2.2.2 e a;rw[h];exact TF q
def B4h {N:Hq} {G:Nat->Nat->Rat} (c:H2 N) (h:Bb N) (g:∀e∈N.2,Jh e.2.2.1) (d:∀a b,a<N.1.toNat->b<N.1.toNat->qs K0 (G a b)) {l k:Nat} (f:l<N.2.length) (n:k<N.2.length):qs (K2+K2+1) (Un N.2 l*bL N.2 G l k):=by
 obtain⟨i,j⟩:=Wx c n;rw[<-iO];exact OR (L8 (iN c h g d f i) (by decide)) (L8 (iN c h g d f j) (by decide))
def YG:qs 1 (Rat.divInt 1 3)/\qs 1 (Rat.divInt 2 3):=by
 obtain⟨q,d,c⟩:=Ot (a:=1) (b:=3) (by omega) (by omega) (by omega);obtain⟨h,f,g⟩:=Ot (a:=2) (b:=3) (by omega) (by omega) (by omega);have e:Rat.divInt 1 3=q:=by rw[<-E3 (Rat.divInt 1 3),c,E3]
 have c:Rat.divInt 2 3=h:=by rw[<-E3 (Rat.divInt 2 3),g,E3]
 rw[e,c];exact⟨d,f⟩
def A2h:∀i j,i<3->j<3->rv (((UP (rc (Rat.divInt 1 3)) (rc (Rat.divInt 2 3)) (rc 0)).getD i []).getD j zr)=B8x i j:=by
 intro i j c d;have a:Rat.divInt 1 3=1/3:=by decide+kernel
 have b:Rat.divInt 2 3=2/3:=by decide+kernel
 rcases(show i=0\/i=1\/i=2 by omega)with rfl|rfl|rfl<;>rcases(show j=0\/j=1\/j=2 by omega)with rfl|rfl|rfl
 . show rv (rc 0)= _;rw[E3];decide+kernel
 . show rv (rc (-rv (rc (Rat.divInt 2 3))))= _;rw[E3,E3,b];decide+kernel
 . show rv (rc (-rv (rc (Rat.divInt 1 3))))= _;rw[E3,E3,a];decide+kernel
 . show rv (rc 0)= _;rw[E3];decide+kernel
 . show rv (rc (Rat.divInt 1 3))= _;rw[E3,a];decide+kernel
 . show rv (rc (-rv (rc (Rat.divInt 1 3))))= _;rw[E3,E3,a];decide+kernel
 . show rv (rc 0)= _;rw[E3];decide+kernel
 . show rv (rc (-rv (rc (Rat.divInt 1 3))))= _;rw[E3,E3,a];decide+kernel
 . show rv (rc (-rv (rc (Rat.divInt 2 3))))= _;rw[E3,E3,b];decide+kernel
def kM:∀l∈UP (rc (Rat.divInt 1 3)) (rc (Rat.divInt 2 3)) (rc 0),GN K1 l/\(l.length:Int)=3:=by
 obtain⟨b,d⟩:=YG;have c:∀ {q:Rat},qs 1 q->sz K1 (rc (-rv (rc q))):=fun {q} h=>by rw[E3];exact F9 (GO (XS h)) (by decide)
 have f:sz K1 (rc 0):=GO (Q4 (by decide));intro l a;unfold UP at a;simp only[qG,rY,vG]at a;rcases a with rfl|rfl|rfl<;>refine⟨fun e a=> ?_,rfl⟩<;>simp only[qG,rY,vG]at a<;>rcases a with rfl|rfl|rfl<;>first
  |exact f
  |exact c b
  |exact c d
  |exact F9 (GO b) (by decide)
def LS (x:A2 H7.args) (b:awf H7.args x) (a:H7.pre x):Hk x:=by
 obtain⟨_⟩:=x;simp only[Hk];refine⟨trivial, ?_⟩;rintro⟨one,_⟩ _ a;simp only at a⊢;subst a;have a:awE (ri 1)=Aq:=by unfold awE Aq;rw[LB];rfl
 rw[a];refine⟨fun _=>A1r, ?_⟩;rintro⟨f,e,_⟩ _ ⟨_,a⟩;change TFV at f;change Int at e;simp only at a⊢;obtain⟨c,g,G,d,k,b,h⟩:=a C1r;clear a;subst c;refine⟨trivial, ?_⟩;rintro⟨h,_⟩ _ a;simp only at a⊢;subst a;refine⟨trivial, ?_⟩;rintro⟨h,_⟩ _ a;simp only at a⊢;subst a;refine⟨trivial, ?_⟩;rintro⟨z,_⟩ _ a;simp only at a⊢;subst a;refine⟨⟨P9 YG.1 (by decide),P9 YG.2 (by decide),kM⟩, ?_⟩;intro M _ a;have h:f.2.1=M:=A3b b a fun i j hi hj=>(eK d i j hi hj).trans (A2h i j hi hj).symm
 have k:X5 K1 f.2.1:=VX b (by decide) fun i j hi hj=>by
  rw[eK d i j hi hj, <-A2h i j hi hj];have a:((UP (rc (Rat.divInt 1 3)) (rc (Rat.divInt 2 3)) (rc 0)).getD i []).getD j zr∈(UP (rc (Rat.divInt 1 3)) (rc (Rat.divInt 2 3)) (rc 0)).getD i []:=C8 (by
   rcases(show i=0\/i=1\/i=2 by have:i<3:=hi;omega)with rfl|rfl|rfl<;>exact hj)
  have d:=(kM _ (C8 (show i<3 from hi))).1 _ a;refine Jm ?_ d (by decide);rcases(show i=0\/i=1\/i=2 by have:i<3:=hi;omega)with rfl|rfl|rfl<;>rcases(show j=0\/j=1\/j=2 by have:j<3:=hj;omega)with rfl|rfl|rfl<;>exact TF _
 simp only[g3b,true_implies];rw[g,eJ];refine⟨trivial, ?_⟩;rintro⟨r,_⟩ ⟨_,a⟩;simp only at a⊢;rw[rG (by trivial)]at a;subst a;refine⟨fun _=>k, ?_⟩;rintro⟨d,_⟩ a;simp only at a⊢;have a:=(a rfl).2;rw[a.2 ⟨h,fun v d e c=> ?_⟩]
 . rfl
 . exact cQ b v d e c
def JN:An:= {loop:= [(4,⟨[0,1],[],[(5,false,vI)],[],[]⟩)],plan:= [(6,[3,7],[],true,(pZ9 0 3 (.q 3 (pZ9 4 3 (.q 7 (.p 8 .done))))))]}
def Pj:A2 S6.args->Prop:=fun(x:Fe)=>let f:Prop:=(x.1=x.2.1);let e:=(0:Int);let b:=(x.2.1.length:Int);let a:=(x.1.length:Int);(iB (decide (a≠b)) (false=decide f) (∃(I:C7->Prop),∃(c: _->Nat),I (e,())/\∀(p:C7),let d:=(i64.wrap (p.1+1),());let g:Prop:=(gx e x.1 p.1≠gx e x.2.1 p.1);(Ty.int i64).wf p.1/\True->I p->(iB (decide (p.1<a)) ((e<=p.1/\p.1<a)/\(e<=p.1/\p.1<b)/\(iB (decide g) (false=decide f) (I d/\c d<c p))) (true=decide f))))
def BN (x:A2 S6.args) (b:awf S6.args x) (_:S6.pre x):Pj x:=by
 obtain⟨a,f,_⟩:=x;have c:a.length<=9223372036854775807:=b.1.1;change List Int at a f;simp only[Pj,iB];refine⟨fun h=> ?_,fun h=> ?_⟩
 . have h:=qA h;exact(rE fun e=>h (by rw[e])).symm
 . have b:a.length=f.length:=by have:=qB h;omega
   refine⟨fun p=>0<=p.1/\p.1<=(a.length:Int)/\a.take p.1.toNat=f.take p.1.toNat,fun p=>((a.length:Int)-p.1).toNat,⟨qI _,qD _,by simp⟩, ?_⟩;rintro⟨i,_⟩ _ ⟨c,b,g⟩;change Int at i;simp only at c b g⊢;refine⟨fun h=> ?_,fun h=> ?_⟩
   . have h:=qA h;refine⟨⟨c,h⟩,⟨c,by omega⟩,fun b=> ?_,fun b=> ?_⟩
     . have b:=qA b;exact(rE fun e=>b (by rw[e])).symm
     . have b:gx 0 a i=gx 0 f i:=by simpa using b
       rw[wv (by omega)];refine⟨⟨by omega,by omega, ?_⟩,by omega⟩;rw[show(i+1).toNat=i.toNat+1 from by omega,rQ,rQ,G8 (d:=(0:Int)) c h,G8 (d:=(0:Int)) c (by omega),g,b]
   . have h:=qB h;rw[D7 (by omega),D7 (by omega)]at g;exact(rG g).symm
def UW (E:List Wv) (G:Nat->Nat->Rat) (i:Nat):List (List D3):=(List.range i).map fun k=>TG E.length fun l=>Un E l*bL E G l k
def NL {E:List Wv} {G:Nat->Nat->Rat} {n i j:Nat} (a:i<n) (b:j<E.length):rv (((UW E G n).getD i []).getD j zr)=Un E j*bL E G j i:=by
 have e:(UW E G n).getD i []=TG E.length fun l=>Un E l*bL E G l i:=by
  unfold UW;rw[qF,uM,vL a];rfl
 rw[e,B1q b,E3]
def Hu (x:A2 F1.args) (d:awf F1.args x) (c:F1.pre x):Br x:=by
 obtain⟨c,_⟩:=x;simp only[Br,iB,Ql];refine⟨trivial, ?_⟩;rintro⟨⟨n,E⟩,_⟩ _ d;change Int at n;change List Wv at E;have d:B0p (n,E):=d;obtain⟨c,h,i,f,g⟩:=id d;have n:=A5l d;have j:=B0q d;simp only at h i f g c j⊢;refine⟨fun _=>n, ?_⟩;rintro⟨f,e,_⟩ _ ⟨_,d⟩;change TFV at f;change Int at e;simp only at d⊢;obtain⟨h,u,G,w,r,v,f⟩:=d c;clear d;subst h;obtain⟨D,B⟩:=C3t c n j r u v f;refine⟨trivial, ?_⟩;rintro⟨f,_⟩ _ d;simp only at d⊢;subst d;refine⟨fun o=>by simp[I6]at o,fun _=> ?_⟩;refine⟨fun p=>0<=p.2.1/\p.2.1<=(E.length:Int)/\p.1=UW E G p.2.1.toNat,fun p=>((E.length:Int)-p.2.1).toNat,⟨qI _,qD _,rfl⟩, ?_⟩;rintro⟨f,i,_⟩ _ ⟨g,s,d⟩;change List (List D3)at f;change Int at i;simp only at g s d⊢;have y:f.length=i.toNat:=by rw[d];unfold UW;rw[tG,zO]
 refine⟨fun f=> ?_,fun f=> ?_⟩
 . have f:=qA f;have z:i.toNat<E.length:=by omega
   have A:gx (0,0,dQ,(false,[]),[]) E i=E.getD i.toNat dB:=G7 g f;obtain⟨s,t⟩:=fI c z;simp only at s t;rw[A,s,t];refine⟨⟨g,f⟩,B, ?_⟩;rintro⟨X,e,_⟩ _ ⟨_,g⟩;change List D3 at X;change Int at e;simp only at g⊢;obtain⟨⟨t,A⟩,B⟩:=btw c u v z;obtain⟨h,s⟩:=((g D).2 t).2 A;clear g;subst h;have g:X=TG E.length fun l=>Un E l*bL E G l i.toNat:=s.trans B
   clear s;have s:X.length=E.length:=by rw[g,gX]
   rw[s];simp only[g4n,not_true_eq_false,g0l,I6,rH];refine⟨fun o=>(by cases o),fun _=> ?_⟩;rw[wv (by omega)];refine⟨⟨by rw[rC];omega,by rw[rC];omega⟩,⟨by omega,by omega, ?_⟩,by omega⟩;rw[show(i+1).toNat=i.toNat+1 from by omega,d,g];unfold UW;rw[yC,uJ];rfl
 have f:=qB f;have f:i.toNat=E.length:=by omega
 rw[f]at d y;rw[y];simp only[qM];refine⟨⟨fun l f=> ?_,qD _,by omega,by omega⟩, ?_⟩
 . rw[d]at f;unfold UW at f;obtain⟨k,i,rfl⟩:=sP.1 f;refine⟨fun y g=> ?_,by rw[gX]⟩;obtain⟨l,f,rfl⟩:=B6g g;exact GO (L8 (B4h c n j r f (vS.1 i)) (by decide))
 rintro⟨H,_⟩ _ f;change U9 at H;simp only at f⊢;have o:X5 (K2+K2+1) H:=VX f (by decide) fun a b ha hb=>by
  rw[d,NL ha hb];exact B4h c n j r hb ha
 have n:C2 H:=Rr f (by omega) (by omega);have r:H.1=(E.length:Int):=f.1;have j:H.2.1=(E.length:Int):=f.2.1;refine⟨⟨K2+K2+1,9,by decide,o,o,by rw[j];omega,by decide⟩, ?_⟩;rintro⟨P,e,_⟩ _ ⟨_,g⟩;change U9 at P;simp only at g⊢;obtain⟨g,_⟩:=(g ⟨n,n⟩).2 (j.trans r.symm);rw[r,j]at g;simp only[qM]at g;have j:∀a b,a<E.length->b<E.length->el H a b=Un E b*bL E G b a:=fun a b ha hb=>by
  rw[gO f ha hb,d];exact NL ha hb
 have n:P=H:=A3b g f fun a b ha hb=>by
  rw[d,NL ha hb];have d:=B4g c w (k:=b) (l:=a) hb;simp only at d;rw[<-d, <-Jn];refine B7 fun k i=> ?_
  rw[j a k ha i,j k b i hb];have:=B4i c w hb i;simp only at this;rw[this];grind
 refine⟨fun v c e h=> ?_, ?_⟩
 . rw[n]at c;exact F9 (o v c e h) (by decide)
 rintro⟨r,_⟩ _ d;simp only at d⊢;exact d.2 ⟨n,fun v c e h=>cQ g v c e h⟩
end Go.Proofs.YtiflhbllbgajeaaGreat
namespace Go.Vc
open Go Go.RowKit Go.Gw Go.Shelf
open Go.IntKind (i64)
structure El (t:Ty) (w:World) (Z:Nat->Prop) where
 c:List Value
 v:t.den
 h:C5 t w Z c v
def lC {t:Ty} {w:World} {Z:Nat->Prop} :∀ {l:List t.den} {xs:List Value},G1 (C5 t w Z) xs l->∃L:List (El t w Z),L.flatMap El.c=xs/\L.map El.v=l
 | [],_,h=>⟨[],h.symm,rfl⟩
 |x::l,_,⟨c1,d,e,a,b⟩=>by
  obtain⟨L,d,f⟩:=lC b;exact⟨⟨c1,x,a⟩::L,by rw[yJ,d,e],by rw[rZ,f]⟩
def lD {t:Ty} {w w':World} {Z Z':Nat->Prop} (a:∀c x,C5 t w Z c x->C5 t w' Z' c x):∀L:List (El t w Z),G1 (C5 t w' Z') (L.flatMap El.c) (L.map El.v)
 | []=>rfl
 |p::L=>⟨p.c,L.flatMap El.c,rfl,a _ _ p.h,lD a L⟩
def lS {b:Type} {enc:b->List Value} {k:Nat} (a:∀x,(enc x).length=k):∀(L:List b) (i r:Nat) {x:b},L[i]? =some x->r<k->(L.flatMap enc)[i*k+r]? =(enc x)[r]?
 | [],_,_,_,h,_=>by cases h
 |y::L,0,r,x,h,b=>by
  simp only[g1k,rD]at h;subst h;rw[yJ,xZ,sE,wF (by rw[a];exact b)]
 |y::L,i+1,r,x,h,b=>by
  rw[uF]at h;have e:(i+1)*k+r-k=i*k+r:=by rw[uN];omega
  rw[yJ,uC (by rw[a,uN];omega),a,e];exact lS a L i r h b
def lT {b:Type} {enc:b->List Value} {k:Nat} (a:∀x,(enc x).length=k):∀L:List b,(L.flatMap enc).length=L.length*k
 | []=>by simp
 |x::L=>by rw[yJ,rO,lT a L,a,rJ,uN];omega
def lR {b:Type} [Inhabited b] {enc:b->List Value} {k:Nat} (c:∀x,(enc x).length=k) (d:Array b) {j:Nat} (a:j<d.size*k):(d.toList.flatMap enc)[j]? =some (Go.Sort.flatK enc k d)[j]!:=by
 have f:0<k:=by
  rcases vF k with h|h
  . rw[h,wM]at a;omega
  . exact h
 have b:j/k<d.size:=(tN f).2 a;have g:j%k<k:=wC _ f;have e:j=j/k*k+j%k:=by rw[tC];exact(wT j k).symm
 rw[Go.Sort.get_flatK enc k d j a];have a:d.toList[j/k]? =some d[j/k]!:=by
  rw[wH,tX b,g0m d _ b]
 have:=lS c d.toList (j/k) (j%k) a g;rw[<-e]at this;have a:j%k<(enc d[j/k]!).length:=by rw[c];exact g
 rw[this,qT a,g0m (enc d[j/k]!) (j%k) a]
def A6o {F cur:Array Value} {n:Nat} {xs:List Value} (c:xs.length=n) (a:F.size=n) (b:n<=cur.size) (h:∀j,j<n->xs[j]? =some F[j]!):(Go.Sort.putCells id 0 F cur).size=cur.size/\(Go.Sort.putCells id 0 F cur).toList.take n=xs:=by
 refine⟨by simp[Go.Sort.putCells], ?_⟩;apply vY;intro j;by_cases a:j<n
 . rw[rS a,h j a,wH];unfold Go.Sort.putCells;rw[Array.getElem?_mapIdx,tX (by omega)];simp only[vV];rw[qR ⟨rM _,by omega⟩];rfl
 . rw[rR (by simp;omega),rR (by omega)]
def B2y {b:Type} [Inhabited b] {d a:Array b} (h:Go.Sort.PermIn 0 d.size d a):a.toList.Perm d.toList:=by
 obtain⟨b,_,a⟩:=h;rw[g2k,g2k]at a;simpa[List.extract_eq_take_drop,qV,b]using a
def A1k {d:Type} [Inhabited d] {lt:d->d->Bool} {c:Array d} {n:Nat} (f:c.size=n) (h:Go.Sort.SortedIn lt 0 n c):c.toList.Pairwise fun a b=>lt b a=false:=by
 rw[tY];intro i j d k g;have f:i<c.size:=by simpa using d
 have d:j<c.size:=by simpa using k
 have:=h i j (rM _) g (by omega);rw[g0m c i f,g0m c j d]at this;simpa using this
def B7l {w:World} {b m:Nat} {f:Array Value->Array Value} {a:Array Obj} :w.heap.size<=(Go.Sort.grow (Go.Sort.mapBlock (Go.Sort.ahead w m) b f) a).heap.size:=by
 simp[Go.Sort.grow,Go.Sort.mapBlock,Go.Sort.ahead]
def nV {w:World} {b m j:Nat} {f:Array Value->Array Value} {d:Array Obj} (a:j<w.heap.size) (c:j≠b):(Go.Sort.grow (Go.Sort.mapBlock (Go.Sort.ahead w m) b f) d).heap[j]? =w.heap[j]?:=by
 rw[Go.Sort.heap_grow_old _ _ (by simpa[Go.Sort.mapBlock,Go.Sort.ahead]using a)];unfold Go.Sort.mapBlock;simp only;rw[g2g,qK (Ne.symm c)];rfl
def B7k {w:World} {b m:Nat} {f:Array Value->Array Value} {c:Array Obj} {cur:Array Value} {e:TypeId} (a:w.heap[b]? =some (.cells cur e (0,0))):(Go.Sort.grow (Go.Sort.mapBlock (Go.Sort.ahead w m) b f) c).heap[b]? =some (.cells (f cur) e (0,0)):=by
 have c:b<w.heap.size:=(rT.1 a).1;rw[Go.Sort.heap_grow_old _ _ (by simpa[Go.Sort.mapBlock,Go.Sort.ahead]using c)];unfold Go.Sort.mapBlock;simp only;rw[g2g,qR rfl];have:(Go.Sort.ahead w m).heap[b]? =some (.cells cur e (0,0)):=a;rw[this];rfl
def HO {P:Program} {f:FuncId} (a:Gi P f=true) (args:Array Value) (w:World):(callFunc f args).run P w= .ok (.enter f args) w:=by
 unfold Gi at a;split at a
 . rename_i fn d;simp only[qC,rP]at a;have c:¬fn.body=none:=by intro hb;rw[hb]at a;simp at a
   have b:¬fn.name= "runtime.NumGoroutine" :=by simpa using a.1
   simp[callFunc,d,b,c,go_sem]
 . cases a
def B7m {d f:Type} {φ:d->d->Int} (v:f->d) (g:∀a,¬φ a a<0) (i:∀a b c,φ a b<0->φ b c<0->φ a c<0) (j:∀a b c,¬φ a b<0->¬φ b c<0->¬φ a c<0):
 Go.Sort.SWO (Go.Proofs.ltOf fun x y:f=>φ (v x) (v y)):=by
 refine⟨fun x=> ?_,fun x y z h d=> ?_,fun x y z h d=> ?_⟩
 . exact rE (g _)
 . exact rG (i _ _ _ (qA h) (qA d))
 . exact rE (j _ _ _ (qB h) (qB d))
def A7b {t:Ty} {φ:t.den->t.den->Int} {e:TypeId} {w w':World} {Z:Nat->Prop} {fv:Value} {g c:Nat} {cur F:Array Value} {k:Nat} {x:List t.den} {L L':List (El t w Z)}
 (B:∀b,Z b->b<w.heap.size) (G:¬Z g) (i:t.size=k)
 (d:w.heap[g]? =some (.cells cur e (0,0))) (n:L.length<=c) (H:c<=maxLen) (s:cur.size=c*k) (A:L.map El.v=x)
 (u:L'.Perm L) (M:L'.Pairwise fun a b=>¬φ b.v a.v<0)
 (d:F.size=L.length*k) (z:∀j,j<L.length*k->(L'.flatMap El.c)[j]? =some F[j]!)
 (I:w'.os=w.os) (P:w'.tape=w.tape) (J:w'.output=w.output) (O:w.heap.size<=w'.heap.size)
 (l:∀j,j<w.heap.size->j≠g->w'.heap[j]? =w.heap[j]?) (E:w'.heap[g]? =some (.cells (Go.Sort.putCells id 0 F cur) e (0,0))):
 Ii (mR w (Bq t e φ).args [.slice (some ⟨g,0,none⟩) L.length c,fv]) w w'/\∃(r:Bi (Bq t e φ).res) (o:Od (Bq t e φ).args) (us:List Value) (Zn:Nat->Prop),(Bq t e φ).post (x,()) r/\(N3 (Bq t e φ).args=true->(Bq t e φ).mpost (x,()) r o)/\Value.tuple #[]=Xc us/\(∀b,Zn b->(w.heap.size<=b/\b<w'.heap.size)\/((Bq t e φ).shared=true/\Z b))/\Oo w.heap.size w' Zn (Bq t e φ).res us r/\Xv w w' Zn (Bq t e φ).args [.slice (some ⟨g,0,none⟩) L.length c,fv] o:=by
 have f:L'.length=L.length:=u.length_eq;have D:∀p:El t w Z,p.c.length=k:=fun p=>by rw[<-i];exact C5.length p.h
 have y:(L'.flatMap El.c).length=L.length*k:=by rw[lT D,f]
 obtain⟨Q,R⟩:=A6o y d (by rw[s];exact rL _ n) z;have N:O4 Z w w':=fun b d=>l b (B b d) (fun e=>G (e▸d))
 refine⟨⟨I,P,J,O,fun j B D=>l j B (fun z=>D ?_),trivial⟩,(),(L'.map El.v,()),[],Z,trivial,fun _=>⟨?_, ?_⟩,rfl,fun b d=> .inr ⟨rfl,d⟩,rfl, ?_⟩
 . subst z;refine⟨(.row t e, .slice (some ⟨j,0,none⟩) L.length c),rA, ?_⟩;rfl
 . rw[<-A];exact u.map _
 . exact vM.2 M
 . refine⟨⟨L'.flatMap El.c,⟨?_, .inr ⟨g,c,Go.Sort.putCells id 0 F cur, ?_,rM _,E, ?_,H, ?_, ?_⟩⟩, ?_⟩,trivial⟩
   . simp only[tG];rw[y,f,i]
   . simp only[tG,f]
   . simp only[tG,f];exact n
   . rw[Q,s,i]
   . simp only[tG,f,i];exact R
   . refine lD (fun f y c=> ?_) L';exact C5.mono (fun b d=>d) N c
def A8b (P:Program) (g:FuncId) (t:Ty) (φ:t.den->t.den->Int):Prop:=
 ∀(w:World) (Z:Nat->Prop) (c1 a:List Value) (x y:t.den),C5 t w Z c1 x->C5 t w Z a y->Calls P g #[.agg c1.toArray, .agg a.toArray] w fun e b=>e= .returned (.int .i64 (φ x y))/\∃q a,b=Go.Sort.grow (w.drewN q) a
def nS {P:Program} {ρ:Ren} (LL:Go.Proofs.SlLaysF0.n6 P ρ) {t:Ty} {e:TypeId} {g:FuncId} {φ:t.den->t.den->Int} (R:∀w,(isAgg (ρ.t 24)).run P w= .ok true w) (ah:∀w,(Go.sizeOf (ρ.t 24)).run P w= .ok t.size w)
 (U:∀a,¬φ a a<0) (V:∀a b c,φ a b<0->φ b c<0->φ a c<0) (W:∀a b c,¬φ a b<0->¬φ b c<0->¬φ a c<0) (a6:Gi P g=true) (a3:A8b P g t φ):A2d P (ρ.f 6) g t e φ:=by
 rintro w Z am aj D ⟨an,M,a5,a0⟩ a8;obtain⟨L,rfl,rfl⟩:=lC a5;have Y:(L.map El.v).length=L.length:=tG ..;rw[Y]at M a8;obtain⟨ai,af⟩:=M;have z:∀(p:Option Addr) (d:Nat),L= []->Gw.bO P (ρ.f 6) [.slice p 0 d, .func (.func g) #[] #[]] w fun u Q=>u= .tuple #[]/\Q=w:=fun p d _=>
  Calls.mono (Go.Proofs.AnyF.slices_SortFunc_none LL p d (.func (.func g) #[] #[]) w) fun _ _ ⟨N,hw⟩=>⟨_,N,rfl,hw⟩
 rcases af with⟨rfl,a9⟩ | ⟨b,d,cur,rfl,_,h,G,J,H,ae⟩
 . have n:L= []:=qO a9;subst n;refine(z none 0 rfl).mono ?_;rintro _ _ ⟨rfl,rfl⟩;refine⟨Ii.of (R7.refl _),(),([],()),[],(fun _=>False),trivial,fun _=>⟨wP _,List.Pairwise.nil⟩,rfl,fun _ s=>s.elim,rfl,⟨⟨[],World.ownsRow_nil _ _ _ _,rfl⟩,trivial⟩⟩
 . have E:¬Z b:=a0 b rfl;have v:∀p:El t w Z,p.c.length=t.size:=fun p=>C5.length p.h
   have a1:b<w.heap.size:=(rT.1 h).1;rcases n:L with _ | ⟨ag,L0⟩
   . subst n;refine(z _ d rfl).mono ?_;rintro _ _ ⟨rfl,rfl⟩;refine⟨Ii.of (R7.refl _),(),([],()),[],(fun _=>False),trivial,fun _=>⟨wP _,List.Pairwise.nil⟩,rfl,fun _ s=>s.elim,rfl,⟨⟨[],⟨by simp, .inr ⟨b,d,cur,rfl,rM _,h,G,J,H,by simp⟩⟩,rfl⟩,trivial⟩⟩
   . rw[<-n];clear z
     haveI:Inhabited (El t w Z):=⟨ag⟩
     have X:Go.Sort.HoldsK El.c t.size w b 0 L.toArray:=by
      intro r j;rw[Go.Sort.size_flatK]at j;have a7:r<L.length*t.size:=by simpa using j
      have N:=lR v L.toArray j;rw[sE];refine⟨?_, ?_⟩
      . have T:cur[r]? =some (Go.Sort.flatK El.c t.size L.toArray)[r]!:=by
         rw[<-N];simp only;rw[<-ae,rS a7,wH]
        simp only[World.cell?,h];exact T
      . simp[World.frozen?,h]
     have a4:Go.Proofs.CmpLays P g #[] El.c t.size (fun x y:El t w Z=>φ x.v y.v) b 0 L.toArray.size w:=by
      intro m O T a7 x y;have N:O4 Z w (Go.Proofs.sortWorldK El.c t.size w b 0 m T O):=by
       intro B o;have:B≠b:=fun e=>E (e▸o)
       exact nV (D B o) this
      exact a3 _ Z x.c y.c x.v y.v (C5.mono (fun _ i=>i) N x.h) (C5.mono (fun _ i=>i) N y.h)
     have a2:=Go.Proofs.AnyQ.slices_SortFunc LL t.size R ah El.c v (fun x=>C5.oneCell x.h) (fun x y:El t w Z=>φ x.v y.v) (B7m El.v U V W) g #[] b 0 d L.toArray w (HO a6) a4 X a1 (by simp;omega);refine Calls.mono a2 ?_;rintro _ Q ⟨rfl,l,ak,O,A,ad,rfl⟩;refine⟨_,rfl, ?_⟩;have ab:=B2y A;have ac:=A1k A.1 ad;have I:l.size=L.length:=by rw[A.1];simp
     refine A7b (k:=t.size) (F:=Go.Sort.flatK El.c t.size l) (L:=L) (L':=l.toList) (cur:=cur) (x:=L.map El.v) D E rfl h G J H rfl ab ?_ ?_ ?_ rfl rfl rfl ?_ ?_ ?_
     . exact ac.imp fun i=>qB i
     . rw[Go.Sort.size_flatK,I]
     . intro r j;exact lR v l (by rw[I];exact j)
     . exact B7l
     . intro B o aa;exact nV o aa
     . exact B7k h
end Go.Vc
namespace Go.Proofs
open Go.Proofs.Tryz
open Go.Shelf
open Go.IntKind (i64)
def Tryz.sortEnt_ren:Go.Shelf.Ren:=⟨fun|6=>119|15=>156|14=>155|28=>182|29=>183|20=>174|21=>175|22=>176|23=>177|24=>178|25=>179|26=>180|27=>181|46=>194|47=>195|48=>196|49=>197|50=>198|57=>203|n=>n,fun|22=>79|24=>106|25=>147|3=>3|39=>165|0=>0|53=>103|55=>124|4=>4|46=>193|45=>192|50=>197|5=>5|9=>9|66=>206|70=>210|76=>215|77=>216|n=>n,fun|n=>n⟩
def Tryz.sortEnt:Go.Proofs.SlLaysF0.n6 prog sortEnt_ren:= {
 mixed:=by kernel_rfl
 f6:=⟨f119.name,by decide,func119.trans (tS some (by kernel_rfl))⟩
 f14:=⟨f155.name,by decide,func155.trans (tS some (by kernel_rfl))⟩
 f15:=func156.trans (tS some (by kernel_rfl))
 f20:=⟨f174.name,by decide,func174.trans (tS some (by kernel_rfl))⟩
 f21:=⟨f175.name,by decide,func175.trans (tS some (by kernel_rfl))⟩
 f22:=⟨f176.name,by decide,func176.trans (tS some (by kernel_rfl))⟩
 f23:=⟨f177.name,by decide,func177.trans (tS some (by kernel_rfl))⟩
 f24:=⟨f178.name,by decide,func178.trans (tS some (by kernel_rfl))⟩
 f25:=⟨f179.name,by decide,func179.trans (tS some (by kernel_rfl))⟩
 f26:=⟨f180.name,by decide,func180.trans (tS some (by kernel_rfl))⟩
 f27:=⟨f181.name,by decide,func181.trans (tS some (by kernel_rfl))⟩
 f28:=func182.trans (tS some (by kernel_rfl))
 f29:=func183.trans (tS some (by kernel_rfl))
 f46:=⟨f194.name,by decide,func194.trans (tS some (by kernel_rfl))⟩
 f47:=func195.trans (tS some (by kernel_rfl))
 f48:=func196.trans (tS some (by kernel_rfl))
 f49:=⟨f197.name,by decide,func197.trans (tS some (by kernel_rfl))⟩
 f50:=⟨f198.name,by decide,func198.trans (tS some (by kernel_rfl))⟩
 f57:=⟨f203.name,by decide,func203.trans (tS some (by kernel_rfl))⟩
 t0:=underlying0
 a0:=isAgg0
 z0:=sizeOf0
 v0:=zeroValue0
 t3:=underlying3
 a3:=isAgg3
 z3:=sizeOf3
 v3:=zeroValue3
 t4:=underlying4
 a4:=isAgg4
 z4:=sizeOf4
 v4:=zeroValue4
 t5:=underlying5
 a5:=isAgg5
 z5:=sizeOf5
 v5:=zeroValue5
 t9:=underlying9
 a9:=isAgg9
 z9:=sizeOf9
 v9:=zeroValue9
 t22:=underlying79
 a22:=isAgg79
 z22:=sizeOf79
 v22:=zeroValue79
 t25:=underlying147
 a25:=isAgg147
 z25:=sizeOf147
 v25:=zeroValue147
 t39:=underlying165
 a39:=isAgg165
 z39:=sizeOf165
 v39:=zeroValue165
 t45:=underlying192
 a45:=isAgg192
 z45:=sizeOf192
 v45:=zeroValue192
 t46:=underlying193
 a46:=isAgg193
 z46:=sizeOf193
 v46:=zeroValue193
 t50:=underlying197
 a50:=isAgg197
 z50:=sizeOf197
 v50:=zeroValue197
 t53:=underlying103
 a53:=isAgg103
 z53:=sizeOf103
 v53:=zeroValue103
 t55:=underlying124
 a55:=isAgg124
 z55:=sizeOf124
 v55:=zeroValue124
 t66:=underlying206
 a66:=isAgg206
 z66:=sizeOf206
 v66:=zeroValue206
 t70:=underlying210
 a70:=isAgg210
 z70:=sizeOf210
 v70:=zeroValue210
 t76:=underlying215
 a76:=isAgg215
 z76:=sizeOf215
 v76:=zeroValue215
 t77:=underlying216
 a77:=isAgg216
 z77:=sizeOf216
 v77:=zeroValue216}
def Tryz.cmpInt_ren:Go.Shelf.Ren:=⟨fun|5=>121|7=>157|n=>n,fun|22=>3|3=>3|4=>4|n=>n,fun|n=>n⟩
def Tryz.cmpInt:Go.Proofs.SlLaysC2.n5 prog cmpInt_ren:= {
 mixed:=by kernel_rfl
 f5:=⟨f121.name,by decide,func121.trans (tS some (by kernel_rfl))⟩
 f7:=⟨f157.name,by decide,func157.trans (tS some (by kernel_rfl))⟩
 t3:=underlying3
 a3:=isAgg3
 z3:=sizeOf3
 v3:=zeroValue3
 t4:=underlying4
 a4:=isAgg4
 z4:=sizeOf4
 v4:=zeroValue4
 t22:=underlying3
 a22:=isAgg3
 z22:=sizeOf3
 v22:=zeroValue3}
end Go.Proofs
namespace Go.Proofs.YtiflhbllbgajeaaGreat
open Go.Proofs.Tryz
open Go.Vc Go.Gw Go.Lib Go.Shelf
open Go.IntKind (i64)
def Ze (w:World) (o:Obj):w.alloc o= {w with heap:=w.heap.push o} :=rfl
def A9i (a b:Int) (c d:List Value) (w:World):Calls prog 120 #[.agg (.int .i64 a::c).toArray, .agg (.int .i64 b::d).toArray] w fun e w'=>e= .returned (.int .i64 (Lib.compareInt a b))/\∃q f,w'=Go.Sort.grow (w.drewN q) f:=by
 have f:∀args w,(callFunc 121 args).run prog w= .ok (.enter 121 args) w:=Go.Vc.HO (by kernel_rfl);have f:=fun(w:World)=>AnyG.cmp_Compare_int cmpInt a b w
 go_enter func120,ntmps120
 go_wp2_with (go_at_fn (121);refine(f _).mono ?_;rintro e w' ⟨rfl,f⟩;rw[f])
 go_ret
 refine⟨rfl,0, #[.cells (Value.int .i64 a::c).toArray 106, .cells (Value.int .i64 b::d).toArray 106], ?_⟩;rw[Ze,Ze];simp[Go.Sort.grow,World.drewN];apply zS.1;simp
def A9h (a b:Int):Lib.compareInt a b=K6 a b:=by
 unfold Lib.compareInt K6
 (repeat' split)<;>first|rfl|omega
def B9s:A8b prog 120 tE (fun a b:D1=>K6 a.1 b.1):=by
 rintro w Z c1 f x y ⟨g,c,rfl,⟨rfl,_⟩,_⟩ ⟨h,d,rfl,⟨rfl,_⟩,_⟩;have:=A9i x.1 y.1 c d w;rw[A9h]at this;exact this
def B7h:PO prog 119 (TP 120 tE 106 (fun a b=>K6 a.1 b.1)):=by
 refine YD (tys:= []) (nS (ρ:=sortEnt_ren) sortEnt (t:=tE) (e:=106) (g:=120) (φ:=fun a b:D1=>K6 a.1 b.1) isAgg106 sizeOf106 (fun a=> ?_) (fun a b c=> ?_) (fun a b c=> ?_) (by kernel_rfl) B9s);all_goals (simp only[K6];(repeat' split)<;>omega)
def A4z (a b:Int) (c d:List Value) (w:World):Calls prog 153 #[.agg (.int .i64 a::c).toArray, .agg (.int .i64 b::d).toArray] w fun e w'=>e= .returned (.int .i64 (Lib.compareInt a b))/\∃q f,w'=Go.Sort.grow (w.drewN q) f:=by
 have f:∀args w,(callFunc 121 args).run prog w= .ok (.enter 121 args) w:=Go.Vc.HO (by kernel_rfl);have f:=fun(w:World)=>AnyG.cmp_Compare_int cmpInt a b w
 go_enter func153,ntmps153
 go_wp2_with (go_at_fn (121);refine(f _).mono ?_;rintro e w' ⟨rfl,f⟩;rw[f])
 go_ret
 refine⟨rfl,0, #[.cells (Value.int .i64 a::c).toArray 106, .cells (Value.int .i64 b::d).toArray 106], ?_⟩;rw[Ze,Ze];simp[Go.Sort.grow,World.drewN];apply zS.1;simp
def B5g:A8b prog 153 tE (fun a b:D1=>K6 a.1 b.1):=by
 rintro w Z c1 f x y ⟨g,c,rfl,⟨rfl,_⟩,_⟩ ⟨h,d,rfl,⟨rfl,_⟩,_⟩;have:=A4z x.1 y.1 c d w;rw[A9h]at this;exact this
def B3r:PO prog 119 (TP 153 tE 106 (fun a b=>K6 a.1 b.1)):=by
 refine YD (tys:= []) (nS (ρ:=sortEnt_ren) sortEnt (t:=tE) (e:=106) (g:=153) (φ:=fun a b:D1=>K6 a.1 b.1) isAgg106 sizeOf106 (fun a=> ?_) (fun a b c=> ?_) (fun a b c=> ?_) (by kernel_rfl) B5g);all_goals (simp only[K6];(repeat' split)<;>omega)
def B2t (n:Int) (w:World):Calls prog 114 #[.int .i64 n] w fun e w'=>e= .returned (.func (.func 115) #[] #[.pointer (some ⟨w.heap.size,0,none⟩)])/\w'=w.alloc (.cells #[.int .i64 n] 3):=by
 go_enter func114,ntmps114
 go_wp2
 go_ret
 exact⟨rfl,rfl⟩
def C1a (k:A8 prog 115 J5):PO prog 114 (B0k prog [(false, .int .i64)] false .bool (.int .i64) (fun n x=>decide (x.1<0\/n<=x.1))):=by
 refine B0l ?_;rintro w Z v n ⟨a,l⟩;obtain rfl:v= .int .i64 n:=by simpa using a
 refine Calls.mono (B2t _ w) ?_;rintro _ _ ⟨rfl,rfl⟩;have c:(w.alloc (.cells #[Value.int .i64 n] 3)).heap.size=w.heap.size+1:=by simp
 refine⟨_,rfl,R7.alloc w _,(fun b=>b=w.heap.size),fun b a=> .inr ⟨by omega,by rw[c,a];omega⟩,115,[.pointer (some ⟨w.heap.size,0,none⟩)],rfl,by kernel_rfl, ?_⟩;rintro d Z1 c ⟨i,_⟩ j g s ⟨f,h,rfl,r,rfl⟩ _;have c:(w.alloc (.cells #[Value.int .i64 n] 3)).heap[w.heap.size]? =some (.cells #[Value.int .i64 n] 3 (0,0)):=by rw[Ze];simp
 have h:d.heap[w.heap.size]? =some (.cells #[Value.int .i64 n] 3 (0,0)):=(j _ rfl).trans c;have o:Y9 prog d (fun b=>Z1 b\/b=w.heap.size) J5.args [f, .pointer (some ⟨w.heap.size,0,none⟩)] (i,n,()):=by
  refine⟨_,_,rfl, ?_,_,_,rfl, ?_,rfl⟩
  . exact r
  . exact⟨w.heap.size,0,[Value.int .i64 n],rfl, .inr rfl,fun j u c=>by
     rcases j with _ |j
     . simp only[g1k,rD]at c;subst c;rw[K5];simp[World.cell?,h]
     . simp at c,rfl,l⟩
 have:=k d (fun b=>Z1 b\/b=w.heap.size) [f, .pointer (some ⟨w.heap.size,0,none⟩)] (i,n,()) (fun b a=>a.elim (s b) fun e=>g b e) o trivial trivial;refine Gw.bO.mono this ?_;rintro u k ⟨c,⟨r,_⟩,o,h,Zn,d,_,rfl,g,⟨j,l,rfl,f,_,rfl⟩,_⟩;refine⟨c.ext fun b a=> ?_,Zn,fun b a=> ?_, ?_⟩
 . obtain⟨p,c,_⟩:=a;cases c
 . rcases g b a with h| ⟨h,_⟩
   . exact .inl h
   . cases h
 . have a:r=decide (i<0\/n<=i):=d;show Bd false .bool k Zn j (decide (i<0\/n<=i));rw[<-a];exact f
end Go.Proofs.YtiflhbllbgajeaaGreat
namespace Go.Proofs.YtiflhbllbgajeaaGreat
open Go.Proofs.Tryz
open Go.Vc Go.Gw
open Go.IntKind (i64)
def I3 {P:Program} {tys:List (Nat×TI)} {sp:H1} {f:FuncId} {fn:Func} {s:A7} {a:A2 s.args->Prop} (an:An) (c:P.funcs[f]? =some fn) (j:∀x,awf s.args x->s.pre x->a x) (i:H5 P tys=true) (h:Jd P sp) (b:∀x,B7f P tys sp an s fn x=a x:=by intro x;kernel_rfl) (a:fn.body.isSome=true:=by kernel_rfl) (d:Nat.ble s.args.length fn.ntmps=true:=by kernel_rfl) (g:X6 fn.ntmps (fn.body.getD .skip)=true:=by kernel_rfl):A8 P f s:=
 B1y c a d g i h b j
def AO:A8 prog 115 J5:=I3 Zh func115 Ts A5 (A1)
def mZ:A8 prog 26 My:=I3 jY func26 YO A5 (A1)
def mY:A8 prog 69 Mx:=I3 jX func69 YN A5 (A1)
def Gt:A8 prog 32 Ac:=I3 JP func32 BS A5 (A0 mY (A1))
def Jj:A8 prog 34 Iu:=I3 kH func34 ZL A5 (A1)
def R9:A8 prog 136 Na:=I3 kA func136 YU A5 (A1)
def Av:A8 prog 89 Nb:=I3 kB func89 YZ A5 (A0 R9 (A1))
def QF:A8 prog 86 Nc:=I3 kC func86 ZC A5 (A0 Av (A1))
def QG:A8 prog 46 Nf:=I3 kD func46 ZD A5 (A0 QF (A1))
def Vk:A8 prog 55 Jo:=I3 eU func55 SR A5 (A1)
def IF:A8 prog 59 Sx:=I3 pA func59 bC A5 (A0 Av (A1))
def Oz:A8 prog 90 Ag:=I3 JV func90 CJ A5 (A0 R9 (A1))
def WY:A8 prog 94 Sn:=I3 oR func94 aT A5 (A0 R9 (A1))
def WZ:A8 prog 138 Ez:=I3 UH func138 LZ A5 (A0 R9 (A1))
def XA:A8 prog 95 Sq:=I3 oU func95 aW A5 (A0 R9 (A0 WZ (A1)))
def aN:A8 prog 164 Hd:=I3 ZZ func164 PL A5 (A0 R9 (A1))
def nA:A8 prog 165 Mz:=I3 jZ func165 YQ A5 (A0 R9 (A1))
def A0s:A8 prog 166 Sr:=I3 oV func166 aX A5 (A1)
def GI:A8 prog 133 Hc:=I3 ZY func133 PK A5 (A0 Oz (A0 WY (A0 XA (A0 R9 (A0 aN (A0 nA (A0 A0s (A1))))))))
def A0q:A8 prog 132 So:=I3 oS func132 aU A5 (A0 GI (A0 R9 (A1)))
def A0u:A8 prog 87 Sv:=I3 oY func87 bA A5 (A0 Av (A0 A0q (A1)))
def Mn:A8 prog 50 Fa:=I3 UI func50 MC A5 (A0 Av (A0 Oz (A1)))
def IE:A8 prog 60 Su:=I3 oX func60 aZ A5 (A0 Av (A0 WY (A0 XA (A1))))
def A0t:A8 prog 134 Ss:=I3 oW func134 aY A5 (A0 Av (A1))
def A0v:A8 prog 135 Sy:=I3 pB func135 bD A5 (A0 IF (A0 IE (A1)))
def aO:A8 prog 88 He:=I3 aA func88 PM A5 (A0 Mn (A0 IE (A0 Av (A0 GI (A0 A0t (A0 A0v (A1)))))))
def Fy:A8 prog 49 Ng:=I3 kE func49 ZG A5 (A0 Jj (A0 QG (A0 Vk (A0 IF (A0 QF (A0 A0u (A0 aO (A1))))))))
def ON:A8 prog 40 Tb:=I3 A4q func40 jK A5 (A0 Fy (A0 Mn (A1)))
def Yg:A8 prog 33 O9:=I3 Xw func33 Qu A5 (A0 Gt (A0 ON (A1)))
def OK:A8 prog 35 Bl:=I3 MY func35 FU A5 (A0 Gt (A0 ON (A1)))
def SJ:A8 prog 8 De:=I3 RN func8 IW A5 (A0 mZ (A0 Gt (A0 Yg (A0 Jj (A0 OK (A1))))))
def H3:A8 prog 141 Bz:=I3 UG func141 LY A5 (A1)
def L2:A8 prog 101 W8:=I3 HF func101 Yw A5 (A0 H3 (A1))
def W2:A8 prog 100 Ak:=I3 JW func100 CN A5 (A0 L2 (A1))
def Wz:A8 prog 130 Dd:=I3 RJ func130 IV A5 (A0 L2 (A1))
def G4:A8 prog 82 V8:=I3 NG func82 GC A5 (A0 W2 (A0 Wz (A1)))
def SG:A8 prog 70 Db:=I3 RG func70 IS A5 (A0 G4 (A1))
def Ko:A8 prog 167 Dg:=I3 RQ func167 IZ A5 (A1)
def KP:A8 prog 139 Ae:=I3 JS func139 CE A5 (A0 H3 (A0 Ko (A1)))
def Ce:A8 prog 98 Al:=I3 JX func98 CO A5 (A0 KP (A1))
def J8:A8 prog 140 P3:=I3 Xx func140 Qv A5 (A0 H3 (A1))
def Cw:A8 prog 99 R2:=I3 Zi func99 Ua A5 (A0 J8 (A1))
def Bg:A8 prog 143 Df:=I3 RP func143 IY A5 (A0 H3 (A1))
def W1:A8 prog 146 Ab:=I3 JO func146 BR A5 (A1)
def SI:A8 prog 142 Dc:=I3 RI func142 IU A5 (A0 Bg (A0 W1 (A1)))
def Sc:A8 prog 170 M6:=I3 Rm func170 Nv A5 (A0 J8 (A0 H3 (A1)))
def aM:A8 prog 182 Hb:=I3 ZX func182 PG A5 (A1)
def Gr:A8 prog 188 J9:=I3 Ud func188 Oi A5 (A0 aM (A1))
def ID:A8 prog 190 Q5:=I3 HI func190 Yz A5 (A1)
def Yh:A8 prog 192 L6:=I3 Xy func192 Qw A5 (A0 H3 (A1))
def Yi:A8 prog 171 P4:=I3 (sp:=Yo) Xz func171 Qx A5 (A0 H3 (A0 Gr (A0 ID (A0 Yh (Fc (HR (cx:=⟨prog,tys⟩) (fn:=f191) (c:=f191.body.getD .skip) func191 (by kernel_rfl) (by kernel_rfl) A5 (T5 (A1) (Ij))) (A1))))))
def Oy:A8 prog 145 Ad:=I3 JR func145 BY A5 (A0 L2 (A0 J8 (A0 H3 (A0 Bg (A0 Ko (A0 Sc (A0 Yi (A1))))))))
def FH:A8 prog 201 U3:=I3 EW func201 Wo A5 (A1)
def KQ:A8 prog 189 Af:=I3 JU func189 CG A5 (A0 FH (A1))
def IC:A8 prog 168 X0:=I3 HH func168 Yy A5 (A0 Gr (A0 KQ (A1)))
def Gu:A8 prog 105 Ex:=I3 UD func105 LW A5 (A0 H3 (A1))
def AP:A8 prog 148 Ey:=I3 UE func148 LX A5 (A0 L2 (A0 H3 (A1)))
def IB:A8 prog 169 W9:=I3 HG func169 Yx A5 (A0 Gu (A0 J8 (A0 AP (A1))))
def WX:A8 prog 144 Ew:=I3 UC func144 LV A5 (A0 L2 (A0 J8 (A0 H3 (A0 Bg (A0 Oy (A0 Ko (A0 IC (A0 IB (A1)))))))))
def Fo:A8 prog 102 X1:=I3 HJ func102 Za A5 (A0 SI (A0 Bg (A0 WX (A0 Oy (A1)))))
def S5:A8 prog 97 V7:=I3 NF func97 GB A5 (A0 Ce (A0 Cw (A0 W2 (A0 Fo (A1)))))
def WU:A8 prog 110 Eu:=I3 UA func110 LQ A5 (A0 Bg (A0 W1 (A1)))
def Xa:A8 prog 71 Ai:=I3 RZ func71 JF A5 (A0 S5 (A0 WU (A1)))
def Xb:A8 prog 111 Dl:=I3 SC func111 JI A5 (A0 G4 (A1))
def WW:A8 prog 147 Ev:=I3 UB func147 LU A5 (A0 H3 (A1))
def WT:A8 prog 103 Es:=I3 TY func103 LO A5 (A0 W1 (A0 WW (A0 AP (A1))))
def Mm:A8 prog 104 Et:=I3 TZ func104 LP A5 (A0 Gu (A0 W1 (A1)))
def Bh:A8 prog 65 Di:=I3 RU func65 JB A5 (A0 G4 (A0 S5 (A0 Ce (A0 Cw (A0 W2 (A0 L2 (A0 Fo (A0 WT (A0 Mm (A0 Gu (A1)))))))))))
def Kv:A8 prog 151 U7:=I3 FB func151 Wu A5 (A1)
def Ej:A8 prog 174 F2:=I3 Eh func174 Co A5 (A1)
def Ht:A8 prog 193 Iw:=mP fun _ h=>h
def Jk:A8 prog 173 H4:=I3 Jf func173 Hm A5 (A0 Ej (A0 Ht (A1)))
def Ea:A8 prog 152 E8:=I3 Ds func152 Cd A5 (A0 Jk (A1))
def OI:A8 prog 157 Bj:=I3 MX func157 FQ A5 (A1)
def Ml:A8 prog 121 W4:=I3 HB func121 Ys A5 (A0 OI (A1))
def KV:A8 prog 153 Ap:=I3 KC func153 CV A5 (A0 Ml (A1))
def Pb:A8 prog 112 Ao:=I3 KB func112 CU A5 (A0 Bh (A0 Kv (A0 Ea (A0 KV (A1)))))
def OQ:A8 prog 113 Bp:=I3 NH func113 GD A5 (A0 S5 (A1))
def Mp:A8 prog 72 Cb:=I3 UL func72 MJ A5 (A0 Xb (A0 Pb (A0 OQ (A1))))
def FG:A8 prog 36 T9:=I3 ER func36 Wn LK (A0 SG (A0 Xa (A0 Mp (A1))))
def KT:A8 prog 73 Am:=I3 JZ func73 CQ A5 (A1)
def AR:A8 prog 74 R3:=I3 Zj func74 Ub A5 (A1)
def Gv:A8 prog 76 N8:=I3 Ul func76 Om A5 (A1)
def Yl:A8 prog 75 P7:=I3 Yc func75 Ra A5 (A0 Gv (A1))
def FK:A8 prog 37 U6:=I3 EZ func37 Ws A5 (A0 KT (A0 AR (A0 Yl (A0 Gv (A1)))))
def Fi:A8 prog 44 Aj:=I3 SA func44 JG A5 (A0 Bh (A1))
def V4:A8 prog 67 U5:=I3 RY func67 JE A5 (A0 Ce (A0 Cw (A0 W2 (A0 Fo (A0 Mm (A0 Gu (A1)))))))
def Ox:A8 prog 117 S7:=I3 JQ func117 BU A5 (A1)
def SO:A8 prog 131 Dk:=I3 SB func131 JH A5 (A0 G4 (A0 Kv (A1)))
def Fh:A8 prog 85 U2:=I3 RO func85 IX A5 (A0 Ox (A0 SO (A1)))
def Kp:A8 prog 154 I0:=I3 Kg func154 Hv A5 (A1)
def Hs:A8 prog 116 F3:=I3 Hr func116 Fq A5 (A0 Kp (A1))
def OL:A8 prog 77 V5:=I3 (sp:=OZ) MZ func77 FV LK (A0 Fh (A0 S5 (Fc (C1a AO) (A0 Hs (A0 Ox (Fc B7h (Fc (HR (cx:=⟨prog,B8a⟩) (fn:=f118) (c:=f118.body.getD .skip) func118 (by kernel_rfl) (by kernel_rfl) LK (T5 (A1) (Ij))) (A1))))))))
def IA:A8 prog 126 W7:=I3 HE func126 Yv A5 (A0 J8 (A0 W1 (A1)))
def M9:A8 prog 79 L3:=I3 EY func79 Wr A5 (A0 IA (A1))
def Qj:A8 prog 45 Ee:=I3 aB func45 PN A5 (A0 Bh (A0 M9 (A1)))
def Se:A8 prog 162 M7:=I3 Rn func162 Oa A5 (A1)
def KU:A8 prog 125 S9:=I3 KA func125 CS A5 (A0 Mp (Fc B3r (A0 Se (A1))))
def SN:A8 prog 160 Ah:=I3 RX func160 JD A5 (A0 G4 (A0 S5 (A1)))
def Ym:A8 prog 184 P8:=I3 Yd func184 Rb A5 (A0 Bh (A0 V4 (A0 G4 (A0 S5 (A1)))))
def FL:A8 prog 161 O2:=I3 FA func161 Wt A5 (A0 Xb (A0 Pb (A0 Ym (A1))))
def OJ:A8 prog 78 N2:=I3 (sp:=Tj) Ri func78 FT EP (A0 M9 (A0 Fh (A0 KU (Fc (HR (cx:=⟨prog,SQ⟩) (fn:=f122) (c:=f122.body.getD .skip) func122 (by kernel_rfl) (by kernel_rfl) EP (T5 (A0 Mp (A1)) (Ij))) (Fc (HR (cx:=⟨prog,SQ⟩) (fn:=f123) (c:=f123.body.getD .skip) func123 (by kernel_rfl) (by kernel_rfl) EP (T5 (Fc (HR (cx:=⟨prog,SQ⟩) (fn:=f158) (c:=f158.body.getD .skip) func158 (by kernel_rfl) (by kernel_rfl) EP (T5 (A1) (T5 (A1) (T5 (A1) (T5 (A1) (Ij)))))) (A1)) (Ij))) (Fc (HR (cx:=⟨prog,SQ⟩) (fn:=f124) (c:=f124.body.getD .skip) func124 (by kernel_rfl) (by kernel_rfl) EP (T5 (A0 Qj (A0 V4 (A0 Xa (A0 SN (A0 FL (Fc (HR (cx:=⟨prog,SQ⟩) (fn:=f159) (c:=f159.body.getD .skip) func159 (by kernel_rfl) (by kernel_rfl) EP (T5 (A1) (T5 (A1) (Ij)))) (A1))))))) (Ij))) (A1))))))) FR
def Sb:A8 prog 185 M5:=I3 Rl func185 Nq A5 (A1)
def Vj:A8 prog 186 N6:=I3 Uj func186 Oj A5 (A0 Fh (A1))
def HY:A8 prog 204 W5:=I3 HC func204 Yt A5 (A1)
def AL:A8 prog 199 R0:=I3 Zf func199 Tn A5 (A0 HY (A1))
def HZ:A8 prog 200 W6:=I3 HD func200 Yu A5 (A0 L2 (A0 Wz (A1)))
def FJ:A8 prog 187 U4:=I3 EX func187 Wq A5 (A0 G4 (A0 Ce (A0 W2 (A0 Mm (A0 Ml (A0 AL (A0 HZ (A1))))))))
def AN:A8 prog 163 R1:=I3 Zg func163 Tp A5 (A0 M9 (A0 Sb (A0 Vj (A0 FJ (A1)))))
def KN:A8 prog 127 Aa:=I3 JM func127 BL A5 (A0 AN (A1))
def WS:A8 prog 128 Er:=I3 TX func128 LN A5 (A0 Fi (A0 V4 (A0 G4 (A1))))
def SL:A8 prog 129 Dj:=I3 RV func129 JC A5 (A0 V4 (A0 G4 (A1)))
def SH:A8 prog 80 Z9:=I3 RH func80 IT A5 (A0 KN (A0 WS (A0 SL (A1))))
def Mo:A8 prog 81 G9:=I3 Md func81 Ka A5 (A0 M9 (A1))
def Qi:A8 prog 38 G5:=I3 Em func38 Lt LK (A0 Fi (A0 V4 (A0 OL (A0 OJ (A0 M9 (A0 SH (A0 Mo (A0 G4 (A1))))))))) Ls
def Yk:A8 prog 39 P6:=I3 Yb func39 Qz A5 (A0 Fi (A0 Qj (A0 Bh (A0 V4 (A0 M9 (A0 G4 (A1)))))))
def Pa:A8 prog 9 S8:=I3 JY func9 CP A5 (A0 FG (A0 FK (A0 Qi (A0 Yk (A1)))))
def XD:A8 prog 16 Ca:=I3 UJ func16 ME A5 (A0 Fy (A0 Mn (A1)))
def Fz:A8 prog 47 Nh:=I3 kF func47 ZJ A5 (A0 Fy (A1))
def QH:A8 prog 14 Ni:=I3 kG func14 ZK A5 (A0 QG (A0 Fz (A1)))
def A0r:A8 prog 93 Sp:=I3 oT func93 aV A5 (A0 R9 (A1))
def XB:A8 prog 56 Sw:=I3 oZ func56 bB A5 (A0 Av (A0 A0r (A1)))
def IG:A8 prog 57 Tc:=I3 pF func57 bI A5 (A0 Fz (A1))
def XC:A8 prog 24 Sz:=I3 pC func24 bE A5 (A0 Fz (A0 Fy (A0 XB (A0 IG (A0 IE (A1))))))
def XE:A8 prog 61 Td:=I3 pG func61 bJ A5 (A0 XC (A0 Jj (A1)))
def XF:A8 prog 137 Fb:=I3 UK func137 MG A5 (A1)
def QI:A8 prog 91 Nj:=I3 kI func91 ZO A5 (A0 QH (A0 XE (A0 XF (A1))))
def OO:A8 prog 51 Bn:=I3 NC func51 FY A5 (A0 QI (A1))
def AQ:A8 prog 17 Iv:=I3 kJ func17 ZP A5 (A0 OO (A1))
def iK:A8 prog 54 Jp:=I3 eV func54 SS A5 (A0 Vk (A1))
def KR:A8 prog 20 Jq:=I3 eW func20 SU A5 (A0 iK (A0 Vk (A1)))
def OM:A8 prog 68 Bm:=I3 NA func68 FX A5 (A0 KR (A0 Fz (A1)))
def OP:A8 prog 53 Bo:=I3 ND func53 FZ A5 (A0 KR (A0 OM (A1)))
def Sd:A8 prog 19 V6:=I3 NE func19 GA A5 (A0 OP (A1))
def A0x:A8 prog 23 Lz:=I3 pE func23 bH A5 (A0 Fz (A0 Fy (A0 IG (A0 IF (A1)))))
def KO:A8 prog 41 S6:=I3 JN func41 BN A5 (A1)
def WV:A8 prog 10 H7:=aK (A0 Pa (A0 XD (A0 AQ (A0 Sd (A0 A0x (A0 Jj (A0 ON (A0 KO (A1))))))))) LS
def Yj:A8 prog 43 P5:=I3 Ya func43 Qy A5 (A0 Fh (A1))
def Vl:A8 prog 13 N7:=I3 Uk func13 Ol A5 (A0 Yj (A0 Fi (A0 Qj (A1))))
def A0w:A8 prog 21 Ta:=I3 pD func21 bG A5 (A0 Fz (A0 Fy (A0 XB (A0 IG (A1)))))
def KS:A8 prog 58 Js:=I3 eY func58 SY A5 (A0 QH (A1))
def iM:A8 prog 22 Jt:=I3 eZ func22 SZ A5 (A0 KS (A1))
def iL:A8 prog 92 Jr:=I3 eX func92 SX A5 (A0 KS (A0 XE (A0 QI (A1))))
def SK:A8 prog 52 Dh:=I3 RR func52 JA A5 (A0 iL (A1))
def A0y:A8 prog 18 Te:=I3 pH func18 bK LK (A0 AQ (A0 A0w (A0 iM (A0 XC (A0 Jj (A0 SK (A1)))))))
def Kn:A8 prog 4 F1:=I3 Kf func4 Hu A5 (A0 SJ (A0 Pa (A0 WV (A0 Vl (A0 AQ (A0 A0y (A0 Sd (A1))))))))
end Go.Proofs.YtiflhbllbgajeaaGreat
