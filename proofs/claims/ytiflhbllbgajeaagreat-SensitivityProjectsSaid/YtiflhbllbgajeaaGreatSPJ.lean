/- For every input SensitivityProjects returns true and leaves its arguments as they were: the whole given statement, no condition. -/
import Derived.Test.YtiflhbllbgajeaaGreatKPJ
set_option linter.all false
namespace Go.Proofs.YtiflhbllbgajeaaGreat
open Go.Vc Go.Gw Go.RowKit Go.ChangeShapes Go.WideShapes Go.ChangeAt
theorem Nm:∀t∈Tryz.f4.params.toList,Tryz.prog.readableRec t=true/\t<Tryz.prog.types.size:=by
 rw[Tryz.params4];intro t a;simp only[qG,rY,vG]at a;rcases a with rfl
 . exact⟨by kernel_rfl,qA (by kernel_rfl)⟩
theorem Qp:laidOutB Tryz.prog=true:=by kernel_rfl
theorem Tg:ownKnob Tryz.prog.godebug=none:=by kernel_rfl
theorem Og:A8 Tryz.prog 4 (gV F1.args):=Kn
theorem Qn:fA Tryz.prog [22] F1.args=true:=by kernel_rfl
set_option maxRecDepth 100000 in
theorem Nl (a:Os) (b:a.Started) (H:Type) (enc:TypeId×Value->H):
 ReturnsInHanded {} Tryz.checked a 4 .any (Rows.sensitivityProjectsSpec.pre6 enc Tryz.prog Tryz.f4 Rows.sensitivityProjectsRow.domain false) (Rows.sensitivityProjectsSpec.post enc Tryz.prog Tryz.f4 false true false false):=by
 refine returnsInHanded_of_change (C:=Tryz.checked) Tg b (by kernel_rfl) Tryz.func4
  (ChangeSpec.witness6 (enc:=enc) (C:=Tryz.checked) false ⟨#[], #[.slice none 0 0],[]⟩ 8 (by kernel_rfl) (by kernel_rfl) (by kernel_rfl) (by kernel_rfl)) ?_
 intro W c b d h g f a i _;have g:∀(j:Nat) t v,Tryz.f4.params[j]? =some t->b[j]? =some v->Value.okWide Tryz.prog W .any c t v:=f;have hw:=a;obtain⟨p,q,c,h,_,_,_⟩:=a;have a:DataW.TrodAll enc Tryz.prog W 0 (fun _=>true) true Tryz.f4.params.toList b.toList d p:=c;rw[Tryz.params4]at a;obtain⟨x,hx⟩:=dL Qn a (fun j t v ht hv=>g j t v (by simpa[Tryz.params4]using ht) (by simpa using hv));have b:=a;obtain⟨n,o,d,g,k,l,i,rfl,rfl,h,a⟩:=trodAll_cons b;obtain⟨rfl,rfl,rfl⟩:=trodAll_nil a;refine Calls.mono (A5x (by kernel_rfl) Og hx) fun e W' b=> ?_
 obtain⟨v,rfl,rfl,a⟩:=b;exact⟨_,rfl,B3c Qp hw rfl (by kernel_rfl) Tryz.underlying4 rfl Nm a⟩
theorem Vs:(laidOutB Tryz.pinned.checked.prog)=true:=by kernel_rfl
theorem Vt:(mapsRowed Tryz.pinned.checked.prog)=true:=by kernel_rfl
theorem Vu:(Rows.sensitivityProjectsRow.inPlace==Tryz.pinned.checked.prog.inPlace 4)=true:=by kernel_rfl
theorem Vv:(Rows.sensitivityProjectsRow.unfollowed==Tryz.pinned.checked.prog.unfollowed 4)=true:=by kernel_rfl
theorem Vw:(Rows.sensitivityProjectsRow.recurses==Tryz.pinned.checked.prog.recurses 4)=true:=by kernel_rfl
theorem Vx:(Rows.sensitivityProjectsRow.named==Tryz.pinned.checked.prog.varsNamed 4)=true:=by kernel_rfl
theorem Vy:(Rows.sensitivityProjectsRow.lifted==Tryz.pinned.checked.prog.liftsFinal)=true:=by kernel_rfl
theorem Vz:(Tryz.pinned.checked.prog.stopsHeard)=true:=by kernel_rfl
theorem Wa:(Tryz.pinned.checked.prog.mayEnter)=true:=by kernel_rfl
theorem Wb:(Rows.sensitivityProjectsRow.plainKeys==Tryz.pinned.checked.prog.plainKeys)=true:=by kernel_rfl
theorem Tf:(Tryz.pinned.checked.prog.make==some Rows.sensitivityProjectsRow.make)=true:=by kernel_rfl
theorem Nk:joinedFacts Tryz.pinned.checked.prog 4 Tryz.f4 Rows.sensitivityProjectsSpec Rows.sensitivityProjectsRow=true:=by
 unfold joinedFacts;rw[Vs,Vt,Vu,Vv,Vw,Vx,Vy,Vz,Wa,Wb,Tf];kernel_rfl
theorem Oh:Tryz.pinned.checked.prog.funcNamed Rows.sensitivityProjectsRow.func=some 4:=by kernel_rfl
theorem Qo:Tryz.f4.isInstance Tryz.pinned.checked.prog Rows.sensitivityProjectsRow.origin Rows.sensitivityProjectsRow.targs:=qA (by kernel_rfl)
theorem Qq:Tryz.f4.isWrapper Tryz.pinned.checked.prog Rows.sensitivityProjectsRow.wrapper Rows.sensitivityProjectsRow.mainSum:=by unfold Func.isWrapper;first| (rw[qR (by decide+kernel)];kernel_rfl) | (rw[qK (by decide+kernel)];exact⟨rfl,rfl⟩)
theorem sensitivityProjects_holds:Rows.SensitivityProjectsSaid:=
 OpenClaim.holds_of_wide 4 Tryz.f4 rfl rfl rfl rfl rfl rfl rfl ⟨rfl,rfl,rfl,rfl,rfl⟩ rfl rfl rfl rfl rfl Oh Tryz.func4 Nk
  Qo Qq
  (fun b c H a _=>Nl b c H a)
#print axioms sensitivityProjects_holds
end Go.Proofs.YtiflhbllbgajeaaGreat
