/- For every input ReductionStepwise returns true and leaves its arguments as they were: the whole given statement, no condition. -/
import Derived.Test.YtdbnghliccifcaaGreatKTJ
set_option linter.all false
namespace Go.Proofs.YtdbnghliccifcaaGreat
open Go.Vc Go.Gw Go.RowKit Go.ChangeShapes Go.WideShapes Go.ChangeAt
theorem Py:∀t∈Tryz.f4.params.toList,Tryz.prog.readableRec t=true/\t<Tryz.prog.types.size:=by
 rw[Tryz.params4];intro t ht;simp only[qV,vQ,g0b]at ht;rcases ht with rfl|rfl|rfl
 . exact⟨by kernel_rfl,qA (by kernel_rfl)⟩
 . exact⟨by kernel_rfl,qA (by kernel_rfl)⟩
 exact⟨by kernel_rfl,qA (by kernel_rfl)⟩
theorem Uw:laidOutB Tryz.prog=true:=by kernel_rfl
theorem Xl:ownKnob Tryz.prog.godebug=none:=by kernel_rfl
theorem Rr:B8 Tryz.prog 4 (gU G6.args):=Lr
theorem Uu:fJ Tryz.prog [25,25,5] G6.args=true:=by kernel_rfl
set_option maxRecDepth 100000 in
theorem Px (os:Os) (started:os.Started) (H:Type) (enc:TypeId×Value->H):
 ReturnsInHanded {} Tryz.checked os 4 .any (Rows.reductionStepwiseSpec.pre6 enc Tryz.prog Tryz.f4 Rows.reductionStepwiseRow.domain false) (Rows.reductionStepwiseSpec.post enc Tryz.prog Tryz.f4 false true false false):=by
 refine returnsInHanded_of_change (C:=Tryz.checked) Xl started (by kernel_rfl) Tryz.func4
  (ChangeSpec.witness6 (enc:=enc) (C:=Tryz.checked) false ⟨#[], #[.slice none 0 0, .slice none 0 0, .int .u8 0],[]⟩ 8 (by kernel_rfl) (by kernel_rfl) (by kernel_rfl) (by kernel_rfl)) ?_
 intro W base args ds gs before hval0 hW hcnd _;have hval:∀(j:Nat) t v,Tryz.f4.params[j]? =some t->args[j]? =some v->Value.okWide Tryz.prog W .any base t v:=hval0;have hW':=hW;obtain⟨p,q,hA0,hV,_,_,_⟩:=hW;have hA:DataW.TrodAll enc Tryz.prog W 0 (λ_=>true) true Tryz.f4.params.toList args.toList ds p:=hA0;rw[Tryz.params4]at hA;obtain⟨x,hx⟩:=dS Uu hA (λj t v ht hv=>hval j t v (by simpa[Tryz.params4]using ht) (by simpa using hv));have hargs:=hA;obtain⟨v0,vs0,d0,ds0,p0,q0,hl,rfl,rfl,h0,r0⟩:=trodAll_cons hargs;obtain⟨v1,vs1,d1,ds1,p1,q1,rfl,rfl,rfl,h1,r1⟩:=trodAll_cons r0;obtain⟨v2,vs2,d2,ds2,p2,q2,rfl,rfl,rfl,h2,r2⟩:=trodAll_cons r1;obtain⟨rfl,rfl,rfl⟩:=trodAll_nil r2;refine Calls.mono (A6f (by kernel_rfl) Rr hx) λe W' hh=>?_
 obtain⟨v,rfl,rfl,hb⟩:=hh;exact⟨_,rfl,B2t Uw hW' rfl (by kernel_rfl) Tryz.underlying4 rfl Py hb⟩
theorem Zp:(laidOutB Tryz.pinned.checked.prog)=true:=by kernel_rfl
theorem Zq:(mapsRowed Tryz.pinned.checked.prog)=true:=by kernel_rfl
theorem Zr:(Rows.reductionStepwiseRow.inPlace==Tryz.pinned.checked.prog.inPlace 4)=true:=by kernel_rfl
theorem Zs:(Rows.reductionStepwiseRow.unfollowed==Tryz.pinned.checked.prog.unfollowed 4)=true:=by kernel_rfl
theorem Zt:(Rows.reductionStepwiseRow.recurses==Tryz.pinned.checked.prog.recurses 4)=true:=by kernel_rfl
theorem Zu:(Rows.reductionStepwiseRow.named==Tryz.pinned.checked.prog.varsNamed 4)=true:=by kernel_rfl
theorem Zv:(Rows.reductionStepwiseRow.lifted==Tryz.pinned.checked.prog.liftsFinal)=true:=by kernel_rfl
theorem Zw:(Tryz.pinned.checked.prog.stopsHeard)=true:=by kernel_rfl
theorem Zx:(Tryz.pinned.checked.prog.mayEnter)=true:=by kernel_rfl
theorem Zy:(Rows.reductionStepwiseRow.plainKeys==Tryz.pinned.checked.prog.plainKeys)=true:=by kernel_rfl
theorem Xk:(Tryz.pinned.checked.prog.make==some Rows.reductionStepwiseRow.make)=true:=by kernel_rfl
theorem Pw:joinedFacts Tryz.pinned.checked.prog 4 Tryz.f4 Rows.reductionStepwiseSpec Rows.reductionStepwiseRow=true:=by
 unfold joinedFacts;rw[Zp,Zq,Zr,Zs,Zt,Zu,Zv,Zw,Zx,Zy,Xk];kernel_rfl
theorem Rs:Tryz.pinned.checked.prog.funcNamed Rows.reductionStepwiseRow.func=some 4:=by kernel_rfl
theorem Uv:Tryz.f4.isInstance Tryz.pinned.checked.prog Rows.reductionStepwiseRow.origin Rows.reductionStepwiseRow.targs:=qA (by kernel_rfl)
theorem Ux:Tryz.f4.isWrapper Tryz.pinned.checked.prog Rows.reductionStepwiseRow.wrapper Rows.reductionStepwiseRow.mainSum:=by unfold Func.isWrapper;first| (rw[qT (by decide+kernel)];kernel_rfl) | (rw[qL (by decide+kernel)];exact⟨rfl,rfl⟩)
theorem reductionStepwise_holds:Rows.ReductionStepwiseSaid:=
 OpenClaim.holds_of_wide 4 Tryz.f4 rfl rfl rfl rfl rfl rfl rfl ⟨rfl,rfl,rfl,rfl,rfl⟩ rfl rfl rfl rfl rfl Rs Tryz.func4 Pw
  Uv Ux
  (λos started H enc _=>Px os started H enc)
#print axioms reductionStepwise_holds
end Go.Proofs.YtdbnghliccifcaaGreat
