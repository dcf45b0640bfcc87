/- For every input ReductionSolves returns true and leaves its arguments as they were: the whole given statement, no condition. -/
import Derived.Test.YtdbnghliccifcaaGreatKLJ
set_option linter.all false
namespace Go.Proofs.YtdbnghliccifcaaGreat
open Go.Vc Go.Gw Go.RowKit Go.ChangeShapes Go.WideShapes Go.ChangeAt
theorem Vq:∀t∈Tryz.f6.params.toList,Tryz.prog.readableRec t=true/\t<Tryz.prog.types.size:=by
 rw[Tryz.params6];intro t ht;simp only[qW,vP,g0e]at ht;rcases ht with rfl|rfl
 . exact⟨by kernel_rfl,qA (by kernel_rfl)⟩
 exact⟨by kernel_rfl,qA (by kernel_rfl)⟩
theorem AO:laidOutB Tryz.prog=true:=by kernel_rfl
theorem FV:ownKnob Tryz.prog.godebug=none:=by kernel_rfl
theorem Yf:B7 Tryz.prog 6 (jY H2.args):=Qm
theorem AL:iO Tryz.prog [25,25] H2.args=true:=by kernel_rfl
set_option maxRecDepth 100000 in
theorem Vp (os:Os) (started:os.Started) (H:Type) (enc:TypeId×Value->H):
 ReturnsInHanded {} Tryz.checked os 6 .any (Rows.reductionSolvesSpec.pre6 enc Tryz.prog Tryz.f6 Rows.reductionSolvesRow.domain false) (Rows.reductionSolvesSpec.post enc Tryz.prog Tryz.f6 false true false false):=by
 refine returnsInHanded_of_change (C:=Tryz.checked) FV started (by kernel_rfl) Tryz.func6
  (ChangeSpec.witness6 (enc:=enc) (C:=Tryz.checked) false ⟨#[], #[.slice none 0 0, .slice none 0 0],[]⟩ 8 (by kernel_rfl) (by kernel_rfl) (by kernel_rfl) (by kernel_rfl)) ?_
 intro W base args ds gs before hval0 hW hcnd _;have hval:∀(j:Nat) t v,Tryz.f6.params[j]? =some t->args[j]? =some v->Value.okWide Tryz.prog W .any base t v:=hval0;have hW':=hW;obtain⟨p,q,hA0,hV,_,_,_⟩:=hW;have hA:DataW.TrodAll enc Tryz.prog W 0 (λ_=>true) true Tryz.f6.params.toList args.toList ds p:=hA0;rw[Tryz.params6]at hA;obtain⟨x,hx⟩:=fY AL hA (λj t v ht hv=>hval j t v (by simpa[Tryz.params6]using ht) (by simpa using hv));have hargs:=hA;obtain⟨v0,vs0,d0,ds0,p0,q0,hl,rfl,rfl,h0,r0⟩:=trodAll_cons hargs;obtain⟨v1,vs1,d1,ds1,p1,q1,rfl,rfl,rfl,h1,r1⟩:=trodAll_cons r0;obtain⟨rfl,rfl,rfl⟩:=trodAll_nil r1;refine Calls.mono (A8v (by kernel_rfl) Yf hx) λe W' hh=>?_
 obtain⟨v,rfl,rfl,hb⟩:=hh;exact⟨_,rfl,B5l AO hW' rfl (by kernel_rfl) Tryz.underlying4 rfl Vq hb⟩
theorem IY:(laidOutB Tryz.pinned.checked.prog)=true:=by kernel_rfl
theorem IZ:(mapsRowed Tryz.pinned.checked.prog)=true:=by kernel_rfl
theorem JA:(Rows.reductionSolvesRow.inPlace==Tryz.pinned.checked.prog.inPlace 6)=true:=by kernel_rfl
theorem JB:(Rows.reductionSolvesRow.unfollowed==Tryz.pinned.checked.prog.unfollowed 6)=true:=by kernel_rfl
theorem JC:(Rows.reductionSolvesRow.recurses==Tryz.pinned.checked.prog.recurses 6)=true:=by kernel_rfl
theorem JD:(Rows.reductionSolvesRow.named==Tryz.pinned.checked.prog.varsNamed 6)=true:=by kernel_rfl
theorem JE:(Rows.reductionSolvesRow.lifted==Tryz.pinned.checked.prog.liftsFinal)=true:=by kernel_rfl
theorem JF:(Tryz.pinned.checked.prog.stopsHeard)=true:=by kernel_rfl
theorem JG:(Tryz.pinned.checked.prog.mayEnter)=true:=by kernel_rfl
theorem JH:(Rows.reductionSolvesRow.plainKeys==Tryz.pinned.checked.prog.plainKeys)=true:=by kernel_rfl
theorem FU:(Tryz.pinned.checked.prog.make==some Rows.reductionSolvesRow.make)=true:=by kernel_rfl
theorem Vo:joinedFacts Tryz.pinned.checked.prog 6 Tryz.f6 Rows.reductionSolvesSpec Rows.reductionSolvesRow=true:=by
 unfold joinedFacts;rw[IY,IZ,JA,JB,JC,JD,JE,JF,JG,JH,FU];kernel_rfl
theorem Yg:Tryz.pinned.checked.prog.funcNamed Rows.reductionSolvesRow.func=some 6:=by kernel_rfl
theorem AN:Tryz.f6.isInstance Tryz.pinned.checked.prog Rows.reductionSolvesRow.origin Rows.reductionSolvesRow.targs:=qA (by kernel_rfl)
theorem AP:Tryz.f6.isWrapper Tryz.pinned.checked.prog Rows.reductionSolvesRow.wrapper Rows.reductionSolvesRow.mainSum:=by unfold Func.isWrapper;first| (rw[qR (by decide+kernel)];kernel_rfl) | (rw[qL (by decide+kernel)];exact⟨rfl,rfl⟩)
theorem reductionSolves_holds:Rows.ReductionSolvesSaid:=
 OpenClaim.holds_of_wide 6 Tryz.f6 rfl rfl rfl rfl rfl rfl rfl ⟨rfl,rfl,rfl,rfl,rfl⟩ rfl rfl rfl rfl rfl Yg Tryz.func6 Vo
  AN AP
  (λos started H enc _=>Vp os started H enc)
#print axioms reductionSolves_holds
end Go.Proofs.YtdbnghliccifcaaGreat
