/- For every input OutageWithout returns true and leaves its arguments as they were: the whole given statement, no condition. -/
import Derived.Test.YtknoakmaeleclaaGreatKWJ
set_option linter.all false
namespace Go.Proofs.YtknoakmaeleclaaGreat
open Go.Vc Go.Gw Go.RowKit Go.ChangeShapes Go.WideShapes Go.ChangeAt
theorem AS:∀t∈Tryz.f7.params.toList,Tryz.prog.readableRec t=true/\t<Tryz.prog.types.size:=by
 rw[Tryz.params7];intro t ht;simp only[qS,wF,g0y]at ht;rcases ht with rfl|rfl|rfl
 . exact⟨by kernel_rfl,qA (by kernel_rfl)⟩
 . exact⟨by kernel_rfl,qA (by kernel_rfl)⟩
 . exact⟨by kernel_rfl,qA (by kernel_rfl)⟩
theorem JD:laidOutB Tryz.prog=true:=by kernel_rfl
theorem MU:ownKnob Tryz.prog.godebug=none:=by kernel_rfl
theorem FZ:A9 Tryz.prog 7 (nB I8.args):=Vu
theorem JB:lR Tryz.prog [25,25,25] I8.args=true:=by kernel_rfl
set_option maxRecDepth 100000 in
theorem AR (os:Os) (started:os.Started) (H:Type) (enc:TypeId×Value->H):
 ReturnsInHanded {} Tryz.checked os 7 .any (Rows.outageWithoutSpec.pre6 enc Tryz.prog Tryz.f7 Rows.outageWithoutRow.domain false) (Rows.outageWithoutSpec.post enc Tryz.prog Tryz.f7 false true false false):=by
 refine returnsInHanded_of_change (C:=Tryz.checked) MU started (by kernel_rfl) Tryz.func7
  (ChangeSpec.witness6 (enc:=enc) (C:=Tryz.checked) false ⟨#[], #[.slice none 0 0, .slice none 0 0, .slice none 0 0],[]⟩ 8 (by kernel_rfl) (by kernel_rfl) (by kernel_rfl) (by kernel_rfl)) ?_
 intro W base args ds gs before hval0 hW hcnd _;have hval:∀(j:Nat) t v,Tryz.f7.params[j]? =some t->args[j]? =some v->Value.okWide Tryz.prog W .any base t v:=hval0;have hW':=hW;obtain⟨p,q,hA0,hV,_,_,_⟩:=hW;have hA:DataW.TrodAll enc Tryz.prog W 0 (λ_=>true) true Tryz.f7.params.toList args.toList ds p:=hA0;rw[Tryz.params7]at hA;obtain⟨x,hx⟩:=jN JB hA (λj t v ht hv=>hval j t v (by simpa[Tryz.params7]using ht) (by simpa using hv));have hargs:=hA;obtain⟨v0,vs0,d0,ds0,p0,q0,hl,rfl,rfl,h0,r0⟩:=trodAll_cons hargs;obtain⟨v1,vs1,d1,ds1,p1,q1,rfl,rfl,rfl,h1,r1⟩:=trodAll_cons r0;obtain⟨v2,vs2,d2,ds2,p2,q2,rfl,rfl,rfl,h2,r2⟩:=trodAll_cons r1;obtain⟨rfl,rfl,rfl⟩:=trodAll_nil r2;refine Calls.mono (B3p (by kernel_rfl) FZ hx) λe W' hh=>?_
 obtain⟨v,rfl,rfl,hb⟩:=hh;exact⟨_,rfl,C0s JD hW' rfl (by kernel_rfl) Tryz.underlying4 rfl AS hb⟩
theorem RO:(laidOutB Tryz.pinned.checked.prog)=true:=by kernel_rfl
theorem RP:(mapsRowed Tryz.pinned.checked.prog)=true:=by kernel_rfl
theorem RQ:(Rows.outageWithoutRow.inPlace==Tryz.pinned.checked.prog.inPlace 7)=true:=by kernel_rfl
theorem RR:(Rows.outageWithoutRow.unfollowed==Tryz.pinned.checked.prog.unfollowed 7)=true:=by kernel_rfl
theorem RU:(Rows.outageWithoutRow.recurses==Tryz.pinned.checked.prog.recurses 7)=true:=by kernel_rfl
theorem RV:(Rows.outageWithoutRow.named==Tryz.pinned.checked.prog.varsNamed 7)=true:=by kernel_rfl
theorem RX:(Rows.outageWithoutRow.lifted==Tryz.pinned.checked.prog.liftsFinal)=true:=by kernel_rfl
theorem RY:(Tryz.pinned.checked.prog.stopsHeard)=true:=by kernel_rfl
theorem RZ:(Tryz.pinned.checked.prog.mayEnter)=true:=by kernel_rfl
theorem SA:(Rows.outageWithoutRow.plainKeys==Tryz.pinned.checked.prog.plainKeys)=true:=by kernel_rfl
theorem MS:(Tryz.pinned.checked.prog.make==some Rows.outageWithoutRow.make)=true:=by kernel_rfl
theorem AQ:joinedFacts Tryz.pinned.checked.prog 7 Tryz.f7 Rows.outageWithoutSpec Rows.outageWithoutRow=true:=by
 unfold joinedFacts;rw[RO,RP,RQ,RR,RU,RV,RX,RY,RZ,SA,MS];kernel_rfl
theorem GA:Tryz.pinned.checked.prog.funcNamed Rows.outageWithoutRow.func=some 7:=by kernel_rfl
theorem JC:Tryz.f7.isInstance Tryz.pinned.checked.prog Rows.outageWithoutRow.origin Rows.outageWithoutRow.targs:=qA (by kernel_rfl)
theorem JE:Tryz.f7.isWrapper Tryz.pinned.checked.prog Rows.outageWithoutRow.wrapper Rows.outageWithoutRow.mainSum:=by unfold Func.isWrapper;first| (rw[qN (by decide+kernel)];kernel_rfl) | (rw[qG (by decide+kernel)];exact⟨rfl,rfl⟩)
theorem outageWithout_holds:Rows.OutageWithoutSaid:=
 OpenClaim.holds_of_wide 7 Tryz.f7 rfl rfl rfl rfl rfl rfl rfl ⟨rfl,rfl,rfl,rfl,rfl⟩ rfl rfl rfl rfl rfl GA Tryz.func7 AQ
  JC JE
  (λos started H enc _=>AR os started H enc)
#print axioms outageWithout_holds
end Go.Proofs.YtknoakmaeleclaaGreat
