/- For every input SensitivityAgrees returns true and leaves its arguments as they were: the whole given statement, no condition. -/
import Derived.Test.YtiflhbllbgajeaaGreatKAJ
set_option linter.all false
namespace Go.Proofs.YtiflhbllbgajeaaGreat
open Go.Vc Go.Gw Go.RowKit Go.ChangeShapes Go.WideShapes Go.ChangeAt
theorem Sm:∀t∈Tryz.f7.params.toList,Tryz.prog.readableRec t=true/\t<Tryz.prog.types.size:=by
 rw[Tryz.params7];intro t ht;simp only[qI,rY,vH]at ht;rcases ht with rfl|rfl
 . exact⟨by kernel_rfl,qA (by kernel_rfl)⟩
 . exact⟨by kernel_rfl,qA (by kernel_rfl)⟩
theorem Xt:laidOutB Tryz.prog=true:=by kernel_rfl
theorem AL:ownKnob Tryz.prog.godebug=none:=by kernel_rfl
theorem Vg:A7 Tryz.prog 7 (lF G2.args):=Oc
theorem XrS:jP Tryz.prog [22,22] G2.args=true:=by kernel_rfl
set_option maxRecDepth 100000 in
theorem Sl (os:Os) (started:os.Started) (H:Type) (enc:TypeId×Value->H):
 ReturnsInHanded {} Tryz.checked os 7 .any (Rows.sensitivityAgreesSpec.pre6 enc Tryz.prog Tryz.f7 Rows.sensitivityAgreesRow.domain false) (Rows.sensitivityAgreesSpec.post enc Tryz.prog Tryz.f7 false true false false):=by
 refine returnsInHanded_of_change (C:=Tryz.checked) AL started (by kernel_rfl) Tryz.func7
  (ChangeSpec.witness6 (enc:=enc) (C:=Tryz.checked) false ⟨#[], #[.slice none 0 0, .slice none 0 0],[]⟩ 8 (by kernel_rfl) (by kernel_rfl) (by kernel_rfl) (by kernel_rfl)) ?_
 intro W base args ds gs before hval0 hW hcnd _;have hval:∀(j:Nat) t v,Tryz.f7.params[j]? =some t->args[j]? =some v->Value.okWide Tryz.prog W .any base t v:=hval0;have hW':=hW;obtain⟨p,q,hA0,hV,_,_,_⟩:=hW;have hA:DataW.TrodAll enc Tryz.prog W 0 (fun _=>true) true Tryz.f7.params.toList args.toList ds p:=hA0;rw[Tryz.params7]at hA;obtain⟨x,hx⟩:=iE XrS hA (fun j t v ht hv=>hval j t v (by simpa[Tryz.params7]using ht) (by simpa using hv));have hargs:=hA;obtain⟨v0,vs0,d0,ds0,p0,q0,hl,rfl,rfl,h0,r0⟩:=trodAll_cons hargs;obtain⟨v1,vs1,d1,ds1,p1,q1,rfl,rfl,rfl,h1,r1⟩:=trodAll_cons r0;obtain⟨rfl,rfl,rfl⟩:=trodAll_nil r1;refine Calls.mono (A9b (by kernel_rfl) Vg hx) fun e W' hh=> ?_
 obtain⟨v,rfl,rfl,hb⟩:=hh;exact⟨_,rfl,B6a Xt hW' rfl (by kernel_rfl) Tryz.underlying4 rfl Sm hb⟩
theorem DO:(laidOutB Tryz.pinned.checked.prog)=true:=by kernel_rfl
theorem DR:(mapsRowed Tryz.pinned.checked.prog)=true:=by kernel_rfl
theorem DT:(Rows.sensitivityAgreesRow.inPlace==Tryz.pinned.checked.prog.inPlace 7)=true:=by kernel_rfl
theorem DU:(Rows.sensitivityAgreesRow.unfollowed==Tryz.pinned.checked.prog.unfollowed 7)=true:=by kernel_rfl
theorem DW:(Rows.sensitivityAgreesRow.recurses==Tryz.pinned.checked.prog.recurses 7)=true:=by kernel_rfl
theorem DX:(Rows.sensitivityAgreesRow.named==Tryz.pinned.checked.prog.varsNamed 7)=true:=by kernel_rfl
theorem DY:(Rows.sensitivityAgreesRow.lifted==Tryz.pinned.checked.prog.liftsFinal)=true:=by kernel_rfl
theorem DZ:(Tryz.pinned.checked.prog.stopsHeard)=true:=by kernel_rfl
theorem EA:(Tryz.pinned.checked.prog.mayEnter)=true:=by kernel_rfl
theorem EB:(Rows.sensitivityAgreesRow.plainKeys==Tryz.pinned.checked.prog.plainKeys)=true:=by kernel_rfl
theorem AK:(Tryz.pinned.checked.prog.make==some Rows.sensitivityAgreesRow.make)=true:=by kernel_rfl
theorem Sk:joinedFacts Tryz.pinned.checked.prog 7 Tryz.f7 Rows.sensitivityAgreesSpec Rows.sensitivityAgreesRow=true:=by
 unfold joinedFacts;rw[DO,DR,DT,DU,DW,DX,DY,DZ,EA,EB,AK];kernel_rfl
theorem Vh:Tryz.pinned.checked.prog.funcNamed Rows.sensitivityAgreesRow.func=some 7:=by kernel_rfl
theorem Xs:Tryz.f7.isInstance Tryz.pinned.checked.prog Rows.sensitivityAgreesRow.origin Rows.sensitivityAgreesRow.targs:=qA (by kernel_rfl)
theorem Xu:Tryz.f7.isWrapper Tryz.pinned.checked.prog Rows.sensitivityAgreesRow.wrapper Rows.sensitivityAgreesRow.mainSum:=by unfold Func.isWrapper;first| (rw[qP (by decide+kernel)];kernel_rfl) | (rw[qL (by decide+kernel)];exact⟨rfl,rfl⟩)
theorem sensitivityAgrees_holds:Rows.SensitivityAgreesSaid:=
 OpenClaim.holds_of_wide 7 Tryz.f7 rfl rfl rfl rfl rfl rfl rfl ⟨rfl,rfl,rfl,rfl,rfl⟩ rfl rfl rfl rfl rfl Vh Tryz.func7 Sk
  Xs Xu
  (fun os started H enc _=>Sl os started H enc)
#print axioms sensitivityAgrees_holds
end Go.Proofs.YtiflhbllbgajeaaGreat
