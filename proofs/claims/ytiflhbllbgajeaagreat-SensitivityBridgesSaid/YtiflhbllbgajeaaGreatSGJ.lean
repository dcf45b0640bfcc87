/- For every input SensitivityBridges returns true and leaves its arguments as they were: the whole given statement, no condition. -/
import Derived.Test.YtiflhbllbgajeaaGreatKGJ
set_option linter.all false
namespace Go.Proofs.YtiflhbllbgajeaaGreat
open Go.Vc Go.Gw Go.RowKit Go.ChangeShapes Go.WideShapes Go.ChangeAt
theorem Ou:∀t∈Tryz.f3.params.toList,Tryz.prog.readableRec t=true/\t<Tryz.prog.types.size:=by
 rw[Tryz.params3];intro t ht;simp only[qG,rZ,vJ]at ht;rcases ht with rfl
 . exact⟨by kernel_rfl,qA (by kernel_rfl)⟩
theorem Ts:laidOutB Tryz.prog=true:=by kernel_rfl
theorem Vy:ownKnob Tryz.prog.godebug=none:=by kernel_rfl
theorem Qy:A8 Tryz.prog 3 (iV F7.args):=Lu
theorem Tq:fV Tryz.prog [22] F7.args=true:=by kernel_rfl
set_option maxRecDepth 100000 in
theorem Ot (os:Os) (started:os.Started) (H:Type) (enc:TypeId×Value->H):
 ReturnsInHanded {} Tryz.checked os 3 .any (Rows.sensitivityBridgesSpec.pre6 enc Tryz.prog Tryz.f3 Rows.sensitivityBridgesRow.domain false) (Rows.sensitivityBridgesSpec.post enc Tryz.prog Tryz.f3 false true false false):=by
 refine returnsInHanded_of_change (C:=Tryz.checked) Vy started (by kernel_rfl) Tryz.func3
  (ChangeSpec.witness6 (enc:=enc) (C:=Tryz.checked) false ⟨#[], #[.slice none 0 0],[]⟩ 8 (by kernel_rfl) (by kernel_rfl) (by kernel_rfl) (by kernel_rfl)) ?_
 intro W base args ds gs before hval0 hW hcnd _;have hval:∀(j:Nat) t v,Tryz.f3.params[j]? =some t->args[j]? =some v->Value.okWide Tryz.prog W .any base t v:=hval0;have hW':=hW;obtain⟨p,q,hA0,hV,_,_,_⟩:=hW;have hA:DataW.TrodAll enc Tryz.prog W 0 (fun _=>true) true Tryz.f3.params.toList args.toList ds p:=hA0;rw[Tryz.params3]at hA;obtain⟨x,hx⟩:=eK Tq hA (fun j t v ht hv=>hval j t v (by simpa[Tryz.params3]using ht) (by simpa using hv));have hargs:=hA;obtain⟨v0,vs0,d0,ds0,p0,q0,hl,rfl,rfl,h0,r0⟩:=trodAll_cons hargs;obtain⟨rfl,rfl,rfl⟩:=trodAll_nil r0;refine Calls.mono (A7b (by kernel_rfl) Qy hx) fun e W' hh=> ?_
 obtain⟨v,rfl,rfl,hb⟩:=hh;exact⟨_,rfl,B4e Ts hW' rfl (by kernel_rfl) Tryz.underlying4 rfl Ou hb⟩
theorem Yh:(laidOutB Tryz.pinned.checked.prog)=true:=by kernel_rfl
theorem Yi:(mapsRowed Tryz.pinned.checked.prog)=true:=by kernel_rfl
theorem Yj:(Rows.sensitivityBridgesRow.inPlace==Tryz.pinned.checked.prog.inPlace 3)=true:=by kernel_rfl
theorem Yk:(Rows.sensitivityBridgesRow.unfollowed==Tryz.pinned.checked.prog.unfollowed 3)=true:=by kernel_rfl
theorem Yl:(Rows.sensitivityBridgesRow.recurses==Tryz.pinned.checked.prog.recurses 3)=true:=by kernel_rfl
theorem Ym:(Rows.sensitivityBridgesRow.named==Tryz.pinned.checked.prog.varsNamed 3)=true:=by kernel_rfl
theorem Yn:(Rows.sensitivityBridgesRow.lifted==Tryz.pinned.checked.prog.liftsFinal)=true:=by kernel_rfl
theorem Yo:(Tryz.pinned.checked.prog.stopsHeard)=true:=by kernel_rfl
theorem Yp:(Tryz.pinned.checked.prog.mayEnter)=true:=by kernel_rfl
theorem Yq:(Rows.sensitivityBridgesRow.plainKeys==Tryz.pinned.checked.prog.plainKeys)=true:=by kernel_rfl
theorem Vx:(Tryz.pinned.checked.prog.make==some Rows.sensitivityBridgesRow.make)=true:=by kernel_rfl
theorem Oq:joinedFacts Tryz.pinned.checked.prog 3 Tryz.f3 Rows.sensitivityBridgesSpec Rows.sensitivityBridgesRow=true:=by
 unfold joinedFacts;rw[Yh,Yi,Yj,Yk,Yl,Ym,Yn,Yo,Yp,Yq,Vx];kernel_rfl
theorem Qz:Tryz.pinned.checked.prog.funcNamed Rows.sensitivityBridgesRow.func=some 3:=by kernel_rfl
theorem Tr:Tryz.f3.isInstance Tryz.pinned.checked.prog Rows.sensitivityBridgesRow.origin Rows.sensitivityBridgesRow.targs:=qA (by kernel_rfl)
theorem Tt:Tryz.f3.isWrapper Tryz.pinned.checked.prog Rows.sensitivityBridgesRow.wrapper Rows.sensitivityBridgesRow.mainSum:=by unfold Func.isWrapper;first| (rw[qQ (by decide+kernel)];kernel_rfl) | (rw[qK (by decide+kernel)];exact⟨rfl,rfl⟩)
theorem sensitivityBridges_holds:Rows.SensitivityBridgesSaid:=
 OpenClaim.holds_of_wide 3 Tryz.f3 rfl rfl rfl rfl rfl rfl rfl ⟨rfl,rfl,rfl,rfl,rfl⟩ rfl rfl rfl rfl rfl Qz Tryz.func3 Oq
  Tr Tt
  (fun os started H enc _=>Ot os started H enc)
#print axioms sensitivityBridges_holds
end Go.Proofs.YtiflhbllbgajeaaGreat
