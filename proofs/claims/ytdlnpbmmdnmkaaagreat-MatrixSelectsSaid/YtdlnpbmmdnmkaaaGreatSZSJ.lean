/- For every input MatrixSelects returns true and leaves its arguments as they were: the whole given statement, no condition. -/
import Derived.Test.YtdlnpbmmdnmkaaaGreatKMI
set_option linter.all false
namespace Go.Proofs.YtdlnpbmmdnmkaaaGreat
open Go.Vc Go.Gw Go.RowKit Go.ChangeShapes Go.WideShapes Go.ChangeAt
theorem Qx:∀t∈Tryz.f4.params.toList,Tryz.prog.readableRec t=true/\t<Tryz.prog.types.size:=by
 rw[Tryz.params4];intro t ht;simp only[List.mem_cons,List.not_mem_nil,or_false]at ht;rcases ht with rfl|rfl|rfl
 . exact⟨by kernel_rfl,of_decide_eq_true (by kernel_rfl)⟩
 . exact⟨by kernel_rfl,of_decide_eq_true (by kernel_rfl)⟩
 . exact⟨by kernel_rfl,of_decide_eq_true (by kernel_rfl)⟩
theorem Xh:laidOutB Tryz.prog=true:=by kernel_rfl
theorem Zr:ownKnob Tryz.prog.godebug=none:=by kernel_rfl
theorem Uw:B8 Tryz.prog 4 (TX G6.args):=Nk
theorem Xf:SN Tryz.prog [22,22,22] G6.args=true:=by kernel_rfl
set_option maxRecDepth 100000 in
theorem Qw (os:Os) (started:os.Started) (H:Type) (enc:TypeId×Value->H):
 ReturnsInHanded {} Tryz.checked os 4 .any (Rows.matrixSelectsSpec.pre6 enc Tryz.prog Tryz.f4 Rows.matrixSelectsRow.domain false) (Rows.matrixSelectsSpec.post enc Tryz.prog Tryz.f4 false true false false):=by
 refine returnsInHanded_of_change (C:=Tryz.checked) Zr started (by kernel_rfl) Tryz.func4
  (ChangeSpec.witness6 (enc:=enc) (C:=Tryz.checked) false ⟨#[], #[.slice none 0 0, .slice none 0 0, .slice none 0 0],[]⟩ 8 (by kernel_rfl) (by kernel_rfl) (by kernel_rfl) (by kernel_rfl)) ?_
 intro W base args ds gs before hval0 hW hcnd _;have hval:∀(j:Nat) t v,Tryz.f4.params[j]? =some t->args[j]? =some v->Value.okWide Tryz.prog W .any base t v:=hval0;have hW':=hW;obtain⟨p,q,hA0,hV,_,_,_⟩:=hW;have hA:DataW.TrodAll enc Tryz.prog W 0 (fun _=>true) true Tryz.f4.params.toList args.toList ds p:=hA0;rw[Tryz.params4]at hA;obtain⟨x,hx⟩:=QW Xf hA (fun j t v ht hv=>hval j t v (by simpa[Tryz.params4]using ht) (by simpa using hv));have hargs:=hA;obtain⟨v0,vs0,d0,ds0,p0,q0,hl,rfl,rfl,h0,r0⟩:=trodAll_cons hargs;obtain⟨v1,vs1,d1,ds1,p1,q1,rfl,rfl,rfl,h1,r1⟩:=trodAll_cons r0;obtain⟨v2,vs2,d2,ds2,p2,q2,rfl,rfl,rfl,h2,r2⟩:=trodAll_cons r1;obtain⟨rfl,rfl,rfl⟩:=trodAll_nil r2;refine Calls.mono (gL (by kernel_rfl) Uw hx) fun e W' hh=> ?_
 obtain⟨v,rfl,rfl,hb⟩:=hh;exact⟨_,rfl,nD Xh hW' rfl (by kernel_rfl) Tryz.underlying4 rfl Qx hb⟩
theorem CV:(laidOutB Tryz.pinned.checked.prog)=true:=by kernel_rfl
theorem CW:(mapsRowed Tryz.pinned.checked.prog)=true:=by kernel_rfl
theorem CX:(Rows.matrixSelectsRow.inPlace==Tryz.pinned.checked.prog.inPlace 4)=true:=by kernel_rfl
theorem CY:(Rows.matrixSelectsRow.unfollowed==Tryz.pinned.checked.prog.unfollowed 4)=true:=by kernel_rfl
theorem CZ:(Rows.matrixSelectsRow.recurses==Tryz.pinned.checked.prog.recurses 4)=true:=by kernel_rfl
theorem DC:(Rows.matrixSelectsRow.named==Tryz.pinned.checked.prog.varsNamed 4)=true:=by kernel_rfl
theorem DD:(Rows.matrixSelectsRow.lifted==Tryz.pinned.checked.prog.liftsFinal)=true:=by kernel_rfl
theorem DF:(Tryz.pinned.checked.prog.stopsHeard)=true:=by kernel_rfl
theorem DG:(Tryz.pinned.checked.prog.mayEnter)=true:=by kernel_rfl
theorem DI:(Rows.matrixSelectsRow.plainKeys==Tryz.pinned.checked.prog.plainKeys)=true:=by kernel_rfl
theorem Zq:(Tryz.pinned.checked.prog.make==some Rows.matrixSelectsRow.make)=true:=by kernel_rfl
theorem Qv:joinedFacts Tryz.pinned.checked.prog 4 Tryz.f4 Rows.matrixSelectsSpec Rows.matrixSelectsRow=true:=by
 unfold joinedFacts;rw[CV,CW,CX,CY,CZ,DC,DD,DF,DG,DI,Zq];kernel_rfl
theorem Ux:Tryz.pinned.checked.prog.funcNamed Rows.matrixSelectsRow.func=some 4:=by kernel_rfl
theorem Xg:Tryz.f4.isInstance Tryz.pinned.checked.prog Rows.matrixSelectsRow.origin Rows.matrixSelectsRow.targs:=of_decide_eq_true (by kernel_rfl)
theorem Xi:Tryz.f4.isWrapper Tryz.pinned.checked.prog Rows.matrixSelectsRow.wrapper Rows.matrixSelectsRow.mainSum:=by unfold Func.isWrapper;first| (rw[if_pos (by decide+kernel)];kernel_rfl) | (rw[if_neg (by decide+kernel)];exact⟨rfl,rfl⟩)
theorem matrixSelects_holds:Rows.MatrixSelectsSaid:=
 OpenClaim.holds_of_wide 4 Tryz.f4 rfl rfl rfl rfl rfl rfl rfl ⟨rfl,rfl,rfl,rfl,rfl⟩ rfl rfl rfl rfl rfl Ux Tryz.func4 Qv
  Xg Xi
  (fun os started H enc _=>Qw os started H enc)
#print axioms matrixSelects_holds
end Go.Proofs.YtdlnpbmmdnmkaaaGreat
