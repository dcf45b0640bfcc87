/- For every input DcflowKirchhoff returns true and leaves its arguments as they were: the whole given statement, no condition. -/
import Derived.Test.YthclcjfodjhmlaaGreatKKJ
set_option linter.all false
namespace Go.Proofs.YthclcjfodjhmlaaGreat
open Go.Vc Go.Gw Go.RowKit Go.ChangeShapes Go.WideShapes Go.ChangeAt
theorem Uf:∀t∈Tryz.f4.params.toList,Tryz.prog.readableRec t=true/\t<Tryz.prog.types.size:=by
 rw[Tryz.params4];intro t u;simp only[qR,xC,g2a]at u;rcases u with rfl|rfl
 . exact⟨by kernel_rfl,qA (by kernel_rfl)⟩
 . exact⟨by kernel_rfl,qA (by kernel_rfl)⟩
theorem Yx:laidOutB Tryz.prog=true:=by kernel_rfl
theorem EP:ownKnob Tryz.prog.godebug=none:=by kernel_rfl
theorem Xj:A7 Tryz.prog 4 (gY G7.args):=Qf
theorem Yv:fK Tryz.prog [22,22] G7.args=true:=by kernel_rfl
set_option maxRecDepth 100000 in
theorem Ue (os:Os) (u:os.Started) (H:Type) (enc:TypeId×Value->H):
 ReturnsInHanded {} Tryz.checked os 4 .any (Rows.dcflowKirchhoffSpec.pre6 enc Tryz.prog Tryz.f4 Rows.dcflowKirchhoffRow.domain false) (Rows.dcflowKirchhoffSpec.post enc Tryz.prog Tryz.f4 false true false false):=by
 refine returnsInHanded_of_change (C:=Tryz.checked) EP u (by kernel_rfl) Tryz.func4
  (ChangeSpec.witness6 (enc:=enc) (C:=Tryz.checked) false ⟨#[], #[.slice none 0 0, .slice none 0 0],[]⟩ 8 (by kernel_rfl) (by kernel_rfl) (by kernel_rfl) (by kernel_rfl)) ?_
 intro W base args ds gs before a1 hW a5 _;have a2:∀(j:Nat) t v,Tryz.f4.params[j]? =some t->args[j]? =some v->Value.okWide Tryz.prog W .any base t v:=a1;have a4:=hW;obtain⟨p,q,a3,hV,_,_,_⟩:=hW;have hA:DataW.TrodAll enc Tryz.prog W 0 (fun _=>true) true Tryz.f4.params.toList args.toList ds p:=a3;rw[Tryz.params4]at hA;obtain⟨x,hx⟩:=dV Yv hA (fun j t v ht hv=>a2 j t v (by simpa[Tryz.params4]using ht) (by simpa using hv));have a0:=hA;obtain⟨v0,a8,d0,a6,p0,q0,hl,rfl,rfl,h0,r0⟩:=trodAll_cons a0;obtain⟨v1,a9,d1,a7,p1,q1,rfl,rfl,rfl,h1,r1⟩:=trodAll_cons r0;obtain⟨rfl,rfl,rfl⟩:=trodAll_nil r1;refine Calls.mono (A6z (by kernel_rfl) Xj hx) fun e W' hh=> ?_
 obtain⟨v,rfl,rfl,hb⟩:=hh;exact⟨_,rfl,B3r Yx a4 rfl (by kernel_rfl) Tryz.underlying4 rfl Uf hb⟩
theorem HC:(laidOutB Tryz.pinned.checked.prog)=true:=by kernel_rfl
theorem HD:(mapsRowed Tryz.pinned.checked.prog)=true:=by kernel_rfl
theorem HE:(Rows.dcflowKirchhoffRow.inPlace==Tryz.pinned.checked.prog.inPlace 4)=true:=by kernel_rfl
theorem HF:(Rows.dcflowKirchhoffRow.unfollowed==Tryz.pinned.checked.prog.unfollowed 4)=true:=by kernel_rfl
theorem HG:(Rows.dcflowKirchhoffRow.recurses==Tryz.pinned.checked.prog.recurses 4)=true:=by kernel_rfl
theorem HH:(Rows.dcflowKirchhoffRow.named==Tryz.pinned.checked.prog.varsNamed 4)=true:=by kernel_rfl
theorem HI:(Rows.dcflowKirchhoffRow.lifted==Tryz.pinned.checked.prog.liftsFinal)=true:=by kernel_rfl
theorem HJ:(Tryz.pinned.checked.prog.stopsHeard)=true:=by kernel_rfl
theorem HK:(Tryz.pinned.checked.prog.mayEnter)=true:=by kernel_rfl
theorem HL:(Rows.dcflowKirchhoffRow.plainKeys==Tryz.pinned.checked.prog.plainKeys)=true:=by kernel_rfl
theorem EO:(Tryz.pinned.checked.prog.make==some Rows.dcflowKirchhoffRow.make)=true:=by kernel_rfl
theorem Ud:joinedFacts Tryz.pinned.checked.prog 4 Tryz.f4 Rows.dcflowKirchhoffSpec Rows.dcflowKirchhoffRow=true:=by
 unfold joinedFacts;rw[HC,HD,HE,HF,HG,HH,HI,HJ,HK,HL,EO];kernel_rfl
theorem Xk:Tryz.pinned.checked.prog.funcNamed Rows.dcflowKirchhoffRow.func=some 4:=by kernel_rfl
theorem Yw:Tryz.f4.isInstance Tryz.pinned.checked.prog Rows.dcflowKirchhoffRow.origin Rows.dcflowKirchhoffRow.targs:=qA (by kernel_rfl)
theorem Yy:Tryz.f4.isWrapper Tryz.pinned.checked.prog Rows.dcflowKirchhoffRow.wrapper Rows.dcflowKirchhoffRow.mainSum:=by unfold Func.isWrapper;first| (rw[qZ (by decide+kernel)];kernel_rfl) | (rw[qO (by decide+kernel)];exact⟨rfl,rfl⟩)
theorem dcflowKirchhoff_holds:Rows.DcflowKirchhoffSaid:=
 OpenClaim.holds_of_wide 4 Tryz.f4 rfl rfl rfl rfl rfl rfl rfl ⟨rfl,rfl,rfl,rfl,rfl⟩ rfl rfl rfl rfl rfl Xk Tryz.func4 Ud
  Yw Yy
  (fun os u H enc _=>Ue os u H enc)
#print axioms dcflowKirchhoff_holds
end Go.Proofs.YthclcjfodjhmlaaGreat
