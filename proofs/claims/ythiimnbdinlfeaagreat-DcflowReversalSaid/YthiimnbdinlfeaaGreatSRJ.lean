/- For every input DcflowReversal returns true and leaves its arguments as they were: the whole given statement, no condition. -/
import Derived.Test.YthiimnbdinlfeaaGreatKRJ
set_option linter.all false
namespace Go.Proofs.YthiimnbdinlfeaaGreat
open Go.Proofs.Tryz
open Go.Vc Go.Gw Go.RowKit Go.ChangeShapes Go.WideShapes Go.ChangeAt
theorem B5i:∀t∈f3.params.toList,prog.readableRec t=true/\t<prog.types.size:=by
 rw[params3];intro t u;simp only[g0s,g5j,h0d]at u;rcases u with rfl|rfl|rfl
 . exact⟨by kernel_rfl,g0a (by kernel_rfl)⟩
 . exact⟨by kernel_rfl,g0a (by kernel_rfl)⟩
 . exact⟨by kernel_rfl,g0a (by kernel_rfl)⟩
theorem C0o:laidOutB prog=true:=by kernel_rfl
theorem C1z:ownKnob prog.godebug=none:=by kernel_rfl
theorem B8c:B4 prog 3 (E7q D8.args):=B0b
theorem C0w:F1m prog [22,22,3] D8.args=true:=by kernel_rfl
set_option maxRecDepth 100000 in
theorem B3x (os:Os) (u:os.Started) (H:Type) (enc:TypeId×Value->H):
 ReturnsInHanded {} checked os 3 .any (Rows.dcflowReversalSpec.pre6 enc prog f3 Rows.dcflowReversalRow.domain false) (Rows.dcflowReversalSpec.post enc prog f3 false true false false):=by
 refine returnsInHanded_of_change (C:=checked) C1z u (by kernel_rfl) func3
  (ChangeSpec.witness6 (enc:=enc) (C:=checked) false ⟨#[], #[.slice none 0 0, .slice none 0 0, .int .i64 0],[]⟩ 8 (by kernel_rfl) (by kernel_rfl) (by kernel_rfl) (by kernel_rfl)) ?_
 intro W base args ds gs before a1 hW a5 _;have a2:∀(j:Nat) t v,f3.params[j]? =some t->args[j]? =some v->Value.okWide prog W .any base t v:=a1;have a4:=hW;obtain⟨p,q,a3,hV,_,_,_⟩:=hW;have hA:DataW.TrodAll enc prog W 0 (fun _=>true) true f3.params.toList args.toList ds p:=a3;rw[params3]at hA;obtain⟨x,hx⟩:=E2f C0w hA (fun j t v ht hv=>a2 j t v (by simpa[params3]using ht) (by simpa using hv));have a0:=hA;obtain⟨v0,a9,d0,a6,p0,q0,hl,rfl,rfl,h0,r0⟩:=trodAll_cons a0;obtain⟨v1,aa,d1,a7,p1,q1,rfl,rfl,rfl,h1,r1⟩:=trodAll_cons r0;obtain⟨v2,ab,d2,a8,p2,q2,rfl,rfl,rfl,h2,r2⟩:=trodAll_cons r1;obtain⟨rfl,rfl,rfl⟩:=trodAll_nil r2;refine Calls.mono (F8z (by kernel_rfl) B8c hx) fun e W' hh=> ?_
 obtain⟨v,rfl,rfl,hb⟩:=hh;exact⟨_,rfl,G1y C0o a4 rfl (by kernel_rfl) underlying4 rfl B5i hb⟩
theorem C6g:(laidOutB Tryz.pinned.checked.prog)=true:=by kernel_rfl
theorem C6x:(mapsRowed Tryz.pinned.checked.prog)=true:=by kernel_rfl
theorem C6c:(Rows.dcflowReversalRow.inPlace==Tryz.pinned.checked.prog.inPlace 3)=true:=by kernel_rfl
theorem C7m:(Rows.dcflowReversalRow.unfollowed==Tryz.pinned.checked.prog.unfollowed 3)=true:=by kernel_rfl
theorem C6l:(Rows.dcflowReversalRow.recurses==Tryz.pinned.checked.prog.recurses 3)=true:=by kernel_rfl
theorem C6a:(Rows.dcflowReversalRow.named==Tryz.pinned.checked.prog.varsNamed 3)=true:=by kernel_rfl
theorem C5b:(Rows.dcflowReversalRow.lifted==Tryz.pinned.checked.prog.liftsFinal)=true:=by kernel_rfl
theorem C6k:(Tryz.pinned.checked.prog.stopsHeard)=true:=by kernel_rfl
theorem C6u:(Tryz.pinned.checked.prog.mayEnter)=true:=by kernel_rfl
theorem C5u:(Rows.dcflowReversalRow.plainKeys==Tryz.pinned.checked.prog.plainKeys)=true:=by kernel_rfl
theorem C3b:(Tryz.pinned.checked.prog.make==some Rows.dcflowReversalRow.make)=true:=by kernel_rfl
theorem B6e:joinedFacts Tryz.pinned.checked.prog 3 f3 Rows.dcflowReversalSpec Rows.dcflowReversalRow=true:=by
 unfold joinedFacts;rw[C6g,C6x,C6c,C7m,C6l,C6a,C5b,C6k,C6u,C5u,C3b];kernel_rfl
theorem B7s:Tryz.pinned.checked.prog.funcNamed Rows.dcflowReversalRow.func=some 3:=by kernel_rfl
theorem C0n:f3.isInstance Tryz.pinned.checked.prog Rows.dcflowReversalRow.origin Rows.dcflowReversalRow.targs:=g0a (by kernel_rfl)
theorem C1j:f3.isWrapper Tryz.pinned.checked.prog Rows.dcflowReversalRow.wrapper Rows.dcflowReversalRow.mainSum:=by unfold Func.isWrapper;first| (rw[g1c (by decide+kernel)];kernel_rfl) | (rw[g0u (by decide+kernel)];exact⟨rfl,rfl⟩)
theorem dcflowReversal_holds:Rows.DcflowReversalSaid:=
 OpenClaim.holds_of_wide 3 f3 rfl rfl rfl rfl rfl rfl rfl ⟨rfl,rfl,rfl,rfl,rfl⟩ rfl rfl rfl rfl rfl B7s func3 B6e
  C0n C1j
  (fun os u H enc _=>B3x os u H enc)
#print axioms dcflowReversal_holds
end Go.Proofs.YthiimnbdinlfeaaGreat
