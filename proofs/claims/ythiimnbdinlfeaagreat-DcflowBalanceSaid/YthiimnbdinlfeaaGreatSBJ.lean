/- For every input DcflowBalance returns true and leaves its arguments as they were: the whole given statement, no condition. -/
import Derived.Test.YthiimnbdinlfeaaGreatKBJ
set_option linter.all false
namespace Go.Proofs.YthiimnbdinlfeaaGreat
open Go.Vc Go.Gw Go.RowKit Go.ChangeShapes Go.WideShapes Go.ChangeAt
theorem Wb:∀t∈Tryz.f4.params.toList,Tryz.prog.readableRec t=true/\t<Tryz.prog.types.size:=by
 rw[Tryz.params4];intro t u;simp only[qV,wU,g1n]at u;rcases u with rfl|rfl
 . exact⟨by kernel_rfl,qA (by kernel_rfl)⟩
 . exact⟨by kernel_rfl,qA (by kernel_rfl)⟩
theorem DF:laidOutB Tryz.prog=true:=by kernel_rfl
theorem GF:ownKnob Tryz.prog.godebug=none:=by kernel_rfl
theorem AT:A7 Tryz.prog 4 (aO G6.args):=Si
theorem DD:ZG Tryz.prog [22,22] G6.args=true:=by kernel_rfl
set_option maxRecDepth 100000 in
theorem Wa (os:Os) (u:os.Started) (H:Type) (enc:TypeId×Value->H):
 ReturnsInHanded {} Tryz.checked os 4 .any (Rows.dcflowBalanceSpec.pre6 enc Tryz.prog Tryz.f4 Rows.dcflowBalanceRow.domain false) (Rows.dcflowBalanceSpec.post enc Tryz.prog Tryz.f4 false true false false):=by
 refine returnsInHanded_of_change (C:=Tryz.checked) GF u (by kernel_rfl) Tryz.func4
  (ChangeSpec.witness6 (enc:=enc) (C:=Tryz.checked) false ⟨#[], #[.slice none 0 0, .slice none 0 0],[]⟩ 8 (by kernel_rfl) (by kernel_rfl) (by kernel_rfl) (by kernel_rfl)) ?_
 intro W base args ds gs before a1 hW a5 _;have a2:∀(j:Nat) t v,Tryz.f4.params[j]? =some t->args[j]? =some v->Value.okWide Tryz.prog W .any base t v:=a1;have a4:=hW;obtain⟨p,q,a3,hV,_,_,_⟩:=hW;have hA:DataW.TrodAll enc Tryz.prog W 0 (fun _=>true) true Tryz.f4.params.toList args.toList ds p:=a3;rw[Tryz.params4]at hA;obtain⟨x,hx⟩:=YE DD hA (fun j t v ht hv=>a2 j t v (by simpa[Tryz.params4]using ht) (by simpa using hv));have a0:=hA;obtain⟨v0,a8,d0,a6,p0,q0,hl,rfl,rfl,h0,r0⟩:=trodAll_cons a0;obtain⟨v1,a9,d1,a7,p1,q1,rfl,rfl,rfl,h1,r1⟩:=trodAll_cons r0;obtain⟨rfl,rfl,rfl⟩:=trodAll_nil r1;refine Calls.mono (pG (by kernel_rfl) AT hx) fun e W' hh=> ?_
 obtain⟨v,rfl,rfl,hb⟩:=hh;exact⟨_,rfl,A5h DF a4 rfl (by kernel_rfl) Tryz.underlying4 rfl Wb hb⟩
theorem JE:(laidOutB Tryz.pinned.checked.prog)=true:=by kernel_rfl
theorem JF:(mapsRowed Tryz.pinned.checked.prog)=true:=by kernel_rfl
theorem JG:(Rows.dcflowBalanceRow.inPlace==Tryz.pinned.checked.prog.inPlace 4)=true:=by kernel_rfl
theorem JH:(Rows.dcflowBalanceRow.unfollowed==Tryz.pinned.checked.prog.unfollowed 4)=true:=by kernel_rfl
theorem JI:(Rows.dcflowBalanceRow.recurses==Tryz.pinned.checked.prog.recurses 4)=true:=by kernel_rfl
theorem JJ:(Rows.dcflowBalanceRow.named==Tryz.pinned.checked.prog.varsNamed 4)=true:=by kernel_rfl
theorem JK:(Rows.dcflowBalanceRow.lifted==Tryz.pinned.checked.prog.liftsFinal)=true:=by kernel_rfl
theorem JL:(Tryz.pinned.checked.prog.stopsHeard)=true:=by kernel_rfl
theorem JM:(Tryz.pinned.checked.prog.mayEnter)=true:=by kernel_rfl
theorem JN:(Rows.dcflowBalanceRow.plainKeys==Tryz.pinned.checked.prog.plainKeys)=true:=by kernel_rfl
theorem GE:(Tryz.pinned.checked.prog.make==some Rows.dcflowBalanceRow.make)=true:=by kernel_rfl
theorem Vz:joinedFacts Tryz.pinned.checked.prog 4 Tryz.f4 Rows.dcflowBalanceSpec Rows.dcflowBalanceRow=true:=by
 unfold joinedFacts;rw[JE,JF,JG,JH,JI,JJ,JK,JL,JM,JN,GE];kernel_rfl
theorem AU:Tryz.pinned.checked.prog.funcNamed Rows.dcflowBalanceRow.func=some 4:=by kernel_rfl
theorem DE:Tryz.f4.isInstance Tryz.pinned.checked.prog Rows.dcflowBalanceRow.origin Rows.dcflowBalanceRow.targs:=qA (by kernel_rfl)
theorem DG:Tryz.f4.isWrapper Tryz.pinned.checked.prog Rows.dcflowBalanceRow.wrapper Rows.dcflowBalanceRow.mainSum:=by unfold Func.isWrapper;first| (rw[rB (by decide+kernel)];kernel_rfl) | (rw[qT (by decide+kernel)];exact⟨rfl,rfl⟩)
theorem dcflowBalance_holds:Rows.DcflowBalanceSaid:=
 OpenClaim.holds_of_wide 4 Tryz.f4 rfl rfl rfl rfl rfl rfl rfl ⟨rfl,rfl,rfl,rfl,rfl⟩ rfl rfl rfl rfl rfl AU Tryz.func4 Vz
  DE DG
  (fun os u H enc _=>Wa os u H enc)
#print axioms dcflowBalance_holds
end Go.Proofs.YthiimnbdinlfeaaGreat
