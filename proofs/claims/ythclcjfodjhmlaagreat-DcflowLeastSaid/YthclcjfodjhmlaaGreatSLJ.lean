/- For every input DcflowLeast returns true and leaves its arguments as they were: the whole given statement, no condition. -/
import Derived.Test.YthclcjfodjhmlaaGreatKLJ
set_option linter.all false
namespace Go.Proofs.YthclcjfodjhmlaaGreat
open Go.Vc Go.Gw Go.RowKit Go.ChangeShapes Go.WideShapes Go.ChangeAt
theorem GU:∀t∈Tryz.f3.params.toList,Tryz.prog.readableRec t=true/\t<Tryz.prog.types.size:=by
 rw[Tryz.params3];intro t u;simp only[qR,xE,g2c]at u;rcases u with rfl|rfl|rfl
 . exact⟨by kernel_rfl,qA (by kernel_rfl)⟩
 . exact⟨by kernel_rfl,qA (by kernel_rfl)⟩
 . exact⟨by kernel_rfl,qA (by kernel_rfl)⟩
theorem NL:laidOutB Tryz.prog=true:=by kernel_rfl
theorem SL:ownKnob Tryz.prog.godebug=none:=by kernel_rfl
theorem JV:A7 Tryz.prog 3 (iR J3.args):=Zu
theorem NJ:gA Tryz.prog [22,22,22] J3.args=true:=by kernel_rfl
set_option maxRecDepth 100000 in
theorem GT (os:Os) (u:os.Started) (H:Type) (enc:TypeId×Value->H):
 ReturnsInHanded {} Tryz.checked os 3 .any (Rows.dcflowLeastSpec.pre6 enc Tryz.prog Tryz.f3 Rows.dcflowLeastRow.domain false) (Rows.dcflowLeastSpec.post enc Tryz.prog Tryz.f3 false true false false):=by
 refine returnsInHanded_of_change (C:=Tryz.checked) SL u (by kernel_rfl) Tryz.func3
  (ChangeSpec.witness6 (enc:=enc) (C:=Tryz.checked) false ⟨#[], #[.slice none 0 0, .slice none 0 0, .slice none 0 0],[]⟩ 8 (by kernel_rfl) (by kernel_rfl) (by kernel_rfl) (by kernel_rfl)) ?_
 intro W base args ds gs before a1 hW a5 _;have a2:∀(j:Nat) t v,Tryz.f3.params[j]? =some t->args[j]? =some v->Value.okWide Tryz.prog W .any base t v:=a1;have a4:=hW;obtain⟨p,q,a3,hV,_,_,_⟩:=hW;have hA:DataW.TrodAll enc Tryz.prog W 0 (fun _=>true) true Tryz.f3.params.toList args.toList ds p:=a3;rw[Tryz.params3]at hA;obtain⟨x,hx⟩:=eO NJ hA (fun j t v ht hv=>a2 j t v (by simpa[Tryz.params3]using ht) (by simpa using hv));have a0:=hA;obtain⟨v0,a9,d0,a6,p0,q0,hl,rfl,rfl,h0,r0⟩:=trodAll_cons a0;obtain⟨v1,aa,d1,a7,p1,q1,rfl,rfl,rfl,h1,r1⟩:=trodAll_cons r0;obtain⟨v2,ab,d2,a8,p2,q2,rfl,rfl,rfl,h2,r2⟩:=trodAll_cons r1;obtain⟨rfl,rfl,rfl⟩:=trodAll_nil r2;refine Calls.mono (A7l (by kernel_rfl) JV hx) fun e W' hh=> ?_
 obtain⟨v,rfl,rfl,hb⟩:=hh;exact⟨_,rfl,B4d NL a4 rfl (by kernel_rfl) Tryz.underlying4 rfl GU hb⟩
theorem VF:(laidOutB Tryz.pinned.checked.prog)=true:=by kernel_rfl
theorem VG:(mapsRowed Tryz.pinned.checked.prog)=true:=by kernel_rfl
theorem VH:(Rows.dcflowLeastRow.inPlace==Tryz.pinned.checked.prog.inPlace 3)=true:=by kernel_rfl
theorem VI:(Rows.dcflowLeastRow.unfollowed==Tryz.pinned.checked.prog.unfollowed 3)=true:=by kernel_rfl
theorem VJ:(Rows.dcflowLeastRow.recurses==Tryz.pinned.checked.prog.recurses 3)=true:=by kernel_rfl
theorem VK:(Rows.dcflowLeastRow.named==Tryz.pinned.checked.prog.varsNamed 3)=true:=by kernel_rfl
theorem VL:(Rows.dcflowLeastRow.lifted==Tryz.pinned.checked.prog.liftsFinal)=true:=by kernel_rfl
theorem VM:(Tryz.pinned.checked.prog.stopsHeard)=true:=by kernel_rfl
theorem VN:(Tryz.pinned.checked.prog.mayEnter)=true:=by kernel_rfl
theorem VO:(Rows.dcflowLeastRow.plainKeys==Tryz.pinned.checked.prog.plainKeys)=true:=by kernel_rfl
theorem SK:(Tryz.pinned.checked.prog.make==some Rows.dcflowLeastRow.make)=true:=by kernel_rfl
theorem GS:joinedFacts Tryz.pinned.checked.prog 3 Tryz.f3 Rows.dcflowLeastSpec Rows.dcflowLeastRow=true:=by
 unfold joinedFacts;rw[VF,VG,VH,VI,VJ,VK,VL,VM,VN,VO,SK];kernel_rfl
theorem JW:Tryz.pinned.checked.prog.funcNamed Rows.dcflowLeastRow.func=some 3:=by kernel_rfl
theorem NK:Tryz.f3.isInstance Tryz.pinned.checked.prog Rows.dcflowLeastRow.origin Rows.dcflowLeastRow.targs:=qA (by kernel_rfl)
theorem NM:Tryz.f3.isWrapper Tryz.pinned.checked.prog Rows.dcflowLeastRow.wrapper Rows.dcflowLeastRow.mainSum:=by unfold Func.isWrapper;first| (rw[qY (by decide+kernel)];kernel_rfl) | (rw[qO (by decide+kernel)];exact⟨rfl,rfl⟩)
theorem dcflowLeast_holds:Rows.DcflowLeastSaid:=
 OpenClaim.holds_of_wide 3 Tryz.f3 rfl rfl rfl rfl rfl rfl rfl ⟨rfl,rfl,rfl,rfl,rfl⟩ rfl rfl rfl rfl rfl JW Tryz.func3 GS
  NK NM
  (fun os u H enc _=>GT os u H enc)
#print axioms dcflowLeast_holds
end Go.Proofs.YthclcjfodjhmlaaGreat
