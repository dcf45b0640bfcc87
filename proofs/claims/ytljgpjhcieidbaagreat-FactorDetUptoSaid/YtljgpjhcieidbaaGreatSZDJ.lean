/- For every input whose parts are together of bulk at most 1048576, FactorDet returns true and leaves its arguments as they were: the whole given statement of the second form, no further condition. -/
import Derived.JoinedCond
import Derived.Test.YtljgpjhcieidbaaGreatKDJ
set_option linter.all false
namespace Go.Proofs.YtljgpjhcieidbaaGreat
open Go.Vc Go.Gw Go.RowKit Go.ChangeShapes Go.WideShapes Go.ChangeAt
theorem KM:∀t∈Tryz.f3.params.toList,Tryz.prog.readableRec t=true/\t<Tryz.prog.types.size:=by
 rw[Tryz.params3];intro t ht;simp only[qU,wJ,g1c]at ht;rcases ht with rfl|rfl|rfl
 . exact⟨by kernel_rfl,qA (by kernel_rfl)⟩
 . exact⟨by kernel_rfl,qA (by kernel_rfl)⟩
 . exact⟨by kernel_rfl,qA (by kernel_rfl)⟩
theorem SG:laidOutB Tryz.prog=true:=by kernel_rfl
theorem XQ:ownKnob Tryz.prog.godebug=none:=by kernel_rfl
theorem Ws {H:Type} :fZ (H:=H) Rows.uptoBulk Rows.uptoBulkAll:=⟨fun d=>by cases d with|lit l=>cases l<;>simp[Rows.uptoBulk] | _=>simp[Rows.uptoBulk],by simp[Rows.uptoBulkAll],fun d r=>by simp[Rows.uptoBulkAll],fun e s=>by simp[Rows.uptoBulk],fun l=>by simp[Rows.uptoBulk]⟩
theorem OP:B6 Tryz.prog 3 (TA F5.args F5.pre):=EN
theorem SE:cE Tryz.prog [24,25,25] F5.args=true:=by kernel_rfl
set_option maxRecDepth 100000 in
theorem KL (os:Os) (started:os.Started) (H:Type) (enc:TypeId×Value->H) (F:Stop.Interp):
 ReturnsInHanded {} Tryz.checked os 3 .any ((Rows.OpenSpec.upto Rows.factorDetSpec).pre6 enc Tryz.prog Tryz.f3 Rows.factorDetUptoRow.domain false) (((Rows.OpenSpec.upto Rows.factorDetSpec).at F).post enc Tryz.prog Tryz.f3 false true false false):=by
 refine returnsInHanded_of_cond (C:=Tryz.checked) (s:=Rows.OpenSpec.upto Rows.factorDetSpec) (k:=Rows.uptoSmall) rfl XQ started (by kernel_rfl) Tryz.func3
  (OpenSpec.witness (enc:=enc) (C:=Tryz.checked) (s:=Rows.OpenSpec.upto Rows.factorDetSpec) (k:=Rows.uptoSmall) rfl false ⟨#[], #[.agg #[.int .i64 0, .int .i64 0, .slice none 0 0], .slice none 0 0, .slice none 0 0],[]⟩ 8 (by kernel_rfl) (by kernel_rfl) (by kernel_rfl) (x:=([.agg [.lit (.int .i64 0), .lit (.int .i64 0), .nil], .nil, .nil],[],[])) (by kernel_rfl) rfl (by kernel_rfl)) ?_
 intro W base args ds gs before hval0 hW hcnd hk _;have hval:∀(j:Nat) t v,Tryz.f3.params[j]? =some t->args[j]? =some v->Value.okWide Tryz.prog W .any base t v:=hval0;have hW':=hW;obtain⟨p,q,hA0,hV,_,_,_⟩:=hW;have hA:DataW.TrodAll enc Tryz.prog W 0 (fun _=>true) true Tryz.f3.params.toList args.toList ds p:=hA0;rw[Tryz.params3]at hA;obtain⟨x,hx,hm⟩:=UK Ws SE hA (fun j t v ht hv=>hval j t v (by simpa[Tryz.params3]using ht) (by simpa using hv));have hk:Rows.uptoBulkAll (ds++gs)<=1048576:=qA hk;rw[Ws.app]at hk;have hp:F5.pre x:=XX x (by omega);have hargs:=hA;obtain⟨v0,vs0,d0,ds0,p0,q0,hl,rfl,rfl,h0,r0⟩:=trodAll_cons hargs;obtain⟨v1,vs1,d1,ds1,p1,q1,rfl,rfl,rfl,h1,r1⟩:=trodAll_cons r0;obtain⟨v2,vs2,d2,ds2,p2,q2,rfl,rfl,rfl,h2,r2⟩:=trodAll_cons r1;obtain⟨rfl,rfl,rfl⟩:=trodAll_nil r2;refine Calls.mono (oS (by kernel_rfl) OP hx hp) fun e W' hh=> ?_
 obtain⟨v,rfl,rfl,hb⟩:=hh;exact⟨_,rfl,B0j SG hW' rfl (by kernel_rfl) Tryz.underlying4 rfl KM hb⟩
theorem dC:(laidOutB Tryz.pinned.checked.prog)=true:=by kernel_rfl
theorem dD:(mapsRowed Tryz.pinned.checked.prog)=true:=by kernel_rfl
theorem dE:(Rows.factorDetUptoRow.inPlace==Tryz.pinned.checked.prog.inPlace 3)=true:=by kernel_rfl
theorem dF:(Rows.factorDetUptoRow.unfollowed==Tryz.pinned.checked.prog.unfollowed 3)=true:=by kernel_rfl
theorem dG:(Rows.factorDetUptoRow.recurses==Tryz.pinned.checked.prog.recurses 3)=true:=by kernel_rfl
theorem dH:(Rows.factorDetUptoRow.named==Tryz.pinned.checked.prog.varsNamed 3)=true:=by kernel_rfl
theorem dI:(Rows.factorDetUptoRow.lifted==Tryz.pinned.checked.prog.liftsFinal)=true:=by kernel_rfl
theorem dJ:(Tryz.pinned.checked.prog.stopsHeard)=true:=by kernel_rfl
theorem dK:(Tryz.pinned.checked.prog.mayEnter)=true:=by kernel_rfl
theorem dL:(Rows.factorDetUptoRow.plainKeys==Tryz.pinned.checked.prog.plainKeys)=true:=by kernel_rfl
theorem XP:(Tryz.pinned.checked.prog.make==some Rows.factorDetUptoRow.make)=true:=by kernel_rfl
theorem KJ:joinedFacts Tryz.pinned.checked.prog 3 Tryz.f3 Rows.factorDetSpec Rows.factorDetUptoRow=true:=by
 unfold joinedFacts;rw[dC,dD,dE,dF,dG,dH,dI,dJ,dK,dL,XP];kernel_rfl
theorem OQ:Tryz.pinned.checked.prog.funcNamed Rows.factorDetUptoRow.func=some 3:=by kernel_rfl
theorem SF:Tryz.f3.isInstance Tryz.pinned.checked.prog Rows.factorDetUptoRow.origin Rows.factorDetUptoRow.targs:=qA (by kernel_rfl)
theorem SH:Tryz.f3.isWrapper Tryz.pinned.checked.prog Rows.factorDetUptoRow.wrapper Rows.factorDetUptoRow.mainSum:=by unfold Func.isWrapper;first| (rw[qL (by decide+kernel)];kernel_rfl) | (rw[qH (by decide+kernel)];exact⟨rfl,rfl⟩)
theorem factorDet_holds:Rows.FactorDetUptoSaid:=
 OpenClaim.holds_of_cond 3 Tryz.f3 rfl rfl rfl rfl rfl rfl rfl ⟨rfl,rfl,rfl,rfl,rfl⟩ rfl rfl rfl rfl rfl OQ Tryz.func3 KJ
  SF SH
  (fun os started H enc _ F=>KL os started H enc F)
#print axioms factorDet_holds
end Go.Proofs.YtljgpjhcieidbaaGreat
