/- For every input whose parts are together of bulk at most 1048576, FactorRank returns true and leaves its arguments as they were: the whole given statement of the second form, no further condition. -/
import Derived.JoinedCond
import Derived.Test.YtljgpjhcieidbaaGreatKRI
set_option linter.all false
namespace Go.Proofs.YtljgpjhcieidbaaGreat
open Go.Vc Go.Gw Go.RowKit Go.ChangeShapes Go.WideShapes Go.ChangeAt
theorem GV:∀t∈Tryz.f4.params.toList,Tryz.prog.readableRec t=true/\t<Tryz.prog.types.size:=by
 rw[Tryz.params4];intro t ht;simp only[qT,wJ,g1c]at ht;rcases ht with rfl|rfl
 . exact⟨by kernel_rfl,qA (by kernel_rfl)⟩
 . exact⟨by kernel_rfl,qA (by kernel_rfl)⟩
theorem OK:laidOutB Tryz.prog=true:=by kernel_rfl
theorem RZ:ownKnob Tryz.prog.godebug=none:=by kernel_rfl
theorem Tm {H:Type} :eY (H:=H) Rows.uptoBulk Rows.uptoBulkAll:=⟨fun d=>by cases d with|lit l=>cases l<;>simp[Rows.uptoBulk] | _=>simp[Rows.uptoBulk],by simp[Rows.uptoBulkAll],fun d r=>by simp[Rows.uptoBulkAll],fun e s=>by simp[Rows.uptoBulk],fun l=>by simp[Rows.uptoBulk]⟩
theorem KH:B7 Tryz.prog 4 (SK E9.args E9.pre):=AN
theorem OI:bN Tryz.prog [24,25] E9.args=true:=by kernel_rfl
set_option maxRecDepth 100000 in
theorem GU (os:Os) (started:os.Started) (H:Type) (enc:TypeId×Value->H) (F:Stop.Interp):
 ReturnsInHanded {} Tryz.checked os 4 .any ((Rows.OpenSpec.upto Rows.factorRankSpec).pre6 enc Tryz.prog Tryz.f4 Rows.factorRankUptoRow.domain false) (((Rows.OpenSpec.upto Rows.factorRankSpec).at F).post enc Tryz.prog Tryz.f4 false true false false):=by
 refine returnsInHanded_of_cond (C:=Tryz.checked) (s:=Rows.OpenSpec.upto Rows.factorRankSpec) (k:=Rows.uptoSmall) rfl RZ started (by kernel_rfl) Tryz.func4
  (OpenSpec.witness (enc:=enc) (C:=Tryz.checked) (s:=Rows.OpenSpec.upto Rows.factorRankSpec) (k:=Rows.uptoSmall) rfl false ⟨#[], #[.agg #[.int .i64 0, .int .i64 0, .slice none 0 0], .slice none 0 0],[]⟩ 8 (by kernel_rfl) (by kernel_rfl) (by kernel_rfl) (x:=([.agg [.lit (.int .i64 0), .lit (.int .i64 0), .nil], .nil],[],[])) (by kernel_rfl) rfl (by kernel_rfl)) ?_
 intro W base args ds gs before hval0 hW hcnd hk _;have hval:∀(j:Nat) t v,Tryz.f4.params[j]? =some t->args[j]? =some v->Value.okWide Tryz.prog W .any base t v:=hval0;have hW':=hW;obtain⟨p,q,hA0,hV,_,_,_⟩:=hW;have hA:DataW.TrodAll enc Tryz.prog W 0 (fun _=>true) true Tryz.f4.params.toList args.toList ds p:=hA0;rw[Tryz.params4]at hA;obtain⟨x,hx,hm⟩:=TX Tm OI hA (fun j t v ht hv=>hval j t v (by simpa[Tryz.params4]using ht) (by simpa using hv));have hk:Rows.uptoBulkAll (ds++gs)<=1048576:=qA hk;rw[Tm.app]at hk;have hp:E9.pre x:=UD x (by omega);have hargs:=hA;obtain⟨v0,vs0,d0,ds0,p0,q0,hl,rfl,rfl,h0,r0⟩:=trodAll_cons hargs;obtain⟨v1,vs1,d1,ds1,p1,q1,rfl,rfl,rfl,h1,r1⟩:=trodAll_cons r0;obtain⟨rfl,rfl,rfl⟩:=trodAll_nil r1;refine Calls.mono (nS (by kernel_rfl) KH hx hp) fun e W' hh=> ?_
 obtain⟨v,rfl,rfl,hb⟩:=hh;exact⟨_,rfl,A9t OK hW' rfl (by kernel_rfl) Tryz.underlying4 rfl GV hb⟩
theorem WY:(laidOutB Tryz.pinned.checked.prog)=true:=by kernel_rfl
theorem WZ:(mapsRowed Tryz.pinned.checked.prog)=true:=by kernel_rfl
theorem XA:(Rows.factorRankUptoRow.inPlace==Tryz.pinned.checked.prog.inPlace 4)=true:=by kernel_rfl
theorem XB:(Rows.factorRankUptoRow.unfollowed==Tryz.pinned.checked.prog.unfollowed 4)=true:=by kernel_rfl
theorem XC:(Rows.factorRankUptoRow.recurses==Tryz.pinned.checked.prog.recurses 4)=true:=by kernel_rfl
theorem XD:(Rows.factorRankUptoRow.named==Tryz.pinned.checked.prog.varsNamed 4)=true:=by kernel_rfl
theorem XE:(Rows.factorRankUptoRow.lifted==Tryz.pinned.checked.prog.liftsFinal)=true:=by kernel_rfl
theorem XF:(Tryz.pinned.checked.prog.stopsHeard)=true:=by kernel_rfl
theorem XG:(Tryz.pinned.checked.prog.mayEnter)=true:=by kernel_rfl
theorem XH:(Rows.factorRankUptoRow.plainKeys==Tryz.pinned.checked.prog.plainKeys)=true:=by kernel_rfl
theorem RY:(Tryz.pinned.checked.prog.make==some Rows.factorRankUptoRow.make)=true:=by kernel_rfl
theorem GT:joinedFacts Tryz.pinned.checked.prog 4 Tryz.f4 Rows.factorRankSpec Rows.factorRankUptoRow=true:=by
 unfold joinedFacts;rw[WY,WZ,XA,XB,XC,XD,XE,XF,XG,XH,RY];kernel_rfl
theorem KI:Tryz.pinned.checked.prog.funcNamed Rows.factorRankUptoRow.func=some 4:=by kernel_rfl
theorem OJ:Tryz.f4.isInstance Tryz.pinned.checked.prog Rows.factorRankUptoRow.origin Rows.factorRankUptoRow.targs:=qA (by kernel_rfl)
theorem OL:Tryz.f4.isWrapper Tryz.pinned.checked.prog Rows.factorRankUptoRow.wrapper Rows.factorRankUptoRow.mainSum:=by unfold Func.isWrapper;first| (rw[qK (by decide+kernel)];kernel_rfl) | (rw[qH (by decide+kernel)];exact⟨rfl,rfl⟩)
theorem factorRank_holds:Rows.FactorRankUptoSaid:=
 OpenClaim.holds_of_cond 4 Tryz.f4 rfl rfl rfl rfl rfl rfl rfl ⟨rfl,rfl,rfl,rfl,rfl⟩ rfl rfl rfl rfl rfl KI Tryz.func4 GT
  OJ OL
  (fun os started H enc _ F=>GU os started H enc F)
#print axioms factorRank_holds
end Go.Proofs.YtljgpjhcieidbaaGreat
