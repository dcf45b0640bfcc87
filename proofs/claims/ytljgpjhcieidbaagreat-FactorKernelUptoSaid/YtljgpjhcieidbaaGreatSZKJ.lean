/- For every input whose parts are together of bulk at most 1048576, FactorKernel returns true and leaves its arguments as they were: the whole given statement of the second form, no further condition. -/
import Derived.JoinedCond
import Derived.Test.YtljgpjhcieidbaaGreatKKJ
set_option linter.all false
namespace Go.Proofs.YtljgpjhcieidbaaGreat
open Go.Vc Go.Gw Go.RowKit Go.ChangeShapes Go.WideShapes Go.ChangeAt
theorem CN:∀t∈Tryz.f6.params.toList,Tryz.prog.readableRec t=true/\t<Tryz.prog.types.size:=by
 rw[Tryz.params6];intro t ht;simp only[qS,vO,g1d]at ht;rcases ht with rfl|rfl
 . exact⟨by kernel_rfl,qA (by kernel_rfl)⟩
 . exact⟨by kernel_rfl,qA (by kernel_rfl)⟩
theorem IS:laidOutB Tryz.prog=true:=by kernel_rfl
theorem MJ:ownKnob Tryz.prog.godebug=none:=by kernel_rfl
theorem My {H:Type} :jF (H:=H) Rows.uptoBulk Rows.uptoBulkAll:=⟨fun d=>by cases d with|lit l=>cases l<;>simp[Rows.uptoBulk] | _=>simp[Rows.uptoBulk],by simp[Rows.uptoBulkAll],fun d r=>by simp[Rows.uptoBulkAll],fun e s=>by simp[Rows.uptoBulk],fun l=>by simp[Rows.uptoBulk]⟩
theorem FK:B7 Tryz.prog 6 (VH E3.args E3.pre):=Wh
theorem IQ:eZ Tryz.prog [24,25] E3.args=true:=by kernel_rfl
set_option maxRecDepth 100000 in
theorem CM (os:Os) (started:os.Started) (H:Type) (enc:TypeId×Value->H) (F:Stop.Interp):
 ReturnsInHanded {} Tryz.checked os 6 .any ((Rows.OpenSpec.upto Rows.factorKernelSpec).pre6 enc Tryz.prog Tryz.f6 Rows.factorKernelUptoRow.domain false) (((Rows.OpenSpec.upto Rows.factorKernelSpec).at F).post enc Tryz.prog Tryz.f6 false true false false):=by
 refine returnsInHanded_of_cond (C:=Tryz.checked) (s:=Rows.OpenSpec.upto Rows.factorKernelSpec) (k:=Rows.uptoSmall) rfl MJ started (by kernel_rfl) Tryz.func6
  (OpenSpec.witness (enc:=enc) (C:=Tryz.checked) (s:=Rows.OpenSpec.upto Rows.factorKernelSpec) (k:=Rows.uptoSmall) rfl false ⟨#[], #[.agg #[.int .i64 0, .int .i64 0, .slice none 0 0], .slice none 0 0],[]⟩ 8 (by kernel_rfl) (by kernel_rfl) (by kernel_rfl) (x:=([.agg [.lit (.int .i64 0), .lit (.int .i64 0), .nil], .nil],[],[])) (by kernel_rfl) rfl (by kernel_rfl)) ?_
 intro W base args ds gs before hval0 hW hcnd hk _;have hval:∀(j:Nat) t v,Tryz.f6.params[j]? =some t->args[j]? =some v->Value.okWide Tryz.prog W .any base t v:=hval0;have hW':=hW;obtain⟨p,q,hA0,hV,_,_,_⟩:=hW;have hA:DataW.TrodAll enc Tryz.prog W 0 (fun _=>true) true Tryz.f6.params.toList args.toList ds p:=hA0;rw[Tryz.params6]at hA;obtain⟨x,hx,hm⟩:=WQ My IQ hA (fun j t v ht hv=>hval j t v (by simpa[Tryz.params6]using ht) (by simpa using hv));have hk:Rows.uptoBulkAll (ds++gs)<=1048576:=qA hk;rw[My.app]at hk;have hp:E3.pre x:=NK x (by omega);have hargs:=hA;obtain⟨v0,vs0,d0,ds0,p0,q0,hl,rfl,rfl,h0,r0⟩:=trodAll_cons hargs;obtain⟨v1,vs1,d1,ds1,p1,q1,rfl,rfl,rfl,h1,r1⟩:=trodAll_cons r0;obtain⟨rfl,rfl,rfl⟩:=trodAll_nil r1;refine Calls.mono (A0m (by kernel_rfl) FK hx hp) fun e W' hh=> ?_
 obtain⟨v,rfl,rfl,hb⟩:=hh;exact⟨_,rfl,B2i IS hW' rfl (by kernel_rfl) Tryz.underlying4 rfl CN hb⟩
theorem QR:(laidOutB Tryz.pinned.checked.prog)=true:=by kernel_rfl
theorem QT:(mapsRowed Tryz.pinned.checked.prog)=true:=by kernel_rfl
theorem QU:(Rows.factorKernelUptoRow.inPlace==Tryz.pinned.checked.prog.inPlace 6)=true:=by kernel_rfl
theorem QV:(Rows.factorKernelUptoRow.unfollowed==Tryz.pinned.checked.prog.unfollowed 6)=true:=by kernel_rfl
theorem QW:(Rows.factorKernelUptoRow.recurses==Tryz.pinned.checked.prog.recurses 6)=true:=by kernel_rfl
theorem QX:(Rows.factorKernelUptoRow.named==Tryz.pinned.checked.prog.varsNamed 6)=true:=by kernel_rfl
theorem QY:(Rows.factorKernelUptoRow.lifted==Tryz.pinned.checked.prog.liftsFinal)=true:=by kernel_rfl
theorem QZ:(Tryz.pinned.checked.prog.stopsHeard)=true:=by kernel_rfl
theorem RA:(Tryz.pinned.checked.prog.mayEnter)=true:=by kernel_rfl
theorem RB:(Rows.factorKernelUptoRow.plainKeys==Tryz.pinned.checked.prog.plainKeys)=true:=by kernel_rfl
theorem MI:(Tryz.pinned.checked.prog.make==some Rows.factorKernelUptoRow.make)=true:=by kernel_rfl
theorem CL:joinedFacts Tryz.pinned.checked.prog 6 Tryz.f6 Rows.factorKernelSpec Rows.factorKernelUptoRow=true:=by
 unfold joinedFacts;rw[QR,QT,QU,QV,QW,QX,QY,QZ,RA,RB,MI];kernel_rfl
theorem FL:Tryz.pinned.checked.prog.funcNamed Rows.factorKernelUptoRow.func=some 6:=by kernel_rfl
theorem IR:Tryz.f6.isInstance Tryz.pinned.checked.prog Rows.factorKernelUptoRow.origin Rows.factorKernelUptoRow.targs:=qA (by kernel_rfl)
theorem IT:Tryz.f6.isWrapper Tryz.pinned.checked.prog Rows.factorKernelUptoRow.wrapper Rows.factorKernelUptoRow.mainSum:=by unfold Func.isWrapper;first| (rw[qJ (by decide+kernel)];kernel_rfl) | (rw[qH (by decide+kernel)];exact⟨rfl,rfl⟩)
theorem factorKernel_holds:Rows.FactorKernelUptoSaid:=
 OpenClaim.holds_of_cond 6 Tryz.f6 rfl rfl rfl rfl rfl rfl rfl ⟨rfl,rfl,rfl,rfl,rfl⟩ rfl rfl rfl rfl rfl FL Tryz.func6 CL
  IR IT
  (fun os started H enc _ F=>CM os started H enc F)
#print axioms factorKernel_holds
end Go.Proofs.YtljgpjhcieidbaaGreat
