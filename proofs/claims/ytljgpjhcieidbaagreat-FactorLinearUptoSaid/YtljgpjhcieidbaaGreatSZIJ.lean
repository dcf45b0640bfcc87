/- For every input whose parts are together of bulk at most 1048576, FactorLinear returns true and leaves its arguments as they were: the whole given statement of the second form, no further condition. -/
import Derived.JoinedCond
import Derived.Test.YtljgpjhcieidbaaGreatKII
set_option linter.all false
namespace Go.Proofs.YtljgpjhcieidbaaGreat
open Go.Vc Go.Gw Go.RowKit Go.ChangeShapes Go.WideShapes Go.ChangeAt
theorem AK:∀t∈Tryz.f5.params.toList,Tryz.prog.readableRec t=true/\t<Tryz.prog.types.size:=by
 rw[Tryz.params5];intro t ht;simp only[qS,wG,g0z]at ht;rcases ht with rfl|rfl
 . exact⟨by kernel_rfl,qA (by kernel_rfl)⟩
 . exact⟨by kernel_rfl,qA (by kernel_rfl)⟩
theorem GH:laidOutB Tryz.prog=true:=by kernel_rfl
theorem JQ:ownKnob Tryz.prog.godebug=none:=by kernel_rfl
theorem Lh {H:Type} :dM (H:=H) Rows.uptoBulk Rows.uptoBulkAll:=⟨fun d=>by cases d with|lit l=>cases l<;>simp[Rows.uptoBulk] | _=>simp[Rows.uptoBulk],by simp[Rows.uptoBulkAll],fun d r=>by simp[Rows.uptoBulkAll],fun e s=>by simp[Rows.uptoBulk],fun l=>by simp[Rows.uptoBulk]⟩
theorem CW:B4 Tryz.prog 5 (RV D6.args D6.pre):=Uh
theorem GF:aJ Tryz.prog [25,31] D6.args=true:=by kernel_rfl
set_option maxRecDepth 100000 in
theorem AJ (os:Os) (started:os.Started) (H:Type) (enc:TypeId×Value->H) (F:Stop.Interp):
 ReturnsInHanded {} Tryz.checked os 5 .any ((Rows.OpenSpec.upto Rows.factorLinearSpec).pre6 enc Tryz.prog Tryz.f5 Rows.factorLinearUptoRow.domain false) (((Rows.OpenSpec.upto Rows.factorLinearSpec).at F).post enc Tryz.prog Tryz.f5 false true false false):=by
 refine returnsInHanded_of_cond (C:=Tryz.checked) (s:=Rows.OpenSpec.upto Rows.factorLinearSpec) (k:=Rows.uptoSmall) rfl JQ started (by kernel_rfl) Tryz.func5
  (OpenSpec.witness (enc:=enc) (C:=Tryz.checked) (s:=Rows.OpenSpec.upto Rows.factorLinearSpec) (k:=Rows.uptoSmall) rfl false ⟨#[], #[.slice none 0 0, .agg #[.bool false, .slice none 0 0, .slice none 0 0]],[]⟩ 8 (by kernel_rfl) (by kernel_rfl) (by kernel_rfl) (x:=([.nil, .agg [.agg [.lit (.bool false), .nil], .nil]],[],[])) (by kernel_rfl) rfl (by kernel_rfl)) ?_
 intro W base args ds gs before hval0 hW hcnd hk _;have hval:∀(j:Nat) t v,Tryz.f5.params[j]? =some t->args[j]? =some v->Value.okWide Tryz.prog W .any base t v:=hval0;have hW':=hW;obtain⟨p,q,hA0,hV,_,_,_⟩:=hW;have hA:DataW.TrodAll enc Tryz.prog W 0 (fun _=>true) true Tryz.f5.params.toList args.toList ds p:=hA0;rw[Tryz.params5]at hA;obtain⟨x,hx,hm⟩:=TJ Lh GF hA (fun j t v ht hv=>hval j t v (by simpa[Tryz.params5]using ht) (by simpa using hv));have hk:Rows.uptoBulkAll (ds++gs)<=1048576:=qA hk;rw[Lh.app]at hk;have hp:D6.pre x:=KO x (by omega);have hargs:=hA;obtain⟨v0,vs0,d0,ds0,p0,q0,hl,rfl,rfl,h0,r0⟩:=trodAll_cons hargs;obtain⟨v1,vs1,d1,ds1,p1,q1,rfl,rfl,rfl,h1,r1⟩:=trodAll_cons r0;obtain⟨rfl,rfl,rfl⟩:=trodAll_nil r1;refine Calls.mono (mA (by kernel_rfl) CW hx hp) fun e W' hh=> ?_
 obtain⟨v,rfl,rfl,hb⟩:=hh;exact⟨_,rfl,A7k GH hW' rfl (by kernel_rfl) Tryz.underlying4 rfl AK hb⟩
theorem NQ:(laidOutB Tryz.pinned.checked.prog)=true:=by kernel_rfl
theorem NS:(mapsRowed Tryz.pinned.checked.prog)=true:=by kernel_rfl
theorem NT:(Rows.factorLinearUptoRow.inPlace==Tryz.pinned.checked.prog.inPlace 5)=true:=by kernel_rfl
theorem NU:(Rows.factorLinearUptoRow.unfollowed==Tryz.pinned.checked.prog.unfollowed 5)=true:=by kernel_rfl
theorem NV:(Rows.factorLinearUptoRow.recurses==Tryz.pinned.checked.prog.recurses 5)=true:=by kernel_rfl
theorem NW:(Rows.factorLinearUptoRow.named==Tryz.pinned.checked.prog.varsNamed 5)=true:=by kernel_rfl
theorem NX:(Rows.factorLinearUptoRow.lifted==Tryz.pinned.checked.prog.liftsFinal)=true:=by kernel_rfl
theorem NY:(Tryz.pinned.checked.prog.stopsHeard)=true:=by kernel_rfl
theorem NZ:(Tryz.pinned.checked.prog.mayEnter)=true:=by kernel_rfl
theorem OA:(Rows.factorLinearUptoRow.plainKeys==Tryz.pinned.checked.prog.plainKeys)=true:=by kernel_rfl
theorem JP:(Tryz.pinned.checked.prog.make==some Rows.factorLinearUptoRow.make)=true:=by kernel_rfl
theorem AI:joinedFacts Tryz.pinned.checked.prog 5 Tryz.f5 Rows.factorLinearSpec Rows.factorLinearUptoRow=true:=by
 unfold joinedFacts;rw[NQ,NS,NT,NU,NV,NW,NX,NY,NZ,OA,JP];kernel_rfl
theorem CX:Tryz.pinned.checked.prog.funcNamed Rows.factorLinearUptoRow.func=some 5:=by kernel_rfl
theorem GG:Tryz.f5.isInstance Tryz.pinned.checked.prog Rows.factorLinearUptoRow.origin Rows.factorLinearUptoRow.targs:=qA (by kernel_rfl)
theorem GI:Tryz.f5.isWrapper Tryz.pinned.checked.prog Rows.factorLinearUptoRow.wrapper Rows.factorLinearUptoRow.mainSum:=by unfold Func.isWrapper;first| (rw[qL (by decide+kernel)];kernel_rfl) | (rw[qH (by decide+kernel)];exact⟨rfl,rfl⟩)
theorem factorLinear_holds:Rows.FactorLinearUptoSaid:=
 OpenClaim.holds_of_cond 5 Tryz.f5 rfl rfl rfl rfl rfl rfl rfl ⟨rfl,rfl,rfl,rfl,rfl⟩ rfl rfl rfl rfl rfl CX Tryz.func5 AI
  GG GI
  (fun os started H enc _ F=>AJ os started H enc F)
#print axioms factorLinear_holds
end Go.Proofs.YtljgpjhcieidbaaGreat
