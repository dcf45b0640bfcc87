/- For every input whose parts are together of bulk at most 1048576, FactorFactors returns true and leaves its arguments as they were: the whole given statement of the second form, no further condition. -/
import Derived.JoinedCond
import Derived.Test.YtcbjamefalhfgaaGreatKFJ
set_option linter.all false
namespace Go.Proofs.YtcbjamefalhfgaaGreat
open Go.Vc Go.Gw Go.RowKit Go.ChangeShapes Go.WideShapes Go.ChangeAt
theorem AK:∀t∈Tryz.f4.params.toList,Tryz.prog.readableRec t=true/\t<Tryz.prog.types.size:=by
 rw[Tryz.params4];intro t ht;simp only[qV,wT,g1q]at ht;rcases ht with rfl|rfl
 . exact⟨by kernel_rfl,qA (by kernel_rfl)⟩
 exact⟨by kernel_rfl,qA (by kernel_rfl)⟩
theorem IN:laidOutB Tryz.prog=true:=by kernel_rfl
theorem LW:ownKnob Tryz.prog.godebug=none:=by kernel_rfl
theorem Mj {H:Type} :oE (H:=H) Rows.uptoBulk Rows.uptoBulkAll:=⟨λd=>by cases d with|lit l=>cases l<;>simp[Rows.uptoBulk] | _=>simp[Rows.uptoBulk],by simp[Rows.uptoBulkAll],λd r=>by simp[Rows.uptoBulkAll],λe s=>by simp[Rows.uptoBulk],λl=>by simp[Rows.uptoBulk]⟩
theorem FV:B6 Tryz.prog 4 (YY E3.args E3.pre):=Wa
theorem IL:kN Tryz.prog [25,22] E3.args=true:=by kernel_rfl
set_option maxRecDepth 100000 in
theorem AJ (os:Os) (started:os.Started) (H:Type) (enc:TypeId×Value->H) (F:Stop.Interp):
 ReturnsInHanded {} Tryz.checked os 4 .any ((Rows.OpenSpec.upto Rows.factorFactorsSpec).pre6 enc Tryz.prog Tryz.f4 Rows.factorFactorsUptoRow.domain false) (((Rows.OpenSpec.upto Rows.factorFactorsSpec).at F).post enc Tryz.prog Tryz.f4 false true false false):=by
 refine returnsInHanded_of_cond (C:=Tryz.checked) (s:=Rows.OpenSpec.upto Rows.factorFactorsSpec) (k:=Rows.uptoSmall) rfl LW started (by kernel_rfl) Tryz.func4
  (OpenSpec.witness (enc:=enc) (C:=Tryz.checked) (s:=Rows.OpenSpec.upto Rows.factorFactorsSpec) (k:=Rows.uptoSmall) rfl false ⟨#[], #[.agg #[.int .i64 0, .int .i64 0, .slice none 0 0], .slice none 0 0],[]⟩ 8 (by kernel_rfl) (by kernel_rfl) (by kernel_rfl) (x:=([.agg [.lit (.int .i64 0), .lit (.int .i64 0), .nil], .nil],[],[])) (by kernel_rfl) rfl (by kernel_rfl)) ?_
 intro W base args ds gs before hval0 hW hcnd hk _;have hval:∀(j:Nat) t v,Tryz.f4.params[j]? =some t->args[j]? =some v->Value.okWide Tryz.prog W .any base t v:=hval0;have hW':=hW;obtain⟨p,q,hA0,hV,_,_,_⟩:=hW;have hA:DataW.TrodAll enc Tryz.prog W 0 (λ_=>true) true Tryz.f4.params.toList args.toList ds p:=hA0;rw[Tryz.params4]at hA;obtain⟨x,hx,hm⟩:=aP Mj IL hA (λj t v ht hv=>hval j t v (by simpa[Tryz.params4]using ht) (by simpa using hv));have hk:Rows.uptoBulkAll (ds++gs)<=1048576:=qA hk;rw[Mj.app]at hk;have hp:E3.pre x:=MY x ω;have hargs:=hA;obtain⟨v0,vs0,d0,ds0,p0,q0,hl,rfl,rfl,h0,r0⟩:=trodAll_cons hargs;obtain⟨v1,vs1,d1,ds1,p1,q1,rfl,rfl,rfl,h1,r1⟩:=trodAll_cons r0;obtain⟨rfl,rfl,rfl⟩:=trodAll_nil r1;refine Calls.mono (A5q (by kernel_rfl) FV hx hp) λe W' hh=>?_
 obtain⟨v,rfl,rfl,hb⟩:=hh;exact⟨_,rfl,B8l IN hW' rfl (by kernel_rfl) Tryz.underlying4 rfl AK hb⟩
theorem QF:(laidOutB Tryz.pinned.checked.prog)=true:=by kernel_rfl
theorem QG:(mapsRowed Tryz.pinned.checked.prog)=true:=by kernel_rfl
theorem QH:(Rows.factorFactorsUptoRow.inPlace==Tryz.pinned.checked.prog.inPlace 4)=true:=by kernel_rfl
theorem QI:(Rows.factorFactorsUptoRow.unfollowed==Tryz.pinned.checked.prog.unfollowed 4)=true:=by kernel_rfl
theorem QJ:(Rows.factorFactorsUptoRow.recurses==Tryz.pinned.checked.prog.recurses 4)=true:=by kernel_rfl
theorem QK:(Rows.factorFactorsUptoRow.named==Tryz.pinned.checked.prog.varsNamed 4)=true:=by kernel_rfl
theorem QL:(Rows.factorFactorsUptoRow.lifted==Tryz.pinned.checked.prog.liftsFinal)=true:=by kernel_rfl
theorem QM:(Tryz.pinned.checked.prog.stopsHeard)=true:=by kernel_rfl
theorem QN:(Tryz.pinned.checked.prog.mayEnter)=true:=by kernel_rfl
theorem QO:(Rows.factorFactorsUptoRow.plainKeys==Tryz.pinned.checked.prog.plainKeys)=true:=by kernel_rfl
theorem LV:(Tryz.pinned.checked.prog.make==some Rows.factorFactorsUptoRow.make)=true:=by kernel_rfl
theorem AI:joinedFacts Tryz.pinned.checked.prog 4 Tryz.f4 Rows.factorFactorsSpec Rows.factorFactorsUptoRow=true:=by
 unfold joinedFacts;rw[QF,QG,QH,QI,QJ,QK,QL,QM,QN,QO,LV];kernel_rfl
theorem FX:Tryz.pinned.checked.prog.funcNamed Rows.factorFactorsUptoRow.func=some 4:=by kernel_rfl
theorem IM:Tryz.f4.isInstance Tryz.pinned.checked.prog Rows.factorFactorsUptoRow.origin Rows.factorFactorsUptoRow.targs:=qA (by kernel_rfl)
theorem IP:Tryz.f4.isWrapper Tryz.pinned.checked.prog Rows.factorFactorsUptoRow.wrapper Rows.factorFactorsUptoRow.mainSum:=by unfold Func.isWrapper;first| (rw[qK (by decide+kernel)];kernel_rfl) | (rw[qG (by decide+kernel)];exact⟨rfl,rfl⟩)
theorem factorFactors_holds:Rows.FactorFactorsUptoSaid:=
 OpenClaim.holds_of_cond 4 Tryz.f4 rfl rfl rfl rfl rfl rfl rfl ⟨rfl,rfl,rfl,rfl,rfl⟩ rfl rfl rfl rfl rfl FX Tryz.func4 AI
  IM IP
  (λos started H enc _ F=>AJ os started H enc F)
#print axioms factorFactors_holds
end Go.Proofs.YtcbjamefalhfgaaGreat
