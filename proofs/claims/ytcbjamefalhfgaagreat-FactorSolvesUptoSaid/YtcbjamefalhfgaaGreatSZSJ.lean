/- For every input whose parts are together of bulk at most 1048576, FactorSolves returns true and leaves its arguments as they were: the whole given statement of the second form, no further condition. -/
import Derived.JoinedCond
import Derived.Test.YtcbjamefalhfgaaGreatKSJ
set_option linter.all false
namespace Go.Proofs.YtcbjamefalhfgaaGreat
open Go.Vc Go.Gw Go.RowKit Go.ChangeShapes Go.WideShapes Go.ChangeAt
theorem EN:∀t∈Tryz.f3.params.toList,Tryz.prog.readableRec t=true/\t<Tryz.prog.types.size:=by
 rw[Tryz.params3];intro t ht;simp only[qX,wT,g1t]at ht;rcases ht with rfl|rfl|rfl
 . exact⟨by kernel_rfl,qA (by kernel_rfl)⟩
 . exact⟨by kernel_rfl,qA (by kernel_rfl)⟩
 . exact⟨by kernel_rfl,qA (by kernel_rfl)⟩
theorem KA:laidOutB Tryz.prog=true:=by kernel_rfl
theorem OB:ownKnob Tryz.prog.godebug=none:=by kernel_rfl
theorem Oh {H:Type} :mK (H:=H) Rows.uptoBulk Rows.uptoBulkAll:=⟨λd=>by cases d with|lit l=>cases l<;>simp[Rows.uptoBulk] | _=>simp[Rows.uptoBulk],by simp[Rows.uptoBulkAll],λd r=>by simp[Rows.uptoBulkAll],λe s=>by simp[Rows.uptoBulk],λl=>by simp[Rows.uptoBulk]⟩
theorem GY:B9 Tryz.prog 3 (XG E7.args E7.pre):=Xr
theorem JY:iU Tryz.prog [22,27,28] E7.args=true:=by kernel_rfl
set_option maxRecDepth 100000 in
theorem EM (os:Os) (started:os.Started) (H:Type) (enc:TypeId×Value->H) (F:Stop.Interp):
 ReturnsInHanded {} Tryz.checked os 3 .any ((Rows.OpenSpec.upto Rows.factorSolvesSpec).pre6 enc Tryz.prog Tryz.f3 Rows.factorSolvesUptoRow.domain false) (((Rows.OpenSpec.upto Rows.factorSolvesSpec).at F).post enc Tryz.prog Tryz.f3 false true false false):=by
 refine returnsInHanded_of_cond (C:=Tryz.checked) (s:=Rows.OpenSpec.upto Rows.factorSolvesSpec) (k:=Rows.uptoSmall) rfl OB started (by kernel_rfl) Tryz.func3
  (OpenSpec.witness (enc:=enc) (C:=Tryz.checked) (s:=Rows.OpenSpec.upto Rows.factorSolvesSpec) (k:=Rows.uptoSmall) rfl false ⟨#[], #[.slice none 0 0, .agg #[.slice none 0 0, .slice none 0 0, .int .i64 0, .int .i64 0, .slice none 0 0, .int .i64 0, .int .i64 0, .slice none 0 0], .slice none 0 0],[]⟩ 8 (by kernel_rfl) (by kernel_rfl) (by kernel_rfl) (x:=([.nil, .agg [.nil, .nil, .agg [.lit (.int .i64 0), .lit (.int .i64 0), .nil], .agg [.lit (.int .i64 0), .lit (.int .i64 0), .nil]], .nil],[],[])) (by kernel_rfl) rfl (by kernel_rfl)) ?_
 intro W base args ds gs before hval0 hW hcnd hk _;have hval:∀(j:Nat) t v,Tryz.f3.params[j]? =some t->args[j]? =some v->Value.okWide Tryz.prog W .any base t v:=hval0;have hW':=hW;obtain⟨p,q,hA0,hV,_,_,_⟩:=hW;have hA:DataW.TrodAll enc Tryz.prog W 0 (λ_=>true) true Tryz.f3.params.toList args.toList ds p:=hA0;rw[Tryz.params3]at hA;obtain⟨x,hx,hm⟩:=YR Oh JY hA (λj t v ht hv=>hval j t v (by simpa[Tryz.params3]using ht) (by simpa using hv));have hk:Rows.uptoBulkAll (ds++gs)<=1048576:=qA hk;rw[Oh.app]at hk;have hp:E7.pre x:=OZ x ω;have hargs:=hA;obtain⟨v0,vs0,d0,ds0,p0,q0,hl,rfl,rfl,h0,r0⟩:=trodAll_cons hargs;obtain⟨v1,vs1,d1,ds1,p1,q1,rfl,rfl,rfl,h1,r1⟩:=trodAll_cons r0;obtain⟨v2,vs2,d2,ds2,p2,q2,rfl,rfl,rfl,h2,r2⟩:=trodAll_cons r1;obtain⟨rfl,rfl,rfl⟩:=trodAll_nil r2;refine Calls.mono (A3w (by kernel_rfl) GY hx hp) λe W' hh=>?_
 obtain⟨v,rfl,rfl,hb⟩:=hh;exact⟨_,rfl,B6r KA hW' rfl (by kernel_rfl) Tryz.underlying4 rfl EN hb⟩
theorem SR:(laidOutB Tryz.pinned.checked.prog)=true:=by kernel_rfl
theorem SS:(mapsRowed Tryz.pinned.checked.prog)=true:=by kernel_rfl
theorem SU:(Rows.factorSolvesUptoRow.inPlace==Tryz.pinned.checked.prog.inPlace 3)=true:=by kernel_rfl
theorem SX:(Rows.factorSolvesUptoRow.unfollowed==Tryz.pinned.checked.prog.unfollowed 3)=true:=by kernel_rfl
theorem SY:(Rows.factorSolvesUptoRow.recurses==Tryz.pinned.checked.prog.recurses 3)=true:=by kernel_rfl
theorem SZ:(Rows.factorSolvesUptoRow.named==Tryz.pinned.checked.prog.varsNamed 3)=true:=by kernel_rfl
theorem TA:(Rows.factorSolvesUptoRow.lifted==Tryz.pinned.checked.prog.liftsFinal)=true:=by kernel_rfl
theorem TC:(Tryz.pinned.checked.prog.stopsHeard)=true:=by kernel_rfl
theorem TD:(Tryz.pinned.checked.prog.mayEnter)=true:=by kernel_rfl
theorem TE:(Rows.factorSolvesUptoRow.plainKeys==Tryz.pinned.checked.prog.plainKeys)=true:=by kernel_rfl
theorem OA:(Tryz.pinned.checked.prog.make==some Rows.factorSolvesUptoRow.make)=true:=by kernel_rfl
theorem EL:joinedFacts Tryz.pinned.checked.prog 3 Tryz.f3 Rows.factorSolvesSpec Rows.factorSolvesUptoRow=true:=by
 unfold joinedFacts;rw[SR,SS,SU,SX,SY,SZ,TA,TC,TD,TE,OA];kernel_rfl
theorem GZ:Tryz.pinned.checked.prog.funcNamed Rows.factorSolvesUptoRow.func=some 3:=by kernel_rfl
theorem JZ:Tryz.f3.isInstance Tryz.pinned.checked.prog Rows.factorSolvesUptoRow.origin Rows.factorSolvesUptoRow.targs:=qA (by kernel_rfl)
theorem KB:Tryz.f3.isWrapper Tryz.pinned.checked.prog Rows.factorSolvesUptoRow.wrapper Rows.factorSolvesUptoRow.mainSum:=by unfold Func.isWrapper;first| (rw[qJ (by decide+kernel)];kernel_rfl) | (rw[qG (by decide+kernel)];exact⟨rfl,rfl⟩)
theorem factorSolves_holds:Rows.FactorSolvesUptoSaid:=
 OpenClaim.holds_of_cond 3 Tryz.f3 rfl rfl rfl rfl rfl rfl rfl ⟨rfl,rfl,rfl,rfl,rfl⟩ rfl rfl rfl rfl rfl GZ Tryz.func3 EL
  JZ KB
  (λos started H enc _ F=>EM os started H enc F)
#print axioms factorSolves_holds
end Go.Proofs.YtcbjamefalhfgaaGreat
