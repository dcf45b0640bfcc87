/- For every input TopologyEnds returns true and leaves its arguments as they were: the whole given statement, no condition. -/
import Derived.Test.YtomjbooonannkaaGreatKEI
set_option linter.all false
namespace Go.Proofs.YtomjbooonannkaaGreat
open Go.Vc Go.Gw Go.RowKit Go.ChangeShapes Go.WideShapes Go.ChangeAt
theorem BG:∀t∈Tryz.f4.params.toList,Tryz.prog.readableRec t=true/\t<Tryz.prog.types.size:=by
 rw[Tryz.params4];intro t ht;simp only[List.mem_cons,List.not_mem_nil,or_false]at ht;rcases ht with rfl|rfl
 . exact⟨by kernel_rfl,of_decide_eq_true (by kernel_rfl)⟩
 . exact⟨by kernel_rfl,of_decide_eq_true (by kernel_rfl)⟩
theorem HK:laidOutB Tryz.prog=true:=by kernel_rfl
theorem KN:ownKnob Tryz.prog.godebug=none:=by kernel_rfl
theorem EJ:B6 Tryz.prog 4 (YA L8.args):=Vm
theorem HH:WU Tryz.prog [22,3] L8.args=true:=by kernel_rfl
set_option maxRecDepth 100000 in
theorem BF (os:Os) (started:os.Started) (H:Type) (enc:TypeId×Value->H):
 ReturnsInHanded {} Tryz.checked os 4 .any (Rows.topologyEndsSpec.pre6 enc Tryz.prog Tryz.f4 Rows.topologyEndsRow.domain false) (Rows.topologyEndsSpec.post enc Tryz.prog Tryz.f4 false true false false):=by
 refine returnsInHanded_of_change (C:=Tryz.checked) KN started (by kernel_rfl) Tryz.func4
  (ChangeSpec.witness6 (enc:=enc) (C:=Tryz.checked) false ⟨#[], #[.slice none 0 0, .int .i64 0],[]⟩ 8 (by kernel_rfl) (by kernel_rfl) (by kernel_rfl) (by kernel_rfl)) ?_
 intro W base args ds gs before hval0 hW hcnd _;have hval:∀(j:Nat) t v,Tryz.f4.params[j]? =some t->args[j]? =some v->Value.okWide Tryz.prog W .any base t v:=hval0;have hW':=hW;obtain⟨p,q,hA0,hV,_,_,_⟩:=hW;have hA:DataW.TrodAll enc Tryz.prog W 0 (fun _=>true) true Tryz.f4.params.toList args.toList ds p:=hA0;rw[Tryz.params4]at hA;obtain⟨x,hx⟩:=UY HH hA (fun j t v ht hv=>hval j t v (by simpa[Tryz.params4]using ht) (by simpa using hv));have hargs:=hA;obtain⟨v0,vs0,d0,ds0,p0,q0,hl,rfl,rfl,h0,r0⟩:=trodAll_cons hargs;obtain⟨v1,vs1,d1,ds1,p1,q1,rfl,rfl,rfl,h1,r1⟩:=trodAll_cons r0;obtain⟨rfl,rfl,rfl⟩:=trodAll_nil r1;refine Calls.mono (kW (by kernel_rfl) EJ hx) fun e W' hh=> ?_
 obtain⟨v,rfl,rfl,hb⟩:=hh;exact⟨_,rfl,pW HK hW' rfl (by kernel_rfl) Tryz.underlying4 rfl BG hb⟩
theorem MN:(laidOutB Tryz.pinned.checked.prog)=true:=by kernel_rfl
theorem MO:(mapsRowed Tryz.pinned.checked.prog)=true:=by kernel_rfl
theorem MP:(Rows.topologyEndsRow.inPlace==Tryz.pinned.checked.prog.inPlace 4)=true:=by kernel_rfl
theorem MQ:(Rows.topologyEndsRow.unfollowed==Tryz.pinned.checked.prog.unfollowed 4)=true:=by kernel_rfl
theorem MR:(Rows.topologyEndsRow.recurses==Tryz.pinned.checked.prog.recurses 4)=true:=by kernel_rfl
theorem MS:(Rows.topologyEndsRow.named==Tryz.pinned.checked.prog.varsNamed 4)=true:=by kernel_rfl
theorem MU:(Rows.topologyEndsRow.lifted==Tryz.pinned.checked.prog.liftsFinal)=true:=by kernel_rfl
theorem MV:(Tryz.pinned.checked.prog.stopsHeard)=true:=by kernel_rfl
theorem MW:(Tryz.pinned.checked.prog.mayEnter)=true:=by kernel_rfl
theorem MX:(Rows.topologyEndsRow.plainKeys==Tryz.pinned.checked.prog.plainKeys)=true:=by kernel_rfl
theorem KM:(Tryz.pinned.checked.prog.make==some Rows.topologyEndsRow.make)=true:=by kernel_rfl
theorem BE:joinedFacts Tryz.pinned.checked.prog 4 Tryz.f4 Rows.topologyEndsSpec Rows.topologyEndsRow=true:=by
 unfold joinedFacts;rw[MN,MO,MP,MQ,MR,MS,MU,MV,MW,MX,KM];kernel_rfl
theorem EK:Tryz.pinned.checked.prog.funcNamed Rows.topologyEndsRow.func=some 4:=by kernel_rfl
theorem HI:Tryz.f4.isInstance Tryz.pinned.checked.prog Rows.topologyEndsRow.origin Rows.topologyEndsRow.targs:=of_decide_eq_true (by kernel_rfl)
theorem HL:Tryz.f4.isWrapper Tryz.pinned.checked.prog Rows.topologyEndsRow.wrapper Rows.topologyEndsRow.mainSum:=by unfold Func.isWrapper;first| (rw[if_pos (by decide+kernel)];kernel_rfl) | (rw[if_neg (by decide+kernel)];exact⟨rfl,rfl⟩)
theorem topologyEnds_holds:Rows.TopologyEndsSaid:=
 OpenClaim.holds_of_wide 4 Tryz.f4 rfl rfl rfl rfl rfl rfl rfl ⟨rfl,rfl,rfl,rfl,rfl⟩ rfl rfl rfl rfl rfl EK Tryz.func4 BE
  HI HL
  (fun os started H enc _=>BF os started H enc)
#print axioms topologyEnds_holds
end Go.Proofs.YtomjbooonannkaaGreat
