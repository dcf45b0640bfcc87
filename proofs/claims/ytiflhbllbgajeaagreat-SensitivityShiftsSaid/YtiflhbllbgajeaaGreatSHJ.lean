/- For every input SensitivityShifts returns true and leaves its arguments as they were: the whole given statement, no condition. -/
import Derived.Test.YtiflhbllbgajeaaGreatKHJ
set_option linter.all false
namespace Go.Proofs.YtiflhbllbgajeaaGreat
open Go.Vc Go.Gw Go.RowKit Go.ChangeShapes Go.WideShapes Go.ChangeAt
theorem Qi:∀t∈Tryz.f6.params.toList,Tryz.prog.readableRec t=true/\t<Tryz.prog.types.size:=by
 rw[Tryz.params6];intro t a;simp only[qG,rY,vF]at a;rcases a with rfl
 . exact⟨by kernel_rfl,qA (by kernel_rfl)⟩
theorem Vf:laidOutB Tryz.prog=true:=by kernel_rfl
theorem Xp:ownKnob Tryz.prog.godebug=none:=by kernel_rfl
theorem Ss:A8 Tryz.prog 6 (fX F6.args):=Mh
theorem Vd:eD Tryz.prog [22] F6.args=true:=by kernel_rfl
set_option maxRecDepth 100000 in
theorem Qh (a:Os) (b:a.Started) (H:Type) (enc:TypeId×Value->H):
 ReturnsInHanded {} Tryz.checked a 6 .any (Rows.sensitivityShiftsSpec.pre6 enc Tryz.prog Tryz.f6 Rows.sensitivityShiftsRow.domain false) (Rows.sensitivityShiftsSpec.post enc Tryz.prog Tryz.f6 false true false false):=by
 refine returnsInHanded_of_change (C:=Tryz.checked) Xp b (by kernel_rfl) Tryz.func6
  (ChangeSpec.witness6 (enc:=enc) (C:=Tryz.checked) false ⟨#[], #[.slice none 0 0],[]⟩ 8 (by kernel_rfl) (by kernel_rfl) (by kernel_rfl) (by kernel_rfl)) ?_
 intro W c b d h g f a i _;have g:∀(j:Nat) t v,Tryz.f6.params[j]? =some t->b[j]? =some v->Value.okWide Tryz.prog W .any c t v:=f;have hw:=a;obtain⟨p,q,c,h,_,_,_⟩:=a;have a:DataW.TrodAll enc Tryz.prog W 0 (fun _=>true) true Tryz.f6.params.toList b.toList d p:=c;rw[Tryz.params6]at a;obtain⟨x,hx⟩:=cQ Vd a (fun j t v ht hv=>g j t v (by simpa[Tryz.params6]using ht) (by simpa using hv));have b:=a;obtain⟨n,o,d,g,k,l,i,rfl,rfl,h,a⟩:=trodAll_cons b;obtain⟨rfl,rfl,rfl⟩:=trodAll_nil a;refine Calls.mono (A4n (by kernel_rfl) Ss hx) fun e W' b=> ?_
 obtain⟨v,rfl,rfl,a⟩:=b;exact⟨_,rfl,B1n Vf hw rfl (by kernel_rfl) Tryz.underlying4 rfl Qi a⟩
theorem AF:(laidOutB Tryz.pinned.checked.prog)=true:=by kernel_rfl
theorem AG:(mapsRowed Tryz.pinned.checked.prog)=true:=by kernel_rfl
theorem AH:(Rows.sensitivityShiftsRow.inPlace==Tryz.pinned.checked.prog.inPlace 6)=true:=by kernel_rfl
theorem AI:(Rows.sensitivityShiftsRow.unfollowed==Tryz.pinned.checked.prog.unfollowed 6)=true:=by kernel_rfl
theorem AJ:(Rows.sensitivityShiftsRow.recurses==Tryz.pinned.checked.prog.recurses 6)=true:=by kernel_rfl
theorem AK:(Rows.sensitivityShiftsRow.named==Tryz.pinned.checked.prog.varsNamed 6)=true:=by kernel_rfl
theorem AL:(Rows.sensitivityShiftsRow.lifted==Tryz.pinned.checked.prog.liftsFinal)=true:=by kernel_rfl
theorem AN:(Tryz.pinned.checked.prog.stopsHeard)=true:=by kernel_rfl
theorem AO:(Tryz.pinned.checked.prog.mayEnter)=true:=by kernel_rfl
theorem AP:(Rows.sensitivityShiftsRow.plainKeys==Tryz.pinned.checked.prog.plainKeys)=true:=by kernel_rfl
theorem Xo:(Tryz.pinned.checked.prog.make==some Rows.sensitivityShiftsRow.make)=true:=by kernel_rfl
theorem Qg:joinedFacts Tryz.pinned.checked.prog 6 Tryz.f6 Rows.sensitivityShiftsSpec Rows.sensitivityShiftsRow=true:=by
 unfold joinedFacts;rw[AF,AG,AH,AI,AJ,AK,AL,AN,AO,AP,Xo];kernel_rfl
theorem Su:Tryz.pinned.checked.prog.funcNamed Rows.sensitivityShiftsRow.func=some 6:=by kernel_rfl
theorem Ve:Tryz.f6.isInstance Tryz.pinned.checked.prog Rows.sensitivityShiftsRow.origin Rows.sensitivityShiftsRow.targs:=qA (by kernel_rfl)
theorem Vg:Tryz.f6.isWrapper Tryz.pinned.checked.prog Rows.sensitivityShiftsRow.wrapper Rows.sensitivityShiftsRow.mainSum:=by unfold Func.isWrapper;first| (rw[qS (by decide+kernel)];kernel_rfl) | (rw[qL (by decide+kernel)];exact⟨rfl,rfl⟩)
theorem sensitivityShifts_holds:Rows.SensitivityShiftsSaid:=
 OpenClaim.holds_of_wide 6 Tryz.f6 rfl rfl rfl rfl rfl rfl rfl ⟨rfl,rfl,rfl,rfl,rfl⟩ rfl rfl rfl rfl rfl Su Tryz.func6 Qg
  Ve Vg
  (fun b c H a _=>Qh b c H a)
#print axioms sensitivityShifts_holds
end Go.Proofs.YtiflhbllbgajeaaGreat
