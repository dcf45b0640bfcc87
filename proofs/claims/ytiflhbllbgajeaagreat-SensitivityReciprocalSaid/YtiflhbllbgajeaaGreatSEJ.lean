/- For every input SensitivityReciprocal returns true and leaves its arguments as they were: the whole given statement, no condition. -/
import Derived.Test.YtiflhbllbgajeaaGreatKEJ
set_option linter.all false
namespace Go.Proofs.YtiflhbllbgajeaaGreat
open Go.Vc Go.Gw Go.RowKit Go.ChangeShapes Go.WideShapes Go.ChangeAt
theorem Kd:∀t∈Tryz.f5.params.toList,Tryz.prog.readableRec t=true/\t<Tryz.prog.types.size:=by
 rw[Tryz.params5];intro t u;simp only[qG,sA,vH]at u;rcases u with rfl
 . exact⟨by kernel_rfl,qA (by kernel_rfl)⟩
theorem Na:laidOutB Tryz.prog=true:=by kernel_rfl
theorem Nw:ownKnob Tryz.prog.godebug=none:=by kernel_rfl
theorem La:A8 Tryz.prog 5 (dH D9.args):=Ic
theorem My:bP Tryz.prog [22] D9.args=true:=by kernel_rfl
set_option maxRecDepth 100000 in
theorem Kc (os:Os) (u:os.Started) (H:Type) (enc:TypeId×Value->H):
 ReturnsInHanded {} Tryz.checked os 5 .any (Rows.sensitivityReciprocalSpec.pre6 enc Tryz.prog Tryz.f5 Rows.sensitivityReciprocalRow.domain false) (Rows.sensitivityReciprocalSpec.post enc Tryz.prog Tryz.f5 false true false false):=by
 refine returnsInHanded_of_change (C:=Tryz.checked) Nw u (by kernel_rfl) Tryz.func5
  (ChangeSpec.witness6 (enc:=enc) (C:=Tryz.checked) false ⟨#[], #[.slice none 0 0],[]⟩ 8 (by kernel_rfl) (by kernel_rfl) (by kernel_rfl) (by kernel_rfl)) ?_
 intro W base args ds gs before a1 hW a5 _;have a2:∀(j:Nat) t v,Tryz.f5.params[j]? =some t->args[j]? =some v->Value.okWide Tryz.prog W .any base t v:=a1;have a4:=hW;obtain⟨p,q,a3,hV,_,_,_⟩:=hW;have hA:DataW.TrodAll enc Tryz.prog W 0 (fun _=>true) true Tryz.f5.params.toList args.toList ds p:=a3;rw[Tryz.params5]at hA;obtain⟨x,hx⟩:=aK My hA (fun j t v ht hv=>a2 j t v (by simpa[Tryz.params5]using ht) (by simpa using hv));have a0:=hA;obtain⟨v0,a7,d0,a6,p0,q0,hl,rfl,rfl,h0,r0⟩:=trodAll_cons a0;obtain⟨rfl,rfl,rfl⟩:=trodAll_nil r0;refine Calls.mono (A2p (by kernel_rfl) La hx) fun e W' hh=> ?_
 obtain⟨v,rfl,rfl,hb⟩:=hh;exact⟨_,rfl,A9o Na a4 rfl (by kernel_rfl) Tryz.underlying4 rfl Kd hb⟩
theorem Qe:(laidOutB Tryz.pinned.checked.prog)=true:=by kernel_rfl
theorem Qf:(mapsRowed Tryz.pinned.checked.prog)=true:=by kernel_rfl
theorem Qg:(Rows.sensitivityReciprocalRow.inPlace==Tryz.pinned.checked.prog.inPlace 5)=true:=by kernel_rfl
theorem Qh:(Rows.sensitivityReciprocalRow.unfollowed==Tryz.pinned.checked.prog.unfollowed 5)=true:=by kernel_rfl
theorem Qi:(Rows.sensitivityReciprocalRow.recurses==Tryz.pinned.checked.prog.recurses 5)=true:=by kernel_rfl
theorem Qj:(Rows.sensitivityReciprocalRow.named==Tryz.pinned.checked.prog.varsNamed 5)=true:=by kernel_rfl
theorem Qk:(Rows.sensitivityReciprocalRow.lifted==Tryz.pinned.checked.prog.liftsFinal)=true:=by kernel_rfl
theorem Ql:(Tryz.pinned.checked.prog.stopsHeard)=true:=by kernel_rfl
theorem Qm:(Tryz.pinned.checked.prog.mayEnter)=true:=by kernel_rfl
theorem Qn:(Rows.sensitivityReciprocalRow.plainKeys==Tryz.pinned.checked.prog.plainKeys)=true:=by kernel_rfl
theorem Nv:(Tryz.pinned.checked.prog.make==some Rows.sensitivityReciprocalRow.make)=true:=by kernel_rfl
theorem Kb:joinedFacts Tryz.pinned.checked.prog 5 Tryz.f5 Rows.sensitivityReciprocalSpec Rows.sensitivityReciprocalRow=true:=by
 unfold joinedFacts;rw[Qe,Qf,Qg,Qh,Qi,Qj,Qk,Ql,Qm,Qn,Nv];kernel_rfl
theorem Lb:Tryz.pinned.checked.prog.funcNamed Rows.sensitivityReciprocalRow.func=some 5:=by kernel_rfl
theorem Mz:Tryz.f5.isInstance Tryz.pinned.checked.prog Rows.sensitivityReciprocalRow.origin Rows.sensitivityReciprocalRow.targs:=qA (by kernel_rfl)
theorem Nb:Tryz.f5.isWrapper Tryz.pinned.checked.prog Rows.sensitivityReciprocalRow.wrapper Rows.sensitivityReciprocalRow.mainSum:=by unfold Func.isWrapper;first| (rw[qT (by decide+kernel)];kernel_rfl) | (rw[qL (by decide+kernel)];exact⟨rfl,rfl⟩)
theorem sensitivityReciprocal_holds:Rows.SensitivityReciprocalSaid:=
 OpenClaim.holds_of_wide 5 Tryz.f5 rfl rfl rfl rfl rfl rfl rfl ⟨rfl,rfl,rfl,rfl,rfl⟩ rfl rfl rfl rfl rfl Lb Tryz.func5 Kb
  Mz Nb
  (fun os u H enc _=>Kc os u H enc)
#print axioms sensitivityReciprocal_holds
end Go.Proofs.YtiflhbllbgajeaaGreat
