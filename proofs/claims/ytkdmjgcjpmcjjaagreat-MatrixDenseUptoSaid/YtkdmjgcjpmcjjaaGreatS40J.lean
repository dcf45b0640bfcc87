/- For every input whose parts are together of bulk at most 1048576, MatrixDense returns true and leaves its arguments as they were: the whole given statement of the second form, no further condition. -/
import Derived.JoinedCond
import Derived.Test.YtkdmjgcjpmcjjaaGreatK40H
namespace Go.Proofs.YtkdmjgcjpmcjjaaGreat
open Go.Vc Go.Gw Go.RowKit Go.ChangeShapes Go.WideShapes Go.ChangeAt
theorem C2i:∀t∈Tryz.f12.params.toList,Tryz.prog.readableRec t=true/\t<Tryz.prog.types.size:=by
 rw[Tryz.params12];intro t ht;simp only[List.mem_cons,List.not_mem_nil,or_false]at ht;rcases ht with rfl|rfl|rfl
 . exact⟨by kernel_rfl,of_decide_eq_true (by kernel_rfl)⟩
 . exact⟨by kernel_rfl,of_decide_eq_true (by kernel_rfl)⟩
 . exact⟨by kernel_rfl,of_decide_eq_true (by kernel_rfl)⟩
theorem C8j:laidOutB Tryz.prog=true:=by kernel_rfl
theorem D1j:ownKnob Tryz.prog.godebug=none:=by kernel_rfl
theorem B0k {H:Type} :G1q (H:=H) Rows.uptoBulk Rows.uptoBulkAll:=⟨fun d=>by cases d with|lit l=>cases l<;>simp[Rows.uptoBulk] | _=>simp[Rows.uptoBulk],by simp[Rows.uptoBulkAll],fun d r=>by simp[Rows.uptoBulkAll],fun e s=>by simp[Rows.uptoBulk],fun l=>by simp[Rows.uptoBulk]⟩
theorem C5e:B9 Tryz.prog 12 (E0s C3.args C3.pre):=B5d
theorem C9e:F0k Tryz.prog [83,3,25] C3.args=true:=by kernel_rfl
set_option maxRecDepth 100000 in
theorem C0y (os:Os) (started:os.Started) (H:Type) (enc:TypeId×Value->H) (F:Stop.Interp):
 ReturnsInHanded {} Tryz.checked os 12 .any ((Rows.OpenSpec.upto Rows.matrixDenseSpec).pre6 enc Tryz.prog Tryz.f12 Rows.matrixDenseUptoRow.domain false) (((Rows.OpenSpec.upto Rows.matrixDenseSpec).at F).post enc Tryz.prog Tryz.f12 false true false false):=by
 refine returnsInHanded_of_cond (C:=Tryz.checked) (s:=Rows.OpenSpec.upto Rows.matrixDenseSpec) (k:=Rows.uptoSmall) rfl D1j started (by kernel_rfl) Tryz.func12
  (OpenSpec.witness (enc:=enc) (C:=Tryz.checked) (s:=Rows.OpenSpec.upto Rows.matrixDenseSpec) (k:=Rows.uptoSmall) rfl false ⟨#[], #[.slice none 0 0, .int .i64 0, .slice none 0 0],[]⟩ 8 (by kernel_rfl) (by kernel_rfl) (by kernel_rfl) (x:=([.nil, .lit (.int .i64 0), .nil],[],[])) (by kernel_rfl) rfl (by kernel_rfl)) ?_
 intro W base args ds gs before hval0 hW hcnd hk _;have hval:∀(j:Nat) t v,Tryz.f12.params[j]? =some t->args[j]? =some v->Value.okWide Tryz.prog W .any base t v:=hval0;have hW':=hW;obtain⟨p,q,hA0,hV,_,_,_⟩:=hW;have hA:DataW.TrodAll enc Tryz.prog W 0 (fun _=>true) true Tryz.f12.params.toList args.toList ds p:=hA0;rw[Tryz.params12]at hA;obtain⟨x,hx,hm⟩:=D8t B0k C9e hA (fun j t v ht hv=>hval j t v (by simpa[Tryz.params12]using ht) (by simpa using hv));have hk:Rows.uptoBulkAll (ds++gs)<=1048576:=of_decide_eq_true hk;rw[B0k.app]at hk;have hp:C3.pre x:=D3y x (by omega);have hargs:=hA;obtain⟨v0,vs0,d0,ds0,p0,q0,hl,rfl,rfl,h0,r0⟩:=trodAll_cons hargs;obtain⟨v1,vs1,d1,ds1,p1,q1,rfl,rfl,rfl,h1,r1⟩:=trodAll_cons r0;obtain⟨v2,vs2,d2,ds2,p2,q2,rfl,rfl,rfl,h2,r2⟩:=trodAll_cons r1;obtain⟨rfl,rfl,rfl⟩:=trodAll_nil r2;refine Calls.mono (F2d (by kernel_rfl) C5e hx hp) fun e W' hh=> ?_
 obtain⟨v,rfl,rfl,hb⟩:=hh;exact⟨_,rfl,F7v C8j hW' rfl (by kernel_rfl) Tryz.underlying4 rfl C2i hb⟩
theorem D6f:(laidOutB Tryz.pinned.checked.prog)=true:=by kernel_rfl
theorem D5i:(mapsRowed Tryz.pinned.checked.prog)=true:=by kernel_rfl
theorem D4z:(Rows.matrixDenseUptoRow.inPlace==Tryz.pinned.checked.prog.inPlace 12)=true:=by kernel_rfl
theorem D6r:(Rows.matrixDenseUptoRow.unfollowed==Tryz.pinned.checked.prog.unfollowed 12)=true:=by kernel_rfl
theorem D6w:(Rows.matrixDenseUptoRow.recurses==Tryz.pinned.checked.prog.recurses 12)=true:=by kernel_rfl
theorem D5a:(Rows.matrixDenseUptoRow.named==Tryz.pinned.checked.prog.varsNamed 12)=true:=by kernel_rfl
theorem D5f:(Rows.matrixDenseUptoRow.lifted==Tryz.pinned.checked.prog.liftsFinal)=true:=by kernel_rfl
theorem D6g:(Tryz.pinned.checked.prog.stopsHeard)=true:=by kernel_rfl
theorem D4k:(Tryz.pinned.checked.prog.mayEnter)=true:=by kernel_rfl
theorem D5p:(Rows.matrixDenseUptoRow.plainKeys==Tryz.pinned.checked.prog.plainKeys)=true:=by kernel_rfl
theorem D2b:(Tryz.pinned.checked.prog.make==some Rows.matrixDenseUptoRow.make)=true:=by kernel_rfl
theorem C0r:joinedFacts Tryz.pinned.checked.prog 12 Tryz.f12 Rows.matrixDenseSpec Rows.matrixDenseUptoRow=true:=by
 unfold joinedFacts;rw[D6f,D5i,D4z,D6r,D6w,D5a,D5f,D6g,D4k,D5p,D2b];kernel_rfl
theorem C3w:Tryz.pinned.checked.prog.funcNamed Rows.matrixDenseUptoRow.func=some 12:=by kernel_rfl
theorem C8z:Tryz.f12.isInstance Tryz.pinned.checked.prog Rows.matrixDenseUptoRow.origin Rows.matrixDenseUptoRow.targs:=of_decide_eq_true (by kernel_rfl)
theorem C9o:Tryz.f12.isWrapper Tryz.pinned.checked.prog Rows.matrixDenseUptoRow.wrapper Rows.matrixDenseUptoRow.mainSum:=by unfold Func.isWrapper;first| (rw[if_pos (by decide+kernel)];kernel_rfl) | (rw[if_neg (by decide+kernel)];exact⟨rfl,rfl⟩)
theorem matrixDense_holds:Rows.MatrixDenseUptoSaid:=
 OpenClaim.holds_of_cond 12 Tryz.f12 rfl rfl rfl rfl rfl rfl rfl ⟨rfl,rfl,rfl,rfl,rfl⟩ rfl rfl rfl rfl rfl C3w Tryz.func12 C0r
  C8z C9o
  (fun os started H enc _ F=>C0y os started H enc F)
#print axioms matrixDense_holds
end Go.Proofs.YtkdmjgcjpmcjjaaGreat
