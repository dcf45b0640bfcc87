/- For every input whose parts are together of bulk at most 1048576, MatrixUnary returns true and leaves its arguments as they were: the whole given statement of the second form, no further condition. -/
import Derived.JoinedCond
import Derived.Test.YtkdmjgcjpmcjjaaGreatK38H
namespace Go.Proofs.YtkdmjgcjpmcjjaaGreat
open Go.Vc Go.Gw Go.RowKit Go.ChangeShapes Go.WideShapes Go.ChangeAt
theorem C3y:∀t∈Tryz.f11.params.toList,Tryz.prog.readableRec t=true/\t<Tryz.prog.types.size:=by
 rw[Tryz.params11];intro t ht;simp only[List.mem_cons,List.not_mem_nil,or_false]at ht;rcases ht with rfl|rfl|rfl|rfl|rfl
 . exact⟨by kernel_rfl,of_decide_eq_true (by kernel_rfl)⟩
 . exact⟨by kernel_rfl,of_decide_eq_true (by kernel_rfl)⟩
 . exact⟨by kernel_rfl,of_decide_eq_true (by kernel_rfl)⟩
 . exact⟨by kernel_rfl,of_decide_eq_true (by kernel_rfl)⟩
 . exact⟨by kernel_rfl,of_decide_eq_true (by kernel_rfl)⟩
theorem C9o:laidOutB Tryz.prog=true:=by kernel_rfl
theorem D4m:ownKnob Tryz.prog.godebug=none:=by kernel_rfl
theorem B1t {H:Type} :G4o (H:=H) Rows.uptoBulk Rows.uptoBulkAll:=⟨fun d=>by cases d with|lit l=>cases l<;>simp[Rows.uptoBulk] | _=>simp[Rows.uptoBulk],by simp[Rows.uptoBulkAll],fun d r=>by simp[Rows.uptoBulkAll],fun e s=>by simp[Rows.uptoBulk],fun l=>by simp[Rows.uptoBulk]⟩
theorem C7a:B8 Tryz.prog 11 (E3r C3.args C3.pre):=B6m
theorem C9w:F2w Tryz.prog [24,25,56,3,3] C3.args=true:=by kernel_rfl
set_option maxRecDepth 100000 in
theorem C2d (os:Os) (started:os.Started) (H:Type) (enc:TypeId×Value->H) (F:Stop.Interp):
 ReturnsInHanded {} Tryz.checked os 11 .any ((Rows.OpenSpec.upto Rows.matrixUnarySpec).pre6 enc Tryz.prog Tryz.f11 Rows.matrixUnaryUptoRow.domain false) (((Rows.OpenSpec.upto Rows.matrixUnarySpec).at F).post enc Tryz.prog Tryz.f11 false true false false):=by
 refine returnsInHanded_of_cond (C:=Tryz.checked) (s:=Rows.OpenSpec.upto Rows.matrixUnarySpec) (k:=Rows.uptoSmall) rfl D4m started (by kernel_rfl) Tryz.func11
  (OpenSpec.witness (enc:=enc) (C:=Tryz.checked) (s:=Rows.OpenSpec.upto Rows.matrixUnarySpec) (k:=Rows.uptoSmall) rfl false ⟨#[], #[.agg #[.int .i64 0, .int .i64 0, .slice none 0 0], .slice none 0 0, .slice none 0 0, .int .i64 0, .int .i64 0],[]⟩ 8 (by kernel_rfl) (by kernel_rfl) (by kernel_rfl) (x:=([.agg [.lit (.int .i64 0), .lit (.int .i64 0), .nil], .nil, .nil, .lit (.int .i64 0), .lit (.int .i64 0)],[],[])) (by kernel_rfl) rfl (by kernel_rfl)) ?_
 intro W base args ds gs before hval0 hW hcnd hk _;have hval:∀(j:Nat) t v,Tryz.f11.params[j]? =some t->args[j]? =some v->Value.okWide Tryz.prog W .any base t v:=hval0;have hW':=hW;obtain⟨p,q,hA0,hV,_,_,_⟩:=hW;have hA:DataW.TrodAll enc Tryz.prog W 0 (fun _=>true) true Tryz.f11.params.toList args.toList ds p:=hA0;rw[Tryz.params11]at hA;obtain⟨x,hx,hm⟩:=E0i B1t C9w hA (fun j t v ht hv=>hval j t v (by simpa[Tryz.params11]using ht) (by simpa using hv));have hk:Rows.uptoBulkAll (ds++gs)<=1048576:=of_decide_eq_true hk;rw[B1t.app]at hk;have hp:C3.pre x:=D2y x (by omega);have hargs:=hA;obtain⟨v0,vs0,d0,ds0,p0,q0,hl,rfl,rfl,h0,r0⟩:=trodAll_cons hargs;obtain⟨v1,vs1,d1,ds1,p1,q1,rfl,rfl,rfl,h1,r1⟩:=trodAll_cons r0;obtain⟨v2,vs2,d2,ds2,p2,q2,rfl,rfl,rfl,h2,r2⟩:=trodAll_cons r1;obtain⟨v3,vs3,d3,ds3,p3,q3,rfl,rfl,rfl,h3,r3⟩:=trodAll_cons r2;obtain⟨v4,vs4,d4,ds4,p4,q4,rfl,rfl,rfl,h4,r4⟩:=trodAll_cons r3;obtain⟨rfl,rfl,rfl⟩:=trodAll_nil r4;refine Calls.mono (F5f (by kernel_rfl) C7a hx hp) fun e W' hh=> ?_
 obtain⟨v,rfl,rfl,hb⟩:=hh;exact⟨_,rfl,G2m C9o hW' rfl (by kernel_rfl) Tryz.underlying4 rfl C3y hb⟩
theorem D7z:(laidOutB Tryz.pinned.checked.prog)=true:=by kernel_rfl
theorem D6s:(mapsRowed Tryz.pinned.checked.prog)=true:=by kernel_rfl
theorem D8i:(Rows.matrixUnaryUptoRow.inPlace==Tryz.pinned.checked.prog.inPlace 11)=true:=by kernel_rfl
theorem D8h:(Rows.matrixUnaryUptoRow.unfollowed==Tryz.pinned.checked.prog.unfollowed 11)=true:=by kernel_rfl
theorem D7y:(Rows.matrixUnaryUptoRow.recurses==Tryz.pinned.checked.prog.recurses 11)=true:=by kernel_rfl
theorem D7e:(Rows.matrixUnaryUptoRow.named==Tryz.pinned.checked.prog.varsNamed 11)=true:=by kernel_rfl
theorem D6f:(Rows.matrixUnaryUptoRow.lifted==Tryz.pinned.checked.prog.liftsFinal)=true:=by kernel_rfl
theorem D7b:(Tryz.pinned.checked.prog.stopsHeard)=true:=by kernel_rfl
theorem D7u:(Tryz.pinned.checked.prog.mayEnter)=true:=by kernel_rfl
theorem D6a:(Rows.matrixUnaryUptoRow.plainKeys==Tryz.pinned.checked.prog.plainKeys)=true:=by kernel_rfl
theorem D2z:(Tryz.pinned.checked.prog.make==some Rows.matrixUnaryUptoRow.make)=true:=by kernel_rfl
theorem C1o:joinedFacts Tryz.pinned.checked.prog 11 Tryz.f11 Rows.matrixUnarySpec Rows.matrixUnaryUptoRow=true:=by
 unfold joinedFacts;rw[D7z,D6s,D8i,D8h,D7y,D7e,D6f,D7b,D7u,D6a,D2z];kernel_rfl
theorem C5a:Tryz.pinned.checked.prog.funcNamed Rows.matrixUnaryUptoRow.func=some 11:=by kernel_rfl
theorem C9y:Tryz.f11.isInstance Tryz.pinned.checked.prog Rows.matrixUnaryUptoRow.origin Rows.matrixUnaryUptoRow.targs:=of_decide_eq_true (by kernel_rfl)
theorem D0a:Tryz.f11.isWrapper Tryz.pinned.checked.prog Rows.matrixUnaryUptoRow.wrapper Rows.matrixUnaryUptoRow.mainSum:=by unfold Func.isWrapper;first| (rw[if_pos (by decide+kernel)];kernel_rfl) | (rw[if_neg (by decide+kernel)];exact⟨rfl,rfl⟩)
theorem matrixUnary_holds:Rows.MatrixUnaryUptoSaid:=
 OpenClaim.holds_of_cond 11 Tryz.f11 rfl rfl rfl rfl rfl rfl rfl ⟨rfl,rfl,rfl,rfl,rfl⟩ rfl rfl rfl rfl rfl C5a Tryz.func11 C1o
  C9y D0a
  (fun os started H enc _ F=>C2d os started H enc F)
#print axioms matrixUnary_holds
end Go.Proofs.YtkdmjgcjpmcjjaaGreat
