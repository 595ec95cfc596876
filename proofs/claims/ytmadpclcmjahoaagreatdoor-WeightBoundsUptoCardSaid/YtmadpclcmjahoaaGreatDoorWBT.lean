/- WeightBounds's card, where what is read is of bulk at most 1048576: for every schema, tree, list of paths and picks the law returns true. Conditions: the bulk, and the row's own. -/
import Derived.Test.YtmadpclcmjahoaaGreatDoorWB1
set_option linter.unusedVariables false
set_option linter.unusedSimpArgs false
set_option maxHeartbeats 8000000
set_option maxRecDepth 100000
namespace Go.Proofs.YtmadpclcmjahoaaGreatDoor
open Go.ChangeShapes Go.WideShapes Go.ChangeAt Go.RowKit Go.Redl
theorem a_Q:joinedFacts Tryz.prog 7 Tryz.f7 Rows.weightBoundsSpec Rows.weightBoundsUptoRow=true:=by
 unfold joinedFacts;repeat' (with_reducible apply d_J)
 all_goals as_aux_lemma=>kernel_rfl
theorem c_m:Rows.WeightBoundsUptoSaid:=
 OpenClaim.holds_of_cond 7 Tryz.f7 rfl rfl rfl rfl rfl rfl rfl ⟨rfl,rfl,rfl,rfl,rfl⟩ rfl rfl rfl rfl rfl P3 Tryz.func7 a_Q
  (of_decide_eq_true P3) S3
  (fun os started H enc _ F=>by rw [OpenClaim.pre_eq_preRow];exact a_P os started H enc F)
theorem weightBounds_card:Rows.WeightBoundsUptoCardSaid:=
 Claim7.holds_tied_plain_at .later [] _ _ _ _ c_m (fun _ h=>by cases h) P3 (fun _ h=>by cases h) weightBoundsUpto_row_tie rfl ⟨rfl,rfl⟩ P3 rfl
  (fun f fn hf b=>by
    obtain rfl:f=7:=Option.some.inj ((show Tryz.prog.funcNamed Rows.weightBoundsUptoRow.func=some 7 by kernel_rfl).symm.trans hf) |>.symm;obtain rfl:fn=Tryz.f7:=(Option.some.inj (Tryz.func7.symm.trans b)).symm;exact⟨by kernel_rfl,fun j t ht=>by
     rw [Tryz.params7]at ht;have hm:t∈ [30,35,47,36]:=UZ
     have a:([30,35,47,36].all fun u=> !Tryz.prog.wantsStandIn u)=true:=P3
     exact(show Tryz.prog.wantsStandIn t=false by simpa using List.all_eq_true.1 a t hm)⟩)
  P3
#print axioms weightBounds_card
end Go.Proofs.YtmadpclcmjahoaaGreatDoor
