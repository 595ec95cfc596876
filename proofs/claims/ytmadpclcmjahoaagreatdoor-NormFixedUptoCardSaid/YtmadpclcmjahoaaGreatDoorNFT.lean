/- NormFixed's card, where what is read is of bulk at most 1048576: for every schema, tree, list of paths and picks the law returns true. Conditions: the bulk, and the row's own. -/
import Derived.Test.YtmadpclcmjahoaaGreatDoorNF1
set_option linter.unusedVariables false
set_option linter.unusedSimpArgs false
set_option maxHeartbeats 8000000
set_option maxRecDepth 100000
namespace Go.Proofs.YtmadpclcmjahoaaGreatDoor
open Go.ChangeShapes Go.WideShapes Go.ChangeAt Go.RowKit Go.Redl
theorem c_T:joinedFacts Tryz.prog 6 Tryz.f6 Rows.normFixedSpec Rows.normFixedUptoRow=true:=by
 unfold joinedFacts;repeat' (with_reducible apply d_J)
 all_goals as_aux_lemma=>kernel_rfl
theorem f_l:Rows.NormFixedUptoSaid:=
 OpenClaim.holds_of_cond 6 Tryz.f6 rfl rfl rfl rfl rfl rfl rfl ⟨rfl,rfl,rfl,rfl,rfl⟩ rfl rfl rfl rfl rfl P3 Tryz.func6 c_T
  (of_decide_eq_true P3) S3
  (fun os started H enc _ F=>by rw [OpenClaim.pre_eq_preRow];exact c_S os started H enc F)
theorem normFixed_card:Rows.NormFixedUptoCardSaid:=
 Claim7.holds_tied_plain_at .later [] _ _ _ _ f_l (fun _ h=>by cases h) P3 (fun _ h=>by cases h) normFixedUpto_row_tie rfl ⟨rfl,rfl⟩ P3 rfl
  (fun f fn hf b=>by
    obtain rfl:f=6:=Option.some.inj ((show Tryz.prog.funcNamed Rows.normFixedUptoRow.func=some 6 by kernel_rfl).symm.trans hf) |>.symm;obtain rfl:fn=Tryz.f6:=(Option.some.inj (Tryz.func6.symm.trans b)).symm;exact⟨by kernel_rfl,fun j t ht=>by
     rw [Tryz.params6]at ht;have hm:t∈ [30,35,47,36]:=UZ
     have a:([30,35,47,36].all fun u=> !Tryz.prog.wantsStandIn u)=true:=P3
     exact(show Tryz.prog.wantsStandIn t=false by simpa using List.all_eq_true.1 a t hm)⟩)
  P3
#print axioms normFixed_card
end Go.Proofs.YtmadpclcmjahoaaGreatDoor
