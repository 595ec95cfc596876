/- FixMarks's card, where what is read is of bulk at most 1048576: for every schema, tree and path the law returns true. Conditions: the bulk, and the row's own. -/
import Derived.Test.YtmadpclcmjahoaaGreatDoorFN1
import Derived.Test.YtmadpclcmjahoaaGreatDoorFN28
set_option linter.unusedVariables false
set_option linter.unusedSimpArgs false
set_option maxHeartbeats 8000000
set_option maxRecDepth 100000
namespace Go.Proofs.YtmadpclcmjahoaaGreatDoor
open Go.ChangeShapes Go.WideShapes Go.ChangeAt Go.RowKit Go.Redl
theorem m_u {a b : Bool} (h : a = true) (k : b = true) : (a && b) = true := by rw [h, k]; rfl
theorem b_G : joinedFacts Tryz.prog 3 Tryz.f3 Rows.fixMarksSpec Rows.fixMarksUptoRow = true := by
 unfold joinedFacts
 repeat' (with_reducible apply m_u)
 all_goals as_aux_lemma => kernel_rfl
theorem d_g : Rows.FixMarksUptoSaid :=
 OpenClaim.holds_of_cond 3 Tryz.f3 rfl rfl rfl rfl rfl rfl rfl ⟨rfl, rfl, rfl, rfl, rfl⟩ rfl rfl rfl rfl rfl (by kernel_rfl) Tryz.func3 b_G
  (of_decide_eq_true (by kernel_rfl)) (by unfold Func.isWrapper; rw [if_neg (by decide +kernel)]; exact ⟨rfl, rfl⟩)
  (fun os started H enc _ F => by rw [OpenClaim.pre_eq_preRow]; exact b_F os started H enc F)
theorem fixMarks_card : Rows.FixMarksUptoCardSaid :=
 Claim7.holds_tied_plain_at .later [] _ _ _ _ d_g (fun _ h => by cases h) (by kernel_rfl) (fun _ h => by cases h) fixMarksUpto_row_tie rfl ⟨rfl, rfl⟩ (by kernel_rfl) rfl
  (fun f fn hf hfn => by
    obtain rfl : f = 3 := Option.some.inj ((show Tryz.prog.funcNamed Rows.fixMarksUptoRow.func = some 3 by kernel_rfl).symm.trans hf) |>.symm
    obtain rfl : fn = Tryz.f3 := (Option.some.inj (Tryz.func3.symm.trans hfn)).symm
    exact ⟨by kernel_rfl, fun j t ht => by
     rw [Tryz.params3] at ht
     have hm : t ∈ [30, 35, 36] := by simpa using Array.mem_of_getElem? ht
     have hall : ([30, 35, 36].all fun u => !Tryz.prog.wantsStandIn u) = true := by kernel_rfl
     exact (show Tryz.prog.wantsStandIn t = false by simpa using List.all_eq_true.1 hall t hm)⟩)
  (by kernel_rfl)
#print axioms fixMarks_card
end Go.Proofs.YtmadpclcmjahoaaGreatDoor
