/- FixLess's card, where what is read is of bulk at most 1048576: for every schema, tree and path the law returns true. Conditions: the bulk, and the row's own. -/
import Derived.Test.YtbommcakcmhalaaGreatDoorLM30
set_option linter.unusedVariables false
set_option linter.unusedSimpArgs false
set_option maxHeartbeats 4000000
namespace Go.Proofs.YtbommcakcmhalaaGreatDoor
open Go.ChangeShapes Go.WideShapes Go.ChangeAt Go.RowKit Go.Redl
set_option maxRecDepth 100000
theorem and_two {a b : Bool} (h : a = true) (k : b = true) : (a && b) = true := by rw [h, k]; rfl
theorem fixLess_joined : joinedFacts Tryz.prog 3 Tryz.f3 Rows.fixLessSpec Rows.fixLessUptoRow = true := by
 unfold joinedFacts
 repeat' (with_reducible apply and_two)
 all_goals as_aux_lemma => kernel_rfl
theorem fixLess_said : Rows.FixLessUptoSaid :=
 OpenClaim.holds_of_cond 3 Tryz.f3 rfl rfl rfl rfl rfl rfl rfl ⟨rfl, rfl, rfl, rfl, rfl⟩ rfl rfl rfl rfl rfl (by kernel_rfl) Tryz.func3 fixLess_joined
  (of_decide_eq_true (by kernel_rfl)) (by unfold Func.isWrapper; rw [if_neg (by decide +kernel)]; exact ⟨rfl, rfl⟩)
  (fun os started H enc _ F => by rw [OpenClaim.pre_eq_preRow]; exact fixLess_lifted os started H enc F)
/-- The statement. -/
theorem fixLess_card : Rows.FixLessUptoCardSaid :=
 Claim7.holds_tied_plain_at .later [] _ _ _ _ fixLess_said (fun _ h => by cases h) (by kernel_rfl) (fun _ h => by cases h) fixLessUpto_row_tie rfl ⟨rfl, rfl⟩ (by kernel_rfl) rfl
  (fun f fn hf hfn => by
    obtain rfl : f = 3 := Option.some.inj ((show Tryz.prog.funcNamed Rows.fixLessUptoRow.func = some 3 by kernel_rfl).symm.trans hf) |>.symm
    obtain rfl : fn = Tryz.f3 := (Option.some.inj (Tryz.func3.symm.trans hfn)).symm
    exact ⟨by kernel_rfl, fun j t ht => by
     rw [Tryz.params3] at ht
     have hm : t ∈ [30, 35, 36] := by simpa using Array.mem_of_getElem? ht
     have hall : ([30, 35, 36].all fun u => !Tryz.prog.wantsStandIn u) = true := by kernel_rfl
     exact (show Tryz.prog.wantsStandIn t = false by simpa using List.all_eq_true.1 hall t hm)⟩)
  (by kernel_rfl)
#print axioms fixLess_card
end Go.Proofs.YtbommcakcmhalaaGreatDoor
