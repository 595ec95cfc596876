/- FixText's card, where what is read is of bulk at most 1048576: for every schema, tree and path the law returns true. Conditions: the bulk, and the row's own. -/
import Derived.Test.YtaopoincbigjhaaGreatDoorFC1
import Derived.Test.YtaopoincbigjhaaGreatDoorFC2
import Derived.Test.YtaopoincbigjhaaGreatDoorFC3
import Derived.Test.YtaopoincbigjhaaGreatDoorFC4
import Derived.Test.YtaopoincbigjhaaGreatDoorFC5
import Derived.Test.YtaopoincbigjhaaGreatDoorFC6
import Derived.Test.YtaopoincbigjhaaGreatDoorFC7
import Derived.Test.YtaopoincbigjhaaGreatDoorFC8
import Derived.Test.YtaopoincbigjhaaGreatDoorFC9
import Derived.Test.YtaopoincbigjhaaGreatDoorFC10
import Derived.Test.YtaopoincbigjhaaGreatDoorFC11
import Derived.Test.YtaopoincbigjhaaGreatDoorFC12
import Derived.Test.YtaopoincbigjhaaGreatDoorFC13
import Derived.Test.YtaopoincbigjhaaGreatDoorFC14
import Derived.Test.YtaopoincbigjhaaGreatDoorFC15
import Derived.Test.YtaopoincbigjhaaGreatDoorFC16
import Derived.Test.YtaopoincbigjhaaGreatDoorFC17
import Derived.Test.YtaopoincbigjhaaGreatDoorFC18
import Derived.Test.YtaopoincbigjhaaGreatDoorFC19
import Derived.Test.YtaopoincbigjhaaGreatDoorFC20
import Derived.Test.YtaopoincbigjhaaGreatDoorFC21
import Derived.Test.YtaopoincbigjhaaGreatDoorFC22
import Derived.Test.YtaopoincbigjhaaGreatDoorFC23
import Derived.Test.YtaopoincbigjhaaGreatDoorFC24
import Derived.Test.YtaopoincbigjhaaGreatDoorFC25
import Derived.Test.YtaopoincbigjhaaGreatDoorFC26
import Derived.Test.YtaopoincbigjhaaGreatDoorFC27
import Derived.Test.YtaopoincbigjhaaGreatDoorFT1
import Derived.Test.YtaopoincbigjhaaGreatDoorFT2
namespace Go.Proofs.YtaopoincbigjhaaGreatDoor
open Go.ChangeShapes Go.WideShapes Go.ChangeAt Go.RowKit Go.Redl
set_option linter.unusedVariables false
set_option maxRecDepth 100000
theorem fixText_said : Rows.FixTextUptoSaid :=
  OpenClaim.holds_of_cond 6 Tryz.f6 rfl rfl rfl rfl rfl rfl rfl ⟨rfl, rfl, rfl, rfl, rfl⟩ rfl rfl rfl rfl rfl (by kernel_rfl) Tryz.func6 (by kernel_rfl)
    (of_decide_eq_true (by kernel_rfl)) (by unfold Func.isWrapper; rw [if_neg (by decide +kernel)]; exact ⟨rfl, rfl⟩)
    (fun os started H enc _ F => by rw [OpenClaim.pre_eq_preRow]; exact fixText_lifted os started H enc F)
/-- The statement. -/
theorem fixText_card : Rows.FixTextUptoCardSaid :=
  Claim7.holds_tied_plain_at .later [] _ _ _ _ fixText_said (fun _ h => by cases h) (by kernel_rfl) (fun _ h => by cases h) fixTextUpto_row_tie rfl ⟨rfl, rfl⟩ (by kernel_rfl) rfl
    (fun f fn hf hfn => by
      obtain rfl : f = 6 := Option.some.inj ((show Tryz.prog.funcNamed Rows.fixTextUptoRow.func = some 6 by kernel_rfl).symm.trans hf) |>.symm
      obtain rfl : fn = Tryz.f6 := (Option.some.inj (Tryz.func6.symm.trans hfn)).symm
      exact ⟨by kernel_rfl, fun j t ht => by
        rw [Tryz.params6] at ht
        have hm : t ∈ [30, 35, 36] := by simpa using Array.mem_of_getElem? ht
        have hall : ([30, 35, 36].all fun u => !Tryz.prog.wantsStandIn u) = true := by kernel_rfl
        exact (show Tryz.prog.wantsStandIn t = false by simpa using List.all_eq_true.1 hall t hm)⟩)
    (by kernel_rfl)
#print axioms fixText_card

end Go.Proofs.YtaopoincbigjhaaGreatDoor
