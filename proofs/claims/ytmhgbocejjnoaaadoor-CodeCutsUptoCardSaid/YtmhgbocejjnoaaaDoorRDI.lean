/- Walks: the reference's Same at two empty rows, at two zero nodes. -/
import Derived.Test.YtmhgbocejjnoaaaDoorRDF
namespace Go.Proofs.YtmhgbocejjnoaaaDoor
open Go.RowKit Go.Redl
set_option linter.unusedVariables false

set_option maxRecDepth 100000 in
set_option maxHeartbeats 1000000 in
theorem same01_nil (W : World) : Calls Tryd.prog 35 #[.slice none 0 0, .slice none 0 0] W fun e w' => e = .returned (.bool true) ∧ W = w' := by
  go_enter Tryd.func35, Tryd.ntmps35
  go_wp2_with fail
  go_loopw [13] (fun i wr => i = .int .i64 0 ∧ W = wr) (fun _ _ => 0)
  case atStart => exact ⟨rfl, rfl⟩
  case round =>
    obtain ⟨rfl, rfl⟩ := hrel
    go_wp2_with fail
    go_ret
    exact ⟨rfl, rfl⟩
set_option maxRecDepth 100000 in
set_option maxHeartbeats 1000000 in
theorem same03_nil (W : World) : Calls Tryd.prog 36 #[.slice none 0 0, .slice none 0 0] W fun e w' => e = .returned (.bool true) ∧ W = w' := by
  go_enter Tryd.func36, Tryd.ntmps36
  go_wp2_with fail
  go_loopw [13] (fun i wr => i = .int .i64 0 ∧ W = wr) (fun _ _ => 0)
  case atStart => exact ⟨rfl, rfl⟩
  case round =>
    obtain ⟨rfl, rfl⟩ := hrel
    go_wp2_with fail
    go_ret
    exact ⟨rfl, rfl⟩

set_option maxRecDepth 100000 in
set_option maxHeartbeats 2000000 in
theorem same04_zero (W : World) : Calls Tryd.prog 14 #[.agg #[.bool false, .slice none 0 0, .slice none 0 0, .slice none 0 0], .agg #[.bool false, .slice none 0 0, .slice none 0 0, .slice none 0 0]] W
    fun e w' => e = .returned (.bool true) ∧ Below W.heap.size W w' := by
  have H1 := fun W => Lib.hid (same01_nil W)
  have H3 := fun W => Lib.hid (same03_nil W)
  have hb : Below W.heap.size W ((W.alloc (.cells #[.bool false, .slice none 0 0, .slice none 0 0, .slice none 0 0] 26)).alloc (.cells #[.bool false, .slice none 0 0, .slice none 0 0, .slice none 0 0] 26)) := ((Below.refl _ _).alloc (Nat.le_refl _) _).alloc (by simp) _
  have Hb := Lib.hid hb
  clear hb
  go_enter Tryd.func14, Tryd.ntmps14
  go_wp2_with fail
  refine (H1 _).out.mono ?_
  rintro e w1 ⟨rfl, rfl⟩
  go_wp2_with fail
  refine (H3 _).out.mono ?_
  rintro e w1 ⟨rfl, rfl⟩
  clear H1 H3
  go_wp2_with fail
  go_loopw [39] (fun i wr => i = .int .i64 0 ∧ wr = ((W.alloc (.cells #[.bool false, .slice none 0 0, .slice none 0 0, .slice none 0 0] 26)).alloc (.cells #[.bool false, .slice none 0 0, .slice none 0 0, .slice none 0 0] 26))) (fun _ _ => 0)
  case atStart => exact ⟨rfl, rfl⟩
  case round =>
    obtain ⟨rfl, rfl⟩ := hrel
    go_wp2_with fail
    go_ret
    exact ⟨rfl, Hb.out⟩

end Go.Proofs.YtmhgbocejjnoaaaDoor
