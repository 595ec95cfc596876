/- Walks: the reference of glyph, but for its quoting. -/
import Derived.Test.YtmhgbocejjnoaaaDoorRG1
namespace Go.Proofs.YtmhgbocejjnoaaaDoor
open Go.RowKit Go.Redl
set_option linter.unusedVariables false

set_option maxHeartbeats 400000 in
theorem rsame_c (v1 v2 : Value) (B : Nat) (xs ys : List Int) (w : World) (h1 : Ints .i32 w B v1 xs) (h2 : Ints .i32 w B v2 ys) :
    Calls Tryd.prog 36 #[v1, v2] w fun e w' => e = .returned (.bool (decide (xs = ys))) ∧ Drawn w w' := by
  obtain ⟨⟨a, cap, rfl, hr⟩, -⟩ := h1
  obtain ⟨⟨a', cap', rfl, hr'⟩, -⟩ := h2
  have hm : xs.length ≤ 9223372036854775807 := by have h1 := hr.le; have h2 := hr.max; unfold maxLen at h2; omega
  have hm' : ys.length ≤ 9223372036854775807 := by have h1 := hr'.le; have h2 := hr'.max; unfold maxLen at h2; omega
  by_cases hl : xs.length = ys.length
  · go_enter Tryd.func36, Tryd.ntmps36
    have hle : ys.length ≤ xs.length := by omega
    have hle' : xs.length ≤ ys.length := by omega
    have hne : (((xs.length : Nat) : Int) != (ys.length : Int)) = false := by simp [hl]
    have Hl := Lib.hid hl; clear hl
    go_wp2_with fail
    go_loopw [13] (fun i wr => ∃ k : Nat, k ≤ xs.length ∧ i = .int .i64 k ∧ SameTo xs ys k ∧ Drawn w wr) (fun i _ => xs.length - (intOf i).toNat)
    case atStart => exact ⟨0, Nat.zero_le _, rfl, sameTo_zero _ _, ⟨0, rfl⟩⟩
    case round =>
      obtain ⟨k, hk, rfl, hp, q, rfl⟩ := hrel
      have Hp := Lib.hid hp; clear hp
      by_cases hlt : k < xs.length
      · obtain ⟨b, off, rfl, hb, hcell⟩ := hr.int_at k hlt
        obtain ⟨b', off', rfl, hb', hcell'⟩ := hr'.int_at k (by omega)
        have hcell := hcell k hlt
        have hcell' := hcell' k (by omega)
        have hlt' : k < ys.length := by omega
        rw [getD_of_lt hlt] at hcell
        rw [getD_of_lt hlt'] at hcell'
        go_wp2_with fail
        by_cases he : xs[k] = ys[k]
        · have hne : (xs[k] != ys[k]) = false := by simp [he]
          have He := Lib.hid he; clear he
          go_quiet (fail)
          go_wp2_with fail
          go_roundw
          case rel => exact ⟨k + 1, by omega, by go_num, sameTo_succ Hp.out hlt hlt' He.out, by first | exact drawn_one _ _ | exact drawn_two _ _ _⟩
          case measure => simp [intOf]; omega
        · have hne : (xs[k] != ys[k]) = true := by simp [he]
          have He := Lib.hid he; clear he
          go_quiet (fail)
          go_wp2_with fail
          go_ret
          exact ⟨ret_bool (by simp [same_not hlt hlt' He.out]), drawn_two _ _ _⟩
      · go_wp2_with fail
        go_ret
        obtain rfl : k = xs.length := by omega
        exact ⟨ret_bool (by simp [sameTo_all Hp.out Hl.out]), drawn_one _ _⟩
  · have hne : (((xs.length : Nat) : Int) != (ys.length : Int)) = true := by simp; omega
    have Hl := Lib.hid hl; clear hl
    go_enter Tryd.func36, Tryd.ntmps36
    go_wp2_with fail
    go_ret
    exact ⟨ret_bool (by simp [show xs ≠ ys from fun h => Hl.out (by rw [h])]), drawn_zero _⟩



set_option maxRecDepth 100000 in
set_option maxHeartbeats 400000 in
theorem ris_c (c : Int) (w : World) :
    Calls Tryd.prog 79 #[.int .i32 c] w fun e w' => e = .returned (.bool (validB c)) ∧ w = w' := by
  by_cases h0 : 0 ≤ c
  · by_cases h1 : c ≤ 55295
    · go_enter Tryd.func79, Tryd.ntmps79
      go_wp2
      go_ret
      exact ⟨ret_bool (by unfold validB; simp; omega), rfl⟩
    · by_cases h2 : 57344 ≤ c
      · by_cases h3 : c ≤ 1114111
        · go_enter Tryd.func79, Tryd.ntmps79
          go_wp2
          go_ret
          exact ⟨ret_bool (by unfold validB; simp; omega), rfl⟩
        · go_enter Tryd.func79, Tryd.ntmps79
          go_wp2
          go_ret
          exact ⟨ret_bool (by unfold validB; simp; omega), rfl⟩
      · go_enter Tryd.func79, Tryd.ntmps79
        go_wp2
        go_ret
        exact ⟨ret_bool (by unfold validB; simp; omega), rfl⟩
  · by_cases h2 : 57344 ≤ c
    · omega
    · go_enter Tryd.func79, Tryd.ntmps79
      go_wp2
      go_ret
      exact ⟨ret_bool (by unfold validB; simp; omega), rfl⟩

set_option maxRecDepth 100000 in
set_option maxHeartbeats 400000 in
theorem rcheck_c (v : Value) (B : Nat) (zs : List Int) (w : World) (hv : Ints .i32 w B v zs) :
    Calls Tryd.prog 64 #[v] w fun e w' => e = .returned (.int .i64 (checkE zs)) ∧ w = w' := by
  obtain ⟨⟨a, cap, rfl, hr⟩, -⟩ := hv
  have hm : zs.length ≤ 9223372036854775807 := by have h1 := hr.le; have h2 := hr.max; unfold maxLen at h2; omega
  have Hx : Hid (checkE zs = if zs.any (fun c => !validB c) then 4 else 0) := rfl
  go_enter Tryd.func64, Tryd.ntmps64
  go_wp2_with fail
  go_loop [7] (fun i => ∃ k : Nat, k ≤ zs.length ∧ i = .int .i64 k ∧ Upto (fun c => !validB c) zs k) (fun i => zs.length - (intOf i).toNat)
  case atStart => exact ⟨0, Nat.zero_le _, rfl, upto_zero _ zs⟩
  case round =>
    obtain ⟨k, hk, rfl, hp⟩ := hrel
    have Hp := Lib.hid hp; clear hp
    by_cases hlt : k < zs.length
    · obtain ⟨b, off, rfl, hb, hcell⟩ := hr.int_at k hlt
      have hcell := hcell k hlt
      rw [getD_of_lt hlt] at hcell
      cases hpk : validB zs[k]
      · go_wp2_with fail
        refine (ris_c _ _).mono ?_
        rintro e w' ⟨rfl, rfl⟩
        go_wp2_with fail
        go_ret
        exact ⟨ret_int (by rw [Hx.out, any_at hlt (by simp [hpk])]; rfl), rfl⟩
      · go_wp2_with fail
        refine (ris_c _ _).mono ?_
        rintro e w' ⟨rfl, rfl⟩
        go_wp2_with fail
        go_round
        case rel => exact ⟨k + 1, by omega, by go_num, upto_succ Hp.out hlt (by simp [hpk])⟩
        case measure => simp [intOf]; omega
    · go_wp2_with fail
      go_ret
      obtain rfl : k = zs.length := by omega
      exact ⟨ret_int (by rw [Hx.out, any_none Hp.out]; rfl), rfl⟩

end Go.Proofs.YtmhgbocejjnoaaaDoor
