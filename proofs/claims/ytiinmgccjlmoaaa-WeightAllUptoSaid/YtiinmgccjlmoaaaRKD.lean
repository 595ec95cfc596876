/- Walks: paths compared; whether one is the same as, or above, another one. -/
import Derived.Test.YtiinmgccjlmoaaaRKA
import Derived.Test.YtiinmgccjlmoaaaRHP
namespace Go.Proofs.Ytiinmgccjlmoaaa
open Go.RowKit Go.Redl
set_option linter.unusedVariables false

def cmpI (a b : Int) : Int := if a < b then -1 else if b < a then 1 else 0
/-- Two paths, number by number. -/
def cmpL : List Int → List Int → Int
  | [], [] => 0
  | [], _ :: _ => -1
  | _ :: _, [] => 1
  | x :: a, y :: b => if cmpI x y = 0 then cmpL a b else cmpI x y
theorem cmpI_zero {x y : Int} : cmpI x y = 0 ↔ x = y := by unfold cmpI; split <;> (try split) <;> omega
theorem cmpI_neg {x y : Int} : cmpI x y < 0 ↔ x < y := by unfold cmpI; split <;> (try split) <;> omega
theorem cmpL_self : ∀ a : List Int, cmpL a a = 0
  | [] => rfl
  | x :: a => by unfold cmpL; rw [if_pos (by simp [cmpI]), cmpL_self a]
theorem cmpL_eq : ∀ {a b : List Int}, cmpL a b = 0 → a = b
  | [], [], _ => rfl
  | [], _ :: _, h => by simp [cmpL] at h
  | _ :: _, [], h => by simp [cmpL] at h
  | x :: a, y :: b, h => by
    unfold cmpL at h
    split at h
    · rename_i h0
      rw [cmpL_eq h, cmpI_zero.1 h0]
    · exact absurd h ‹_›
theorem cmpL_swap : ∀ a b : List Int, cmpL b a = -cmpL a b
  | [], [] => rfl
  | [], _ :: _ => rfl
  | _ :: _, [] => rfl
  | x :: a, y :: b => by
    unfold cmpL
    have : cmpI y x = -cmpI x y := by unfold cmpI; split <;> (try split) <;> (try split) <;> omega
    rw [this]
    by_cases h : cmpI x y = 0
    · rw [if_pos h, if_pos (by omega), cmpL_swap a b]
    · rw [if_neg h, if_neg (by omega)]
theorem cmpL_trans : ∀ {a b c : List Int}, cmpL a b < 0 → cmpL b c < 0 → cmpL a c < 0
  | [], _, [], h1, h2 => by
    rename_i b
    cases b with
    | nil => simp [cmpL] at h1
    | cons y b => simp [cmpL] at h2
  | [], _, _ :: _, h1, h2 => by simp [cmpL]
  | _ :: _, [], _, h1, h2 => by simp [cmpL] at h1
  | _ :: _, _ :: _, [], h1, h2 => by simp [cmpL] at h2
  | x :: a, y :: b, z :: c, h1, h2 => by
    unfold cmpL at h1 h2 ⊢
    by_cases e1 : cmpI x y = 0
    · obtain rfl := cmpI_zero.1 e1
      rw [if_pos e1] at h1
      by_cases e2 : cmpI x z = 0
      · rw [if_pos e2] at h2 ⊢
        exact cmpL_trans h1 h2
      · rw [if_neg e2] at h2 ⊢; exact h2
    · rw [if_neg e1] at h1
      have hxy := cmpI_neg.1 h1
      by_cases e2 : cmpI y z = 0
      · obtain rfl := cmpI_zero.1 e2
        rw [if_neg e1]; exact h1
      · rw [if_neg e2] at h2
        have hyz := cmpI_neg.1 h2
        have hxz : cmpI x z < 0 := cmpI_neg.2 (by omega)
        rw [if_neg (by omega)]; exact hxz
theorem cmpL_three (a b : List Int) : cmpL a b < 0 ∨ a = b ∨ cmpL b a < 0 := by
  rcases Int.lt_trichotomy (cmpL a b) 0 with h | h | h
  · exact .inl h
  · exact .inr (.inl (cmpL_eq h))
  · exact .inr (.inr (by rw [cmpL_swap]; omega))

theorem nan_ent : ∀ args w, (callFunc 145 args).run Try.prog w = .ok (.enter 145 args) w := by intro args w; kernel_rfl
set_option maxRecDepth 100000 in
theorem nan_c (x : Int) (w : World) : Calls Try.prog 145 #[.int .i64 x] w fun e w' => e = .returned (.bool false) ∧ w' = w := by
  have hne : (x != x) = false := by simp
  go_enter Try.func145, Try.ntmps145
  go_wp2_with fail
  go_ret
  exact ⟨rfl, rfl⟩
theorem cmpi_ent : ∀ args w, (callFunc 137 args).run Try.prog w = .ok (.enter 137 args) w := by intro args w; kernel_rfl
set_option maxRecDepth 100000 in
theorem cmpi_c (x y : Int) (w : World) : Calls Try.prog 137 #[.int .i64 x, .int .i64 y] w fun e w' => e = .returned (.int .i64 (cmpI x y)) ∧ w' = w := by
  have HX := Lib.hid (nan_c x w); have HY := Lib.hid (nan_c y w)
  obtain ⟨z, hz⟩ : ∃ z, z = cmpI x y := ⟨_, rfl⟩
  rw [← hz]
  have Hz := Lib.hid (show (x < y → z = -1) ∧ (¬ x < y → y < x → z = 1) ∧ (¬ x < y → ¬ y < x → z = 0) from ⟨fun h => by rw [hz, cmpI, if_pos h], fun h h' => by rw [hz, cmpI, if_neg h, if_pos h'], fun h h' => by rw [hz, cmpI, if_neg h, if_neg h']⟩)
  clear hz
  go_enter Try.func137, Try.ntmps137
  go_wp2_with fail
  refine HX.out.mono ?_
  rintro e w1 ⟨rfl, rfl⟩
  go_wp2_with fail
  refine HY.out.mono ?_
  rintro e w1 ⟨rfl, rfl⟩
  by_cases h1 : x < y
  · have Hr := Lib.hid (Hz.out.1 (by omega))
    go_wp2_with fail
    go_ret
    exact ⟨ret_int Hr.out.symm, rfl⟩
  · by_cases h2 : y < x
    · have Hr := Lib.hid (Hz.out.2.1 (by omega) (by omega))
      have h3 : decide (x < y) = false := decide_eq_false (by omega)
      go_wp2_with fail
      go_ret
      exact ⟨ret_int Hr.out.symm, rfl⟩
    · have Hr := Lib.hid (Hz.out.2.2 (by omega) (by omega))
      have h3 : decide (x < y) = false := decide_eq_false (by omega)
      have h4 : decide (y < x) = false := decide_eq_false (by omega)
      go_wp2_with fail
      go_ret
      exact ⟨ret_int Hr.out.symm, rfl⟩
theorem scmp_ent : ∀ args w, (callFunc 112 args).run Try.prog w = .ok (.enter 112 args) w := by intro args w; kernel_rfl
theorem cmpL_step {xs ys : List Int} {k : Nat} (h1 : k < xs.length) (h2 : k < ys.length) : cmpL (xs.drop k) (ys.drop k) = if cmpI xs[k] ys[k] = 0 then cmpL (xs.drop (k + 1)) (ys.drop (k + 1)) else cmpI xs[k] ys[k] := by
  rw [List.drop_eq_getElem_cons h1, List.drop_eq_getElem_cons h2]; rfl
set_option maxRecDepth 100000 in
set_option maxHeartbeats 2000000 in
theorem scmp_c (xs ys : List Int) (a a' : Option Addr) (cap cap' B : Nat) (w : World) (hr : RowA w B 1 a xs.length cap (xs.map (Value.int .i64))) (hr' : RowA w B 1 a' ys.length cap' (ys.map (Value.int .i64))) :
    Calls Try.prog 112 #[.slice a xs.length cap, .slice a' ys.length cap'] w fun e w' => e = .returned (.int .i64 (cmpL xs ys)) ∧ w' = w := by
  obtain ⟨z, hz⟩ : ∃ z, z = cmpL xs ys := ⟨_, rfl⟩
  rw [← hz]
  have Hz := Lib.hid hz
  clear hz
  have H63 := Lib.hid (show xs.length ≤ 9223372036854775807 from Nat.le_trans hr.le (by have := hr.max; unfold maxLen at this; omega))
  go_enter Try.func112, Try.ntmps112
  go_wp2_with fail
  go_loopg [11, 5, 6, 7, 8] xs.length (fun g i _ _ _ _ wr => ∃ k : Nat, i = .int .i64 k ∧ k + g = xs.length ∧ k ≤ ys.length ∧ Hid (cmpL (xs.drop k) (ys.drop k) = z) ∧ wr = w)
  case atStart => exact ⟨0, rfl, by omega, by omega, Hz.out.symm, rfl⟩
  case round =>
    obtain ⟨k, rfl, hg, hky, hst, rfl⟩ := hrel
    by_cases hlt : k < xs.length
    · have hlti : (k : Int) < xs.length := by omega
      obtain ⟨b, off, rfl, hb, hcell0⟩ := hr.int_at k hlt
      have hcell := hcell0 k hlt
      rw [getD_of_lt hlt] at hcell
      clear hcell0
      by_cases hly : k < ys.length
      ·
        have hlyi : (k : Int) < ys.length := by omega
        have hge : decide ((ys.length : Int) ≤ k) = false := decide_eq_false (by omega)
        have hw1 : IntKind.i64.wrap ((k : Int) + 1) = (k : Int) + 1 := IntWalk.i64_in _ (by have := H63.out; omega)
        obtain ⟨b', off', rfl, hb', hcell0⟩ := hr'.int_at k hly
        have hcell' := hcell0 k hly
        rw [getD_of_lt hly] at hcell'
        clear hcell0
        have Hs := Lib.hid ((cmpL_step hlt hly).symm.trans hst.out)
        have HC := Lib.hid (cmpi_c xs[k] ys[k] wr)
        generalize xs[k] = x at hcell Hs HC
        generalize ys[k] = y at hcell' Hs HC
        clear hst
        by_cases h0 : cmpI x y = 0
        ·
          have Hs2 := Lib.hid (show cmpL (xs.drop (k + 1)) (ys.drop (k + 1)) = z by have h := Hs.out; rwa [if_pos h0] at h)
          rw [h0] at HC
          clear Hs h0
          go_wp2_with fail
          refine HC.out.mono ?_
          rintro e w1 ⟨rfl, rfl⟩
          clear HC
          go_wp2_with fail
          go_roundg (xs.length - (k + 1))
          case measure => omega
          case rel => exact ⟨k + 1, by go_num, by omega, by omega, Hs2, rfl⟩
        ·
          have Hs2 := Lib.hid (show cmpI x y = z by have h := Hs.out; rwa [if_neg h0] at h)
          have hne : (cmpI x y != 0) = true := by simpa using h0
          clear Hs h0
          generalize cmpI x y = c at HC Hs2 hne
          go_wp2_with fail
          refine HC.out.mono ?_
          rintro e w1 ⟨rfl, rfl⟩
          clear HC
          go_wp2_with fail
          go_ret
          exact ⟨ret_int Hs2.out, rfl⟩
      ·
        obtain rfl : k = ys.length := by omega
        have hge : decide ((ys.length : Int) ≤ ys.length) = true := decide_eq_true (by omega)
        have Hs := Lib.hid (show (1 : Int) = z by
          have h := hst.out
          rw [List.drop_length, List.drop_eq_getElem_cons hlt] at h
          exact h)
        clear hst
        go_wp2_with fail
        go_ret
        exact ⟨ret_int Hs.out, rfl⟩
    ·
      obtain rfl : k = xs.length := by omega
      by_cases hly : xs.length < ys.length
      · have hlyi : (xs.length : Int) < ys.length := by omega
        have Hs := Lib.hid (show (-1 : Int) = z by
          have h := hst.out
          rw [List.drop_length, List.drop_eq_getElem_cons hly] at h
          exact h)
        clear hst
        go_wp2_with fail
        go_ret
        exact ⟨ret_int Hs.out, rfl⟩
      · have hlyi : decide ((xs.length : Int) < ys.length) = false := decide_eq_false (by omega)
        have Hs := Lib.hid (show (0 : Int) = z by
          have h := hst.out
          rw [List.drop_length, List.drop_of_length_le (show ys.length ≤ xs.length by omega)] at h
          exact h)
        clear hst
        go_wp2_with fail
        go_ret
        exact ⟨ret_int Hs.out, rfl⟩

theorem tcmp_ent : ∀ args w, (callFunc 76 args).run Try.prog w = .ok (.enter 76 args) w := by intro args w; kernel_rfl
set_option maxRecDepth 100000 in
theorem tcmp_c (xs ys : List Int) (a a' : Option Addr) (cap cap' B : Nat) (w : World) (hr : RowA w B 1 a xs.length cap (xs.map (Value.int .i64))) (hr' : RowA w B 1 a' ys.length cap' (ys.map (Value.int .i64))) :
    Calls Try.prog 76 #[.slice a xs.length cap, .slice a' ys.length cap'] w fun e w' => e = .returned (.int .i64 (cmpL xs ys)) ∧ w' = w := by
  have HC := Lib.hid (scmp_c xs ys a a' cap cap' B w hr hr')
  clear hr hr'
  go_enter Try.func76, Try.ntmps76
  go_wp2_with fail
  refine HC.out.mono ?_
  rintro e w1 ⟨rfl, rfl⟩
  go_wp2_with fail
  go_ret
  exact ⟨rfl, rfl⟩

set_option maxHeartbeats 400000 in
theorem spath_c (a a' : Option Addr) (cap cap' B : Nat) (xs ys : List Int) (w : World) (hr : RowA w B 1 a xs.length cap (xs.map (Value.int .i64))) (hr' : RowA w B 1 a' ys.length cap' (ys.map (Value.int .i64))) :
    Calls Try.prog 113 #[.slice a xs.length cap, .slice a' ys.length cap'] w fun e w' => e = .returned (.bool (decide (xs = ys))) ∧ Drawn w w' := by
  have hm : xs.length ≤ 9223372036854775807 := by have h1 := hr.le; have h2 := hr.max; unfold maxLen at h2; omega
  have hm' : ys.length ≤ 9223372036854775807 := by have h1 := hr'.le; have h2 := hr'.max; unfold maxLen at h2; omega
  by_cases hl : xs.length = ys.length
  · go_enter Try.func113, Try.ntmps113
    have hle : ys.length ≤ xs.length := by omega
    have hle' : xs.length ≤ ys.length := by omega
    have hne : (((xs.length : Nat) : Int) != (ys.length : Int)) = false := by simp [hl]
    have Hl := Lib.hid hl; clear hl
    go_wp2_with fail
    go_loopw [13] (fun i wr => ∃ k : Nat, k ≤ xs.length ∧ i = .int .i64 k ∧ SameTo xs ys k ∧ Drawn w wr) (fun i _ => xs.length - (intOf i).toNat)
    case atStart => exact ⟨0, Nat.zero_le _, rfl, sameTo_zero _ _, ⟨0, rfl⟩⟩
    case round =>
      obtain ⟨k, hk, rfl, hp, q, rfl⟩ := hrel
      have Hp := Lib.hid hp; clear hp
      by_cases hlt : k < xs.length
      · obtain ⟨b, off, rfl, hb, hcell⟩ := hr.int_at k hlt
        obtain ⟨b', off', rfl, hb', hcell'⟩ := hr'.int_at k (by omega)
        have hcell := hcell k hlt
        have hcell' := hcell' k (by omega)
        have hlt' : k < ys.length := by omega
        rw [getD_of_lt hlt] at hcell
        rw [getD_of_lt hlt'] at hcell'
        go_wp2_with fail
        by_cases he : xs[k] = ys[k]
        · have hne : (xs[k] != ys[k]) = false := by simp [he]
          have He := Lib.hid he; clear he
          go_quiet (fail)
          go_wp2_with fail
          go_roundw
          case rel => exact ⟨k + 1, by omega, by go_num, sameTo_succ Hp.out hlt hlt' He.out, by first | exact drawn_one _ _ | exact drawn_two _ _ _⟩
          case measure => simp [intOf]; omega
        · have hne : (xs[k] != ys[k]) = true := by simp [he]
          have He := Lib.hid he; clear he
          go_quiet (fail)
          go_wp2_with fail
          go_ret
          exact ⟨ret_bool (by simp [same_not hlt hlt' He.out]), drawn_two _ _ _⟩
      · go_wp2_with fail
        go_ret
        obtain rfl : k = xs.length := by omega
        exact ⟨ret_bool (by simp [sameTo_all Hp.out Hl.out]), drawn_one _ _⟩
  · have hne : (((xs.length : Nat) : Int) != (ys.length : Int)) = true := by simp; omega
    have Hl := Lib.hid hl; clear hl
    go_enter Try.func113, Try.ntmps113
    go_wp2_with fail
    go_ret
    exact ⟨ret_bool (by simp [show xs ≠ ys from fun h => Hl.out (by rw [h])]), drawn_zero _⟩


theorem seq_ent : ∀ args w, (callFunc 113 args).run Try.prog w = .ok (.enter 113 args) w := by intro args w; kernel_rfl
theorem tsame_ent : ∀ args w, (callFunc 78 args).run Try.prog w = .ok (.enter 78 args) w := by intro args w; kernel_rfl
set_option maxRecDepth 100000 in
theorem tsame_c (xs ys : List Int) (a a' : Option Addr) (cap cap' B : Nat) (w : World) (hr : RowA w B 1 a xs.length cap (xs.map (Value.int .i64))) (hr' : RowA w B 1 a' ys.length cap' (ys.map (Value.int .i64))) :
    Calls Try.prog 78 #[.slice a xs.length cap, .slice a' ys.length cap'] w fun e w' => e = .returned (.bool (decide (xs = ys))) ∧ Drawn w w' := by
  have HC := Lib.hid (spath_c a a' cap cap' B xs ys w hr hr')
  clear hr hr'
  go_enter Try.func78, Try.ntmps78
  go_wp2_with fail
  refine HC.out.mono ?_
  rintro e w1 ⟨rfl, hd⟩
  have Hd := Lib.hid hd
  clear hd
  go_wp2_with fail
  go_ret
  exact ⟨ret_bool (by simp), Hd.out⟩

end Go.Proofs.Ytiinmgccjlmoaaa
