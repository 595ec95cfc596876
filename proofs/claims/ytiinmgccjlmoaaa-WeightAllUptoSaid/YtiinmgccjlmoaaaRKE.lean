/- Walks: whether a path is above another one. -/
import Derived.Test.YtiinmgccjlmoaaaRKD
namespace Go.Proofs.Ytiinmgccjlmoaaa
open Go.RowKit Go.Redl
set_option linter.unusedVariables false

/-- How many numbers both begin with. -/
def alikeN : List Int → List Int → Nat
  | x :: a, y :: b => if x = y then 1 + alikeN a b else 0
  | [], _ => 0
  | _ :: _, [] => 0
theorem alikeN_le : ∀ a b : List Int, alikeN a b ≤ a.length ∧ alikeN a b ≤ b.length
  | [], b => by simp [alikeN]
  | _ :: _, [] => by simp [alikeN]
  | x :: a, y :: b => by
    have := alikeN_le a b
    unfold alikeN
    split <;> simp <;> omega
theorem alikeN_step {xs ys : List Int} {k : Nat} (h1 : k < xs.length) (h2 : k < ys.length) : alikeN (xs.drop k) (ys.drop k) = if xs[k] = ys[k] then 1 + alikeN (xs.drop (k + 1)) (ys.drop (k + 1)) else 0 := by
  rw [List.drop_eq_getElem_cons h1, List.drop_eq_getElem_cons h2]; rfl
theorem alikeN_pre : ∀ {a b : List Int}, alikeN a b = a.length ↔ a <+: b
  | [], b => by simp [alikeN]
  | x :: a, [] => by simp [alikeN]
  | x :: a, y :: b => by
    unfold alikeN
    rw [List.cons_prefix_cons, ← alikeN_pre (a := a) (b := b)]
    split
    · rename_i h; simp [h]; omega
    · rename_i h; simp [h]
/-- One path is above another one. -/
def aboveB (a b : List Int) : Bool := decide (a.length < b.length) && decide (alikeN a b = a.length)

theorem alike_ent : ∀ args w, (callFunc 79 args).run Try.prog w = .ok (.enter 79 args) w := by intro args w; kernel_rfl
set_option maxRecDepth 100000 in
set_option maxHeartbeats 2000000 in
theorem alike_c (xs ys : List Int) (a a' : Option Addr) (cap cap' B : Nat) (w : World) (hr : RowA w B 1 a xs.length cap (xs.map (Value.int .i64))) (hr' : RowA w B 1 a' ys.length cap' (ys.map (Value.int .i64))) :
    Calls Try.prog 79 #[.slice a xs.length cap, .slice a' ys.length cap'] w fun e w' => e = .returned (.int .i64 (alikeN xs ys : Nat)) ∧ Drawn w w' := by
  obtain ⟨z, hz⟩ : ∃ z, z = alikeN xs ys := ⟨_, rfl⟩
  rw [← hz]
  have Hz := Lib.hid hz
  have H63 := Lib.hid (show xs.length ≤ 9223372036854775807 from Nat.le_trans hr.le (by have := hr.max; unfold maxLen at this; omega))
  have Hle := Lib.hid (alikeN_le xs ys)
  by_cases hle : xs.length ≤ ys.length
  · have hlei : (xs.length : Int) ≤ ys.length := by omega
    have Hor := Lib.hid hle
    clear hz
    go_enter Try.func79, Try.ntmps79
    go_wp2_with fail
    go_loopg [11, 5] xs.length (fun g i _ wr => ∃ k : Nat, i = .int .i64 k ∧ k + g = xs.length ∧ Hid (k + alikeN (xs.drop k) (ys.drop k) = z) ∧ Drawn w wr)
    case atStart => exact ⟨0, rfl, by omega, (show 0 + alikeN xs ys = z by rw [Hz.out]; omega), ⟨0, rfl⟩⟩
    case round =>
      obtain ⟨k, rfl, hg, hst, q, rfl⟩ := hrel
      by_cases hlt : k < xs.length
      · have hlti : (k : Int) < xs.length := by omega
        have hlx : k < xs.length := by have := Hor.out; omega
        have hly : k < ys.length := by have := Hor.out; omega
        have hlxi : (k : Int) < xs.length := by omega
        have hlyi : (k : Int) < ys.length := by omega
        obtain ⟨b, off, rfl, hb, hcell0⟩ := hr.int_at k hlx
        have hcell := hcell0 k hlx
        obtain ⟨b', off', rfl, hb', hcell1⟩ := hr'.int_at k hly
        have hcell' := hcell1 k hly
        rw [getD_of_lt hlx] at hcell
        rw [getD_of_lt hly] at hcell'
        have Hs := Lib.hid (show k + (if xs[k] = ys[k] then 1 + alikeN (xs.drop (k + 1)) (ys.drop (k + 1)) else 0) = z by rw [← alikeN_step hlx hly]; exact hst.out)
        have hw1 : IntKind.i64.wrap ((k : Int) + 1) = (k : Int) + 1 := IntWalk.i64_in _ (by have := H63.out; omega)
        generalize xs[k] = x at hcell Hs
        generalize ys[k] = y at hcell' Hs
        clear hcell0 hcell1 hst
        by_cases he : x = y
        · have hne : (x != y) = false := by simp [he]
          have Hs2 := Lib.hid (show (k + 1) + alikeN (xs.drop (k + 1)) (ys.drop (k + 1)) = z by have h := Hs.out; rw [if_pos he] at h; omega)
          have He := Lib.hid he
          clear he Hs
          go_wp2_with fail
          go_quiet (fail)
          go_wp2_with fail
          go_roundg (xs.length - (k + 1))
          case measure => omega
          case rel => exact ⟨k + 1, by go_num, by omega, Hs2, by first | exact drawn_one _ _ | exact drawn_two _ _ _⟩
        · have hne : (x != y) = true := by simp [he]
          have Hs2 := Lib.hid (show k = z by have h := Hs.out; rw [if_neg he] at h; omega)
          clear he Hs
          go_wp2_with fail
          go_quiet (fail)
          go_wp2_with fail
          go_ret
          exact ⟨ret_int (by rw [← Hs2.out]), by first | exact drawn_one _ _ | exact drawn_two _ _ _⟩
      · obtain rfl : k = xs.length := by omega
        have Hs2 := Lib.hid (show xs.length = z by
          have h := hst.out
          have h2 := alikeN_le (xs.drop xs.length) (ys.drop xs.length)
          rw [List.length_drop, List.length_drop] at h2
          omega)
        clear hst
        go_wp2_with fail
        go_ret
        exact ⟨ret_int (by rw [← Hs2.out]), by first | exact drawn_one _ _ | exact drawn_two _ _ _⟩
  · have hlei : ¬ (xs.length : Int) ≤ ys.length := by omega
    have Hor := Lib.hid hle
    clear hz
    go_enter Try.func79, Try.ntmps79
    go_wp2_with fail
    go_loopg [11, 5] ys.length (fun g i _ wr => ∃ k : Nat, i = .int .i64 k ∧ k + g = ys.length ∧ Hid (k + alikeN (xs.drop k) (ys.drop k) = z) ∧ Drawn w wr)
    case atStart => exact ⟨0, rfl, by omega, (show 0 + alikeN xs ys = z by rw [Hz.out]; omega), ⟨0, rfl⟩⟩
    case round =>
      obtain ⟨k, rfl, hg, hst, q, rfl⟩ := hrel
      by_cases hlt : k < ys.length
      · have hlti : (k : Int) < ys.length := by omega
        have hlx : k < xs.length := by have := Hor.out; omega
        have hly : k < ys.length := by have := Hor.out; omega
        have hlxi : (k : Int) < xs.length := by omega
        have hlyi : (k : Int) < ys.length := by omega
        obtain ⟨b, off, rfl, hb, hcell0⟩ := hr.int_at k hlx
        have hcell := hcell0 k hlx
        obtain ⟨b', off', rfl, hb', hcell1⟩ := hr'.int_at k hly
        have hcell' := hcell1 k hly
        rw [getD_of_lt hlx] at hcell
        rw [getD_of_lt hly] at hcell'
        have Hs := Lib.hid (show k + (if xs[k] = ys[k] then 1 + alikeN (xs.drop (k + 1)) (ys.drop (k + 1)) else 0) = z by rw [← alikeN_step hlx hly]; exact hst.out)
        have hw1 : IntKind.i64.wrap ((k : Int) + 1) = (k : Int) + 1 := IntWalk.i64_in _ (by have := H63.out; omega)
        generalize xs[k] = x at hcell Hs
        generalize ys[k] = y at hcell' Hs
        clear hcell0 hcell1 hst
        by_cases he : x = y
        · have hne : (x != y) = false := by simp [he]
          have Hs2 := Lib.hid (show (k + 1) + alikeN (xs.drop (k + 1)) (ys.drop (k + 1)) = z by have h := Hs.out; rw [if_pos he] at h; omega)
          have He := Lib.hid he
          clear he Hs
          go_wp2_with fail
          go_quiet (fail)
          go_wp2_with fail
          go_roundg (ys.length - (k + 1))
          case measure => omega
          case rel => exact ⟨k + 1, by go_num, by omega, Hs2, by first | exact drawn_one _ _ | exact drawn_two _ _ _⟩
        · have hne : (x != y) = true := by simp [he]
          have Hs2 := Lib.hid (show k = z by have h := Hs.out; rw [if_neg he] at h; omega)
          clear he Hs
          go_wp2_with fail
          go_quiet (fail)
          go_wp2_with fail
          go_ret
          exact ⟨ret_int (by rw [← Hs2.out]), by first | exact drawn_one _ _ | exact drawn_two _ _ _⟩
      · obtain rfl : k = ys.length := by omega
        have Hs2 := Lib.hid (show ys.length = z by
          have h := hst.out
          have h2 := alikeN_le (xs.drop ys.length) (ys.drop ys.length)
          rw [List.length_drop, List.length_drop] at h2
          omega)
        clear hst
        go_wp2_with fail
        go_ret
        exact ⟨ret_int (by rw [← Hs2.out]), by first | exact drawn_one _ _ | exact drawn_two _ _ _⟩

theorem above_ent : ∀ args w, (callFunc 44 args).run Try.prog w = .ok (.enter 44 args) w := by intro args w; kernel_rfl
set_option maxRecDepth 100000 in
theorem above_c (xs ys : List Int) (a a' : Option Addr) (cap cap' B : Nat) (w : World) (hr : RowA w B 1 a xs.length cap (xs.map (Value.int .i64))) (hr' : RowA w B 1 a' ys.length cap' (ys.map (Value.int .i64))) :
    Calls Try.prog 44 #[.slice a xs.length cap, .slice a' ys.length cap'] w fun e w' => e = .returned (.bool (aboveB xs ys)) ∧ Drawn w w' := by
  have HC := Lib.hid (alike_c xs ys a a' cap cap' B w hr hr')
  clear hr hr'
  unfold aboveB
  by_cases hlt : xs.length < ys.length
  · have hlti : (xs.length : Int) < ys.length := by omega
    obtain ⟨z, hz⟩ : ∃ z, z = alikeN xs ys := ⟨_, rfl⟩
    rw [← hz] at HC ⊢
    have Hlt := Lib.hid (decide_eq_true hlt)
    have hbe : ((z : Int) == (xs.length : Int)) = decide (z = xs.length) := by
      by_cases h : z = xs.length
      · subst h; simp
      · rw [decide_eq_false h]; simp; omega
    clear hz hlt
    go_enter Try.func44, Try.ntmps44
    go_wp2_with fail
    refine HC.out.mono ?_
    rintro e w1 ⟨rfl, hd⟩
    have Hd := Lib.hid hd
    clear hd
    go_wp2_with fail
    go_ret
    exact ⟨ret_bool (by rw [Hlt.out]; simp), Hd.out⟩
  · have hlti : ¬ (xs.length : Int) < ys.length := by omega
    have Hlt := Lib.hid (decide_eq_false hlt)
    clear hlt HC
    go_enter Try.func44, Try.ntmps44
    go_wp2_with fail
    go_ret
    exact ⟨ret_bool (by rw [Hlt.out]; simp), ⟨0, rfl⟩⟩

end Go.Proofs.Ytiinmgccjlmoaaa
