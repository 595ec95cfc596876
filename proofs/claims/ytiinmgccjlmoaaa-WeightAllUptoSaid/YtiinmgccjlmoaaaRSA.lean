/- Walks: are properties the same. -/
import Derived.Test.YtiinmgccjlmoaaaRG4
import Derived.Test.YtiinmgccjlmoaaaRX2
namespace Go.Proofs.Ytiinmgccjlmoaaa
open Go.RowKit Go.Redl
set_option linter.unusedVariables false

theorem str_ne {a b : List UInt8} (h : a ≠ b) : ((⟨a.toArray⟩ : ByteArray).toList == (⟨b.toArray⟩ : ByteArray).toList) = false := by
  rw [ByteArray.toList_mk, ByteArray.toList_mk]
  simpa using h

set_option maxRecDepth 100000 in
set_option maxHeartbeats 1000000 in
theorem equal_prop (a a' : Option Addr) (cap cap' B : Nat) (xs ys : List PropD) (w : World) (hr : RowA w B 2 a xs.length cap (propCells xs)) (hr' : RowA w B 2 a' ys.length cap' (propCells ys)) :
    Calls Try.prog 138 #[.slice a xs.length cap, .slice a' ys.length cap'] w fun e w' => e = .returned (.bool (decide (xs = ys))) ∧ Drawn w w' := by
  have hm : xs.length ≤ 9223372036854775807 := by have h1 := hr.le; have h2 := hr.max; unfold maxLen at h2; omega
  have hm' : ys.length ≤ 9223372036854775807 := by have h1 := hr'.le; have h2 := hr'.max; unfold maxLen at h2; omega
  by_cases hl : xs.length = ys.length
  · go_enter Try.func138, Try.ntmps138
    have hle : ys.length ≤ xs.length := by omega
    have hle' : xs.length ≤ ys.length := by omega
    have hne : (((xs.length : Nat) : Int) != (ys.length : Int)) = false := by simp [hl]
    have Hl := Lib.hid hl; clear hl
    go_wp2_with fail
    go_loopw [13] (fun i wr => ∃ k : Nat, k ≤ xs.length ∧ i = .int .i64 k ∧ SameTo xs ys k ∧ Drawn w wr) (fun i _ => xs.length - (intOf i).toNat)
    case atStart => exact ⟨0, Nat.zero_le _, rfl, sameTo_zero _ _, ⟨0, rfl⟩⟩
    case round =>
      obtain ⟨k, hk, rfl, hp, q, rfl⟩ := hrel
      have Hp := Lib.hid hp; clear hp
      by_cases hlt : k < xs.length
      · obtain ⟨b, off, rfl, hb, hc0, hc1⟩ := hr.prop_at k hlt
        obtain ⟨b', off', rfl, hb', hc0', hc1'⟩ := hr'.prop_at k (by omega)
        have hlt' : k < ys.length := by omega
        have Hx : Hid (xs[k] = (xs[k].1, xs[k].2)) := rfl
        have Hy : Hid (ys[k] = (ys[k].1, ys[k].2)) := rfl
        generalize hX1 : xs[k].1 = x1 at hc0 Hx
        generalize hX2 : xs[k].2 = x2 at hc1 Hx
        generalize hY1 : ys[k].1 = y1 at hc0' Hy
        generalize hY2 : ys[k].2 = y2 at hc1' Hy
        clear hX1 hX2 hY1 hY2
        go_wp2_with fail
        by_cases he : x1 = y1
        · subst he
          by_cases he : x2 = y2
          · subst he
            have He : Hid (xs[k] = ys[k]) := Hx.out.trans Hy.out.symm
            go_quiet (fail)
            go_wp2_with fail
            go_roundw
            case rel => exact ⟨k + 1, by omega, by go_num, sameTo_succ Hp.out hlt hlt' He.out, by first | exact drawn_one _ _ | exact drawn_two _ _ _⟩
            case measure => simp [intOf]; omega
          · have He : Hid (xs[k] ≠ ys[k]) := by
              show xs[k] ≠ ys[k]
              rw [Hx.out, Hy.out]
              intro e
              exact he (Prod.mk.inj e).2
            have h2 := str_ne he
            generalize (⟨x2.toArray⟩ : ByteArray) = X2 at h2 hc1
            generalize (⟨y2.toArray⟩ : ByteArray) = Y2 at h2 hc1'
            clear he Hx Hy
            go_quiet (fail)
            go_wp2_with fail
            go_ret
            exact ⟨ret_bool (by simp [same_not hlt hlt' He.out]), drawn_two _ _ _⟩
        · have He : Hid (xs[k] ≠ ys[k]) := by
            show xs[k] ≠ ys[k]
            rw [Hx.out, Hy.out]
            intro e
            exact he (Prod.mk.inj e).1
          have h2 := str_ne he
          generalize (⟨x1.toArray⟩ : ByteArray) = X1 at h2 hc0
          generalize (⟨y1.toArray⟩ : ByteArray) = Y1 at h2 hc0'
          clear he Hx Hy
          go_quiet (fail)
          go_wp2_with fail
          go_ret
          exact ⟨ret_bool (by simp [same_not hlt hlt' He.out]), drawn_two _ _ _⟩
      · go_wp2_with fail
        go_ret
        obtain rfl : k = xs.length := by omega
        exact ⟨ret_bool (by simp [sameTo_all Hp.out Hl.out]), drawn_one _ _⟩
  · have hne : (((xs.length : Nat) : Int) != (ys.length : Int)) = true := by simp; omega
    have Hl := Lib.hid hl; clear hl
    go_enter Try.func138, Try.ntmps138
    go_wp2_with fail
    go_ret
    exact ⟨ret_bool (by simp [show xs ≠ ys from fun h => Hl.out (by rw [h])]), drawn_zero _⟩

set_option maxRecDepth 100000 in
set_option maxHeartbeats 1000000 in
theorem rsamep_c (a a' : Option Addr) (cap cap' B : Nat) (xs ys : List PropD) (w : World) (hr : RowA w B 2 a xs.length cap (propCells xs)) (hr' : RowA w B 2 a' ys.length cap' (propCells ys)) :
    Calls Try.prog 68 #[.slice a xs.length cap, .slice a' ys.length cap'] w fun e w' => e = .returned (.bool (decide (xs = ys))) ∧ Drawn w w' := by
  have hm : xs.length ≤ 9223372036854775807 := by have h1 := hr.le; have h2 := hr.max; unfold maxLen at h2; omega
  have hm' : ys.length ≤ 9223372036854775807 := by have h1 := hr'.le; have h2 := hr'.max; unfold maxLen at h2; omega
  by_cases hl : xs.length = ys.length
  · go_enter Try.func68, Try.ntmps68
    have hle : ys.length ≤ xs.length := by omega
    have hle' : xs.length ≤ ys.length := by omega
    have hne : (((xs.length : Nat) : Int) != (ys.length : Int)) = false := by simp [hl]
    have Hl := Lib.hid hl; clear hl
    go_wp2_with fail
    go_loopw [13] (fun i wr => ∃ k : Nat, k ≤ xs.length ∧ i = .int .i64 k ∧ SameTo xs ys k ∧ Drawn w wr) (fun i _ => xs.length - (intOf i).toNat)
    case atStart => exact ⟨0, Nat.zero_le _, rfl, sameTo_zero _ _, ⟨0, rfl⟩⟩
    case round =>
      obtain ⟨k, hk, rfl, hp, q, rfl⟩ := hrel
      have Hp := Lib.hid hp; clear hp
      by_cases hlt : k < xs.length
      · obtain ⟨b, off, rfl, hb, hc0, hc1⟩ := hr.prop_at k hlt
        obtain ⟨b', off', rfl, hb', hc0', hc1'⟩ := hr'.prop_at k (by omega)
        have hlt' : k < ys.length := by omega
        have Hx : Hid (xs[k] = (xs[k].1, xs[k].2)) := rfl
        have Hy : Hid (ys[k] = (ys[k].1, ys[k].2)) := rfl
        generalize hX1 : xs[k].1 = x1 at hc0 Hx
        generalize hX2 : xs[k].2 = x2 at hc1 Hx
        generalize hY1 : ys[k].1 = y1 at hc0' Hy
        generalize hY2 : ys[k].2 = y2 at hc1' Hy
        clear hX1 hX2 hY1 hY2
        go_wp2_with fail
        by_cases he : x1 = y1
        · subst he
          by_cases he : x2 = y2
          · subst he
            have He : Hid (xs[k] = ys[k]) := Hx.out.trans Hy.out.symm
            go_quiet (fail)
            go_wp2_with fail
            go_roundw
            case rel => exact ⟨k + 1, by omega, by go_num, sameTo_succ Hp.out hlt hlt' He.out, by first | exact drawn_one _ _ | exact drawn_two _ _ _⟩
            case measure => simp [intOf]; omega
          · have He : Hid (xs[k] ≠ ys[k]) := by
              show xs[k] ≠ ys[k]
              rw [Hx.out, Hy.out]
              intro e
              exact he (Prod.mk.inj e).2
            have h2 := str_ne he
            generalize (⟨x2.toArray⟩ : ByteArray) = X2 at h2 hc1
            generalize (⟨y2.toArray⟩ : ByteArray) = Y2 at h2 hc1'
            clear he Hx Hy
            go_quiet (fail)
            go_wp2_with fail
            go_ret
            exact ⟨ret_bool (by simp [same_not hlt hlt' He.out]), drawn_two _ _ _⟩
        · have He : Hid (xs[k] ≠ ys[k]) := by
            show xs[k] ≠ ys[k]
            rw [Hx.out, Hy.out]
            intro e
            exact he (Prod.mk.inj e).1
          have h2 := str_ne he
          generalize (⟨x1.toArray⟩ : ByteArray) = X1 at h2 hc0
          generalize (⟨y1.toArray⟩ : ByteArray) = Y1 at h2 hc0'
          clear he Hx Hy
          go_quiet (fail)
          go_wp2_with fail
          go_ret
          exact ⟨ret_bool (by simp [same_not hlt hlt' He.out]), drawn_two _ _ _⟩
      · go_wp2_with fail
        go_ret
        obtain rfl : k = xs.length := by omega
        exact ⟨ret_bool (by simp [sameTo_all Hp.out Hl.out]), drawn_one _ _⟩
  · have hne : (((xs.length : Nat) : Int) != (ys.length : Int)) = true := by simp; omega
    have Hl := Lib.hid hl; clear hl
    go_enter Try.func68, Try.ntmps68
    go_wp2_with fail
    go_ret
    exact ⟨ret_bool (by simp [show xs ≠ ys from fun h => Hl.out (by rw [h])]), drawn_zero _⟩


end Go.Proofs.Ytiinmgccjlmoaaa
