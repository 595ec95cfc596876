/- Parts of the proof, one behind the other: RKD, RKE, RKB, RCU, RKC, RKF, RKG, RKH, RCX, RCY, RKI, RKJ, RTrim, RN3, RR2, RR3, RW1, RF1, RR1, RR4, RR5. -/
import Derived.Test.YtbommcakcmhalaaGreatDoorLM5
import Derived.Test.YtbommcakcmhalaaGreatDoorLM6
import Derived.Test.YtbommcakcmhalaaGreatDoorLM4
import Derived.Lib.SliceRun
import Derived.Deep.RegionHeld3
import Derived.Test.YtbommcakcmhalaaGreatDoorLM3
import Derived.Shelf.Strings.SlTrimAscii
import Derived.Test.YtbommcakcmhalaaGreatDoorProg
import Derived.Test.YtbommcakcmhalaaGreatDoorLM1
import Derived.Test.YtbommcakcmhalaaGreatDoorLM2
import Derived.Laws.Cover1
import Derived.Lib.SlTrimSet
import Derived.Laws.BytesArg
import Derived.Deep.RegionWith
/- Walks: paths compared; whether one is the same as, or above, another one. -/
set_option linter.unusedVariables false
set_option linter.unusedSimpArgs false
set_option maxHeartbeats 2000000
set_option maxRecDepth 100000
namespace Go.Proofs.YtbommcakcmhalaaGreatDoor
open Go.RowKit Go.Redl
def cmpI (a b : Int) : Int := if a < b then -1 else if b < a then 1 else 0
/-- Two paths, number by number. -/
def cmpL : List Int -> List Int -> Int
 | [], [] => 0
 | [], _ :: _ => -1
 | _ :: _, [] => 1
 | x :: a, y :: b => if cmpI x y = 0 then cmpL a b else cmpI x y
theorem cmpI_zero {x y : Int} : cmpI x y = 0 ↔ x = y := by unfold cmpI; split <;> (try split) <;> omega
theorem cmpL_self : ∀ a : List Int, cmpL a a = 0
 | [] => rfl
 | x :: a => by unfold cmpL; rw [if_pos (by simp [cmpI]), cmpL_self a]
theorem cmpL_eq : ∀ {a b : List Int}, cmpL a b = 0 -> a = b
 | [], [], _ => rfl
 | [], _ :: _, h => by simp [cmpL] at h
 | _ :: _, [], h => by simp [cmpL] at h
 | x :: a, y :: b, h => by
   unfold cmpL at h
   split at h
   . rename_i h0
     rw [cmpL_eq h, cmpI_zero.1 h0]
   . exact absurd h ‹_›
theorem nan_c (x : Int) (w : World) : Calls Tryz.prog 256 #[.int .i64 x] w fun e w' => e = .returned (.bool false) /\ w' = w := by
 have hne : (x != x) = false := by simp
 go_enter Tryz.func256, Tryz.ntmps256
 go_wp2_with fail
 go_ret
 exact ⟨rfl, rfl⟩
theorem cmpi_c (x y : Int) (w : World) : Calls Tryz.prog 238 #[.int .i64 x, .int .i64 y] w fun e w' => e = .returned (.int .i64 (cmpI x y)) /\ w' = w := by
 have HX := Lib.hid (nan_c x w); have HY := Lib.hid (nan_c y w)
 obtain ⟨z, hz⟩ : ∃ z, z = cmpI x y := ⟨_, rfl⟩
 rw [<- hz]
 have Hz := Lib.hid (show (x < y -> z = -1) /\ (¬ x < y -> y < x -> z = 1) /\ (¬ x < y -> ¬ y < x -> z = 0) from ⟨fun h => by rw [hz, cmpI, if_pos h], fun h h' => by rw [hz, cmpI, if_neg h, if_pos h'], fun h h' => by rw [hz, cmpI, if_neg h, if_neg h']⟩)
 clear hz
 go_enter Tryz.func238, Tryz.ntmps238
 go_wp2_with fail
 refine HX.out.mono ?_
 rintro e w1 ⟨rfl, rfl⟩
 go_wp2_with fail
 refine HY.out.mono ?_
 rintro e w1 ⟨rfl, rfl⟩
 by_cases h1 : x < y
 . have Hr := Lib.hid (Hz.out.1 (by omega))
   go_wp2_with fail
   go_ret
   exact ⟨ret_int Hr.out.symm, rfl⟩
 . by_cases h2 : y < x
   . have Hr := Lib.hid (Hz.out.2.1 (by omega) (by omega))
     have h3 : decide (x < y) = false := decide_eq_false (by omega)
     go_wp2_with fail
     go_ret
     exact ⟨ret_int Hr.out.symm, rfl⟩
   . have Hr := Lib.hid (Hz.out.2.2 (by omega) (by omega))
     have h3 : decide (x < y) = false := decide_eq_false (by omega)
     have h4 : decide (y < x) = false := decide_eq_false (by omega)
     go_wp2_with fail
     go_ret
     exact ⟨ret_int Hr.out.symm, rfl⟩
theorem cmpL_step {xs ys : List Int} {k : Nat} (h1 : k < xs.length) (h2 : k < ys.length) : cmpL (xs.drop k) (ys.drop k) = if cmpI xs[k] ys[k] = 0 then cmpL (xs.drop (k + 1)) (ys.drop (k + 1)) else cmpI xs[k] ys[k] := by
 rw [List.drop_eq_getElem_cons h1, List.drop_eq_getElem_cons h2]; rfl
theorem scmp_c (xs ys : List Int) (a a' : Option Addr) (cap cap' B : Nat) (w : World) (hr : RowA w B 1 a xs.length cap (xs.map (Value.int .i64))) (hr' : RowA w B 1 a' ys.length cap' (ys.map (Value.int .i64))) :
 Calls Tryz.prog 250 #[.slice a xs.length cap, .slice a' ys.length cap'] w fun e w' => e = .returned (.int .i64 (cmpL xs ys)) /\ w' = w := by
 obtain ⟨z, hz⟩ : ∃ z, z = cmpL xs ys := ⟨_, rfl⟩
 rw [<- hz]
 have Hz := Lib.hid hz
 clear hz
 have H63 := Lib.hid (show xs.length <= 9223372036854775807 from Nat.le_trans hr.le (by have := hr.max; unfold maxLen at this; omega))
 go_enter Tryz.func250, Tryz.ntmps250
 go_wp2_with fail
 go_loopg [11, 5, 6, 7, 8] xs.length (fun g i _ _ _ _ wr => ∃ k : Nat, i = .int .i64 k /\ k + g = xs.length /\ k <= ys.length /\ Hid (cmpL (xs.drop k) (ys.drop k) = z) /\ wr = w)
 case atStart => exact ⟨0, rfl, by omega, by omega, Hz.out.symm, rfl⟩
 case round =>
  obtain ⟨k, rfl, hg, hky, hst, rfl⟩ := hrel
  by_cases hlt : k < xs.length
  . have hlti : (k : Int) < xs.length := by omega
    obtain ⟨b, off, rfl, hb, hcell0⟩ := hr.int_at k hlt
    have hcell := hcell0 k hlt
    rw [getD_of_lt hlt] at hcell
    clear hcell0
    by_cases hly : k < ys.length
    ·
      have hlyi : (k : Int) < ys.length := by omega
      have hge : decide ((ys.length : Int) <= k) = false := decide_eq_false (by omega)
      have hw1 : IntKind.i64.wrap ((k : Int) + 1) = (k : Int) + 1 := IntWalk.i64_in _ (by have := H63.out; omega)
      obtain ⟨b', off', rfl, hb', hcell0⟩ := hr'.int_at k hly
      have hcell' := hcell0 k hly
      rw [getD_of_lt hly] at hcell'
      clear hcell0
      have Hs := Lib.hid ((cmpL_step hlt hly).symm.trans hst.out)
      have HC := Lib.hid (cmpi_c xs[k] ys[k] wr)
      generalize xs[k] = x at hcell Hs HC
      generalize ys[k] = y at hcell' Hs HC
      clear hst
      by_cases h0 : cmpI x y = 0
      ·
        have Hs2 := Lib.hid (show cmpL (xs.drop (k + 1)) (ys.drop (k + 1)) = z by have h := Hs.out; rwa [if_pos h0] at h)
        rw [h0] at HC
        clear Hs h0
        go_wp2_with fail
        refine HC.out.mono ?_
        rintro e w1 ⟨rfl, rfl⟩
        clear HC
        go_wp2_with fail
        go_roundg (xs.length - (k + 1))
        case measure => omega
        case rel => exact ⟨k + 1, by go_num, by omega, by omega, Hs2, rfl⟩
      ·
        have Hs2 := Lib.hid (show cmpI x y = z by have h := Hs.out; rwa [if_neg h0] at h)
        have hne : (cmpI x y != 0) = true := by simpa using h0
        clear Hs h0
        generalize cmpI x y = c at HC Hs2 hne
        go_wp2_with fail
        refine HC.out.mono ?_
        rintro e w1 ⟨rfl, rfl⟩
        clear HC
        go_wp2_with fail
        go_ret
        exact ⟨ret_int Hs2.out, rfl⟩
    ·
      obtain rfl : k = ys.length := by omega
      have hge : decide ((ys.length : Int) <= ys.length) = true := decide_eq_true (by omega)
      have Hs := Lib.hid (show (1 : Int) = z by
       have h := hst.out
       rw [List.drop_length, List.drop_eq_getElem_cons hlt] at h
       exact h)
      clear hst
      go_wp2_with fail
      go_ret
      exact ⟨ret_int Hs.out, rfl⟩
  ·
    obtain rfl : k = xs.length := by omega
    by_cases hly : xs.length < ys.length
    . have hlyi : (xs.length : Int) < ys.length := by omega
      have Hs := Lib.hid (show (-1 : Int) = z by
       have h := hst.out
       rw [List.drop_length, List.drop_eq_getElem_cons hly] at h
       exact h)
      clear hst
      go_wp2_with fail
      go_ret
      exact ⟨ret_int Hs.out, rfl⟩
    . have hlyi : decide ((xs.length : Int) < ys.length) = false := decide_eq_false (by omega)
      have Hs := Lib.hid (show (0 : Int) = z by
       have h := hst.out
       rw [List.drop_length, List.drop_of_length_le (show ys.length <= xs.length by omega)] at h
       exact h)
      clear hst
      go_wp2_with fail
      go_ret
      exact ⟨ret_int Hs.out, rfl⟩
theorem tcmp_c (xs ys : List Int) (a a' : Option Addr) (cap cap' B : Nat) (w : World) (hr : RowA w B 1 a xs.length cap (xs.map (Value.int .i64))) (hr' : RowA w B 1 a' ys.length cap' (ys.map (Value.int .i64))) :
 Calls Tryz.prog 205 #[.slice a xs.length cap, .slice a' ys.length cap'] w fun e w' => e = .returned (.int .i64 (cmpL xs ys)) /\ w' = w := by
 have HC := Lib.hid (scmp_c xs ys a a' cap cap' B w hr hr')
 clear hr hr'
 go_enter Tryz.func205, Tryz.ntmps205
 go_wp2_with fail
 refine HC.out.mono ?_
 rintro e w1 ⟨rfl, rfl⟩
 go_wp2_with fail
 go_ret
 exact ⟨rfl, rfl⟩
theorem spath_c (a a' : Option Addr) (cap cap' B : Nat) (xs ys : List Int) (w : World) (hr : RowA w B 1 a xs.length cap (xs.map (Value.int .i64))) (hr' : RowA w B 1 a' ys.length cap' (ys.map (Value.int .i64))) :
 Calls Tryz.prog 42 #[.slice a xs.length cap, .slice a' ys.length cap'] w fun e w' => e = .returned (.bool (decide (xs = ys))) /\ Drawn w w' := by
 have hm : xs.length <= 9223372036854775807 := by have h1 := hr.le; have h2 := hr.max; unfold maxLen at h2; omega
 have hm' : ys.length <= 9223372036854775807 := by have h1 := hr'.le; have h2 := hr'.max; unfold maxLen at h2; omega
 by_cases hl : xs.length = ys.length
 . go_enter Tryz.func42, Tryz.ntmps42
   have hle : ys.length <= xs.length := by omega
   have hle' : xs.length <= ys.length := by omega
   have hne : (((xs.length : Nat) : Int) != (ys.length : Int)) = false := by simp [hl]
   have Hl := Lib.hid hl; clear hl
   go_wp2_with fail
   go_loopw [13] (fun i wr => ∃ k : Nat, k <= xs.length /\ i = .int .i64 k /\ SameTo xs ys k /\ Drawn w wr) (fun i _ => xs.length - (intOf i).toNat)
   case atStart => exact ⟨0, Nat.zero_le _, rfl, sameTo_zero _ _, ⟨0, rfl⟩⟩
   case round =>
    obtain ⟨k, hk, rfl, hp, q, rfl⟩ := hrel
    have Hp := Lib.hid hp; clear hp
    by_cases hlt : k < xs.length
    . obtain ⟨b, off, rfl, hb, hcell⟩ := hr.int_at k hlt
      obtain ⟨b', off', rfl, hb', hcell'⟩ := hr'.int_at k (by omega)
      have hcell := hcell k hlt
      have hcell' := hcell' k (by omega)
      have hlt' : k < ys.length := by omega
      rw [getD_of_lt hlt] at hcell
      rw [getD_of_lt hlt'] at hcell'
      go_wp2_with fail
      by_cases he : xs[k] = ys[k]
      . have hne : (xs[k] != ys[k]) = false := by simp [he]
        have He := Lib.hid he; clear he
        go_quiet (fail)
        go_wp2_with fail
        go_roundw
        case rel => exact ⟨k + 1, by omega, by go_num, sameTo_succ Hp.out hlt hlt' He.out, by first | exact drawn_one _ _ | exact drawn_two _ _ _⟩
        case measure => simp [intOf]; omega
      . have hne : (xs[k] != ys[k]) = true := by simp [he]
        have He := Lib.hid he; clear he
        go_quiet (fail)
        go_wp2_with fail
        go_ret
        exact ⟨ret_bool (by simp [same_not hlt hlt' He.out]), drawn_two _ _ _⟩
    . go_wp2_with fail
      go_ret
      obtain rfl : k = xs.length := by omega
      exact ⟨ret_bool (by simp [sameTo_all Hp.out Hl.out]), drawn_one _ _⟩
 . have hne : (((xs.length : Nat) : Int) != (ys.length : Int)) = true := by simp; omega
   have Hl := Lib.hid hl; clear hl
   go_enter Tryz.func42, Tryz.ntmps42
   go_wp2_with fail
   go_ret
   exact ⟨ret_bool (by simp [show xs ≠ ys from fun h => Hl.out (by rw [h])]), drawn_zero _⟩
theorem tsame_c (xs ys : List Int) (a a' : Option Addr) (cap cap' B : Nat) (w : World) (hr : RowA w B 1 a xs.length cap (xs.map (Value.int .i64))) (hr' : RowA w B 1 a' ys.length cap' (ys.map (Value.int .i64))) :
 Calls Tryz.prog 22 #[.slice a xs.length cap, .slice a' ys.length cap'] w fun e w' => e = .returned (.bool (decide (xs = ys))) /\ Drawn w w' := by
 have HC := Lib.hid (spath_c a a' cap cap' B xs ys w hr hr')
 clear hr hr'
 go_enter Tryz.func22, Tryz.ntmps22
 go_wp2_with fail
 refine HC.out.mono ?_
 rintro e w1 ⟨rfl, hd⟩
 have Hd := Lib.hid hd
 clear hd
 go_wp2_with fail
 go_ret
 exact ⟨ret_bool (by simp), Hd.out⟩
end Go.Proofs.YtbommcakcmhalaaGreatDoor
/- Walks: whether a path is above another one. -/
namespace Go.Proofs.YtbommcakcmhalaaGreatDoor
open Go.RowKit Go.Redl
/-- How many numbers both begin with. -/
def alikeN : List Int -> List Int -> Nat
 | x :: a, y :: b => if x = y then 1 + alikeN a b else 0
 | [], _ => 0
 | _ :: _, [] => 0
theorem alikeN_le : ∀ a b : List Int, alikeN a b <= a.length /\ alikeN a b <= b.length
 | [], b => by simp [alikeN]
 | _ :: _, [] => by simp [alikeN]
 | x :: a, y :: b => by
   have := alikeN_le a b
   unfold alikeN
   split <;> simp <;> omega
theorem alikeN_step {xs ys : List Int} {k : Nat} (h1 : k < xs.length) (h2 : k < ys.length) : alikeN (xs.drop k) (ys.drop k) = if xs[k] = ys[k] then 1 + alikeN (xs.drop (k + 1)) (ys.drop (k + 1)) else 0 := by
 rw [List.drop_eq_getElem_cons h1, List.drop_eq_getElem_cons h2]; rfl
/-- One path is above another one. -/
def aboveB (a b : List Int) : Bool := decide (a.length < b.length) && decide (alikeN a b = a.length)
theorem alike_c (xs ys : List Int) (a a' : Option Addr) (cap cap' B : Nat) (w : World) (hr : RowA w B 1 a xs.length cap (xs.map (Value.int .i64))) (hr' : RowA w B 1 a' ys.length cap' (ys.map (Value.int .i64))) :
 Calls Tryz.prog 199 #[.slice a xs.length cap, .slice a' ys.length cap'] w fun e w' => e = .returned (.int .i64 (alikeN xs ys : Nat)) /\ Drawn w w' := by
 obtain ⟨z, hz⟩ : ∃ z, z = alikeN xs ys := ⟨_, rfl⟩
 rw [<- hz]
 have Hz := Lib.hid hz
 have H63 := Lib.hid (show xs.length <= 9223372036854775807 from Nat.le_trans hr.le (by have := hr.max; unfold maxLen at this; omega))
 have Hle := Lib.hid (alikeN_le xs ys)
 by_cases hle : xs.length <= ys.length
 . have hlei : (xs.length : Int) <= ys.length := by omega
   have Hor := Lib.hid hle
   clear hz
   go_enter Tryz.func199, Tryz.ntmps199
   go_wp2_with fail
   go_loopg [11, 5] xs.length (fun g i _ wr => ∃ k : Nat, i = .int .i64 k /\ k + g = xs.length /\ Hid (k + alikeN (xs.drop k) (ys.drop k) = z) /\ Drawn w wr)
   case atStart => exact ⟨0, rfl, by omega, (show 0 + alikeN xs ys = z by rw [Hz.out]; omega), ⟨0, rfl⟩⟩
   case round =>
    obtain ⟨k, rfl, hg, hst, q, rfl⟩ := hrel
    by_cases hlt : k < xs.length
    . have hlti : (k : Int) < xs.length := by omega
      have hlx : k < xs.length := by have := Hor.out; omega
      have hly : k < ys.length := by have := Hor.out; omega
      have hlxi : (k : Int) < xs.length := by omega
      have hlyi : (k : Int) < ys.length := by omega
      obtain ⟨b, off, rfl, hb, hcell0⟩ := hr.int_at k hlx
      have hcell := hcell0 k hlx
      obtain ⟨b', off', rfl, hb', hcell1⟩ := hr'.int_at k hly
      have hcell' := hcell1 k hly
      rw [getD_of_lt hlx] at hcell
      rw [getD_of_lt hly] at hcell'
      have Hs := Lib.hid (show k + (if xs[k] = ys[k] then 1 + alikeN (xs.drop (k + 1)) (ys.drop (k + 1)) else 0) = z by rw [<- alikeN_step hlx hly]; exact hst.out)
      have hw1 : IntKind.i64.wrap ((k : Int) + 1) = (k : Int) + 1 := IntWalk.i64_in _ (by have := H63.out; omega)
      generalize xs[k] = x at hcell Hs
      generalize ys[k] = y at hcell' Hs
      clear hcell0 hcell1 hst
      by_cases he : x = y
      . have hne : (x != y) = false := by simp [he]
        have Hs2 := Lib.hid (show (k + 1) + alikeN (xs.drop (k + 1)) (ys.drop (k + 1)) = z by have h := Hs.out; rw [if_pos he] at h; omega)
        have He := Lib.hid he
        clear he Hs
        go_wp2_with fail
        go_quiet (fail)
        go_wp2_with fail
        go_roundg (xs.length - (k + 1))
        case measure => omega
        case rel => exact ⟨k + 1, by go_num, by omega, Hs2, by first | exact drawn_one _ _ | exact drawn_two _ _ _⟩
      . have hne : (x != y) = true := by simp [he]
        have Hs2 := Lib.hid (show k = z by have h := Hs.out; rw [if_neg he] at h; omega)
        clear he Hs
        go_wp2_with fail
        go_quiet (fail)
        go_wp2_with fail
        go_ret
        exact ⟨ret_int (by first | (rw [<- Hs2.out]; done) | (rw [<- Hs2.out]; omega)), by first | exact drawn_one _ _ | exact drawn_two _ _ _⟩
    . obtain rfl : k = xs.length := by omega
      have Hs2 := Lib.hid (show xs.length = z by
       have h := hst.out
       have h2 := alikeN_le (xs.drop xs.length) (ys.drop xs.length)
       rw [List.length_drop, List.length_drop] at h2
       omega)
      clear hst
      go_wp2_with fail
      go_ret
      exact ⟨ret_int (by first | (rw [<- Hs2.out]; done) | (rw [<- Hs2.out]; omega)), by first | exact drawn_one _ _ | exact drawn_two _ _ _⟩
 . have hlei : ¬ (xs.length : Int) <= ys.length := by omega
   have Hor := Lib.hid hle
   clear hz
   go_enter Tryz.func199, Tryz.ntmps199
   go_wp2_with fail
   go_loopg [11, 5] ys.length (fun g i _ wr => ∃ k : Nat, i = .int .i64 k /\ k + g = ys.length /\ Hid (k + alikeN (xs.drop k) (ys.drop k) = z) /\ Drawn w wr)
   case atStart => exact ⟨0, rfl, by omega, (show 0 + alikeN xs ys = z by rw [Hz.out]; omega), ⟨0, rfl⟩⟩
   case round =>
    obtain ⟨k, rfl, hg, hst, q, rfl⟩ := hrel
    by_cases hlt : k < ys.length
    . have hlti : (k : Int) < ys.length := by omega
      have hlx : k < xs.length := by have := Hor.out; omega
      have hly : k < ys.length := by have := Hor.out; omega
      have hlxi : (k : Int) < xs.length := by omega
      have hlyi : (k : Int) < ys.length := by omega
      obtain ⟨b, off, rfl, hb, hcell0⟩ := hr.int_at k hlx
      have hcell := hcell0 k hlx
      obtain ⟨b', off', rfl, hb', hcell1⟩ := hr'.int_at k hly
      have hcell' := hcell1 k hly
      rw [getD_of_lt hlx] at hcell
      rw [getD_of_lt hly] at hcell'
      have Hs := Lib.hid (show k + (if xs[k] = ys[k] then 1 + alikeN (xs.drop (k + 1)) (ys.drop (k + 1)) else 0) = z by rw [<- alikeN_step hlx hly]; exact hst.out)
      have hw1 : IntKind.i64.wrap ((k : Int) + 1) = (k : Int) + 1 := IntWalk.i64_in _ (by have := H63.out; omega)
      generalize xs[k] = x at hcell Hs
      generalize ys[k] = y at hcell' Hs
      clear hcell0 hcell1 hst
      by_cases he : x = y
      . have hne : (x != y) = false := by simp [he]
        have Hs2 := Lib.hid (show (k + 1) + alikeN (xs.drop (k + 1)) (ys.drop (k + 1)) = z by have h := Hs.out; rw [if_pos he] at h; omega)
        have He := Lib.hid he
        clear he Hs
        go_wp2_with fail
        go_quiet (fail)
        go_wp2_with fail
        go_roundg (ys.length - (k + 1))
        case measure => omega
        case rel => exact ⟨k + 1, by go_num, by omega, Hs2, by first | exact drawn_one _ _ | exact drawn_two _ _ _⟩
      . have hne : (x != y) = true := by simp [he]
        have Hs2 := Lib.hid (show k = z by have h := Hs.out; rw [if_neg he] at h; omega)
        clear he Hs
        go_wp2_with fail
        go_quiet (fail)
        go_wp2_with fail
        go_ret
        exact ⟨ret_int (by first | (rw [<- Hs2.out]; done) | (rw [<- Hs2.out]; omega)), by first | exact drawn_one _ _ | exact drawn_two _ _ _⟩
    . obtain rfl : k = ys.length := by omega
      have Hs2 := Lib.hid (show ys.length = z by
       have h := hst.out
       have h2 := alikeN_le (xs.drop ys.length) (ys.drop ys.length)
       rw [List.length_drop, List.length_drop] at h2
       omega)
      clear hst
      go_wp2_with fail
      go_ret
      exact ⟨ret_int (by first | (rw [<- Hs2.out]; done) | (rw [<- Hs2.out]; omega)), by first | exact drawn_one _ _ | exact drawn_two _ _ _⟩
theorem above_c (xs ys : List Int) (a a' : Option Addr) (cap cap' B : Nat) (w : World) (hr : RowA w B 1 a xs.length cap (xs.map (Value.int .i64))) (hr' : RowA w B 1 a' ys.length cap' (ys.map (Value.int .i64))) :
 Calls Tryz.prog 145 #[.slice a xs.length cap, .slice a' ys.length cap'] w fun e w' => e = .returned (.bool (aboveB xs ys)) /\ Drawn w w' := by
 have HC := Lib.hid (alike_c xs ys a a' cap cap' B w hr hr')
 clear hr hr'
 unfold aboveB
 by_cases hlt : xs.length < ys.length
 . have hlti : (xs.length : Int) < ys.length := by omega
   obtain ⟨z, hz⟩ : ∃ z, z = alikeN xs ys := ⟨_, rfl⟩
   rw [<- hz] at HC ⊢
   have Hlt := Lib.hid (decide_eq_true hlt)
   have hbe : ((z : Int) == (xs.length : Int)) = decide (z = xs.length) := by
    by_cases h : z = xs.length
    . subst h; simp
    . rw [decide_eq_false h]; simp; omega
   clear hz hlt
   go_enter Tryz.func145, Tryz.ntmps145
   go_wp2_with fail
   refine HC.out.mono ?_
   rintro e w1 ⟨rfl, hd⟩
   have Hd := Lib.hid hd
   clear hd
   go_wp2_with fail
   go_ret
   exact ⟨ret_bool (by rw [Hlt.out]; simp), Hd.out⟩
 . have hlti : ¬ (xs.length : Int) < ys.length := by omega
   have Hlt := Lib.hid (decide_eq_false hlt)
   clear hlt HC
   go_enter Tryz.func145, Tryz.ntmps145
   go_wp2_with fail
   go_ret
   exact ⟨ret_bool (by rw [Hlt.out]; simp), ⟨0, rfl⟩⟩
end Go.Proofs.YtbommcakcmhalaaGreatDoor
/- Walks: slices.DeleteFunc at rows of paths. -/
namespace Go.Proofs.YtbommcakcmhalaaGreatDoor
open Go.RowKit Go.Redl
theorem At.setCells {b : Nat} {T : TypeId} : ∀ (vs : List Value) (o : Nat) (w : World) (cs : List Value), At w b cs T -> ∃ cs', cs'.length = cs.length /\ cs'.take o = cs.take o /\ At (w.setCells b o vs) b cs' T
 | [], o, w, cs, h => ⟨cs, rfl, rfl, h⟩
 | v :: vs, o, w, cs, h => by
   obtain ⟨cs', h1, h2, h3⟩ := At.setCells vs (o + 1) (w.setCell ⟨b, o, none⟩ v) (cs.set o v) (h.set o v)
   refine ⟨cs', by rw [h1, List.length_set], ?_, h3⟩
   have h4 := congrArg (List.take o) h2
   rw [List.take_take, List.take_take, Nat.min_eq_left (by omega)] at h4
   rw [h4, List.take_set_of_le (Nat.le_refl _)]
theorem _root_.Go.World.grownBy.setCells {w0 : World} {b : Nat} : ∀ (vs : List Value) (o : Nat) (w : World), w0.grownBy w (some b) -> w0.grownBy (w.setCells b o vs) (some b)
 | [], o, w, h => h
 | v :: vs, o, w, h => World.grownBy.setCells vs (o + 1) _ (h.set o v)
end Go.Proofs.YtbommcakcmhalaaGreatDoor
/- Walks: tree's paths: the function asked at each node, the list that grows. -/
namespace Go.Proofs.YtbommcakcmhalaaGreatDoor
open Go.RowKit Go.Redl
/-- The three variables, and the list. -/
structure BoxesAt (W : World) (tb ob eb cb : Nat) (caps : Array Value) (M : Nat) (l : List (List Int)) (ov : Value) (cs : List Value) : Prop where
 t : W.heap[tb]? = some (Obj.cells #[.func (.func cb) #[] caps] 97 (0, 0))
 e : W.heap[eb]? = some (Obj.cells #[.func (.func 207) #[] #[.pointer (some ⟨tb, 0, none⟩), .pointer (some ⟨ob, 0, none⟩), .pointer (some ⟨eb, 0, none⟩)]] 234 (0, 0))
 o : W.heap[ob]? = some (Obj.cells #[ov] 55 (0, 0))
 own : W.ownsRow M 36 1 ov l.length cs
 rows : PathsQ W (fun b => M <= b /\ ov.ownBlock ≠ some b) l cs
 lt : tb < M /\ ob < M /\ eb < M /\ tb ≠ ob /\ eb ≠ ob
theorem BoxesAt.below {W W' : World} {tb ob eb cb M : Nat} {caps : Array Value} {l : List (List Int)} {ov : Value} {cs : List Value} (h : BoxesAt W tb ob eb cb caps M l ov cs) (hb : Below W.heap.size W W') : BoxesAt W' tb ob eb cb caps M l ov cs :=
 ⟨by rw [hb.block _ (Array.getElem?_eq_some_iff.1 h.t).1]; exact h.t, by rw [hb.block _ (Array.getElem?_eq_some_iff.1 h.e).1]; exact h.e, by rw [hb.block _ (Array.getElem?_eq_some_iff.1 h.o).1]; exact h.o,
  own_keep h.own hb, h.rows.keep hb.size (fun b _ hlt => hb.block b hlt) (fun _ hb _ => hb), h.lt⟩
theorem BoxesAt.cells {W : World} {tb ob eb cb M : Nat} {caps : Array Value} {l : List (List Int)} {ov : Value} {cs : List Value} (h : BoxesAt W tb ob eb cb caps M l ov cs) :
 W.cell? ⟨tb, 0, none⟩ = some (.func (.func cb) #[] caps) /\ W.cell? ⟨eb, 0, none⟩ = some (.func (.func 207) #[] #[.pointer (some ⟨tb, 0, none⟩), .pointer (some ⟨ob, 0, none⟩), .pointer (some ⟨eb, 0, none⟩)]) /\
  W.cell? ⟨ob, 0, none⟩ = some ov /\ W.frozen? ⟨ob, 0, none⟩ = false /\ tb < W.heap.size /\ ob < W.heap.size /\ eb < W.heap.size :=
 ⟨by rw [cell_of_row _ _ _ _ _ _ h.t]; rfl, by rw [cell_of_row _ _ _ _ _ _ h.e]; rfl, by rw [cell_of_row _ _ _ _ _ _ h.o]; rfl, Lib.frozen_of_heap h.o _, (Array.getElem?_eq_some_iff.1 h.t).1, (Array.getElem?_eq_some_iff.1 h.o).1, (Array.getElem?_eq_some_iff.1 h.e).1⟩
theorem BoxesAt.notOwn {W : World} {tb ob eb cb M : Nat} {caps : Array Value} {l : List (List Int)} {ov : Value} {cs : List Value} (h : BoxesAt W tb ob eb cb caps M l ov cs) {b : Nat} (hb : b < M ∨ W.heap.size <= b) : ov.ownBlock ≠ some b := by
 intro e; have := h.own.lt b e; omega
/-- One more path put in. -/
theorem BoxesAt.push {w1 w2 w3 : World} {tb ob eb cb M : Nat} {caps : Array Value} {l : List (List Int)} {ov v' : Value} {cs : List Value} {zs : List Int} {pa : Option Addr} {pc : Nat} {o : Obj}
 (h : BoxesAt w1 tb ob eb cb caps M l ov cs) (hM : M <= w1.heap.size) (h1 : Below w1.heap.size w1 w2) (hr : RowQ w2 (fun b => w1.heap.size <= b) 1 pa zs.length pc (zs.map (Value.int .i64)))
 (hg : (w2.alloc o).grownBy w3 ov.ownBlock) (hown : w3.ownsRow M 36 1 v' (l.length + 1) (cs ++ [.slice pa zs.length pc])) (hw : v'.ownBlock = ov.ownBlock ∨ ∀ k, v'.ownBlock = some k -> (w2.alloc o).heap.size <= k) :
 BoxesAt (w3.setCell ⟨ob, 0, none⟩ v') tb ob eb cb caps M (l ++ [zs]) v' (cs ++ [.slice pa zs.length pc]) /\ Grew ob ov v' w1 (w3.setCell ⟨ob, 0, none⟩ v') := by
 have s1 := h1.size
 have hb2 := (Below.refl w2.heap.size w2).alloc (Nat.le_refl _) o
 have s2 := hb2.size; have s3 := hg.size
 obtain ⟨l1, l2, l3, n1, n2⟩ := h.lt
 have hblk : ∀ b, b < w1.heap.size -> ov.ownBlock ≠ some b -> w3.heap[b]? = w1.heap[b]? := fun b hb hne => by
  rw [hg.block b (by omega) (fun e => hne e.symm), hb2.block b (by omega), h1.block b hb]
 have hset : ∀ b, b ≠ ob -> (w3.setCell ⟨ob, 0, none⟩ v').heap[b]? = w3.heap[b]? := fun b hb => Below.heap_setCell _ ⟨ob, 0, none⟩ _ b hb
 have ho3 : w3.heap[ob]? = some (Obj.cells #[ov] 55 (0, 0)) := by rw [hblk ob (by omega) (h.notOwn (.inl l2))]; exact h.o
 have hst1 := stay_kids h.own h1 hb2 hg hw
 have hst2 := stay_kid h.own hM hb2 hg hw
 have hne : ∀ b, M <= b -> b ≠ ob := fun b hb => by omega
 refine ⟨⟨?_, ?_, ?_, ?_, ?_, h.lt⟩, ⟨?_, ?_, ?_, ?_, fun b hb hne hv => ?_, ?_⟩⟩
 . rw [hset tb n1, hblk tb (by omega) (h.notOwn (.inl l1))]; exact h.t
 . rw [hset eb n2, hblk eb (by omega) (h.notOwn (.inl l3))]; exact h.e
 . exact Lib.heap_setCell_same (i := 0) ho3 _
 . rw [List.length_append]
   exact ownsRow_setCell_below (a := ⟨ob, 0, none⟩) hown l2 _
 . have hq : PathsQ w3 (fun b => M <= b /\ v'.ownBlock ≠ some b) (l ++ [zs]) (cs ++ [.slice pa zs.length pc]) := PathsQ.snoc (hr.stay hst2) (h.rows.stay hst1)
   exact hq.keep (by simp [World.setCell]) (fun b hb _ => hset b (hne b hb.1)) (fun b hb _ => hb)
 . show w3.os = _; rw [hg.os, hb2.os, h1.os]
 . show w3.tape = _; rw [hg.tape, hb2.tape, h1.tape]
 . show w3.output = _; rw [hg.output, hb2.output, h1.output]
 . simp [World.setCell]; omega
 . rw [hset b hne]; exact hblk b hb hv
 . rcases hw with e | e
   . exact .inl e
   . exact .inr fun k hk => by have := e k hk; omega
end Go.Proofs.YtbommcakcmhalaaGreatDoor
/- Walks: slices.CompactFunc at rows of paths. -/
namespace Go.Proofs.YtbommcakcmhalaaGreatDoor
open Go.RowKit Go.Redl
end Go.Proofs.YtbommcakcmhalaaGreatDoor
/- Walks: slices.SortFunc at rows of paths. -/
namespace Go.Proofs.YtbommcakcmhalaaGreatDoor
open Go.RowKit Go.Redl Go.Sort Go.Shelf
section
variable {α : Type} [Inhabited α]
end
end Go.Proofs.YtbommcakcmhalaaGreatDoor
/- Plain words: lists of paths in order, none twice; walk: dirty's set. -/
namespace Go.Proofs.YtbommcakcmhalaaGreatDoor
open Go.RowKit Go.Redl
end Go.Proofs.YtbommcakcmhalaaGreatDoor
/- Walks: dirty's set, elements; a row of paths copied. -/
namespace Go.Proofs.YtbommcakcmhalaaGreatDoor
open Go.RowKit Go.Redl
theorem PxQ.own {w w' : World} {r : Option Nat} {L : Nat} {x : PX} (h : PxQ w (fun k => L <= k /\ r ≠ some k) x) (hg : w.grownBy w' r) : PxQ w' (fun k => L <= k /\ r ≠ some k) x :=
 RowQ.keep h hg.size (fun k hk hlt => hg.block k hlt (fun e => hk.2 e.symm)) (fun _ h _ => h)
end Go.Proofs.YtbommcakcmhalaaGreatDoor
/- Walks: tree's paths: the function that calls itself. -/
namespace Go.Proofs.YtbommcakcmhalaaGreatDoor
open Go.RowKit Go.Redl
section
variable {tb ob eb cb B MX M : Nat} {caps : Array Value} {want : NodeD -> Bool}
end
end Go.Proofs.YtbommcakcmhalaaGreatDoor
/- Walks: tree's paths, Paths. -/
namespace Go.Proofs.YtbommcakcmhalaaGreatDoor
open Go.RowKit Go.Redl
/-- A list of paths, made by the call. -/
def ListP (W : World) (L : List (List Int)) (e : Ending) (w' : World) : Prop :=
 ∃ a c cs, e = .returned (.slice a L.length c) /\ RowQ w' (fun b => W.heap.size <= b) 1 a L.length c cs /\ PathsQ w' (fun b => W.heap.size <= b) L cs /\ Below W.heap.size W w'
/-- The same, its row its own. -/
def ListO (W : World) (L : List (List Int)) (e : Ending) (w' : World) : Prop :=
 ∃ v cs, e = .returned v /\ w'.ownsRow W.heap.size 36 1 v L.length cs /\ PathsQ w' (fun b => W.heap.size <= b /\ v.ownBlock ≠ some b) L cs /\ Below W.heap.size W w'
theorem ListO.p {W : World} {L : List (List Int)} {e : Ending} {w' : World} (h : ListO W L e w') : ListP W L e w' := by
 obtain ⟨v, cs, rfl, h1, h2, h3⟩ := h
 obtain ⟨a, c, rfl, hq⟩ := rowq_own h1 h2.one
 exact ⟨a, c, cs, rfl, hq, h2.keep (Nat.le_refl _) (fun _ _ _ => rfl) (fun b hb _ => hb.1), h3⟩
end Go.Proofs.YtbommcakcmhalaaGreatDoor
/- Walks: dirty's elements; rows of paths that are read, and copied; a path put behind a row. -/
namespace Go.Proofs.YtbommcakcmhalaaGreatDoor
open Go.RowKit Go.Redl
end Go.Proofs.YtbommcakcmhalaaGreatDoor
/- Walks: xpath's small, Move at no operation; dirty's marks at none. -/
namespace Go.Proofs.YtbommcakcmhalaaGreatDoor
open Go.RowKit Go.Redl
def bigB (z : Int) : Bool := decide (z < 0) || decide (1048576 < z)
/-- All numbers are 0 to the greatest one. -/
def smallB1 (l : List Int) : Bool := l.all fun z => !bigB z
theorem idx_int (n : Nat) (a : Option Addr) (cap cb : Nat) (caps : Array Value) (pred : Nat -> Bool) (W : World) (hn : n <= 100000000) (hcb : ∀ args w, (callFunc cb args).run Tryz.prog w = .ok (.enter cb args) w)
 (H : ∀ (k : Nat) (W' : World), k < n -> Below W.heap.size W W' -> ∃ b off c0, a = some ⟨b, off, none⟩ /\ W'.cell? ⟨b, off + k, none⟩ = some c0 /\ Calls Tryz.prog cb (#[c0] ++ caps) W' fun e w' => e = .returned (.bool (pred k)) /\ Below W'.heap.size W' w') :
 Calls Tryz.prog 248 #[.slice a n cap, .func (.func cb) #[] caps] W fun e w' => e = .returned (.int .i64 (idxP pred n)) /\ Below W.heap.size W w' := by
 have HH := Lib.hid H
 clear H
 go_enter Tryz.func248, Tryz.ntmps248
 go_wp2_with fail
 go_loopg [8] n (fun g i wr => ∃ k : Nat, k + g = n /\ i = .int .i64 k /\ (∀ j, j < k -> pred j = false) /\ Below W.heap.size W wr)
 case atStart => exact ⟨0, by omega, rfl, by intro j hj; omega, Below.refl _ _⟩
 case round =>
  obtain ⟨k, hg, rfl, hb, hbr⟩ := hrel
  have Hbr := Lib.hid hbr; have Hb := Lib.hid hb
  by_cases hlt : k < n
  . obtain ⟨b, off, c0, rfl, h0, hC⟩ := HH.out k wr hlt hbr
    have hlti : (k : Int) < n := by omega
    clear hb hbr HH
    cases hp : pred k with
    | true =>
      rw [hp] at hC
      have HC := Lib.hid hC
      have Hr := Lib.hid (idxP_some hlt hp Hb.out)
      clear hC hp
      go_wp2_with fail
      refine HC.out.mono ?_
      rintro e w1 ⟨rfl, hbel⟩
      have Hb1 := Lib.hid (Hbr.out.trans (hbel.mono Hbr.out.size))
      clear hbel HC
      go_wp2_with fail
      go_ret
      exact ⟨ret_int Hr.out.symm, Hb1.out⟩
    | false =>
      rw [hp] at hC
      have HC := Lib.hid hC
      have Hr := Lib.hid (show ∀ j, j < k + 1 -> pred j = false from fun j hj => by
       rcases Nat.lt_or_ge j k with h | h
       . exact Hb.out j h
       . obtain rfl : j = k := by omega
         exact hp)
      clear hC hp
      go_wp2_with fail
      refine HC.out.mono ?_
      rintro e w1 ⟨rfl, hbel⟩
      have Hb1 := Lib.hid (Hbr.out.trans (hbel.mono Hbr.out.size))
      clear hbel HC
      go_wp2_with fail
      go_roundg (gk - 1)
      case measure => omega
      case rel => exact ⟨k + 1, by omega, by go_num, Hr.out, Hb1.out⟩
  . obtain rfl : k = n := by omega
    have Hr := Lib.hid (idxP_none hb)
    clear hb hbr HH
    go_wp2_with fail
    go_ret
    exact ⟨ret_int Hr.out.symm, Hbr.out⟩
theorem small1_ent : ∀ args w, (callFunc 201 args).run Tryz.prog w = .ok (.enter 201 args) w := by intro args w; kernel_rfl
theorem small1_c (z : Int) (W : World) : Calls Tryz.prog 201 #[.int .i64 z] W fun e w' => e = .returned (.bool (bigB z)) /\ Below W.heap.size W w' := by
 unfold bigB
 by_cases h : z < 0
 . have H := Lib.hid h
   go_enter Tryz.func201, Tryz.ntmps201
   go_wp2_with fail
   go_ret
   exact ⟨ret_bool (by simp [H.out]), Below.refl _ _⟩
 . have H := Lib.hid h
   have hd : decide (z < 0) = false := decide_eq_false h
   go_enter Tryz.func201, Tryz.ntmps201
   go_wp2_with fail
   go_ret
   exact ⟨ret_bool (by simp [H.out]), Below.refl _ _⟩
theorem smallB1_idx (l : List Int) : decide (0 <= idxP (fun k => bigB (l.getD k 0)) l.length) = !smallB1 l := by
 unfold smallB1
 rcases idxP_cases (fun k => bigB (l.getD k 0)) l.length with ⟨k, hk, h1, -, he⟩ | ⟨h1, he⟩
 . rw [he]
   have : l.all (fun z => !bigB z) = false := by
    rw [List.all_eq_false]
    refine ⟨l[k], List.getElem_mem hk, ?_⟩
    rw [getD_of_lt hk] at h1
    simp [h1]
   rw [this]; simp
 . rw [he]
   have : l.all (fun z => !bigB z) = true := by
    rw [List.all_eq_true]
    intro z hz
    obtain ⟨k, hk, rfl⟩ := List.mem_iff_getElem.1 hz
    have := h1 k hk
    rw [getD_of_lt hk] at this
    simp [this]
   rw [this]; rfl
theorem cfint_c (xs : List Int) (a : Option Addr) (cap B : Nat) (W : World) (hr : RowA W B 1 a xs.length cap (xs.map (Value.int .i64))) (hB : B <= W.heap.size) (hn : xs.length <= 100000000) :
 Calls Tryz.prog 200 #[.slice a xs.length cap, .func (.func 201) #[] #[]] W fun e w' => e = .returned (.bool (!smallB1 xs)) /\ Below W.heap.size W w' := by
 have HI := Lib.hid (idx_int xs.length a cap 201 #[] (fun k => bigB (xs.getD k 0)) W hn small1_ent fun k W' hk hb => by
  obtain ⟨b, off, rfl, hlt, hc⟩ := hr.int_at k hk
  exact ⟨b, off, .int .i64 (xs.getD k 0), rfl, (hb.cell (by exact Nat.lt_of_lt_of_le hlt hB)).trans (hc k hk), small1_c _ W'⟩)
 have Hd := Lib.hid (smallB1_idx xs)
 generalize idxP (fun k => bigB (xs.getD k 0)) xs.length = z at HI Hd
 clear hr
 go_enter Tryz.func200, Tryz.ntmps200
 go_wp2_with fail
 refine HI.out.mono ?_
 rintro e w1 ⟨rfl, hbel⟩
 have Hb := Lib.hid hbel
 clear hbel HI
 go_wp2_with fail
 go_ret
 exact ⟨ret_bool Hd.out, Hb.out⟩
theorem small_c (xs : List Int) (a : Option Addr) (cap B : Nat) (W : World) (hr : RowA W B 1 a xs.length cap (xs.map (Value.int .i64))) (hB : B <= W.heap.size) (hn : xs.length <= 100000000) :
 Calls Tryz.prog 149 #[.slice a xs.length cap] W fun e w' => e = .returned (.bool (smallB1 xs)) /\ Below W.heap.size W w' := by
 have HI := Lib.hid (cfint_c xs a cap B W hr hB hn)
 clear hr
 generalize smallB1 xs = z at HI ⊢
 go_enter Tryz.func149, Tryz.ntmps149
 go_wp2_with fail
 refine HI.out.mono ?_
 rintro e w1 ⟨rfl, hbel⟩
 have Hb := Lib.hid hbel
 clear hbel HI
 go_wp2_with fail
 go_ret
 exact ⟨ret_bool (by simp), Hb.out⟩
end Go.Proofs.YtbommcakcmhalaaGreatDoor
/- strings.Trim at a set of ASCII bytes: its contract, laid by the kit (its shelf) at this program, in plain words. -/
namespace Go.Proofs
open Go.Shelf
def Tryz.lays160_ren : Go.Shelf.Ren := ⟨fun | 160 => 167 | 232 => 220 | 231 => 219 | 227 => 221 | 234 => 223 | 233 => 222 | 236 => 225 | 235 => 224 | 228 => 257 | 271 => 260 | 151 => 259 | 197 => 258 | 120 => 279 | 152 => 278 | 260 => 277 | 137 => 293 | 119 => 175 | 224 => 294 | 225 => 295 | 217 => 300 | 266 => 302 | n => n, fun | 9 => 9 | 4 => 4 | 3 => 3 | 5 => 5 | 117 => 251 | 116 => 250 | 0 => 0 | 124 => 254 | 21 => 21 | 105 => 287 | 46 => 198 | 119 => 313 | 139 => 316 | 138 => 315 | n => n, fun | 3 => 0 | 4 => 1 | n => n⟩
theorem Tryz.lays160 : Go.Proofs.Lays.n160 Tryz.prog Tryz.lays160_ren := {
 mixed := by kernel_rfl
 f119 := Tryz.func175.trans (congrArg some (by kernel_rfl))
 f120 := Tryz.func279.trans (congrArg some (by kernel_rfl))
 f137 := Tryz.func293.trans (congrArg some (by kernel_rfl))
 f151 := Tryz.func259.trans (congrArg some (by kernel_rfl))
 f152 := Tryz.func278.trans (congrArg some (by kernel_rfl))
 f160 := Tryz.func167.trans (congrArg some (by kernel_rfl))
 f197 := Tryz.func258.trans (congrArg some (by kernel_rfl))
 f217 := Tryz.func300.trans (congrArg some (by kernel_rfl))
 f224 := Tryz.func294.trans (congrArg some (by kernel_rfl))
 f225 := Tryz.func295.trans (congrArg some (by kernel_rfl))
 f227 := Tryz.func221.trans (congrArg some (by kernel_rfl))
 f228 := Tryz.func257.trans (congrArg some (by kernel_rfl))
 f231 := Tryz.func219.trans (congrArg some (by kernel_rfl))
 f232 := Tryz.func220.trans (congrArg some (by kernel_rfl))
 f233 := Tryz.func222.trans (congrArg some (by kernel_rfl))
 f234 := Tryz.func223.trans (congrArg some (by kernel_rfl))
 f235 := Tryz.func224.trans (congrArg some (by kernel_rfl))
 f236 := Tryz.func225.trans (congrArg some (by kernel_rfl))
 f260 := Tryz.func277.trans (congrArg some (by kernel_rfl))
 f266 := Tryz.func302.trans (congrArg some (by kernel_rfl))
 f271 := Tryz.func260.trans (congrArg some (by kernel_rfl))
 t0 := Tryz.underlying0
 a0 := Tryz.isAgg0
 z0 := Tryz.sizeOf0
 v0 := Tryz.zeroValue0
 t3 := Tryz.underlying3
 a3 := Tryz.isAgg3
 z3 := Tryz.sizeOf3
 v3 := Tryz.zeroValue3
 t4 := Tryz.underlying4
 a4 := Tryz.isAgg4
 z4 := Tryz.sizeOf4
 v4 := Tryz.zeroValue4
 t5 := Tryz.underlying5
 a5 := Tryz.isAgg5
 z5 := Tryz.sizeOf5
 v5 := Tryz.zeroValue5
 t9 := Tryz.underlying9
 a9 := Tryz.isAgg9
 z9 := Tryz.sizeOf9
 v9 := Tryz.zeroValue9
 t21 := Tryz.underlying21
 a21 := Tryz.isAgg21
 z21 := Tryz.sizeOf21
 v21 := Tryz.zeroValue21
 t46 := Tryz.underlying198
 a46 := Tryz.isAgg198
 z46 := Tryz.sizeOf198
 v46 := Tryz.zeroValue198
 t105 := Tryz.underlying287
 a105 := Tryz.isAgg287
 z105 := Tryz.sizeOf287
 v105 := Tryz.zeroValue287
 t116 := Tryz.underlying250
 a116 := Tryz.isAgg250
 z116 := Tryz.sizeOf250
 t117 := Tryz.underlying251
 a117 := Tryz.isAgg251
 z117 := Tryz.sizeOf251
 v117 := Tryz.zeroValue251
 t119 := Tryz.underlying313
 a119 := Tryz.isAgg313
 z119 := Tryz.sizeOf313
 t124 := Tryz.underlying254
 a124 := Tryz.isAgg254
 z124 := Tryz.sizeOf254
 v124 := Tryz.zeroValue254
 t138 := Tryz.underlying315
 a138 := Tryz.isAgg315
 z138 := Tryz.sizeOf315
 v138 := Tryz.zeroValue315
 t139 := Tryz.underlying316
 a139 := Tryz.isAgg316
 z139 := Tryz.sizeOf316
 v139 := Tryz.zeroValue316
 g3 := by kernel_rfl
 g4 := by kernel_rfl }
open Go.RowKit in
theorem Tryz.strings_Trim_set (s cutset : ByteArray) (w : World) (hs : s.size <= 9223372036854775807) (hcs : cutset.size < 4294967281) (hascii : ∀ (j : Nat) b, cutset.data.toList[j]? = some b -> b.toNat < 128) :
 Calls Tryz.prog 167 #[.string s, .string cutset] w fun e w' => e = .returned (.string ⟨(Lib.trimS s.data.toList cutset.data.toList).toArray⟩) /\ Below w.heap.size w w' := Any.strings_Trim_laid Tryz.lays160 (by kernel_rfl) s cutset w hs hcs hascii
end Go.Proofs
/- What is asked of trees: may one be, how it is written. Plain functions and their laws. -/
namespace Go.Proofs.YtbommcakcmhalaaGreatDoor
open Go.RowKit Go.Redl
def lowB (c : UInt8) : Bool := decide (97 <= c.toNat /\ c.toNat <= 122)
def valcB (c : UInt8) : Bool := lowB c || decide (48 <= c.toNat /\ c.toNat <= 57) || c == 45
def keyB (s : List UInt8) : Bool := decide (1 <= s.length /\ s.length <= 16) && s.all lowB
def valB (s : List UInt8) : Bool := decide (s.length <= 32) && s.all valcB
def leB (a b : List UInt8) : Bool := Op.bytesLess a b || a == b
/-- The first thing wrong with properties, behind a key. -/
def propsGo : List UInt8 -> List PropD -> Int
 | _, [] => 0
 | last, p :: ps => if keyB p.1 && valB p.2 then (if leB p.1 last then 1 else propsGo p.1 ps) else 3
def propsE (ps : List PropD) : Int := if 16 < ps.length then 2 else propsGo [] ps
/-- The key ahead of the k-th. -/
def lastK (ps : List PropD) (k : Nat) : List UInt8 := match k with | 0 => [] | k + 1 => (ps.getD k ([], [])).1
theorem propsGo_step {ps : List PropD} {k : Nat} (h : k < ps.length) : propsGo (lastK ps k) (ps.drop k) = if keyB ps[k].1 && valB ps[k].2 then (if leB ps[k].1 (lastK ps k) then 1 else propsGo (lastK ps (k + 1)) (ps.drop (k + 1))) else 3 := by
 conv => lhs; rw [List.drop_eq_getElem_cons h]
 simp only [propsGo]
 rw [show lastK ps (k + 1) = ps[k].1 by show (ps.getD k ([], [])).1 = _; rw [getD_of_lt h]]
theorem propsGo_end {ps : List PropD} {l : List UInt8} : propsGo l (ps.drop ps.length) = 0 := by simp [propsGo]
/-- What is wrong with a node by itself. -/
def ownE (l : Bool) (ps : List PropD) (t : List Int) (m : Nat) : Int := if propsE ps ≠ 0 then propsE ps else if (l && decide (0 < m)) || (!l && decide (0 < t.length)) then 7 else checkE t
mutual
/-- The first thing wrong with a tree. -/
def nodeE : NodeD -> Int
 | .mk l ps t ks => if ownE l ps t ks.length ≠ 0 then ownE l ps t ks.length else kidsE ks
def kidsE : List NodeD -> Int
 | [] => 0
 | k :: ks => if nodeE k ≠ 0 then nodeE k else kidsE ks
end
mutual
def sizeN : NodeD -> Nat
 | .mk _ _ t ks => 1 + t.length + sizeK ks
def sizeK : List NodeD -> Nat
 | [] => 0
 | k :: ks => sizeN k + sizeK ks
end
mutual
theorem sizeN_le : ∀ n : NodeD, sizeN n <= n.wt
 | .mk l ps t ks => by have := sizeK_le ks; simp only [sizeN, NodeD.wt]; omega
theorem sizeK_le : ∀ ks : List NodeD, sizeK ks <= wtAll ks
 | [] => by simp [sizeK, wtAll]
 | k :: ks => by have := sizeN_le k; have := sizeK_le ks; simp only [sizeK, wtAll]; omega
end
theorem sizeK_append (a b : List NodeD) : sizeK (a ++ b) = sizeK a + sizeK b := by
 induction a with
 | nil => simp [sizeK]
 | cons k ks ih => simp only [List.cons_append, sizeK, ih]; omega
theorem propsWt_take (ps : List PropD) (k : Nat) : propsWt (ps.take k) <= propsWt ps := by
 induction ps generalizing k with
 | nil => simp
 | cons p ps ih =>
   cases k with
   | zero => simp [propsWt]
   | succ k => have := ih k; simp only [List.take_succ_cons, propsWt]; omega
end Go.Proofs.YtbommcakcmhalaaGreatDoor
/- Walks: the reference of prop: Key, Val, Check. -/
namespace Go.Proofs.YtbommcakcmhalaaGreatDoor
open Go.RowKit Go.Redl
end Go.Proofs.YtbommcakcmhalaaGreatDoor
/- Walks: the reference of prop: Check. -/
namespace Go.Proofs.YtbommcakcmhalaaGreatDoor
open Go.RowKit Go.Redl
end Go.Proofs.YtbommcakcmhalaaGreatDoor
/- Walks: prop's key, val. -/
namespace Go.Proofs.YtbommcakcmhalaaGreatDoor
open Go.RowKit Go.Redl
theorem dropWhile_all {α : Type} {p : α -> Bool} : ∀ {l : List α}, (∀ x ∈ l.dropWhile p, p x = true) -> ∀ x ∈ l, p x = true
 | [], _ => by simp
 | a :: l, h => by
   cases ha : p a with
   | true =>
     rw [List.dropWhile_cons_of_pos ha] at h
     intro x hx
     rcases List.mem_cons.1 hx with rfl | hx
     . exact ha
     . exact dropWhile_all h x hx
   | false =>
     rw [List.dropWhile_cons_of_neg (by simp [ha])] at h
     have := h a (by simp)
     rw [ha] at this; cases this
theorem dropWhile_none {α : Type} {p : α -> Bool} : ∀ {l : List α}, (∀ x ∈ l, p x = true) -> l.dropWhile p = []
 | [], _ => rfl
 | a :: l, h => by
   rw [List.dropWhile_cons_of_pos (h a (by simp))]
   exact dropWhile_none fun x hx => h x (by simp [hx])
theorem trim_nil (l cs : List UInt8) : Lib.trimS l cs = [] ↔ l.all (cs.contains ·) = true := by
 unfold Lib.trimS Lib.trimLeftS Lib.trimRightS
 rw [List.all_eq_true]
 constructor
 . intro h
   have h1 : ∀ x ∈ (l.reverse.dropWhile (cs.contains ·)).reverse, cs.contains x = true := dropWhile_all (by rw [h]; simp)
   have h2 : ∀ x ∈ l.reverse, cs.contains x = true := dropWhile_all fun x hx => h1 x (List.mem_reverse.2 hx)
   exact fun x hx => h2 x (by simpa using hx)
 . intro h
   rw [dropWhile_none (l := l.reverse) fun x hx => h x (by simpa using hx)]
   rfl
def lowSet : List UInt8 := [97, 98, 99, 100, 101, 102, 103, 104, 105, 106, 107, 108, 109, 110, 111, 112, 113, 114, 115, 116, 117, 118, 119, 120, 121, 122]
def valSet : List UInt8 := [97, 98, 99, 100, 101, 102, 103, 104, 105, 106, 107, 108, 109, 110, 111, 112, 113, 114, 115, 116, 117, 118, 119, 120, 121, 122, 48, 49, 50, 51, 52, 53, 54, 55, 56, 57, 45]
theorem low_set (c : UInt8) : lowSet.contains c = lowB c := by
 have h : ∀ n : Fin 256, lowSet.contains (UInt8.ofNat n.1) = lowB (UInt8.ofNat n.1) := by decide +kernel
 have := h ⟨c.toNat, c.toNat_lt⟩
 simpa using this
theorem val_set (c : UInt8) : valSet.contains c = valcB c := by
 have h : ∀ n : Fin 256, valSet.contains (UInt8.ofNat n.1) = valcB (UInt8.ofNat n.1) := by decide +kernel
 have := h ⟨c.toNat, c.toNat_lt⟩
 simpa using this
theorem all_set {s cs : List UInt8} {p : UInt8 -> Bool} (h : ∀ c, cs.contains c = p c) : s.all (cs.contains ·) = s.all p := by
 congr 1; funext c; exact h c
/-- strings.Trim, at such a set: is nothing left? -/
theorem trim_c (s cs : List UInt8) (p : UInt8 -> Bool) (hp : ∀ c, cs.contains c = p c) (hc : cs.length <= 1000) (ha : cs.all (fun b => decide (b.toNat < 128)) = true) (w : World) (hn : s.length <= 1000000000) :
 (s.all p = true -> Calls Tryz.prog 167 #[.string ⟨s.toArray⟩, .string ⟨cs.toArray⟩] w fun e w' => e = .returned (.string ⟨#[]⟩) /\ Below w.heap.size w w') /\
 (s.all p = false -> ∃ y ys, Calls Tryz.prog 167 #[.string ⟨s.toArray⟩, .string ⟨cs.toArray⟩] w fun e w' => e = .returned (.string ⟨(y :: ys).toArray⟩) /\ Below w.heap.size w w') := by
 have h := Tryz.strings_Trim_set ⟨s.toArray⟩ ⟨cs.toArray⟩ w (by show s.length <= _; omega) (by show cs.length < _; omega) (fun j b hj => by
  rw [List.all_eq_true] at ha
  have : b ∈ cs := List.mem_of_getElem? (by simpa using hj)
  simpa using ha b this)
 have h0 := trim_nil s cs
 rw [all_set hp] at h0
 constructor
 . intro hs
   have : Lib.trimS (⟨s.toArray⟩ : ByteArray).data.toList (⟨cs.toArray⟩ : ByteArray).data.toList = [] := by simpa using h0.2 hs
   rw [this] at h
   exact h
 . intro hs
   have hne : Lib.trimS (⟨s.toArray⟩ : ByteArray).data.toList (⟨cs.toArray⟩ : ByteArray).data.toList ≠ [] := by
    intro he
    have := h0.1 (by simpa using he)
    rw [hs] at this; cases this
   obtain ⟨y, ys, hy⟩ := List.exists_cons_of_ne_nil hne
   rw [hy] at h
   exact ⟨y, ys, h⟩
theorem key_c (s : List UInt8) (w : World) (hn : s.length <= 1000000000) :
 Calls Tryz.prog 171 #[.string ⟨s.toArray⟩] w fun e w' => e = .returned (.bool (keyB s)) /\ Below w.heap.size w w' := by
 have Hk : Hid (keyB s = (decide (1 <= s.length /\ s.length <= 16) && s.all lowB)) := rfl
 obtain ⟨hT, hF⟩ := trim_c s lowSet lowB low_set (by decide) (by decide +kernel) w hn
 have HT := Lib.hid hT; have HF := Lib.hid hF
 clear hT hF
 cases s with
 | nil =>
   go_enter Tryz.func171, Tryz.ntmps171
   go_wp2_with fail
   go_ret
   exact ⟨ret_bool (by rw [Hk.out]; rfl), Below.refl _ _⟩
 | cons c r =>
   have hsz : (⟨(c :: r).toArray⟩ : ByteArray).size = r.length + 1 := rfl
   have hne : ((⟨(c :: r).toArray⟩ : ByteArray).toList.isEmpty) = false := by rw [ByteArray.toList_mk]; rfl
   have hne2 : (!(⟨(c :: r).toArray⟩ : ByteArray).toList.isEmpty) = true := by rw [ByteArray.toList_mk]; rfl
   obtain ⟨S, hS⟩ : ∃ S, S = (⟨(c :: r).toArray⟩ : ByteArray) := ⟨_, rfl⟩
   rw [<- hS] at hsz hne hne2 HT HF ⊢
   by_cases h16 : 16 < r.length + 1
   . have Hz : Hid (keyB (c :: r) = false) := by
      show keyB _ = false
      rw [Hk.out, decide_eq_false (by simp only [List.length_cons]; omega)]; rfl
     clear hS HT HF
     go_enter Tryz.func171, Tryz.ntmps171
     go_wp2_with fail
     go_ret
     exact ⟨ret_bool Hz.out.symm, Below.refl _ _⟩
   . have Hk2 : Hid (keyB (c :: r) = (c :: r).all lowB) := by
      show keyB _ = _
      rw [Hk.out, decide_eq_true (by simp only [List.length_cons]; omega)]; simp
     cases hall : (c :: r).all lowB with
     | true =>
       have HC := Lib.hid (HT.out hall)
       rw [hall] at Hk2
       clear hS HT HF hall
       go_enter Tryz.func171, Tryz.ntmps171
       go_wp2_with fail
       refine HC.out.mono ?_
       rintro e w1 ⟨rfl, hb⟩
       have Hb := Lib.hid hb
       clear hb
       go_wp2_with fail
       go_ret
       exact ⟨ret_bool Hk2.out.symm, Hb.out⟩
     | false =>
       obtain ⟨y, ys, hC⟩ := HF.out hall
       have HC := Lib.hid hC
       rw [hall] at Hk2
       have hn2 : ((⟨(y :: ys).toArray⟩ : ByteArray).toList.isEmpty) = false := by rw [ByteArray.toList_mk]; rfl
       clear hS HT HF hall hC
       go_enter Tryz.func171, Tryz.ntmps171
       go_wp2_with fail
       refine HC.out.mono ?_
       rintro e w1 ⟨rfl, hb⟩
       have Hb := Lib.hid hb
       clear hb
       go_wp2_with fail
       go_ret
       exact ⟨ret_bool Hk2.out.symm, Hb.out⟩
theorem val_c (s : List UInt8) (w : World) (hn : s.length <= 1000000000) :
 Calls Tryz.prog 172 #[.string ⟨s.toArray⟩] w fun e w' => e = .returned (.bool (valB s)) /\ Below w.heap.size w w' := by
 have Hk : Hid (valB s = (decide (s.length <= 32) && s.all valcB)) := rfl
 obtain ⟨hT, hF⟩ := trim_c s valSet valcB val_set (by decide) (by decide +kernel) w hn
 have HT := Lib.hid hT; have HF := Lib.hid hF
 have hsz : (⟨s.toArray⟩ : ByteArray).size = s.length := rfl
 clear hT hF
 obtain ⟨S, hS⟩ : ∃ S, S = (⟨s.toArray⟩ : ByteArray) := ⟨_, rfl⟩
 rw [<- hS] at hsz HT HF ⊢
 clear hS
 by_cases h32 : 32 < s.length
 . have Hz : Hid (valB s = false) := by
    show valB _ = false
    rw [Hk.out, decide_eq_false (by omega)]; rfl
   clear HT HF
   go_enter Tryz.func172, Tryz.ntmps172
   go_wp2_with fail
   go_ret
   exact ⟨ret_bool Hz.out.symm, Below.refl _ _⟩
 . have Hk2 : Hid (valB s = s.all valcB) := by
    show valB _ = _
    rw [Hk.out, decide_eq_true (by omega)]; simp
   cases hall : s.all valcB with
   | true =>
     have HC := Lib.hid (HT.out hall)
     rw [hall] at Hk2
     clear HT HF hall
     go_enter Tryz.func172, Tryz.ntmps172
     go_wp2_with fail
     refine HC.out.mono ?_
     rintro e w1 ⟨rfl, hb⟩
     have Hb := Lib.hid hb
     clear hb
     go_wp2_with fail
     go_ret
     exact ⟨ret_bool Hk2.out.symm, Hb.out⟩
   | false =>
     obtain ⟨y, ys, hC⟩ := HF.out hall
     have HC := Lib.hid hC
     rw [hall] at Hk2
     have hn2 : ((⟨(y :: ys).toArray⟩ : ByteArray).toList.isEmpty) = false := by rw [ByteArray.toList_mk]; rfl
     clear HT HF hall hC
     go_enter Tryz.func172, Tryz.ntmps172
     go_wp2_with fail
     refine HC.out.mono ?_
     rintro e w1 ⟨rfl, hb⟩
     have Hb := Lib.hid hb
     clear hb
     go_wp2_with fail
     go_ret
     exact ⟨ret_bool Hk2.out.symm, Hb.out⟩
end Go.Proofs.YtbommcakcmhalaaGreatDoor
/- Walks: strconv.FormatInt at base 16; glyph.plain, glyph.escaped. -/
namespace Go.Proofs.YtbommcakcmhalaaGreatDoor
open Go.RowKit Go.Redl
end Go.Proofs.YtbommcakcmhalaaGreatDoor
/- Walks: the reference of glyph: how a text is written. -/
namespace Go.Proofs.YtbommcakcmhalaaGreatDoor
open Go.RowKit Go.Redl
end Go.Proofs.YtbommcakcmhalaaGreatDoor
/- Walks: the reference of node: Size. -/
namespace Go.Proofs.YtbommcakcmhalaaGreatDoor
open Go.RowKit Go.Redl
end Go.Proofs.YtbommcakcmhalaaGreatDoor
/- Walks: the reference of node: check, Check. -/
namespace Go.Proofs.YtbommcakcmhalaaGreatDoor
open Go.RowKit Go.Redl
theorem ownE_cases (l : Bool) (ps : List PropD) (t : List Int) (m : Nat) : ownE l ps t m = if propsE ps ≠ 0 then propsE ps else if (l && decide (0 < m)) || (!l && decide (0 < t.length)) then 7 else checkE t := rfl
end Go.Proofs.YtbommcakcmhalaaGreatDoor
