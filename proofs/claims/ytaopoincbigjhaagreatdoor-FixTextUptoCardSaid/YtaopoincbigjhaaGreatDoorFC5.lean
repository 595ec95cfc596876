/- Parts of the proof, one behind the other: RHB, RG4, RSA, RHC, RKA, RTD. -/
import Derived.Test.YtaopoincbigjhaaGreatDoorFC4
import Derived.Test.YtaopoincbigjhaaGreatDoorFC2
import Derived.Test.YtaopoincbigjhaaGreatDoorFC1
import Derived.Test.YtaopoincbigjhaaGreatDoorFC3
import Derived.Laws.IdiomCopy
import Derived.Lib.AppendZerosOnto
import Derived.Lib.Overlaps
import Derived.Laws.Externs
/- Walks: slices.Concat at paths; IndexFunc at each row; fix.under. -/
namespace Go.Proofs.YtaopoincbigjhaaGreatDoor
open Go.RowKit Go.Redl
set_option linter.unusedVariables false

set_option maxHeartbeats 400000 in
theorem grow_int (m : Nat) (w : World) (hm : m ≤ 1000000) :
    Calls Tryz.prog 185 #[.slice none 0 0, .int .i64 m] w (MadeRow w 3 1 0 []) := by
  by_cases h0 : m = 0
  · subst h0
    go_enter Tryz.func185, Tryz.ntmps185
    go_wp2_with fail
    go_ret
    exact ⟨_, rfl, World.ownsRow_nil _ _ _ _, Below.refl _ _⟩
  · have hpos : 0 < m := by omega
    go_enter Tryz.func185, Tryz.ntmps185
    go_wp2_with (at_builtin; refine wpList_nil_zeros rfl _ _ 36 3 rfl 3 (.int .i64 0) 1 8 Tryz.underlying36 Tryz.underlying3 info_int rfl (by decide) m hpos rfl rfl ?h63 ?hb ?_)
    case h63 => omega
    case hb => omega
    intro g cap w1 hown hcap hcm hb
    have Ho := Lib.hid hown; have Hb := Lib.hid hb; clear hown hb
    unfold maxLen at hcm
    go_wp2_with fail
    go_ret
    exact ⟨_, rfl, Ho.out, Hb.out⟩
set_option maxRecDepth 100000 in
set_option maxHeartbeats 400000 in
theorem concat_int (a : Option Addr) (cap B : Nat) (vals : List Value) (pss : List (List Value)) (w : World) (hr : RowA w B 1 a vals.length cap vals) (hp : Parts w B vals pss)
    (hB : B ≤ w.heap.size) (hn : pss.flatten.length ≤ 1000000) :
    Calls Tryz.prog 141 #[.slice a vals.length cap] w (MadeRow w 3 1 pss.flatten.length pss.flatten) := by
  have hm : vals.length ≤ 9223372036854775807 := by have h1 := hr.le; have h2 := hr.max; unfold maxLen at h2; omega
  have Hn := Lib.hid hp.len
  go_enter Tryz.func141, Tryz.ntmps141
  go_wp2_with fail
  go_loop [3, 11] (fun s i => ∃ k : Nat, k ≤ vals.length ∧ i = .int .i64 k ∧ s = .int .i64 (tot pss k)) (fun _ i => vals.length - (intOf i).toNat)
  case atStart => exact ⟨0, Nat.zero_le _, rfl, by rw [tot_zero]; rfl⟩
  case round =>
    obtain ⟨k, hk, rfl, rfl⟩ := hrel
    have ht := tot_le pss k
    by_cases hlt : k < vals.length
    · have hlt' : k < pss.length := by rw [← Hn.out]; exact hlt
      have hs := tot_succ pss k hlt'
      have ht' := tot_le pss (k + 1)
      obtain ⟨pa, pc, hv, hpr⟩ := hp.each k hlt'
      obtain ⟨b, off, rfl, hb, hall⟩ := hr.some_ (by rintro rfl; simp at hlt)
      have hcell := hall k _ hv
      clear hall
      obtain ⟨ps, hps⟩ : ∃ ps, pss.getD k [] = ps := ⟨_, rfl⟩
      rw [hps] at hs hv hcell hpr
      have hsum : (tot pss k : Int) + (ps.length : Int) ≤ 1000000 := by omega
      have Hs := Lib.hid hs; have Hv := Lib.hid hv; have Hp := Lib.hid hps
      clear hs hv hps
      go_wp2_with fail
      go_round
      case rel => exact ⟨k + 1, by omega, by go_num, by rw [Hs.out]; go_num⟩
      case measure => simp [intOf]; omega
    · have : k = vals.length := by omega
      subst this
      have H := Lib.hid (grow_int (tot pss vals.length) w (by omega))
      go_wp2_with fail
      refine H.out.mono ?_
      rintro e w1 ⟨v, rfl, hown, hbel⟩
      have Ho := Lib.hid hown; have Hb := Lib.hid hbel
      clear hown hbel H
      go_wp2_with fail
      go_loopw [6, 27] (fun v i wr => ∃ k : Nat, k ≤ vals.length ∧ i = .int .i64 k ∧ wr.ownsRow w.heap.size 3 1 v (tot pss k) (pss.take k).flatten ∧ Below w.heap.size w wr) (fun _ i _ => vals.length - (intOf i).toNat)
      case atStart => exact ⟨0, Nat.zero_le _, rfl, by rw [tot_zero]; simpa using Ho.out, Hb.out⟩
      case round =>
        obtain ⟨k, hk, rfl, hown, hbel⟩ := hrel
        clear Ho Hb
        have ht := tot_le pss k
        have Ho := Lib.hid hown; have Hb := Lib.hid hbel
        clear hown hbel
        by_cases hlt : k < vals.length
        · have hlt' : k < pss.length := by rw [← Hn.out]; exact hlt
          have hs := tot_succ pss k hlt'
          have ht' := tot_le pss (k + 1)
          have hr2 := hr.keep (Hb.out.mono hB) (Nat.le_refl _)
          have hp2 := hp.keep (Hb.out.mono hB) (Nat.le_refl _)
          obtain ⟨pa, pc, hv, hpr⟩ := hp2.each k hlt'
          obtain ⟨b, off, rfl, hb, hall⟩ := hr2.some_ (by rintro rfl; simp at hlt)
          have hcell := hall k _ hv
          clear hall
          have hfl := flat_succ pss k hlt'
          obtain ⟨ps, hps⟩ : ∃ ps, pss.getD k [] = ps := ⟨_, rfl⟩
          rw [hps] at hs hv hcell hpr hfl
          have hsum : (tot pss k : Int) + (ps.length : Int) ≤ 1000000 := by omega
          have Hs := Lib.hid hs; have Hv := Lib.hid hv; have Hp := Lib.hid hps; have Hf := Lib.hid hfl
          clear hs hv hps hfl
          go_wp2_with (at_builtin; refine wpList_app rfl _ _ 36 rfl w.heap.size 3 (.int .i64 0) 1 8 Tryz.underlying36 info_int rfl (by decide) _ _ _ rfl Ho.out _ ps.length pc B ps rfl hpr ?h63 ?hb ?hbase ?_)
          case h63 => unfold maxLen; omega
          case hb => omega
          case hbase => exact Hb.out.size
          intro v' w2 hown' hgrow
          rw [← Hs.out, ← Hf.out] at hown'
          have hbel' := Hb.out.grown hgrow Hb.out.size (fun k hk => (Ho.out.lt k hk).1)
          have Ho' := Lib.hid hown'; have Hb' := Lib.hid hbel'
          clear hown' hgrow hbel'
          go_wp2_with fail
          go_roundw
          case rel => exact ⟨k + 1, by omega, by go_num, Ho'.out, Hb'.out⟩
          case measure => simp [intOf]; omega
        · have : k = vals.length := by omega
          subst this
          go_wp2_with fail
          go_ret
          refine ⟨_, rfl, ?_, Hb.out⟩
          have := Ho.out
          rw [Hn.out, tot_all, List.take_of_length_le (Nat.le_refl _)] at this
          exact this
set_option maxRecDepth 100000 in
set_option maxHeartbeats 1000000 in
theorem idx_rule (n : Nat) (a : Option Addr) (cap cb : Nat) (caps : Array Value) (pred : Nat → Bool) (W : World) (hn : n ≤ 100000000) (hcb : ∀ args w, (callFunc cb args).run Tryz.prog w = .ok (.enter cb args) w)
    (H : ∀ (k : Nat) (W' : World), k < n → Below W.heap.size W W' → ∃ b off c0 c1 c2 c3 c4 c5 c6 c7, a = some ⟨b, off, none⟩ ∧ W'.cell? ⟨b, off + k * 8, none⟩ = some c0 ∧ W'.cell? ⟨b, off + k * 8 + 1, none⟩ = some c1 ∧ W'.cell? ⟨b, off + k * 8 + 2, none⟩ = some c2 ∧ W'.cell? ⟨b, off + k * 8 + 3, none⟩ = some c3 ∧ W'.cell? ⟨b, off + k * 8 + 4, none⟩ = some c4 ∧ W'.cell? ⟨b, off + k * 8 + 5, none⟩ = some c5 ∧ W'.cell? ⟨b, off + k * 8 + 6, none⟩ = some c6 ∧ W'.cell? ⟨b, off + k * 8 + 7, none⟩ = some c7 ∧ Calls Tryz.prog cb (#[.agg #[c0, c1, c2, c3, c4, c5, c6, c7]] ++ caps) W' fun e w' => e = .returned (.bool (pred k)) ∧ Below W'.heap.size W' w') :
    Calls Tryz.prog 83 #[.slice a n cap, .func (.func cb) #[] caps] W fun e w' => e = .returned (.int .i64 (idxP pred n)) ∧ Below W.heap.size W w' := by
  have HH := Lib.hid H
  clear H
  go_enter Tryz.func83, Tryz.ntmps83
  go_wp2_with fail
  go_loopg [8] n (fun g i wr => ∃ k : Nat, k + g = n ∧ i = .int .i64 k ∧ (∀ j, j < k → pred j = false) ∧ Below W.heap.size W wr)
  case atStart => exact ⟨0, by omega, rfl, by intro j hj; omega, Below.refl _ _⟩
  case round =>
    obtain ⟨k, hg, rfl, hb, hbr⟩ := hrel
    have Hbr := Lib.hid hbr; have Hb := Lib.hid hb
    by_cases hlt : k < n
    · obtain ⟨b, off, c0, c1, c2, c3, c4, c5, c6, c7, rfl, h0, h1, h2, h3, h4, h5, h6, h7, hC⟩ := HH.out k wr hlt hbr
      have hlti : (k : Int) < n := by omega
      clear hb hbr HH
      cases hp : pred k with
      | true =>
        rw [hp] at hC
        have HC := Lib.hid hC
        have Hr := Lib.hid (idxP_some hlt hp Hb.out)
        clear hC hp
        go_wp2_with fail
        refine HC.out.mono ?_
        rintro e w1 ⟨rfl, hbel⟩
        have Hb1 := Lib.hid (Hbr.out.trans (hbel.mono Hbr.out.size))
        clear hbel HC
        go_wp2_with fail
        go_ret
        exact ⟨ret_int Hr.out.symm, Hb1.out⟩
      | false =>
        rw [hp] at hC
        have HC := Lib.hid hC
        have Hr := Lib.hid (show ∀ j, j < k + 1 → pred j = false from fun j hj => by
          rcases Nat.lt_or_ge j k with h | h
          · exact Hb.out j h
          · obtain rfl : j = k := by omega
            exact hp)
        clear hC hp
        go_wp2_with fail
        refine HC.out.mono ?_
        rintro e w1 ⟨rfl, hbel⟩
        have Hb1 := Lib.hid (Hbr.out.trans (hbel.mono Hbr.out.size))
        clear hbel HC
        go_wp2_with fail
        go_roundg (gk - 1)
        case measure => omega
        case rel => exact ⟨k + 1, by omega, by go_num, Hr.out, Hb1.out⟩
    · obtain rfl : k = n := by omega
      have Hr := Lib.hid (idxP_none hb)
      clear hb hbr HH
      go_wp2_with fail
      go_ret
      exact ⟨ret_int Hr.out.symm, Hbr.out⟩
set_option maxRecDepth 100000 in
set_option maxHeartbeats 1000000 in
theorem idx_pair (n : Nat) (a : Option Addr) (cap cb : Nat) (caps : Array Value) (pred : Nat → Bool) (W : World) (hn : n ≤ 100000000) (hcb : ∀ args w, (callFunc cb args).run Tryz.prog w = .ok (.enter cb args) w)
    (H : ∀ (k : Nat) (W' : World), k < n → Below W.heap.size W W' → ∃ b off c0 c1 c2, a = some ⟨b, off, none⟩ ∧ W'.cell? ⟨b, off + k * 3, none⟩ = some c0 ∧ W'.cell? ⟨b, off + k * 3 + 1, none⟩ = some c1 ∧ W'.cell? ⟨b, off + k * 3 + 2, none⟩ = some c2 ∧ Calls Tryz.prog cb (#[.agg #[c0, c1, c2]] ++ caps) W' fun e w' => e = .returned (.bool (pred k)) ∧ Below W'.heap.size W' w') :
    Calls Tryz.prog 149 #[.slice a n cap, .func (.func cb) #[] caps] W fun e w' => e = .returned (.int .i64 (idxP pred n)) ∧ Below W.heap.size W w' := by
  have HH := Lib.hid H
  clear H
  go_enter Tryz.func149, Tryz.ntmps149
  go_wp2_with fail
  go_loopg [8] n (fun g i wr => ∃ k : Nat, k + g = n ∧ i = .int .i64 k ∧ (∀ j, j < k → pred j = false) ∧ Below W.heap.size W wr)
  case atStart => exact ⟨0, by omega, rfl, by intro j hj; omega, Below.refl _ _⟩
  case round =>
    obtain ⟨k, hg, rfl, hb, hbr⟩ := hrel
    have Hbr := Lib.hid hbr; have Hb := Lib.hid hb
    by_cases hlt : k < n
    · obtain ⟨b, off, c0, c1, c2, rfl, h0, h1, h2, hC⟩ := HH.out k wr hlt hbr
      have hlti : (k : Int) < n := by omega
      clear hb hbr HH
      cases hp : pred k with
      | true =>
        rw [hp] at hC
        have HC := Lib.hid hC
        have Hr := Lib.hid (idxP_some hlt hp Hb.out)
        clear hC hp
        go_wp2_with fail
        refine HC.out.mono ?_
        rintro e w1 ⟨rfl, hbel⟩
        have Hb1 := Lib.hid (Hbr.out.trans (hbel.mono Hbr.out.size))
        clear hbel HC
        go_wp2_with fail
        go_ret
        exact ⟨ret_int Hr.out.symm, Hb1.out⟩
      | false =>
        rw [hp] at hC
        have HC := Lib.hid hC
        have Hr := Lib.hid (show ∀ j, j < k + 1 → pred j = false from fun j hj => by
          rcases Nat.lt_or_ge j k with h | h
          · exact Hb.out j h
          · obtain rfl : j = k := by omega
            exact hp)
        clear hC hp
        go_wp2_with fail
        refine HC.out.mono ?_
        rintro e w1 ⟨rfl, hbel⟩
        have Hb1 := Lib.hid (Hbr.out.trans (hbel.mono Hbr.out.size))
        clear hbel HC
        go_wp2_with fail
        go_roundg (gk - 1)
        case measure => omega
        case rel => exact ⟨k + 1, by omega, by go_num, Hr.out, Hb1.out⟩
    · obtain rfl : k = n := by omega
      have Hr := Lib.hid (idxP_none hb)
      clear hb hbr HH
      go_wp2_with fail
      go_ret
      exact ⟨ret_int Hr.out.symm, Hbr.out⟩
set_option maxRecDepth 100000 in
set_option maxHeartbeats 1000000 in
theorem idx_act (n : Nat) (a : Option Addr) (cap cb : Nat) (caps : Array Value) (pred : Nat → Bool) (W : World) (hn : n ≤ 100000000) (hcb : ∀ args w, (callFunc cb args).run Tryz.prog w = .ok (.enter cb args) w)
    (H : ∀ (k : Nat) (W' : World), k < n → Below W.heap.size W W' → ∃ b off c0 c1, a = some ⟨b, off, none⟩ ∧ W'.cell? ⟨b, off + k * 2, none⟩ = some c0 ∧ W'.cell? ⟨b, off + k * 2 + 1, none⟩ = some c1 ∧ Calls Tryz.prog cb (#[.agg #[c0, c1]] ++ caps) W' fun e w' => e = .returned (.bool (pred k)) ∧ Below W'.heap.size W' w') :
    Calls Tryz.prog 159 #[.slice a n cap, .func (.func cb) #[] caps] W fun e w' => e = .returned (.int .i64 (idxP pred n)) ∧ Below W.heap.size W w' := by
  have HH := Lib.hid H
  clear H
  go_enter Tryz.func159, Tryz.ntmps159
  go_wp2_with fail
  go_loopg [8] n (fun g i wr => ∃ k : Nat, k + g = n ∧ i = .int .i64 k ∧ (∀ j, j < k → pred j = false) ∧ Below W.heap.size W wr)
  case atStart => exact ⟨0, by omega, rfl, by intro j hj; omega, Below.refl _ _⟩
  case round =>
    obtain ⟨k, hg, rfl, hb, hbr⟩ := hrel
    have Hbr := Lib.hid hbr; have Hb := Lib.hid hb
    by_cases hlt : k < n
    · obtain ⟨b, off, c0, c1, rfl, h0, h1, hC⟩ := HH.out k wr hlt hbr
      have hlti : (k : Int) < n := by omega
      clear hb hbr HH
      cases hp : pred k with
      | true =>
        rw [hp] at hC
        have HC := Lib.hid hC
        have Hr := Lib.hid (idxP_some hlt hp Hb.out)
        clear hC hp
        go_wp2_with fail
        refine HC.out.mono ?_
        rintro e w1 ⟨rfl, hbel⟩
        have Hb1 := Lib.hid (Hbr.out.trans (hbel.mono Hbr.out.size))
        clear hbel HC
        go_wp2_with fail
        go_ret
        exact ⟨ret_int Hr.out.symm, Hb1.out⟩
      | false =>
        rw [hp] at hC
        have HC := Lib.hid hC
        have Hr := Lib.hid (show ∀ j, j < k + 1 → pred j = false from fun j hj => by
          rcases Nat.lt_or_ge j k with h | h
          · exact Hb.out j h
          · obtain rfl : j = k := by omega
            exact hp)
        clear hC hp
        go_wp2_with fail
        refine HC.out.mono ?_
        rintro e w1 ⟨rfl, hbel⟩
        have Hb1 := Lib.hid (Hbr.out.trans (hbel.mono Hbr.out.size))
        clear hbel HC
        go_wp2_with fail
        go_roundg (gk - 1)
        case measure => omega
        case rel => exact ⟨k + 1, by omega, by go_num, Hr.out, Hb1.out⟩
    · obtain rfl : k = n := by omega
      have Hr := Lib.hid (idxP_none hb)
      clear hb hbr HH
      go_wp2_with fail
      go_ret
      exact ⟨ret_int Hr.out.symm, Hbr.out⟩
set_option maxRecDepth 100000 in
set_option maxHeartbeats 1000000 in
theorem idx_node (n : Nat) (a : Option Addr) (cap cb : Nat) (caps : Array Value) (pred : Nat → Bool) (W : World) (hn : n ≤ 100000000) (hcb : ∀ args w, (callFunc cb args).run Tryz.prog w = .ok (.enter cb args) w)
    (H : ∀ (k : Nat) (W' : World), k < n → Below W.heap.size W W' → ∃ b off c0 c1 c2 c3, a = some ⟨b, off, none⟩ ∧ W'.cell? ⟨b, off + k * 4, none⟩ = some c0 ∧ W'.cell? ⟨b, off + k * 4 + 1, none⟩ = some c1 ∧ W'.cell? ⟨b, off + k * 4 + 2, none⟩ = some c2 ∧ W'.cell? ⟨b, off + k * 4 + 3, none⟩ = some c3 ∧ Calls Tryz.prog cb (#[.agg #[c0, c1, c2, c3]] ++ caps) W' fun e w' => e = .returned (.bool (pred k)) ∧ Below W'.heap.size W' w') :
    Calls Tryz.prog 151 #[.slice a n cap, .func (.func cb) #[] caps] W fun e w' => e = .returned (.int .i64 (idxP pred n)) ∧ Below W.heap.size W w' := by
  have HH := Lib.hid H
  clear H
  go_enter Tryz.func151, Tryz.ntmps151
  go_wp2_with fail
  go_loopg [8] n (fun g i wr => ∃ k : Nat, k + g = n ∧ i = .int .i64 k ∧ (∀ j, j < k → pred j = false) ∧ Below W.heap.size W wr)
  case atStart => exact ⟨0, by omega, rfl, by intro j hj; omega, Below.refl _ _⟩
  case round =>
    obtain ⟨k, hg, rfl, hb, hbr⟩ := hrel
    have Hbr := Lib.hid hbr; have Hb := Lib.hid hb
    by_cases hlt : k < n
    · obtain ⟨b, off, c0, c1, c2, c3, rfl, h0, h1, h2, h3, hC⟩ := HH.out k wr hlt hbr
      have hlti : (k : Int) < n := by omega
      clear hb hbr HH
      cases hp : pred k with
      | true =>
        rw [hp] at hC
        have HC := Lib.hid hC
        have Hr := Lib.hid (idxP_some hlt hp Hb.out)
        clear hC hp
        go_wp2_with fail
        refine HC.out.mono ?_
        rintro e w1 ⟨rfl, hbel⟩
        have Hb1 := Lib.hid (Hbr.out.trans (hbel.mono Hbr.out.size))
        clear hbel HC
        go_wp2_with fail
        go_ret
        exact ⟨ret_int Hr.out.symm, Hb1.out⟩
      | false =>
        rw [hp] at hC
        have HC := Lib.hid hC
        have Hr := Lib.hid (show ∀ j, j < k + 1 → pred j = false from fun j hj => by
          rcases Nat.lt_or_ge j k with h | h
          · exact Hb.out j h
          · obtain rfl : j = k := by omega
            exact hp)
        clear hC hp
        go_wp2_with fail
        refine HC.out.mono ?_
        rintro e w1 ⟨rfl, hbel⟩
        have Hb1 := Lib.hid (Hbr.out.trans (hbel.mono Hbr.out.size))
        clear hbel HC
        go_wp2_with fail
        go_roundg (gk - 1)
        case measure => omega
        case rel => exact ⟨k + 1, by omega, by go_num, Hr.out, Hb1.out⟩
    · obtain rfl : k = n := by omega
      have Hr := Lib.hid (idxP_none hb)
      clear hb hbr HH
      go_wp2_with fail
      go_ret
      exact ⟨ret_int Hr.out.symm, Hbr.out⟩
set_option maxRecDepth 100000 in
set_option maxHeartbeats 1000000 in
theorem idx_prop (n : Nat) (a : Option Addr) (cap cb : Nat) (caps : Array Value) (pred : Nat → Bool) (W : World) (hn : n ≤ 100000000) (hcb : ∀ args w, (callFunc cb args).run Tryz.prog w = .ok (.enter cb args) w)
    (H : ∀ (k : Nat) (W' : World), k < n → Below W.heap.size W W' → ∃ b off c0 c1, a = some ⟨b, off, none⟩ ∧ W'.cell? ⟨b, off + k * 2, none⟩ = some c0 ∧ W'.cell? ⟨b, off + k * 2 + 1, none⟩ = some c1 ∧ Calls Tryz.prog cb (#[.agg #[c0, c1]] ++ caps) W' fun e w' => e = .returned (.bool (pred k)) ∧ Below W'.heap.size W' w') :
    Calls Tryz.prog 157 #[.slice a n cap, .func (.func cb) #[] caps] W fun e w' => e = .returned (.int .i64 (idxP pred n)) ∧ Below W.heap.size W w' := by
  have HH := Lib.hid H
  clear H
  go_enter Tryz.func157, Tryz.ntmps157
  go_wp2_with fail
  go_loopg [8] n (fun g i wr => ∃ k : Nat, k + g = n ∧ i = .int .i64 k ∧ (∀ j, j < k → pred j = false) ∧ Below W.heap.size W wr)
  case atStart => exact ⟨0, by omega, rfl, by intro j hj; omega, Below.refl _ _⟩
  case round =>
    obtain ⟨k, hg, rfl, hb, hbr⟩ := hrel
    have Hbr := Lib.hid hbr; have Hb := Lib.hid hb
    by_cases hlt : k < n
    · obtain ⟨b, off, c0, c1, rfl, h0, h1, hC⟩ := HH.out k wr hlt hbr
      have hlti : (k : Int) < n := by omega
      clear hb hbr HH
      cases hp : pred k with
      | true =>
        rw [hp] at hC
        have HC := Lib.hid hC
        have Hr := Lib.hid (idxP_some hlt hp Hb.out)
        clear hC hp
        go_wp2_with fail
        refine HC.out.mono ?_
        rintro e w1 ⟨rfl, hbel⟩
        have Hb1 := Lib.hid (Hbr.out.trans (hbel.mono Hbr.out.size))
        clear hbel HC
        go_wp2_with fail
        go_ret
        exact ⟨ret_int Hr.out.symm, Hb1.out⟩
      | false =>
        rw [hp] at hC
        have HC := Lib.hid hC
        have Hr := Lib.hid (show ∀ j, j < k + 1 → pred j = false from fun j hj => by
          rcases Nat.lt_or_ge j k with h | h
          · exact Hb.out j h
          · obtain rfl : j = k := by omega
            exact hp)
        clear hC hp
        go_wp2_with fail
        refine HC.out.mono ?_
        rintro e w1 ⟨rfl, hbel⟩
        have Hb1 := Lib.hid (Hbr.out.trans (hbel.mono Hbr.out.size))
        clear hbel HC
        go_wp2_with fail
        go_roundg (gk - 1)
        case measure => omega
        case rel => exact ⟨k + 1, by omega, by go_num, Hr.out, Hb1.out⟩
    · obtain rfl : k = n := by omega
      have Hr := Lib.hid (idxP_none hb)
      clear hb hbr HH
      go_wp2_with fail
      go_ret
      exact ⟨ret_int Hr.out.symm, Hbr.out⟩
end Go.Proofs.YtaopoincbigjhaaGreatDoor
/- Walks: the reference of glyph, but for its quoting. -/
namespace Go.Proofs.YtaopoincbigjhaaGreatDoor
open Go.RowKit Go.Redl
set_option linter.unusedVariables false

end Go.Proofs.YtaopoincbigjhaaGreatDoor
/- Walks: are properties the same. -/
namespace Go.Proofs.YtaopoincbigjhaaGreatDoor
open Go.RowKit Go.Redl
set_option linter.unusedVariables false

theorem str_ne {a b : List UInt8} (h : a ≠ b) : ((⟨a.toArray⟩ : ByteArray).toList == (⟨b.toArray⟩ : ByteArray).toList) = false := by
  rw [ByteArray.toList_mk, ByteArray.toList_mk]
  simpa using h
set_option maxRecDepth 100000 in
set_option maxHeartbeats 1000000 in
theorem equal_prop (a a' : Option Addr) (cap cap' B : Nat) (xs ys : List PropD) (w : World) (hr : RowA w B 2 a xs.length cap (propCells xs)) (hr' : RowA w B 2 a' ys.length cap' (propCells ys)) :
    Calls Tryz.prog 103 #[.slice a xs.length cap, .slice a' ys.length cap'] w fun e w' => e = .returned (.bool (decide (xs = ys))) ∧ Drawn w w' := by
  have hm : xs.length ≤ 9223372036854775807 := by have h1 := hr.le; have h2 := hr.max; unfold maxLen at h2; omega
  have hm' : ys.length ≤ 9223372036854775807 := by have h1 := hr'.le; have h2 := hr'.max; unfold maxLen at h2; omega
  by_cases hl : xs.length = ys.length
  · go_enter Tryz.func103, Tryz.ntmps103
    have hle : ys.length ≤ xs.length := by omega
    have hle' : xs.length ≤ ys.length := by omega
    have hne : (((xs.length : Nat) : Int) != (ys.length : Int)) = false := by simp [hl]
    have Hl := Lib.hid hl; clear hl
    go_wp2_with fail
    go_loopw [13] (fun i wr => ∃ k : Nat, k ≤ xs.length ∧ i = .int .i64 k ∧ SameTo xs ys k ∧ Drawn w wr) (fun i _ => xs.length - (intOf i).toNat)
    case atStart => exact ⟨0, Nat.zero_le _, rfl, sameTo_zero _ _, ⟨0, rfl⟩⟩
    case round =>
      obtain ⟨k, hk, rfl, hp, q, rfl⟩ := hrel
      have Hp := Lib.hid hp; clear hp
      by_cases hlt : k < xs.length
      · obtain ⟨b, off, rfl, hb, hc0, hc1⟩ := hr.prop_at k hlt
        obtain ⟨b', off', rfl, hb', hc0', hc1'⟩ := hr'.prop_at k (by omega)
        have hlt' : k < ys.length := by omega
        have Hx : Hid (xs[k] = (xs[k].1, xs[k].2)) := rfl
        have Hy : Hid (ys[k] = (ys[k].1, ys[k].2)) := rfl
        generalize hX1 : xs[k].1 = x1 at hc0 Hx
        generalize hX2 : xs[k].2 = x2 at hc1 Hx
        generalize hY1 : ys[k].1 = y1 at hc0' Hy
        generalize hY2 : ys[k].2 = y2 at hc1' Hy
        clear hX1 hX2 hY1 hY2
        go_wp2_with fail
        by_cases he : x1 = y1
        · subst he
          by_cases he : x2 = y2
          · subst he
            have He : Hid (xs[k] = ys[k]) := Hx.out.trans Hy.out.symm
            go_quiet (fail)
            go_wp2_with fail
            go_roundw
            case rel => exact ⟨k + 1, by omega, by go_num, sameTo_succ Hp.out hlt hlt' He.out, by first | exact drawn_one _ _ | exact drawn_two _ _ _⟩
            case measure => simp [intOf]; omega
          · have He : Hid (xs[k] ≠ ys[k]) := by
              show xs[k] ≠ ys[k]
              rw [Hx.out, Hy.out]
              intro e
              exact he (Prod.mk.inj e).2
            have h2 := str_ne he
            generalize (⟨x2.toArray⟩ : ByteArray) = X2 at h2 hc1
            generalize (⟨y2.toArray⟩ : ByteArray) = Y2 at h2 hc1'
            clear he Hx Hy
            go_quiet (fail)
            go_wp2_with fail
            go_ret
            exact ⟨ret_bool (by simp [same_not hlt hlt' He.out]), drawn_two _ _ _⟩
        · have He : Hid (xs[k] ≠ ys[k]) := by
            show xs[k] ≠ ys[k]
            rw [Hx.out, Hy.out]
            intro e
            exact he (Prod.mk.inj e).1
          have h2 := str_ne he
          generalize (⟨x1.toArray⟩ : ByteArray) = X1 at h2 hc0
          generalize (⟨y1.toArray⟩ : ByteArray) = Y1 at h2 hc0'
          clear he Hx Hy
          go_quiet (fail)
          go_wp2_with fail
          go_ret
          exact ⟨ret_bool (by simp [same_not hlt hlt' He.out]), drawn_two _ _ _⟩
      · go_wp2_with fail
        go_ret
        obtain rfl : k = xs.length := by omega
        exact ⟨ret_bool (by simp [sameTo_all Hp.out Hl.out]), drawn_one _ _⟩
  · have hne : (((xs.length : Nat) : Int) != (ys.length : Int)) = true := by simp; omega
    have Hl := Lib.hid hl; clear hl
    go_enter Tryz.func103, Tryz.ntmps103
    go_wp2_with fail
    go_ret
    exact ⟨ret_bool (by simp [show xs ≠ ys from fun h => Hl.out (by rw [h])]), drawn_zero _⟩
end Go.Proofs.YtaopoincbigjhaaGreatDoor
/- Boxes of any size; walks: prop.Get, node.Type, and the reference's. -/
namespace Go.Proofs.YtaopoincbigjhaaGreatDoor
open Go.RowKit Go.Redl
set_option linter.unusedVariables false

/-- A box: its cells. -/
def At (w : World) (N : Nat) (cs : List Value) (T : TypeId) : Prop := w.heap[N]? = some (.cells cs.toArray T (0, 0))
theorem At.fresh (W : World) (cs : List Value) (T : TypeId) : At (W.alloc (.cells cs.toArray T)) W.heap.size cs T := heap_alloc_new W _
theorem At.lt {w : World} {N : Nat} {cs : List Value} {T : TypeId} (h : At w N cs T) : N < w.heap.size := (Array.getElem?_eq_some_iff.1 h).1
theorem At.keep {w w' : World} {N : Nat} {cs : List Value} {T : TypeId} (h : At w N cs T) (hb : Below (N + 1) w w') : At w' N cs T := by
  unfold At; rw [hb.block N (by omega)]; exact h
theorem At.kept {w w' : World} {N : Nat} {cs : List Value} {T : TypeId} (h : At w N cs T) (hb : Below w.heap.size w w') : At w' N cs T := by
  unfold At; rw [hb.block N h.lt]; exact h
theorem At.alloc {w : World} {N : Nat} {cs : List Value} {T : TypeId} (h : At w N cs T) (o : Obj) : At (w.alloc o) N cs T := by
  unfold At; rw [Lib.alloc_old _ _ _ h.lt]; exact h
theorem At.cell {w : World} {N : Nat} {cs : List Value} {T : TypeId} (h : At w N cs T) (j : Nat) {v : Value} (hj : cs[j]? = some v) : w.cell? ⟨N, j, none⟩ = some v := by
  rw [cell_of_row _ _ _ _ _ _ h]; simpa using hj
theorem At.set_ne {w : World} {N b o : Nat} {cs : List Value} {T : TypeId} (h : At w N cs T) (hne : N ≠ b) (u : Value) : At (w.setCell ⟨b, o, none⟩ u) N cs T := by
  unfold At; rw [Below.heap_setCell _ _ _ _ hne]; exact h
theorem At.set {w : World} {N : Nat} {cs : List Value} {T : TypeId} (h : At w N cs T) (j : Nat) (u : Value) : At (w.setCell ⟨N, j, none⟩ u) N (cs.set j u) T := by
  have := Lib.heap_setCell_same (i := j) h u
  simpa [At] using this
theorem At.grown {w w' : World} {N : Nat} {cs : List Value} {T : TypeId} {r : Option Nat} (h : At w N cs T) (hg : w.grownBy w' r) (hr : r ≠ some N) : At w' N cs T := by
  unfold At; rw [hg.block N h.lt (fun e => hr e.symm)]; exact h
theorem At.f1 {w : World} {N : Nat} {c0 : Value} {T : TypeId} (h : At w N [c0] T) : (w.cell? ⟨N, 0, none⟩ = some c0) ∧ (∀ j, w.frozen? ⟨N, j, none⟩ = false) ∧ N < w.heap.size :=
  ⟨h.cell 0 rfl, fun j => Lib.frozen_of_heap h _, h.lt⟩
theorem At.f2 {w : World} {N : Nat} {c0 c1 : Value} {T : TypeId} (h : At w N [c0, c1] T) : (w.cell? ⟨N, 0, none⟩ = some c0 ∧ w.cell? ⟨N, 1, none⟩ = some c1) ∧ (∀ j, w.frozen? ⟨N, j, none⟩ = false) ∧ N < w.heap.size :=
  ⟨⟨h.cell 0 rfl, h.cell 1 rfl⟩, fun j => Lib.frozen_of_heap h _, h.lt⟩
theorem At.f3 {w : World} {N : Nat} {c0 c1 c2 : Value} {T : TypeId} (h : At w N [c0, c1, c2] T) : (w.cell? ⟨N, 0, none⟩ = some c0 ∧ w.cell? ⟨N, 1, none⟩ = some c1 ∧ w.cell? ⟨N, 2, none⟩ = some c2) ∧ (∀ j, w.frozen? ⟨N, j, none⟩ = false) ∧ N < w.heap.size :=
  ⟨⟨h.cell 0 rfl, h.cell 1 rfl, h.cell 2 rfl⟩, fun j => Lib.frozen_of_heap h _, h.lt⟩
theorem At.f4 {w : World} {N : Nat} {c0 c1 c2 c3 : Value} {T : TypeId} (h : At w N [c0, c1, c2, c3] T) : (w.cell? ⟨N, 0, none⟩ = some c0 ∧ w.cell? ⟨N, 1, none⟩ = some c1 ∧ w.cell? ⟨N, 2, none⟩ = some c2 ∧ w.cell? ⟨N, 3, none⟩ = some c3) ∧ (∀ j, w.frozen? ⟨N, j, none⟩ = false) ∧ N < w.heap.size :=
  ⟨⟨h.cell 0 rfl, h.cell 1 rfl, h.cell 2 rfl, h.cell 3 rfl⟩, fun j => Lib.frozen_of_heap h _, h.lt⟩
theorem At.f5 {w : World} {N : Nat} {c0 c1 c2 c3 c4 : Value} {T : TypeId} (h : At w N [c0, c1, c2, c3, c4] T) : (w.cell? ⟨N, 0, none⟩ = some c0 ∧ w.cell? ⟨N, 1, none⟩ = some c1 ∧ w.cell? ⟨N, 2, none⟩ = some c2 ∧ w.cell? ⟨N, 3, none⟩ = some c3 ∧ w.cell? ⟨N, 4, none⟩ = some c4) ∧ (∀ j, w.frozen? ⟨N, j, none⟩ = false) ∧ N < w.heap.size :=
  ⟨⟨h.cell 0 rfl, h.cell 1 rfl, h.cell 2 rfl, h.cell 3 rfl, h.cell 4 rfl⟩, fun j => Lib.frozen_of_heap h _, h.lt⟩
theorem At.f8 {w : World} {N : Nat} {c0 c1 c2 c3 c4 c5 c6 c7 : Value} {T : TypeId} (h : At w N [c0, c1, c2, c3, c4, c5, c6, c7] T) : (w.cell? ⟨N, 0, none⟩ = some c0 ∧ w.cell? ⟨N, 1, none⟩ = some c1 ∧ w.cell? ⟨N, 2, none⟩ = some c2 ∧ w.cell? ⟨N, 3, none⟩ = some c3 ∧ w.cell? ⟨N, 4, none⟩ = some c4 ∧ w.cell? ⟨N, 5, none⟩ = some c5 ∧ w.cell? ⟨N, 6, none⟩ = some c6 ∧ w.cell? ⟨N, 7, none⟩ = some c7) ∧ (∀ j, w.frozen? ⟨N, j, none⟩ = false) ∧ N < w.heap.size :=
  ⟨⟨h.cell 0 rfl, h.cell 1 rfl, h.cell 2 rfl, h.cell 3 rfl, h.cell 4 rfl, h.cell 5 rfl, h.cell 6 rfl, h.cell 7 rfl⟩, fun j => Lib.frozen_of_heap h _, h.lt⟩
theorem At.f12 {w : World} {N : Nat} {c0 c1 c2 c3 c4 c5 c6 c7 c8 c9 c10 c11 : Value} {T : TypeId} (h : At w N [c0, c1, c2, c3, c4, c5, c6, c7, c8, c9, c10, c11] T) : (w.cell? ⟨N, 0, none⟩ = some c0 ∧ w.cell? ⟨N, 1, none⟩ = some c1 ∧ w.cell? ⟨N, 2, none⟩ = some c2 ∧ w.cell? ⟨N, 3, none⟩ = some c3 ∧ w.cell? ⟨N, 4, none⟩ = some c4 ∧ w.cell? ⟨N, 5, none⟩ = some c5 ∧ w.cell? ⟨N, 6, none⟩ = some c6 ∧ w.cell? ⟨N, 7, none⟩ = some c7 ∧ w.cell? ⟨N, 8, none⟩ = some c8 ∧ w.cell? ⟨N, 9, none⟩ = some c9 ∧ w.cell? ⟨N, 10, none⟩ = some c10 ∧ w.cell? ⟨N, 11, none⟩ = some c11) ∧ (∀ j, w.frozen? ⟨N, j, none⟩ = false) ∧ N < w.heap.size :=
  ⟨⟨h.cell 0 rfl, h.cell 1 rfl, h.cell 2 rfl, h.cell 3 rfl, h.cell 4 rfl, h.cell 5 rfl, h.cell 6 rfl, h.cell 7 rfl, h.cell 8 rfl, h.cell 9 rfl, h.cell 10 rfl, h.cell 11 rfl⟩, fun j => Lib.frozen_of_heap h _, h.lt⟩
theorem At.f13 {w : World} {N : Nat} {c0 c1 c2 c3 c4 c5 c6 c7 c8 c9 c10 c11 c12 : Value} {T : TypeId} (h : At w N [c0, c1, c2, c3, c4, c5, c6, c7, c8, c9, c10, c11, c12] T) : (w.cell? ⟨N, 0, none⟩ = some c0 ∧ w.cell? ⟨N, 1, none⟩ = some c1 ∧ w.cell? ⟨N, 2, none⟩ = some c2 ∧ w.cell? ⟨N, 3, none⟩ = some c3 ∧ w.cell? ⟨N, 4, none⟩ = some c4 ∧ w.cell? ⟨N, 5, none⟩ = some c5 ∧ w.cell? ⟨N, 6, none⟩ = some c6 ∧ w.cell? ⟨N, 7, none⟩ = some c7 ∧ w.cell? ⟨N, 8, none⟩ = some c8 ∧ w.cell? ⟨N, 9, none⟩ = some c9 ∧ w.cell? ⟨N, 10, none⟩ = some c10 ∧ w.cell? ⟨N, 11, none⟩ = some c11 ∧ w.cell? ⟨N, 12, none⟩ = some c12) ∧ (∀ j, w.frozen? ⟨N, j, none⟩ = false) ∧ N < w.heap.size :=
  ⟨⟨h.cell 0 rfl, h.cell 1 rfl, h.cell 2 rfl, h.cell 3 rfl, h.cell 4 rfl, h.cell 5 rfl, h.cell 6 rfl, h.cell 7 rfl, h.cell 8 rfl, h.cell 9 rfl, h.cell 10 rfl, h.cell 11 rfl, h.cell 12 rfl⟩, fun j => Lib.frozen_of_heap h _, h.lt⟩
theorem At.f16 {w : World} {N : Nat} {c0 c1 c2 c3 c4 c5 c6 c7 c8 c9 c10 c11 c12 c13 c14 c15 : Value} {T : TypeId} (h : At w N [c0, c1, c2, c3, c4, c5, c6, c7, c8, c9, c10, c11, c12, c13, c14, c15] T) : (w.cell? ⟨N, 0, none⟩ = some c0 ∧ w.cell? ⟨N, 1, none⟩ = some c1 ∧ w.cell? ⟨N, 2, none⟩ = some c2 ∧ w.cell? ⟨N, 3, none⟩ = some c3 ∧ w.cell? ⟨N, 4, none⟩ = some c4 ∧ w.cell? ⟨N, 5, none⟩ = some c5 ∧ w.cell? ⟨N, 6, none⟩ = some c6 ∧ w.cell? ⟨N, 7, none⟩ = some c7 ∧ w.cell? ⟨N, 8, none⟩ = some c8 ∧ w.cell? ⟨N, 9, none⟩ = some c9 ∧ w.cell? ⟨N, 10, none⟩ = some c10 ∧ w.cell? ⟨N, 11, none⟩ = some c11 ∧ w.cell? ⟨N, 12, none⟩ = some c12 ∧ w.cell? ⟨N, 13, none⟩ = some c13 ∧ w.cell? ⟨N, 14, none⟩ = some c14 ∧ w.cell? ⟨N, 15, none⟩ = some c15) ∧ (∀ j, w.frozen? ⟨N, j, none⟩ = false) ∧ N < w.heap.size :=
  ⟨⟨h.cell 0 rfl, h.cell 1 rfl, h.cell 2 rfl, h.cell 3 rfl, h.cell 4 rfl, h.cell 5 rfl, h.cell 6 rfl, h.cell 7 rfl, h.cell 8 rfl, h.cell 9 rfl, h.cell 10 rfl, h.cell 11 rfl, h.cell 12 rfl, h.cell 13 rfl, h.cell 14 rfl, h.cell 15 rfl⟩, fun j => Lib.frozen_of_heap h _, h.lt⟩
theorem At.s2 {w : World} {N : Nat} {c0 c1 : Value} {T : TypeId} (h : At w N [c0, c1] T) (d0 d1 : Value) : At ((w.setCell ⟨N, 0, none⟩ d0).setCell ⟨N, 1, none⟩ d1) N [d0, d1] T := by
  have h0 : At (w.setCell ⟨N, 0, none⟩ d0) N [d0, c1] T := h.set 0 d0
  exact h0.set 1 d1
theorem At.n2 {w : World} {N M : Nat} {cs : List Value} {T : TypeId} (h : At w M cs T) (hne : M ≠ N) (d0 d1 : Value) : At ((w.setCell ⟨N, 0, none⟩ d0).setCell ⟨N, 1, none⟩ d1) M cs T :=
  (h.set_ne hne _).set_ne hne _
theorem below_s2 {B : Nat} {W w : World} {N : Nat} (h : Below B W w) (hN : B ≤ N) (d0 d1 : Value) : Below B W ((w.setCell ⟨N, 0, none⟩ d0).setCell ⟨N, 1, none⟩ d1) :=
  (h.setCell (p := ⟨N, 0, none⟩) hN _).setCell (p := ⟨N, 1, none⟩) hN _
theorem At.s3 {w : World} {N : Nat} {c0 c1 c2 : Value} {T : TypeId} (h : At w N [c0, c1, c2] T) (d0 d1 d2 : Value) : At (((w.setCell ⟨N, 0, none⟩ d0).setCell ⟨N, 1, none⟩ d1).setCell ⟨N, 2, none⟩ d2) N [d0, d1, d2] T := by
  have h0 : At (w.setCell ⟨N, 0, none⟩ d0) N [d0, c1, c2] T := h.set 0 d0
  have h1 : At ((w.setCell ⟨N, 0, none⟩ d0).setCell ⟨N, 1, none⟩ d1) N [d0, d1, c2] T := h0.set 1 d1
  exact h1.set 2 d2
theorem At.n3 {w : World} {N M : Nat} {cs : List Value} {T : TypeId} (h : At w M cs T) (hne : M ≠ N) (d0 d1 d2 : Value) : At (((w.setCell ⟨N, 0, none⟩ d0).setCell ⟨N, 1, none⟩ d1).setCell ⟨N, 2, none⟩ d2) M cs T :=
  ((h.set_ne hne _).set_ne hne _).set_ne hne _
theorem below_s3 {B : Nat} {W w : World} {N : Nat} (h : Below B W w) (hN : B ≤ N) (d0 d1 d2 : Value) : Below B W (((w.setCell ⟨N, 0, none⟩ d0).setCell ⟨N, 1, none⟩ d1).setCell ⟨N, 2, none⟩ d2) :=
  ((h.setCell (p := ⟨N, 0, none⟩) hN _).setCell (p := ⟨N, 1, none⟩) hN _).setCell (p := ⟨N, 2, none⟩) hN _
theorem At.s8 {w : World} {N : Nat} {c0 c1 c2 c3 c4 c5 c6 c7 : Value} {T : TypeId} (h : At w N [c0, c1, c2, c3, c4, c5, c6, c7] T) (d0 d1 d2 d3 d4 d5 d6 d7 : Value) : At ((((((((w.setCell ⟨N, 0, none⟩ d0).setCell ⟨N, 1, none⟩ d1).setCell ⟨N, 2, none⟩ d2).setCell ⟨N, 3, none⟩ d3).setCell ⟨N, 4, none⟩ d4).setCell ⟨N, 5, none⟩ d5).setCell ⟨N, 6, none⟩ d6).setCell ⟨N, 7, none⟩ d7) N [d0, d1, d2, d3, d4, d5, d6, d7] T := by
  have h0 : At (w.setCell ⟨N, 0, none⟩ d0) N [d0, c1, c2, c3, c4, c5, c6, c7] T := h.set 0 d0
  have h1 : At ((w.setCell ⟨N, 0, none⟩ d0).setCell ⟨N, 1, none⟩ d1) N [d0, d1, c2, c3, c4, c5, c6, c7] T := h0.set 1 d1
  have h2 : At (((w.setCell ⟨N, 0, none⟩ d0).setCell ⟨N, 1, none⟩ d1).setCell ⟨N, 2, none⟩ d2) N [d0, d1, d2, c3, c4, c5, c6, c7] T := h1.set 2 d2
  have h3 : At ((((w.setCell ⟨N, 0, none⟩ d0).setCell ⟨N, 1, none⟩ d1).setCell ⟨N, 2, none⟩ d2).setCell ⟨N, 3, none⟩ d3) N [d0, d1, d2, d3, c4, c5, c6, c7] T := h2.set 3 d3
  have h4 : At (((((w.setCell ⟨N, 0, none⟩ d0).setCell ⟨N, 1, none⟩ d1).setCell ⟨N, 2, none⟩ d2).setCell ⟨N, 3, none⟩ d3).setCell ⟨N, 4, none⟩ d4) N [d0, d1, d2, d3, d4, c5, c6, c7] T := h3.set 4 d4
  have h5 : At ((((((w.setCell ⟨N, 0, none⟩ d0).setCell ⟨N, 1, none⟩ d1).setCell ⟨N, 2, none⟩ d2).setCell ⟨N, 3, none⟩ d3).setCell ⟨N, 4, none⟩ d4).setCell ⟨N, 5, none⟩ d5) N [d0, d1, d2, d3, d4, d5, c6, c7] T := h4.set 5 d5
  have h6 : At (((((((w.setCell ⟨N, 0, none⟩ d0).setCell ⟨N, 1, none⟩ d1).setCell ⟨N, 2, none⟩ d2).setCell ⟨N, 3, none⟩ d3).setCell ⟨N, 4, none⟩ d4).setCell ⟨N, 5, none⟩ d5).setCell ⟨N, 6, none⟩ d6) N [d0, d1, d2, d3, d4, d5, d6, c7] T := h5.set 6 d6
  exact h6.set 7 d7
theorem At.n8 {w : World} {N M : Nat} {cs : List Value} {T : TypeId} (h : At w M cs T) (hne : M ≠ N) (d0 d1 d2 d3 d4 d5 d6 d7 : Value) : At ((((((((w.setCell ⟨N, 0, none⟩ d0).setCell ⟨N, 1, none⟩ d1).setCell ⟨N, 2, none⟩ d2).setCell ⟨N, 3, none⟩ d3).setCell ⟨N, 4, none⟩ d4).setCell ⟨N, 5, none⟩ d5).setCell ⟨N, 6, none⟩ d6).setCell ⟨N, 7, none⟩ d7) M cs T :=
  (((((((h.set_ne hne _).set_ne hne _).set_ne hne _).set_ne hne _).set_ne hne _).set_ne hne _).set_ne hne _).set_ne hne _
theorem below_s8 {B : Nat} {W w : World} {N : Nat} (h : Below B W w) (hN : B ≤ N) (d0 d1 d2 d3 d4 d5 d6 d7 : Value) : Below B W ((((((((w.setCell ⟨N, 0, none⟩ d0).setCell ⟨N, 1, none⟩ d1).setCell ⟨N, 2, none⟩ d2).setCell ⟨N, 3, none⟩ d3).setCell ⟨N, 4, none⟩ d4).setCell ⟨N, 5, none⟩ d5).setCell ⟨N, 6, none⟩ d6).setCell ⟨N, 7, none⟩ d7) :=
  (((((((h.setCell (p := ⟨N, 0, none⟩) hN _).setCell (p := ⟨N, 1, none⟩) hN _).setCell (p := ⟨N, 2, none⟩) hN _).setCell (p := ⟨N, 3, none⟩) hN _).setCell (p := ⟨N, 4, none⟩) hN _).setCell (p := ⟨N, 5, none⟩) hN _).setCell (p := ⟨N, 6, none⟩) hN _).setCell (p := ⟨N, 7, none⟩) hN _
theorem rowq_s8 {w : World} {ok : Nat → Prop} {sz n cap N : Nat} {a : Option Addr} {cs : List Value} (h : RowQ w ok sz a n cap cs) (hne : ¬ ok N) (d0 d1 d2 d3 d4 d5 d6 d7 : Value) : RowQ ((((((((w.setCell ⟨N, 0, none⟩ d0).setCell ⟨N, 1, none⟩ d1).setCell ⟨N, 2, none⟩ d2).setCell ⟨N, 3, none⟩ d3).setCell ⟨N, 4, none⟩ d4).setCell ⟨N, 5, none⟩ d5).setCell ⟨N, 6, none⟩ d6).setCell ⟨N, 7, none⟩ d7) ok sz a n cap cs :=
  rowq_set (rowq_set (rowq_set (rowq_set (rowq_set (rowq_set (rowq_set (rowq_set h hne) hne) hne) hne) hne) hne) hne) hne
theorem str_eqb (a b : List UInt8) : ((⟨a.toArray⟩ : ByteArray).toList == (⟨b.toArray⟩ : ByteArray).toList) = decide (a = b) := by
  by_cases h : a = b
  · subst h; simp
  · rw [str_ne h]; simp [h]
theorem beq_dec (a b : List UInt8) : (a == b) = decide (a = b) := by by_cases h : a = b <;> simp [h]
theorem one_below (W : World) (o : Obj) : Below W.heap.size W (W.alloc o) := (Below.refl _ _).alloc (Nat.le_refl _) o
set_option maxRecDepth 100000 in
theorem pget1_c (K V k : List UInt8) (N : Nat) (W : World) (hN : W.cell? ⟨N, 0, none⟩ = some (strV k)) :
    Calls Tryz.prog 158 #[.agg #[strV K, strV V], .pointer (some ⟨N, 0, none⟩)] W fun e w' => e = .returned (.bool (decide (K = k))) ∧ Below W.heap.size W w' := by
  have hlt := World.block_lt_of_cell? W _ hN
  have Hb := Lib.hid (one_below W (Obj.cells #[strV K, strV V] 127))
  go_enter Tryz.func158, Tryz.ntmps158
  go_wp2_with fail
  go_ret
  exact ⟨ret_bool (beq_dec _ _), Hb.out⟩
theorem pget1_ent : ∀ args w, (callFunc 158 args).run Tryz.prog w = .ok (.enter 158 args) w := by intro args w; kernel_rfl
theorem getP_some {ps : List PropD} {k : List UInt8} {j : Nat} (hj : j < ps.length) (h : ps[j].1 = k) (hb : ∀ i (hi : i < j), (ps[i]'(by omega)).1 ≠ k) : getP ps k = some ps[j].2 := by
  unfold getP
  rw [find_idx (q := fun p => decide (p.1 = k)) hj (by simpa using h) (fun i hi => by simpa using hb i hi)]
  rfl
theorem getP_none {ps : List PropD} {k : List UInt8} (hb : ∀ i (hi : i < ps.length), ps[i].1 ≠ k) : getP ps k = none := by
  unfold getP
  rw [find_none (fun i hi => by simpa using hb i hi)]
  rfl
/-- What a look-up answers. -/
def GetPP (W : World) (ps : List PropD) (k : List UInt8) (e : Ending) (w' : World) : Prop := e = .returned (.tuple #[strV ((getP ps k).getD []), .bool (getP ps k).isSome]) ∧ Below W.heap.size W w'
set_option maxRecDepth 100000 in
set_option maxHeartbeats 1000000 in
theorem pget_c (ps : List PropD) (a : Option Addr) (cap : Nat) (k : List UInt8) (W : World) (hr : RowA W W.heap.size 2 a ps.length cap (propCells ps)) (hn : ps.length ≤ 100000000) :
    Calls Tryz.prog 97 #[.slice a ps.length cap, strV k] W (GetPP W ps k) := by
  have hb0 := one_below W (Obj.cells #[strV k] 9)
  have hk0 := At.fresh W [strV k] 9
  have hr0 := hr.keep hb0 hb0.size
  have HI := Lib.hid (idx_prop ps.length a cap 158 #[.pointer (some ⟨W.heap.size, 0, none⟩)] (fun j => decide ((ps.getD j ([], [])).1 = k)) (W.alloc (Obj.cells #[strV k] 9)) hn pget1_ent (fun j W' hj hb => by
    obtain ⟨b, off, ha, -, h0, h1⟩ := (hr0.keep hb hb.size).prop_at j hj
    refine ⟨b, off, _, _, ha, h0, h1, ?_⟩
    have hg : ps.getD j ([], []) = ps[j] := by simp [List.getD, List.getElem?_eq_getElem hj]
    rw [hg]
    exact pget1_c ps[j].1 ps[j].2 k W.heap.size W' ((hk0.kept hb).cell 0 rfl)))
  have Hr := Lib.hid hr0; have Hb0 := Lib.hid hb0
  have hgd : ∀ j (hj : j < ps.length), ps.getD j ([], []) = ps[j] := fun j hj => by simp [List.getD, List.getElem?_eq_getElem hj]
  rcases idxP_cases (fun j => decide ((ps.getD j ([], [])).1 = k)) ps.length with ⟨j, hj, hp, hmin, he⟩ | ⟨hall, he⟩
  · rw [he] at HI
    have HG := Lib.hid (getP_some (ps := ps) (k := k) hj (by have h := of_decide_eq_true hp; rw [hgd j hj] at h; exact h) (fun i hi => by have h := of_decide_eq_false (hmin i hi); rw [hgd i (by omega)] at h; exact h))
    have hji : (j : Int) < ps.length := by omega
    clear he hmin hp hr hr0 hb0 hk0
    go_enter Tryz.func97, Tryz.ntmps97
    go_wp2_with fail
    refine HI.out.mono ?_
    rintro e w1 ⟨rfl, hbel⟩
    obtain ⟨b, off, rfl, -, h0, h1⟩ := (Hr.out.keep hbel hbel.size).prop_at j hj
    have Hb1 := Lib.hid (Hb0.out.trans (hbel.mono Hb0.out.size))
    generalize ps[j] = q at h0 h1 HG
    clear hbel HI
    go_wp2_with fail
    go_ret2
    unfold GetPP
    rw [HG.out]
    exact ⟨rfl, Hb1.out⟩
  · rw [he] at HI
    have HG := Lib.hid (getP_none (ps := ps) (k := k) (fun i hi => by have h := of_decide_eq_false (hall i hi); rw [hgd i hi] at h; exact h))
    clear he hall hr hr0 hb0 hk0
    go_enter Tryz.func97, Tryz.ntmps97
    go_wp2_with fail
    refine HI.out.mono ?_
    rintro e w1 ⟨rfl, hbel⟩
    have Hb1 := Lib.hid (Hb0.out.trans (hbel.mono Hb0.out.size))
    clear hbel HI
    go_wp2_with fail
    go_ret2
    unfold GetPP
    rw [HG.out]
    exact ⟨rfl, Hb1.out⟩
end Go.Proofs.YtaopoincbigjhaaGreatDoor
/- Plain words: rows of paths that may be rewritten in place. -/
namespace Go.Proofs.YtaopoincbigjhaaGreatDoor
open Go.RowKit Go.Redl
set_option linter.unusedVariables false

theorem grown_of_below {w w1 : World} {r : Option Nat} (h : Below w.heap.size w w1) : w.grownBy w1 r := ⟨h.os, h.tape, h.output, h.size, fun i hi _ => h.block i hi⟩
theorem _root_.Go.World.grownBy.then {w w1 w2 : World} {r : Option Nat} (h : w.grownBy w1 r) (k : Below w1.heap.size w1 w2) : w.grownBy w2 r := h.trans (grown_of_below k)
theorem _root_.Go.World.grownBy.set {w w1 : World} {b : Nat} (h : w.grownBy w1 (some b)) (o : Nat) (u : Value) : w.grownBy (w1.setCell ⟨b, o, none⟩ u) (some b) :=
  h.trans ⟨rfl, rfl, rfl, by simp [World.setCell], fun i _ hne => Below.heap_setCell w1 ⟨b, o, none⟩ u i (by intro e; exact hne (by rw [e]))⟩
theorem _root_.Go.World.grownBy.old {w w1 : World} {r : Option Nat} (h : w.grownBy w1 r) {M : Nat} (hM : M ≤ w.heap.size) (hr : ∀ k, r = some k → M ≤ k) : Below M w w1 :=
  (Below.refl M w).grown h hM hr
theorem below_and {w0 w w1 : World} (h : Below w0.heap.size w0 w) (h1 : Below w.heap.size w w1) : Below w0.heap.size w0 w1 := h.trans (h1.mono h.size)
theorem rowq_imp {w : World} {ok ok' : Nat → Prop} {sz n cap : Nat} {a : Option Addr} {cs : List Value} (h : RowQ w ok sz a n cap cs) (f : ∀ b, ok b → ok' b) : RowQ w ok' sz a n cap cs := h.keep (Nat.le_refl _) (fun _ _ _ => rfl) (fun b hb _ => f b hb)
theorem rowq_since {w w' : World} {ok : Nat → Prop} {sz n cap : Nat} {a : Option Addr} {cs : List Value} (h : RowQ w ok sz a n cap cs) (hb : Below w.heap.size w w') : RowQ w' ok sz a n cap cs := h.keep hb.size (fun b _ hlt => hb.block b hlt) (fun _ h _ => h)
/-- A path with where it lies. -/
abbrev PX := List Int × Option Addr × Nat
def pxV (x : PX) : Value := .slice x.2.1 x.1.length x.2.2
abbrev PxQ (w : World) (ok : Nat → Prop) (x : PX) : Prop := PathQ w ok x.2.1 x.2.2 x.1
/-- A row of paths: it lies in no block ahead of M, what its paths lead to in none ahead of L, nor in the row's own. -/
structure RowX (w : World) (M L : Nat) (v : Value) (xs : List PX) : Prop where
  own : w.ownsRow M 36 1 v xs.length (xs.map pxV)
  all : ∀ x ∈ xs, PxQ w (fun b => L ≤ b ∧ v.ownBlock ≠ some b) x
theorem RowX.nil (w : World) (M L : Nat) : RowX w M L (.slice none 0 0) [] := ⟨World.ownsRow_nil _ _ _ _, by simp⟩
/-- It is nil, or lies in a block. -/
theorem RowX.open {w : World} {M L : Nat} {v : Value} {xs : List PX} (h : RowX w M L v xs) :
    v = .slice none 0 0 ∧ xs = [] ∨ ∃ b cap tl, v = .slice (some ⟨b, 0, none⟩) xs.length cap ∧ M ≤ b ∧ At w b (xs.map pxV ++ tl) 36 ∧ xs.length + tl.length = cap ∧ cap ≤ maxLen := by
  obtain ⟨hl, h2⟩ := h.own
  rcases h2 with ⟨rfl, h0⟩ | ⟨g, cap, cur, rfl, hb, hg, hnc, hcm, hcs, htake⟩
  · exact .inl ⟨rfl, List.eq_nil_of_length_eq_zero h0⟩
  · refine .inr ⟨g, cap, cur.toList.drop xs.length, rfl, hb, ?_, ?_, hcm⟩
    · rw [Nat.mul_one] at htake
      rw [← htake, List.take_append_drop]
      simpa [At] using hg
    · simp; omega
theorem PxQ.grown {w w' : World} {b L : Nat} {x : PX} (h : PxQ w (fun k => L ≤ k ∧ k ≠ b) x) (hg : w.grownBy w' (some b)) : PxQ w' (fun k => L ≤ k ∧ k ≠ b) x :=
  RowQ.keep h hg.size (fun k hk hlt => hg.block k hlt (fun e => hk.2 (Option.some.inj e))) (fun _ h _ => h)
theorem RowX.below {w w' : World} {M L : Nat} {v : Value} {xs : List PX} (h : RowX w M L v xs) (hb : Below w.heap.size w w') : RowX w' M L v xs :=
  ⟨own_keep h.own hb, fun x hx => rowq_since (h.all x hx) hb⟩
theorem RowX.form {w : World} {M L : Nat} {v : Value} {xs : List PX} (h : RowX w M L v xs) : ∃ a c, v = .slice a xs.length c := by
  rcases h.open with ⟨rfl, rfl⟩ | ⟨b, cap, tl, rfl, -⟩
  · exact ⟨none, 0, rfl⟩
  · exact ⟨_, _, rfl⟩
theorem RowX.ge {w : World} {M L : Nat} {v : Value} {xs : List PX} (h : RowX w M L v xs) : ∀ k, v.ownBlock = some k → M ≤ k := fun k hk => (h.own.lt k hk).1
/-- It may be said to lie further down. -/
theorem RowX.from {w : World} {M L M' L' : Nat} {v : Value} {xs : List PX} (h : RowX w M L v xs) (hM : M' ≤ M) (hL : L' ≤ L) : RowX w M' L' v xs := by
  refine ⟨?_, fun x hx => rowq_imp (h.all x hx) fun k hk => ⟨by omega, hk.2⟩⟩
  obtain ⟨hl, h2⟩ := h.own
  exact ⟨hl, h2.imp id fun ⟨g, cap, cur, hv, hb, hr⟩ => ⟨g, cap, cur, hv, by omega, hr⟩⟩
end Go.Proofs.YtaopoincbigjhaaGreatDoor
/- Plain words: copy, and cells put, in rows whose elements have several cells. -/
namespace Go.Proofs.YtaopoincbigjhaaGreatDoor
open Go.RowKit Go.Redl Go.Lib
set_option linter.unusedVariables false
set_option linter.unusedSimpArgs false

theorem run_copy_k {P : Program} (w : World) (dT sT ty elem : TypeId) (k b o dLen dCap : Nat) (a : Addr) (sLen sCap : Nat) (cs : List Value)
    (hu : P.underlying dT = some (.slice elem)) (hs : (P.info? elem).map (·.size) = some k) (hn : cs.length = Nat.min sLen dLen * k)
    (hsrc : ∀ j v, cs[j]? = some v → w.cell? (a.add j) = some v) (hc : ∀ j, j < cs.length → (w.cell? ⟨b, o + j, none⟩).isSome = true) (hf : ∀ j, j < cs.length → w.frozen? ⟨b, o + j, none⟩ = false) (h1 : ∀ v ∈ cs, v.oneCell' = true) :
    (Builtin.copy_ #[dT, sT] ty #[.slice (some ⟨b, o, none⟩) dLen dCap, .slice (some a) sLen sCap]).run P w = .ok (goInt (Nat.min sLen dLen)) (w.setCells b o cs) := by
  have hl := run_loadCells_list (P := P) w a cs hsrc
  have hst := run_storeCells_cells (P := P) b o cs 0 w (by simpa using hc) (by simpa using hf) h1
  cases hq : P.info? elem with
  | none => simp [hq] at hs
  | some i =>
    have hi : i.size = k := by simpa [hq] using hs
    simp [Builtin.copy_, run_underlying hu, Builtin.lenOf, Builtin.firstCells, sizeOf, typeInfo, hq, hi, ← hn, hl, hst]
theorem step_copy_k {P : Program} {ops : Array Oper} {o : Oper} {a : Act} {w : World} {K : Act → World → Prop} {Q : Exit → Act → World → Prop} {E : Prop}
    (hg : o.guard = none) (d x : Operand) (dT sT : TypeId) (hop : o.op = Op.call { callee := Callee.builtin Builtin.copy, args := #[d, x], argTypes := #[dT, sT] })
    (v u : Value) (hd : a.eval d = v) (hx : a.eval x = u) {v' : Value} {w' : World} (hr : (Builtin.copy_ #[dT, sT] o.type #[v, u]).run P w = .ok v' w') (hK : K (a.put o.dst v') w') :
    if Region.wanted o (yielded ops a.tmps) = true then Oper.wp P o a w K Q else E := by
  have hw : Region.wanted o (yielded ops a.tmps) = true := by simp [Region.wanted, hg]
  rw [if_pos hw]
  unfold Oper.wp
  simp [execOp, hop, resolve, invoke, builtin, hd, hx, hr, Result.andThen]
  exact hK
theorem isSome_setCells (b : Nat) (vs : List Value) (o : Nat) (w : World) (h : ∀ j, j < vs.length → (w.cell? ⟨b, o + j, none⟩).isSome = true) (k : Nat) (hk : (w.cell? ⟨b, k, none⟩).isSome = true) : ((w.setCells b o vs).cell? ⟨b, k, none⟩).isSome = true := by
  by_cases hin : o ≤ k ∧ k < o + vs.length
  · have := World.cell?_setCells_in b vs o w h (k - o) (by omega)
    rw [show o + (k - o) = k by omega] at this
    rw [this]; rfl
  · rw [World.cell?_setCells_out b vs o w ⟨b, k, none⟩ (fun _ _ => by show k < o ∨ o + vs.length ≤ k; omega)]
    exact hk
/-- Cells put into a block of plain cells. -/
theorem heap_setCells (b : Nat) : ∀ (vs : List Value) (o : Nat) (w : World) (cur : Array Value) (e : TypeId) (f : Nat × Nat), w.heap[b]? = some (.cells cur e f) → o + vs.length ≤ cur.size →
    ∃ cur', (w.setCells b o vs).heap[b]? = some (.cells cur' e f) ∧ cur'.size = cur.size ∧ cur'.toList = cur.toList.take o ++ vs ++ cur.toList.drop (o + vs.length)
  | [], o, w, cur, e, f, h, hl => ⟨cur, h, rfl, by simp⟩
  | v :: vs, o, w, cur, e, f, h, hl => by
    simp only [List.length_cons] at hl
    have h1 : (w.setCell ⟨b, o, none⟩ v).heap[b]? = some (.cells (cur.setIfInBounds o v) e f) := by
      simp [World.setCell, Array.getElem?_modify, h]
    obtain ⟨cur', g1, g2, g3⟩ := heap_setCells b vs (o + 1) (w.setCell ⟨b, o, none⟩ v) (cur.setIfInBounds o v) e f h1 (by simp; omega)
    refine ⟨cur', g1, by rw [g2]; simp, ?_⟩
    have ho : o < cur.toList.length := by simp; omega
    rw [g3, Array.toList_setIfInBounds, List.take_succ_eq_append_getElem (by simpa using ho), List.getElem_set_self, List.take_set_of_le (Nat.le_refl _), List.drop_set_of_lt (by omega)]
    simp
    omega
theorem grown_setCells {b : Nat} : ∀ (vs : List Value) (o : Nat) (w : World), w.grownBy (w.setCells b o vs) (some b)
  | [], o, w => World.grownBy.refl _ _
  | v :: vs, o, w => ((World.grownBy.refl w (some b)).set o v).trans (grown_setCells vs (o + 1) _)
end Go.Proofs.YtaopoincbigjhaaGreatDoor
