/- Walks: slices.Concat at paths; IndexFunc at each row; fix.under. -/
import Derived.Test.YtiinmgccjlmoaaaRHA
import Derived.Test.YtiinmgccjlmoaaaRG1
import Derived.Test.YtiinmgccjlmoaaaRCR
namespace Go.Proofs.Ytiinmgccjlmoaaa
open Go.RowKit Go.Redl
set_option linter.unusedVariables false

set_option maxHeartbeats 400000 in
theorem grow_int (m : Nat) (w : World) (hm : m ≤ 1000000) :
    Calls Try.prog 122 #[.slice none 0 0, .int .i64 m] w (MadeRow w 3 1 0 []) := by
  by_cases h0 : m = 0
  · subst h0
    go_enter Try.func122, Try.ntmps122
    go_wp2_with fail
    go_ret
    exact ⟨_, rfl, World.ownsRow_nil _ _ _ _, Below.refl _ _⟩
  · have hpos : 0 < m := by omega
    go_enter Try.func122, Try.ntmps122
    go_wp2_with (at_builtin; refine wpList_nil_zeros rfl _ _ 36 3 rfl 3 (.int .i64 0) 1 8 Try.underlying36 Try.underlying3 info_int rfl (by decide) m hpos rfl rfl ?h63 ?hb ?_)
    case h63 => omega
    case hb => omega
    intro g cap w1 hown hcap hcm hb
    have Ho := Lib.hid hown; have Hb := Lib.hid hb; clear hown hb
    unfold maxLen at hcm
    go_wp2_with fail
    go_ret
    exact ⟨_, rfl, Ho.out, Hb.out⟩

set_option maxRecDepth 100000 in
set_option maxHeartbeats 400000 in
theorem concat_int (a : Option Addr) (cap B : Nat) (vals : List Value) (pss : List (List Value)) (w : World) (hr : RowA w B 1 a vals.length cap vals) (hp : Parts w B vals pss)
    (hB : B ≤ w.heap.size) (hn : pss.flatten.length ≤ 1000000) :
    Calls Try.prog 92 #[.slice a vals.length cap] w (MadeRow w 3 1 pss.flatten.length pss.flatten) := by
  have hm : vals.length ≤ 9223372036854775807 := by have h1 := hr.le; have h2 := hr.max; unfold maxLen at h2; omega
  have Hn := Lib.hid hp.len
  go_enter Try.func92, Try.ntmps92
  go_wp2_with fail
  go_loop [3, 11] (fun s i => ∃ k : Nat, k ≤ vals.length ∧ i = .int .i64 k ∧ s = .int .i64 (tot pss k)) (fun _ i => vals.length - (intOf i).toNat)
  case atStart => exact ⟨0, Nat.zero_le _, rfl, by rw [tot_zero]; rfl⟩
  case round =>
    obtain ⟨k, hk, rfl, rfl⟩ := hrel
    have ht := tot_le pss k
    by_cases hlt : k < vals.length
    · have hlt' : k < pss.length := by rw [← Hn.out]; exact hlt
      have hs := tot_succ pss k hlt'
      have ht' := tot_le pss (k + 1)
      obtain ⟨pa, pc, hv, hpr⟩ := hp.each k hlt'
      obtain ⟨b, off, rfl, hb, hall⟩ := hr.some_ (by rintro rfl; simp at hlt)
      have hcell := hall k _ hv
      clear hall
      obtain ⟨ps, hps⟩ : ∃ ps, pss.getD k [] = ps := ⟨_, rfl⟩
      rw [hps] at hs hv hcell hpr
      have hsum : (tot pss k : Int) + (ps.length : Int) ≤ 1000000 := by omega
      have Hs := Lib.hid hs; have Hv := Lib.hid hv; have Hp := Lib.hid hps
      clear hs hv hps
      go_wp2_with fail
      go_round
      case rel => exact ⟨k + 1, by omega, by go_num, by rw [Hs.out]; go_num⟩
      case measure => simp [intOf]; omega
    · have : k = vals.length := by omega
      subst this
      have H := Lib.hid (grow_int (tot pss vals.length) w (by omega))
      go_wp2_with fail
      refine H.out.mono ?_
      rintro e w1 ⟨v, rfl, hown, hbel⟩
      have Ho := Lib.hid hown; have Hb := Lib.hid hbel
      clear hown hbel H
      go_wp2_with fail
      go_loopw [6, 27] (fun v i wr => ∃ k : Nat, k ≤ vals.length ∧ i = .int .i64 k ∧ wr.ownsRow w.heap.size 3 1 v (tot pss k) (pss.take k).flatten ∧ Below w.heap.size w wr) (fun _ i _ => vals.length - (intOf i).toNat)
      case atStart => exact ⟨0, Nat.zero_le _, rfl, by rw [tot_zero]; simpa using Ho.out, Hb.out⟩
      case round =>
        obtain ⟨k, hk, rfl, hown, hbel⟩ := hrel
        clear Ho Hb
        have ht := tot_le pss k
        have Ho := Lib.hid hown; have Hb := Lib.hid hbel
        clear hown hbel
        by_cases hlt : k < vals.length
        · have hlt' : k < pss.length := by rw [← Hn.out]; exact hlt
          have hs := tot_succ pss k hlt'
          have ht' := tot_le pss (k + 1)
          have hr2 := hr.keep (Hb.out.mono hB) (Nat.le_refl _)
          have hp2 := hp.keep (Hb.out.mono hB) (Nat.le_refl _)
          obtain ⟨pa, pc, hv, hpr⟩ := hp2.each k hlt'
          obtain ⟨b, off, rfl, hb, hall⟩ := hr2.some_ (by rintro rfl; simp at hlt)
          have hcell := hall k _ hv
          clear hall
          have hfl := flat_succ pss k hlt'
          obtain ⟨ps, hps⟩ : ∃ ps, pss.getD k [] = ps := ⟨_, rfl⟩
          rw [hps] at hs hv hcell hpr hfl
          have hsum : (tot pss k : Int) + (ps.length : Int) ≤ 1000000 := by omega
          have Hs := Lib.hid hs; have Hv := Lib.hid hv; have Hp := Lib.hid hps; have Hf := Lib.hid hfl
          clear hs hv hps hfl
          go_wp2_with (at_builtin; refine wpList_app rfl _ _ 36 rfl w.heap.size 3 (.int .i64 0) 1 8 Try.underlying36 info_int rfl (by decide) _ _ _ rfl Ho.out _ ps.length pc B ps rfl hpr ?h63 ?hb ?hbase ?_)
          case h63 => unfold maxLen; omega
          case hb => omega
          case hbase => exact Hb.out.size
          intro v' w2 hown' hgrow
          rw [← Hs.out, ← Hf.out] at hown'
          have hbel' := Hb.out.grown hgrow Hb.out.size (fun k hk => (Ho.out.lt k hk).1)
          have Ho' := Lib.hid hown'; have Hb' := Lib.hid hbel'
          clear hown' hgrow hbel'
          go_wp2_with fail
          go_roundw
          case rel => exact ⟨k + 1, by omega, by go_num, Ho'.out, Hb'.out⟩
          case measure => simp [intOf]; omega
        · have : k = vals.length := by omega
          subst this
          go_wp2_with fail
          go_ret
          refine ⟨_, rfl, ?_, Hb.out⟩
          have := Ho.out
          rw [Hn.out, tot_all, List.take_of_length_le (Nat.le_refl _)] at this
          exact this


set_option maxRecDepth 100000 in
set_option maxHeartbeats 1000000 in
theorem idx_rule (n : Nat) (a : Option Addr) (cap cb : Nat) (caps : Array Value) (pred : Nat → Bool) (W : World) (hn : n ≤ 100000000) (hcb : ∀ args w, (callFunc cb args).run Try.prog w = .ok (.enter cb args) w)
    (H : ∀ (k : Nat) (W' : World), k < n → Below W.heap.size W W' → ∃ b off c0 c1 c2 c3 c4 c5 c6 c7, a = some ⟨b, off, none⟩ ∧ W'.cell? ⟨b, off + k * 8, none⟩ = some c0 ∧ W'.cell? ⟨b, off + k * 8 + 1, none⟩ = some c1 ∧ W'.cell? ⟨b, off + k * 8 + 2, none⟩ = some c2 ∧ W'.cell? ⟨b, off + k * 8 + 3, none⟩ = some c3 ∧ W'.cell? ⟨b, off + k * 8 + 4, none⟩ = some c4 ∧ W'.cell? ⟨b, off + k * 8 + 5, none⟩ = some c5 ∧ W'.cell? ⟨b, off + k * 8 + 6, none⟩ = some c6 ∧ W'.cell? ⟨b, off + k * 8 + 7, none⟩ = some c7 ∧ Calls Try.prog cb (#[.agg #[c0, c1, c2, c3, c4, c5, c6, c7]] ++ caps) W' fun e w' => e = .returned (.bool (pred k)) ∧ Below W'.heap.size W' w') :
    Calls Try.prog 51 #[.slice a n cap, .func (.func cb) #[] caps] W fun e w' => e = .returned (.int .i64 (idxP pred n)) ∧ Below W.heap.size W w' := by
  have HH := Lib.hid H
  clear H
  go_enter Try.func51, Try.ntmps51
  go_wp2_with fail
  go_loopg [8] n (fun g i wr => ∃ k : Nat, k + g = n ∧ i = .int .i64 k ∧ (∀ j, j < k → pred j = false) ∧ Below W.heap.size W wr)
  case atStart => exact ⟨0, by omega, rfl, by intro j hj; omega, Below.refl _ _⟩
  case round =>
    obtain ⟨k, hg, rfl, hb, hbr⟩ := hrel
    have Hbr := Lib.hid hbr; have Hb := Lib.hid hb
    by_cases hlt : k < n
    · obtain ⟨b, off, c0, c1, c2, c3, c4, c5, c6, c7, rfl, h0, h1, h2, h3, h4, h5, h6, h7, hC⟩ := HH.out k wr hlt hbr
      have hlti : (k : Int) < n := by omega
      clear hb hbr HH
      cases hp : pred k with
      | true =>
        rw [hp] at hC
        have HC := Lib.hid hC
        have Hr := Lib.hid (idxP_some hlt hp Hb.out)
        clear hC hp
        go_wp2_with fail
        refine HC.out.mono ?_
        rintro e w1 ⟨rfl, hbel⟩
        have Hb1 := Lib.hid (Hbr.out.trans (hbel.mono Hbr.out.size))
        clear hbel HC
        go_wp2_with fail
        go_ret
        exact ⟨ret_int Hr.out.symm, Hb1.out⟩
      | false =>
        rw [hp] at hC
        have HC := Lib.hid hC
        have Hr := Lib.hid (show ∀ j, j < k + 1 → pred j = false from fun j hj => by
          rcases Nat.lt_or_ge j k with h | h
          · exact Hb.out j h
          · obtain rfl : j = k := by omega
            exact hp)
        clear hC hp
        go_wp2_with fail
        refine HC.out.mono ?_
        rintro e w1 ⟨rfl, hbel⟩
        have Hb1 := Lib.hid (Hbr.out.trans (hbel.mono Hbr.out.size))
        clear hbel HC
        go_wp2_with fail
        go_roundg (gk - 1)
        case measure => omega
        case rel => exact ⟨k + 1, by omega, by go_num, Hr.out, Hb1.out⟩
    · obtain rfl : k = n := by omega
      have Hr := Lib.hid (idxP_none hb)
      clear hb hbr HH
      go_wp2_with fail
      go_ret
      exact ⟨ret_int Hr.out.symm, Hbr.out⟩

set_option maxRecDepth 100000 in
set_option maxHeartbeats 1000000 in
theorem idx_pair (n : Nat) (a : Option Addr) (cap cb : Nat) (caps : Array Value) (pred : Nat → Bool) (W : World) (hn : n ≤ 100000000) (hcb : ∀ args w, (callFunc cb args).run Try.prog w = .ok (.enter cb args) w)
    (H : ∀ (k : Nat) (W' : World), k < n → Below W.heap.size W W' → ∃ b off c0 c1 c2, a = some ⟨b, off, none⟩ ∧ W'.cell? ⟨b, off + k * 3, none⟩ = some c0 ∧ W'.cell? ⟨b, off + k * 3 + 1, none⟩ = some c1 ∧ W'.cell? ⟨b, off + k * 3 + 2, none⟩ = some c2 ∧ Calls Try.prog cb (#[.agg #[c0, c1, c2]] ++ caps) W' fun e w' => e = .returned (.bool (pred k)) ∧ Below W'.heap.size W' w') :
    Calls Try.prog 115 #[.slice a n cap, .func (.func cb) #[] caps] W fun e w' => e = .returned (.int .i64 (idxP pred n)) ∧ Below W.heap.size W w' := by
  have HH := Lib.hid H
  clear H
  go_enter Try.func115, Try.ntmps115
  go_wp2_with fail
  go_loopg [8] n (fun g i wr => ∃ k : Nat, k + g = n ∧ i = .int .i64 k ∧ (∀ j, j < k → pred j = false) ∧ Below W.heap.size W wr)
  case atStart => exact ⟨0, by omega, rfl, by intro j hj; omega, Below.refl _ _⟩
  case round =>
    obtain ⟨k, hg, rfl, hb, hbr⟩ := hrel
    have Hbr := Lib.hid hbr; have Hb := Lib.hid hb
    by_cases hlt : k < n
    · obtain ⟨b, off, c0, c1, c2, rfl, h0, h1, h2, hC⟩ := HH.out k wr hlt hbr
      have hlti : (k : Int) < n := by omega
      clear hb hbr HH
      cases hp : pred k with
      | true =>
        rw [hp] at hC
        have HC := Lib.hid hC
        have Hr := Lib.hid (idxP_some hlt hp Hb.out)
        clear hC hp
        go_wp2_with fail
        refine HC.out.mono ?_
        rintro e w1 ⟨rfl, hbel⟩
        have Hb1 := Lib.hid (Hbr.out.trans (hbel.mono Hbr.out.size))
        clear hbel HC
        go_wp2_with fail
        go_ret
        exact ⟨ret_int Hr.out.symm, Hb1.out⟩
      | false =>
        rw [hp] at hC
        have HC := Lib.hid hC
        have Hr := Lib.hid (show ∀ j, j < k + 1 → pred j = false from fun j hj => by
          rcases Nat.lt_or_ge j k with h | h
          · exact Hb.out j h
          · obtain rfl : j = k := by omega
            exact hp)
        clear hC hp
        go_wp2_with fail
        refine HC.out.mono ?_
        rintro e w1 ⟨rfl, hbel⟩
        have Hb1 := Lib.hid (Hbr.out.trans (hbel.mono Hbr.out.size))
        clear hbel HC
        go_wp2_with fail
        go_roundg (gk - 1)
        case measure => omega
        case rel => exact ⟨k + 1, by omega, by go_num, Hr.out, Hb1.out⟩
    · obtain rfl : k = n := by omega
      have Hr := Lib.hid (idxP_none hb)
      clear hb hbr HH
      go_wp2_with fail
      go_ret
      exact ⟨ret_int Hr.out.symm, Hbr.out⟩

set_option maxRecDepth 100000 in
set_option maxHeartbeats 1000000 in
theorem idx_act (n : Nat) (a : Option Addr) (cap cb : Nat) (caps : Array Value) (pred : Nat → Bool) (W : World) (hn : n ≤ 100000000) (hcb : ∀ args w, (callFunc cb args).run Try.prog w = .ok (.enter cb args) w)
    (H : ∀ (k : Nat) (W' : World), k < n → Below W.heap.size W W' → ∃ b off c0 c1, a = some ⟨b, off, none⟩ ∧ W'.cell? ⟨b, off + k * 2, none⟩ = some c0 ∧ W'.cell? ⟨b, off + k * 2 + 1, none⟩ = some c1 ∧ Calls Try.prog cb (#[.agg #[c0, c1]] ++ caps) W' fun e w' => e = .returned (.bool (pred k)) ∧ Below W'.heap.size W' w') :
    Calls Try.prog 117 #[.slice a n cap, .func (.func cb) #[] caps] W fun e w' => e = .returned (.int .i64 (idxP pred n)) ∧ Below W.heap.size W w' := by
  have HH := Lib.hid H
  clear H
  go_enter Try.func117, Try.ntmps117
  go_wp2_with fail
  go_loopg [8] n (fun g i wr => ∃ k : Nat, k + g = n ∧ i = .int .i64 k ∧ (∀ j, j < k → pred j = false) ∧ Below W.heap.size W wr)
  case atStart => exact ⟨0, by omega, rfl, by intro j hj; omega, Below.refl _ _⟩
  case round =>
    obtain ⟨k, hg, rfl, hb, hbr⟩ := hrel
    have Hbr := Lib.hid hbr; have Hb := Lib.hid hb
    by_cases hlt : k < n
    · obtain ⟨b, off, c0, c1, rfl, h0, h1, hC⟩ := HH.out k wr hlt hbr
      have hlti : (k : Int) < n := by omega
      clear hb hbr HH
      cases hp : pred k with
      | true =>
        rw [hp] at hC
        have HC := Lib.hid hC
        have Hr := Lib.hid (idxP_some hlt hp Hb.out)
        clear hC hp
        go_wp2_with fail
        refine HC.out.mono ?_
        rintro e w1 ⟨rfl, hbel⟩
        have Hb1 := Lib.hid (Hbr.out.trans (hbel.mono Hbr.out.size))
        clear hbel HC
        go_wp2_with fail
        go_ret
        exact ⟨ret_int Hr.out.symm, Hb1.out⟩
      | false =>
        rw [hp] at hC
        have HC := Lib.hid hC
        have Hr := Lib.hid (show ∀ j, j < k + 1 → pred j = false from fun j hj => by
          rcases Nat.lt_or_ge j k with h | h
          · exact Hb.out j h
          · obtain rfl : j = k := by omega
            exact hp)
        clear hC hp
        go_wp2_with fail
        refine HC.out.mono ?_
        rintro e w1 ⟨rfl, hbel⟩
        have Hb1 := Lib.hid (Hbr.out.trans (hbel.mono Hbr.out.size))
        clear hbel HC
        go_wp2_with fail
        go_roundg (gk - 1)
        case measure => omega
        case rel => exact ⟨k + 1, by omega, by go_num, Hr.out, Hb1.out⟩
    · obtain rfl : k = n := by omega
      have Hr := Lib.hid (idxP_none hb)
      clear hb hbr HH
      go_wp2_with fail
      go_ret
      exact ⟨ret_int Hr.out.symm, Hbr.out⟩

set_option maxRecDepth 100000 in
set_option maxHeartbeats 1000000 in
theorem idx_node (n : Nat) (a : Option Addr) (cap cb : Nat) (caps : Array Value) (pred : Nat → Bool) (W : World) (hn : n ≤ 100000000) (hcb : ∀ args w, (callFunc cb args).run Try.prog w = .ok (.enter cb args) w)
    (H : ∀ (k : Nat) (W' : World), k < n → Below W.heap.size W W' → ∃ b off c0 c1 c2 c3, a = some ⟨b, off, none⟩ ∧ W'.cell? ⟨b, off + k * 4, none⟩ = some c0 ∧ W'.cell? ⟨b, off + k * 4 + 1, none⟩ = some c1 ∧ W'.cell? ⟨b, off + k * 4 + 2, none⟩ = some c2 ∧ W'.cell? ⟨b, off + k * 4 + 3, none⟩ = some c3 ∧ Calls Try.prog cb (#[.agg #[c0, c1, c2, c3]] ++ caps) W' fun e w' => e = .returned (.bool (pred k)) ∧ Below W'.heap.size W' w') :
    Calls Try.prog 120 #[.slice a n cap, .func (.func cb) #[] caps] W fun e w' => e = .returned (.int .i64 (idxP pred n)) ∧ Below W.heap.size W w' := by
  have HH := Lib.hid H
  clear H
  go_enter Try.func120, Try.ntmps120
  go_wp2_with fail
  go_loopg [8] n (fun g i wr => ∃ k : Nat, k + g = n ∧ i = .int .i64 k ∧ (∀ j, j < k → pred j = false) ∧ Below W.heap.size W wr)
  case atStart => exact ⟨0, by omega, rfl, by intro j hj; omega, Below.refl _ _⟩
  case round =>
    obtain ⟨k, hg, rfl, hb, hbr⟩ := hrel
    have Hbr := Lib.hid hbr; have Hb := Lib.hid hb
    by_cases hlt : k < n
    · obtain ⟨b, off, c0, c1, c2, c3, rfl, h0, h1, h2, h3, hC⟩ := HH.out k wr hlt hbr
      have hlti : (k : Int) < n := by omega
      clear hb hbr HH
      cases hp : pred k with
      | true =>
        rw [hp] at hC
        have HC := Lib.hid hC
        have Hr := Lib.hid (idxP_some hlt hp Hb.out)
        clear hC hp
        go_wp2_with fail
        refine HC.out.mono ?_
        rintro e w1 ⟨rfl, hbel⟩
        have Hb1 := Lib.hid (Hbr.out.trans (hbel.mono Hbr.out.size))
        clear hbel HC
        go_wp2_with fail
        go_ret
        exact ⟨ret_int Hr.out.symm, Hb1.out⟩
      | false =>
        rw [hp] at hC
        have HC := Lib.hid hC
        have Hr := Lib.hid (show ∀ j, j < k + 1 → pred j = false from fun j hj => by
          rcases Nat.lt_or_ge j k with h | h
          · exact Hb.out j h
          · obtain rfl : j = k := by omega
            exact hp)
        clear hC hp
        go_wp2_with fail
        refine HC.out.mono ?_
        rintro e w1 ⟨rfl, hbel⟩
        have Hb1 := Lib.hid (Hbr.out.trans (hbel.mono Hbr.out.size))
        clear hbel HC
        go_wp2_with fail
        go_roundg (gk - 1)
        case measure => omega
        case rel => exact ⟨k + 1, by omega, by go_num, Hr.out, Hb1.out⟩
    · obtain rfl : k = n := by omega
      have Hr := Lib.hid (idxP_none hb)
      clear hb hbr HH
      go_wp2_with fail
      go_ret
      exact ⟨ret_int Hr.out.symm, Hbr.out⟩

set_option maxRecDepth 100000 in
set_option maxHeartbeats 1000000 in
theorem idx_prop (n : Nat) (a : Option Addr) (cap cb : Nat) (caps : Array Value) (pred : Nat → Bool) (W : World) (hn : n ≤ 100000000) (hcb : ∀ args w, (callFunc cb args).run Try.prog w = .ok (.enter cb args) w)
    (H : ∀ (k : Nat) (W' : World), k < n → Below W.heap.size W W' → ∃ b off c0 c1, a = some ⟨b, off, none⟩ ∧ W'.cell? ⟨b, off + k * 2, none⟩ = some c0 ∧ W'.cell? ⟨b, off + k * 2 + 1, none⟩ = some c1 ∧ Calls Try.prog cb (#[.agg #[c0, c1]] ++ caps) W' fun e w' => e = .returned (.bool (pred k)) ∧ Below W'.heap.size W' w') :
    Calls Try.prog 83 #[.slice a n cap, .func (.func cb) #[] caps] W fun e w' => e = .returned (.int .i64 (idxP pred n)) ∧ Below W.heap.size W w' := by
  have HH := Lib.hid H
  clear H
  go_enter Try.func83, Try.ntmps83
  go_wp2_with fail
  go_loopg [8] n (fun g i wr => ∃ k : Nat, k + g = n ∧ i = .int .i64 k ∧ (∀ j, j < k → pred j = false) ∧ Below W.heap.size W wr)
  case atStart => exact ⟨0, by omega, rfl, by intro j hj; omega, Below.refl _ _⟩
  case round =>
    obtain ⟨k, hg, rfl, hb, hbr⟩ := hrel
    have Hbr := Lib.hid hbr; have Hb := Lib.hid hb
    by_cases hlt : k < n
    · obtain ⟨b, off, c0, c1, rfl, h0, h1, hC⟩ := HH.out k wr hlt hbr
      have hlti : (k : Int) < n := by omega
      clear hb hbr HH
      cases hp : pred k with
      | true =>
        rw [hp] at hC
        have HC := Lib.hid hC
        have Hr := Lib.hid (idxP_some hlt hp Hb.out)
        clear hC hp
        go_wp2_with fail
        refine HC.out.mono ?_
        rintro e w1 ⟨rfl, hbel⟩
        have Hb1 := Lib.hid (Hbr.out.trans (hbel.mono Hbr.out.size))
        clear hbel HC
        go_wp2_with fail
        go_ret
        exact ⟨ret_int Hr.out.symm, Hb1.out⟩
      | false =>
        rw [hp] at hC
        have HC := Lib.hid hC
        have Hr := Lib.hid (show ∀ j, j < k + 1 → pred j = false from fun j hj => by
          rcases Nat.lt_or_ge j k with h | h
          · exact Hb.out j h
          · obtain rfl : j = k := by omega
            exact hp)
        clear hC hp
        go_wp2_with fail
        refine HC.out.mono ?_
        rintro e w1 ⟨rfl, hbel⟩
        have Hb1 := Lib.hid (Hbr.out.trans (hbel.mono Hbr.out.size))
        clear hbel HC
        go_wp2_with fail
        go_roundg (gk - 1)
        case measure => omega
        case rel => exact ⟨k + 1, by omega, by go_num, Hr.out, Hb1.out⟩
    · obtain rfl : k = n := by omega
      have Hr := Lib.hid (idxP_none hb)
      clear hb hbr HH
      go_wp2_with fail
      go_ret
      exact ⟨ret_int Hr.out.symm, Hbr.out⟩


end Go.Proofs.Ytiinmgccjlmoaaa
