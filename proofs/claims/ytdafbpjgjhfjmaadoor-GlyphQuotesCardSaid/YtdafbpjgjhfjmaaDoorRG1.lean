/- Walks: glyph.Check and what it calls. -/
import Derived.Test.YtdafbpjgjhfjmaaDoorProg
import Derived.Test.YtdafbpjgjhfjmaaDoorRBase
import Derived.Deep.QuietTactic
import Derived.BigQuiet
namespace Go.Proofs.YtdafbpjgjhfjmaaDoor
open Go.RowKit Go.Redl
set_option linter.unusedVariables false

theorem info_int32 : (Tryd.prog.info? 21).map (fun i => (i.zero, i.size, i.bytes)) = some (some (.int .i32 0), 1, 4) := by kernel_rfl

set_option maxHeartbeats 400000 in
theorem valid_c (c : Int) (w : World) :
    Calls Tryd.prog 31 #[.int .i32 c] w fun e w' => e = .returned (.bool (validB c)) ∧ w = w' := by
  go_enter Tryd.func31, Tryd.ntmps31
  go_wp2
  all_goals (go_ret; refine ⟨ret_bool ?_, rfl⟩; unfold validB; simp; try omega)

set_option maxHeartbeats 400000 in
theorem check1_c (c : Int) (w : World) :
    Calls Tryd.prog 30 #[.int .i32 c] w fun e w' => e = .returned (.bool (!validB c)) ∧ w = w' := by
  go_enter Tryd.func30, Tryd.ntmps30
  go_wp2_with (go_at_call 31; refine (valid_c _ _).mono ?_; rintro e w' ⟨rfl, rfl⟩)
  go_ret
  exact ⟨rfl, rfl⟩

set_option maxHeartbeats 400000 in
theorem indexFunc_rune (v : Value) (B : Nat) (zs : List Int) (fid : Nat) (caps : Array Value) (p : Int → Bool) (w : World)
    (hv : Ints .i32 w B v zs) (he : ∀ args w, (callFunc fid args).run Tryd.prog w = .ok (.enter fid args) w)
    (hf : ∀ x, x ∈ zs → Calls Tryd.prog fid (#[.int .i32 x] ++ caps) w fun e w' => e = .returned (.bool (p x)) ∧ w = w') :
    Calls Tryd.prog 44 #[v, .func (.func fid) #[] caps] w fun e w' => e = .returned (.int .i64 (idx p zs)) ∧ w = w' := by
  have Hf := Lib.hid hf; clear hf
  obtain ⟨⟨a, cap, rfl, hr⟩, -⟩ := hv
  have hm : zs.length ≤ 9223372036854775807 := by have h1 := hr.le; have h2 := hr.max; unfold maxLen at h2; omega
  go_enter Tryd.func44, Tryd.ntmps44
  go_wp2_with fail
  go_loop [8] (fun i => ∃ k : Nat, k ≤ zs.length ∧ i = .int .i64 k ∧ Upto p zs k) (fun i => zs.length - (intOf i).toNat)
  case atStart => exact ⟨0, Nat.zero_le _, rfl, upto_zero p zs⟩
  case round =>
    obtain ⟨k, hk, rfl, hp⟩ := hrel
    have Hp := Lib.hid hp; clear hp
    by_cases hlt : k < zs.length
    · obtain ⟨b, off, rfl, hb, hcell⟩ := hr.int_at k hlt
      have hcell := hcell k hlt
      have hin : zs[k] ∈ zs := List.getElem_mem hlt
      go_wp2_with fail
      refine (Hf.out zs[k] hin).mono ?_
      rintro e w' ⟨rfl, rfl⟩
      cases hpk : p zs[k]
      · go_wp2_with fail
        go_round
        case rel => exact ⟨k + 1, by omega, by go_num, upto_succ Hp.out hlt hpk⟩
        case measure => simp [intOf]; omega
      · go_wp2_with fail
        go_ret
        exact ⟨ret_int (idx_at Hp.out hlt hpk).symm, rfl⟩
    · go_wp2_with fail
      go_ret
      obtain rfl : k = zs.length := by omega
      exact ⟨ret_int (idx_none Hp.out).symm, rfl⟩

set_option maxHeartbeats 400000 in
theorem containsFunc_rune (v : Value) (B : Nat) (zs : List Int) (fid : Nat) (caps : Array Value) (p : Int → Bool) (w : World)
    (hv : Ints .i32 w B v zs) (he : ∀ args w, (callFunc fid args).run Tryd.prog w = .ok (.enter fid args) w)
    (hf : ∀ x, x ∈ zs → Calls Tryd.prog fid (#[.int .i32 x] ++ caps) w fun e w' => e = .returned (.bool (p x)) ∧ w = w') :
    Calls Tryd.prog 29 #[v, .func (.func fid) #[] caps] w fun e w' => e = .returned (.bool (zs.any p)) ∧ w = w' := by
  have H := Lib.hid (indexFunc_rune v B zs fid caps p w hv he hf); clear hf hv
  have Hx := Lib.hid (idx_any p zs)
  go_enter Tryd.func29, Tryd.ntmps29
  go_wp2_with fail
  refine H.out.mono ?_
  rintro e w' ⟨rfl, rfl⟩
  go_wp2_with fail
  go_ret
  exact ⟨ret_bool Hx.out, rfl⟩

/-- A text's error. -/
def checkE (zs : List Int) : Int := if zs.any (fun c => !validB c) then 4 else 0

set_option maxHeartbeats 400000 in
theorem check_c (v : Value) (B : Nat) (zs : List Int) (w : World) (hv : Ints .i32 w B v zs) :
    Calls Tryd.prog 14 #[v] w fun e w' => e = .returned (.int .i64 (checkE zs)) ∧ w = w' := by
  have H := Lib.hid (containsFunc_rune v B zs 30 #[] (fun c => !validB c) w hv (by intro args w; kernel_rfl) (fun x _ => check1_c x w)); clear hv
  have Hx : Hid (checkE zs = if zs.any (fun c => !validB c) then 4 else 0) := rfl
  go_enter Tryd.func14, Tryd.ntmps14
  go_wp2_with fail
  refine H.out.mono ?_
  rintro e w' ⟨rfl, rfl⟩
  clear H
  cases h : zs.any (fun c => !validB c) <;> rw [h] at Hx
  · go_wp2_with fail
    go_ret
    exact ⟨ret_int (by rw [Hx.out]; rfl), rfl⟩
  · go_wp2_with fail
    go_ret
    exact ⟨ret_int (by rw [Hx.out]; rfl), rfl⟩

set_option maxHeartbeats 400000 in
theorem equal_rune (v1 v2 : Value) (B : Nat) (xs ys : List Int) (w : World) (h1 : Ints .i32 w B v1 xs) (h2 : Ints .i32 w B v2 ys) :
    Calls Tryd.prog 27 #[v1, v2] w fun e w' => e = .returned (.bool (decide (xs = ys))) ∧ Drawn w w' := by
  obtain ⟨⟨a, cap, rfl, hr⟩, -⟩ := h1
  obtain ⟨⟨a', cap', rfl, hr'⟩, -⟩ := h2
  have hm : xs.length ≤ 9223372036854775807 := by have h1 := hr.le; have h2 := hr.max; unfold maxLen at h2; omega
  have hm' : ys.length ≤ 9223372036854775807 := by have h1 := hr'.le; have h2 := hr'.max; unfold maxLen at h2; omega
  by_cases hl : xs.length = ys.length
  · go_enter Tryd.func27, Tryd.ntmps27
    have hle : ys.length ≤ xs.length := by omega
    have hle' : xs.length ≤ ys.length := by omega
    have hne : (((xs.length : Nat) : Int) != (ys.length : Int)) = false := by simp [hl]
    have Hl := Lib.hid hl; clear hl
    go_wp2_with fail
    go_loopw [13] (fun i wr => ∃ k : Nat, k ≤ xs.length ∧ i = .int .i64 k ∧ SameTo xs ys k ∧ Drawn w wr) (fun i _ => xs.length - (intOf i).toNat)
    case atStart => exact ⟨0, Nat.zero_le _, rfl, sameTo_zero _ _, ⟨0, rfl⟩⟩
    case round =>
      obtain ⟨k, hk, rfl, hp, q, rfl⟩ := hrel
      have Hp := Lib.hid hp; clear hp
      by_cases hlt : k < xs.length
      · obtain ⟨b, off, rfl, hb, hcell⟩ := hr.int_at k hlt
        obtain ⟨b', off', rfl, hb', hcell'⟩ := hr'.int_at k (by omega)
        have hcell := hcell k hlt
        have hcell' := hcell' k (by omega)
        have hlt' : k < ys.length := by omega
        rw [getD_of_lt hlt] at hcell
        rw [getD_of_lt hlt'] at hcell'
        go_wp2_with fail
        by_cases he : xs[k] = ys[k]
        · have hne : (xs[k] != ys[k]) = false := by simp [he]
          have He := Lib.hid he; clear he
          go_quiet (fail)
          go_wp2_with fail
          go_roundw
          case rel => exact ⟨k + 1, by omega, by go_num, sameTo_succ Hp.out hlt hlt' He.out, by first | exact drawn_one _ _ | exact drawn_two _ _ _⟩
          case measure => simp [intOf]; omega
        · have hne : (xs[k] != ys[k]) = true := by simp [he]
          have He := Lib.hid he; clear he
          go_quiet (fail)
          go_wp2_with fail
          go_ret
          exact ⟨ret_bool (by simp [same_not hlt hlt' He.out]), drawn_two _ _ _⟩
      · go_wp2_with fail
        go_ret
        obtain rfl : k = xs.length := by omega
        exact ⟨ret_bool (by simp [sameTo_all Hp.out Hl.out]), drawn_one _ _⟩
  · have hne : (((xs.length : Nat) : Int) != (ys.length : Int)) = true := by simp; omega
    have Hl := Lib.hid hl; clear hl
    go_enter Tryd.func27, Tryd.ntmps27
    go_wp2_with fail
    go_ret
    exact ⟨ret_bool (by simp [show xs ≠ ys from fun h => Hl.out (by rw [h])]), drawn_zero _⟩



set_option maxHeartbeats 400000 in
theorem clone_rune (B n : Nat) (a : Option Addr) (cap : Nat) (cs : List Value) (w : World) (hr : RowA w B 1 a n cap cs) (hB : B ≤ w.heap.size) (hn : n ≤ 1000000) :
    Calls Tryd.prog 28 #[.slice a n cap] w (MadeRow w 21 1 n cs) := by
  have hel := fun (w : World) => Lib.run_eql_slice_nil w (P := Tryd.prog) 22 21 a n cap 0 0 Tryd.underlying22
  cases ha : a with
  | none =>
    subst ha
    obtain rfl := hr.nil rfl
    obtain rfl : n = 0 := by have := hr.le; omega
    have hcs : cs = [] := List.eq_nil_of_length_eq_zero (by simpa using hr.len)
    subst hcs
    go_enter Tryd.func28, Tryd.ntmps28
    go_wp2_with fail
    go_ret
    exact ⟨_, rfl, World.ownsRow_nil _ _ _ _, Below.refl _ _⟩
  | some ad =>
    subst ha
    go_enter Tryd.func28, Tryd.ntmps28
    go_wp2_with (at_builtin; refine wpList_app rfl _ _ 22 rfl w.heap.size 21 (.int .i32 0) 1 4 Tryd.underlying22 info_int32 rfl (by decide) _ 0 [] rfl ?hown _ n cap B cs rfl ?hr ?h63 ?hb ?hbase ?_)
    case hown => exact World.ownsRow_lit w #[] 0 (Nat.le_refl _) (Nat.zero_le _) rfl
    case hr => exact hr.keep ((Below.refl _ _).alloc hB _) (Nat.le_refl _)
    case h63 => unfold maxLen; omega
    case hb => omega
    case hbase => simp
    intro v' w1 hown hgrow
    have Ho := Lib.hid hown; have Hg := Lib.hid hgrow; clear hown hgrow hel hr
    go_wp2_with fail
    go_ret
    refine ⟨v', rfl, by simpa using Ho.out, ((Below.refl _ _).alloc (Nat.le_refl _) _).grown Hg.out (by simp) ?_⟩
    simp [Value.ownBlock]

set_option maxHeartbeats 400000 in
theorem grow_rune (m : Nat) (w : World) (hm : m ≤ 1000000) :
    Calls Tryd.prog 43 #[.slice none 0 0, .int .i64 m] w (MadeRow w 21 1 0 []) := by
  by_cases h0 : m = 0
  · subst h0
    go_enter Tryd.func43, Tryd.ntmps43
    go_wp2_with fail
    go_ret
    exact ⟨_, rfl, World.ownsRow_nil _ _ _ _, Below.refl _ _⟩
  · have hpos : 0 < m := by omega
    go_enter Tryd.func43, Tryd.ntmps43
    go_wp2_with (at_builtin; refine wpList_nil_zeros rfl _ _ 22 3 rfl 21 (.int .i32 0) 1 4 Tryd.underlying22 Tryd.underlying3 info_int32 rfl (by decide) m hpos rfl rfl ?h63 ?hb ?_)
    case h63 => omega
    case hb => omega
    intro g cap w1 hown hcap hcm hb
    have Ho := Lib.hid hown; have Hb := Lib.hid hb; clear hown hb
    unfold maxLen at hcm
    go_wp2_with fail
    go_ret
    exact ⟨_, rfl, Ho.out, Hb.out⟩

set_option maxRecDepth 100000 in
set_option maxHeartbeats 400000 in
theorem concat_rune (a : Option Addr) (cap B : Nat) (vals : List Value) (pss : List (List Value)) (w : World) (hr : RowA w B 1 a vals.length cap vals) (hp : Parts w B vals pss)
    (hB : B ≤ w.heap.size) (hn : pss.flatten.length ≤ 1000000) :
    Calls Tryd.prog 26 #[.slice a vals.length cap] w (MadeRow w 21 1 pss.flatten.length pss.flatten) := by
  have hm : vals.length ≤ 9223372036854775807 := by have h1 := hr.le; have h2 := hr.max; unfold maxLen at h2; omega
  have Hn := Lib.hid hp.len
  go_enter Tryd.func26, Tryd.ntmps26
  go_wp2_with fail
  go_loop [3, 11] (fun s i => ∃ k : Nat, k ≤ vals.length ∧ i = .int .i64 k ∧ s = .int .i64 (tot pss k)) (fun _ i => vals.length - (intOf i).toNat)
  case atStart => exact ⟨0, Nat.zero_le _, rfl, by rw [tot_zero]; rfl⟩
  case round =>
    obtain ⟨k, hk, rfl, rfl⟩ := hrel
    have ht := tot_le pss k
    by_cases hlt : k < vals.length
    · have hlt' : k < pss.length := by rw [← Hn.out]; exact hlt
      have hs := tot_succ pss k hlt'
      have ht' := tot_le pss (k + 1)
      obtain ⟨pa, pc, hv, hpr⟩ := hp.each k hlt'
      obtain ⟨b, off, rfl, hb, hall⟩ := hr.some_ (by rintro rfl; simp at hlt)
      have hcell := hall k _ hv
      clear hall
      obtain ⟨ps, hps⟩ : ∃ ps, pss.getD k [] = ps := ⟨_, rfl⟩
      rw [hps] at hs hv hcell hpr
      have hsum : (tot pss k : Int) + (ps.length : Int) ≤ 1000000 := by omega
      have Hs := Lib.hid hs; have Hv := Lib.hid hv; have Hp := Lib.hid hps
      clear hs hv hps
      go_wp2_with fail
      go_round
      case rel => exact ⟨k + 1, by omega, by go_num, by rw [Hs.out]; go_num⟩
      case measure => simp [intOf]; omega
    · have : k = vals.length := by omega
      subst this
      have H := Lib.hid (grow_rune (tot pss vals.length) w (by omega))
      go_wp2_with fail
      refine H.out.mono ?_
      rintro e w1 ⟨v, rfl, hown, hbel⟩
      have Ho := Lib.hid hown; have Hb := Lib.hid hbel
      clear hown hbel H
      go_wp2_with fail
      go_loopw [6, 27] (fun v i wr => ∃ k : Nat, k ≤ vals.length ∧ i = .int .i64 k ∧ wr.ownsRow w.heap.size 21 1 v (tot pss k) (pss.take k).flatten ∧ Below w.heap.size w wr) (fun _ i _ => vals.length - (intOf i).toNat)
      case atStart => exact ⟨0, Nat.zero_le _, rfl, by rw [tot_zero]; simpa using Ho.out, Hb.out⟩
      case round =>
        obtain ⟨k, hk, rfl, hown, hbel⟩ := hrel
        clear Ho Hb
        have ht := tot_le pss k
        have Ho := Lib.hid hown; have Hb := Lib.hid hbel
        clear hown hbel
        by_cases hlt : k < vals.length
        · have hlt' : k < pss.length := by rw [← Hn.out]; exact hlt
          have hs := tot_succ pss k hlt'
          have ht' := tot_le pss (k + 1)
          have hr2 := hr.keep (Hb.out.mono hB) (Nat.le_refl _)
          have hp2 := hp.keep (Hb.out.mono hB) (Nat.le_refl _)
          obtain ⟨pa, pc, hv, hpr⟩ := hp2.each k hlt'
          obtain ⟨b, off, rfl, hb, hall⟩ := hr2.some_ (by rintro rfl; simp at hlt)
          have hcell := hall k _ hv
          clear hall
          have hfl := flat_succ pss k hlt'
          obtain ⟨ps, hps⟩ : ∃ ps, pss.getD k [] = ps := ⟨_, rfl⟩
          rw [hps] at hs hv hcell hpr hfl
          have hsum : (tot pss k : Int) + (ps.length : Int) ≤ 1000000 := by omega
          have Hs := Lib.hid hs; have Hv := Lib.hid hv; have Hp := Lib.hid hps; have Hf := Lib.hid hfl
          clear hs hv hps hfl
          go_wp2_with (at_builtin; refine wpList_app rfl _ _ 22 rfl w.heap.size 21 (.int .i32 0) 1 4 Tryd.underlying22 info_int32 rfl (by decide) _ _ _ rfl Ho.out _ ps.length pc B ps rfl hpr ?h63 ?hb ?hbase ?_)
          case h63 => unfold maxLen; omega
          case hb => omega
          case hbase => exact Hb.out.size
          intro v' w2 hown' hgrow
          rw [← Hs.out, ← Hf.out] at hown'
          have hbel' := Hb.out.grown hgrow Hb.out.size (fun k hk => (Ho.out.lt k hk).1)
          have Ho' := Lib.hid hown'; have Hb' := Lib.hid hbel'
          clear hown' hgrow hbel'
          go_wp2_with fail
          go_roundw
          case rel => exact ⟨k + 1, by omega, by go_num, Ho'.out, Hb'.out⟩
          case measure => simp [intOf]; omega
        · have : k = vals.length := by omega
          subst this
          go_wp2_with fail
          go_ret
          refine ⟨_, rfl, ?_, Hb.out⟩
          have := Ho.out
          rw [Hn.out, tot_all, List.take_of_length_le (Nat.le_refl _)] at this
          exact this

end Go.Proofs.YtdafbpjgjhfjmaaDoor
