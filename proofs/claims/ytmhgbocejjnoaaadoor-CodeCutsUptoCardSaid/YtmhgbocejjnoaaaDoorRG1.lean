/- Walks: glyph.Check and what it calls. -/
import Derived.Test.YtmhgbocejjnoaaaDoorProg
import Derived.Test.YtmhgbocejjnoaaaDoorRBase
import Derived.Deep.QuietTactic
import Derived.BigQuiet
namespace Go.Proofs.YtmhgbocejjnoaaaDoor
open Go.RowKit Go.Redl
set_option linter.unusedVariables false

theorem info_int32 : (Tryd.prog.info? 21).map (fun i => (i.zero, i.size, i.bytes)) = some (some (.int .i32 0), 1, 4) := by kernel_rfl

set_option maxHeartbeats 400000 in
theorem valid_c (c : Int) (w : World) :
    Calls Tryd.prog 51 #[.int .i32 c] w fun e w' => e = .returned (.bool (validB c)) ∧ w = w' := by
  go_enter Tryd.func51, Tryd.ntmps51
  go_wp2
  all_goals (go_ret; refine ⟨ret_bool ?_, rfl⟩; unfold validB; simp; try omega)

set_option maxHeartbeats 400000 in
theorem check1_c (c : Int) (w : World) :
    Calls Tryd.prog 50 #[.int .i32 c] w fun e w' => e = .returned (.bool (!validB c)) ∧ w = w' := by
  go_enter Tryd.func50, Tryd.ntmps50
  go_wp2_with (go_at_call 51; refine (valid_c _ _).mono ?_; rintro e w' ⟨rfl, rfl⟩)
  go_ret
  exact ⟨rfl, rfl⟩

set_option maxHeartbeats 400000 in
theorem indexFunc_rune (v : Value) (B : Nat) (zs : List Int) (fid : Nat) (caps : Array Value) (p : Int → Bool) (w : World)
    (hv : Ints .i32 w B v zs) (he : ∀ args w, (callFunc fid args).run Tryd.prog w = .ok (.enter fid args) w)
    (hf : ∀ x, x ∈ zs → Calls Tryd.prog fid (#[.int .i32 x] ++ caps) w fun e w' => e = .returned (.bool (p x)) ∧ w = w') :
    Calls Tryd.prog 67 #[v, .func (.func fid) #[] caps] w fun e w' => e = .returned (.int .i64 (idx p zs)) ∧ w = w' := by
  have Hf := Lib.hid hf; clear hf
  obtain ⟨⟨a, cap, rfl, hr⟩, -⟩ := hv
  have hm : zs.length ≤ 9223372036854775807 := by have h1 := hr.le; have h2 := hr.max; unfold maxLen at h2; omega
  go_enter Tryd.func67, Tryd.ntmps67
  go_wp2_with fail
  go_loop [8] (fun i => ∃ k : Nat, k ≤ zs.length ∧ i = .int .i64 k ∧ Upto p zs k) (fun i => zs.length - (intOf i).toNat)
  case atStart => exact ⟨0, Nat.zero_le _, rfl, upto_zero p zs⟩
  case round =>
    obtain ⟨k, hk, rfl, hp⟩ := hrel
    have Hp := Lib.hid hp; clear hp
    by_cases hlt : k < zs.length
    · obtain ⟨b, off, rfl, hb, hcell⟩ := hr.int_at k hlt
      have hcell := hcell k hlt
      have hin : zs[k] ∈ zs := List.getElem_mem hlt
      go_wp2_with fail
      refine (Hf.out zs[k] hin).mono ?_
      rintro e w' ⟨rfl, rfl⟩
      cases hpk : p zs[k]
      · go_wp2_with fail
        go_round
        case rel => exact ⟨k + 1, by omega, by go_num, upto_succ Hp.out hlt hpk⟩
        case measure => simp [intOf]; omega
      · go_wp2_with fail
        go_ret
        exact ⟨ret_int (idx_at Hp.out hlt hpk).symm, rfl⟩
    · go_wp2_with fail
      go_ret
      obtain rfl : k = zs.length := by omega
      exact ⟨ret_int (idx_none Hp.out).symm, rfl⟩

set_option maxHeartbeats 400000 in
theorem containsFunc_rune (v : Value) (B : Nat) (zs : List Int) (fid : Nat) (caps : Array Value) (p : Int → Bool) (w : World)
    (hv : Ints .i32 w B v zs) (he : ∀ args w, (callFunc fid args).run Tryd.prog w = .ok (.enter fid args) w)
    (hf : ∀ x, x ∈ zs → Calls Tryd.prog fid (#[.int .i32 x] ++ caps) w fun e w' => e = .returned (.bool (p x)) ∧ w = w') :
    Calls Tryd.prog 49 #[v, .func (.func fid) #[] caps] w fun e w' => e = .returned (.bool (zs.any p)) ∧ w = w' := by
  have H := Lib.hid (indexFunc_rune v B zs fid caps p w hv he hf); clear hf hv
  have Hx := Lib.hid (idx_any p zs)
  go_enter Tryd.func49, Tryd.ntmps49
  go_wp2_with fail
  refine H.out.mono ?_
  rintro e w' ⟨rfl, rfl⟩
  go_wp2_with fail
  go_ret
  exact ⟨ret_bool Hx.out, rfl⟩

/-- A text's error. -/
def checkE (zs : List Int) : Int := if zs.any (fun c => !validB c) then 4 else 0

set_option maxHeartbeats 400000 in
theorem check_c (v : Value) (B : Nat) (zs : List Int) (w : World) (hv : Ints .i32 w B v zs) :
    Calls Tryd.prog 27 #[v] w fun e w' => e = .returned (.int .i64 (checkE zs)) ∧ w = w' := by
  have H := Lib.hid (containsFunc_rune v B zs 50 #[] (fun c => !validB c) w hv (by intro args w; kernel_rfl) (fun x _ => check1_c x w)); clear hv
  have Hx : Hid (checkE zs = if zs.any (fun c => !validB c) then 4 else 0) := rfl
  go_enter Tryd.func27, Tryd.ntmps27
  go_wp2_with fail
  refine H.out.mono ?_
  rintro e w' ⟨rfl, rfl⟩
  clear H
  cases h : zs.any (fun c => !validB c) <;> rw [h] at Hx
  · go_wp2_with fail
    go_ret
    exact ⟨ret_int (by rw [Hx.out]; rfl), rfl⟩
  · go_wp2_with fail
    go_ret
    exact ⟨ret_int (by rw [Hx.out]; rfl), rfl⟩


set_option maxHeartbeats 400000 in
theorem clone_rune (B n : Nat) (a : Option Addr) (cap : Nat) (cs : List Value) (w : World) (hr : RowA w B 1 a n cap cs) (hB : B ≤ w.heap.size) (hn : n ≤ 1000000) :
    Calls Tryd.prog 47 #[.slice a n cap] w (MadeRow w 21 1 n cs) := by
  have hel := fun (w : World) => Lib.run_eql_slice_nil w (P := Tryd.prog) 23 21 a n cap 0 0 Tryd.underlying23
  cases ha : a with
  | none =>
    subst ha
    obtain rfl := hr.nil rfl
    obtain rfl : n = 0 := by have := hr.le; omega
    have hcs : cs = [] := List.eq_nil_of_length_eq_zero (by simpa using hr.len)
    subst hcs
    go_enter Tryd.func47, Tryd.ntmps47
    go_wp2_with fail
    go_ret
    exact ⟨_, rfl, World.ownsRow_nil _ _ _ _, Below.refl _ _⟩
  | some ad =>
    subst ha
    go_enter Tryd.func47, Tryd.ntmps47
    go_wp2_with (at_builtin; refine wpList_app rfl _ _ 23 rfl w.heap.size 21 (.int .i32 0) 1 4 Tryd.underlying23 info_int32 rfl (by decide) _ 0 [] rfl ?hown _ n cap B cs rfl ?hr ?h63 ?hb ?hbase ?_)
    case hown => exact World.ownsRow_lit w #[] 0 (Nat.le_refl _) (Nat.zero_le _) rfl
    case hr => exact hr.keep ((Below.refl _ _).alloc hB _) (Nat.le_refl _)
    case h63 => unfold maxLen; omega
    case hb => omega
    case hbase => simp
    intro v' w1 hown hgrow
    have Ho := Lib.hid hown; have Hg := Lib.hid hgrow; clear hown hgrow hel hr
    go_wp2_with fail
    go_ret
    refine ⟨v', rfl, by simpa using Ho.out, ((Below.refl _ _).alloc (Nat.le_refl _) _).grown Hg.out (by simp) ?_⟩
    simp [Value.ownBlock]

end Go.Proofs.YtmhgbocejjnoaaaDoor
