/- Walks: glyph.Cut, Same. -/
import Derived.Test.YtdafbpjgjhfjmaaDoorRG2
namespace Go.Proofs.YtdafbpjgjhfjmaaDoor
open Go.RowKit Go.Redl
set_option linter.unusedVariables false

set_option maxRecDepth 100000 in
set_option maxHeartbeats 400000 in
theorem cut_no (v1 : Value) (B : Nat) (r : List Int) (at_ : Int) (w : World) (h1 : Ints .i32 w B v1 r) (he : askedE r at_ [] ≠ 0) :
    Calls Tryd.prog 13 #[v1, .int .i64 at_] w (MadeEE .i32 w 21 [] [] (askedE r at_ [])) := by
  have H1 := Lib.hid (asked_c v1 (.slice none 0 0) B r [] at_ w h1 ⟨⟨none, 0, rfl, RowA.empty _ _ _⟩, by simp⟩)
  obtain ⟨x, hx⟩ : ∃ x, askedE r at_ [] = x := ⟨_, rfl⟩
  rw [hx] at H1 he ⊢
  have hb : (x != 0) = true := by simpa using he
  clear hx he h1
  go_enter Tryd.func13, Tryd.ntmps13
  go_wp2_with fail
  refine H1.out.mono ?_
  rintro e w' ⟨rfl, rfl⟩
  go_wp2_with fail
  go_ret3
  exact ⟨_, _, rfl, World.ownsRow_nil _ _ _ _, World.ownsRow_nil _ _ _ _, .inl rfl, Below.refl _ _⟩

set_option maxRecDepth 100000 in
set_option maxHeartbeats 400000 in
theorem cut_ok (v1 : Value) (B k : Nat) (r : List Int) (w : World) (h1 : Ints .i32 w B v1 r) (hB : B ≤ w.heap.size)
    (he : askedE r k [] = 0) (hn : r.length ≤ 1000000) (hk : k ≤ r.length) :
    Calls Tryd.prog 13 #[v1, .int .i64 k] w (MadeEE .i32 w 21 (r.take k) (r.drop k) 0) := by
  have H0 := asked_c v1 (.slice none 0 0) B r [] k w h1 ⟨⟨none, 0, rfl, RowA.empty _ _ _⟩, by simp⟩
  rw [he] at H0
  have H1 := Lib.hid H0
  clear H0
  obtain ⟨⟨a, cap, rfl, hr⟩, -⟩ := h1
  have hle := hr.le
  have hmx := hr.max
  unfold maxLen at hmx
  obtain ⟨a3, c3, hs3, hr3⟩ := hr.cut_h 22 21 Tryd.underlying22 (fun W => by kernel_rfl) k hk
  obtain ⟨a4, c4, hs4, hr4⟩ := hr.cut_l 22 21 Tryd.underlying22 (fun W => by kernel_rfl) k hk
  have HC1 := fun (W : World) (h : Below w.heap.size w W) => Lib.hid (clone_rune W.heap.size k a3 c3 _ W (hr3.keep (h.mono hB) (Nat.le_trans hB h.size)) (Nat.le_refl _) (by omega))
  have HC2 := fun (W : World) (h : Below w.heap.size w W) => Lib.hid (clone_rune W.heap.size (r.length - k) a4 c4 _ W (hr4.keep (h.mono hB) (Nat.le_trans hB h.size)) (Nat.le_refl _) (by omega))
  clear hr hr3 hr4 he
  have X1 := Lib.hid HC1
  have X2 := Lib.hid HC2
  clear HC1 HC2
  go_enter Tryd.func13, Tryd.ntmps13
  go_wp2_with fail
  refine H1.out.mono ?_
  rintro e w' ⟨rfl, rfl⟩
  go_wp2_with fail
  go_region_with (first
    | (go_at_call_of 28 (Value.slice a3 k c3); refine (X1.out _ ?_).out.mono ?_; exact (Below.refl _ _).drew; rintro e w1 ⟨v, rfl, hown, hbel⟩; have Ho := Lib.hid hown; have Hb := Lib.hid hbel; clear hown hbel)
    | (go_at_call_of 28 (Value.slice a4 (r.length - k) c4); refine (X2.out _ ?_).out.mono ?_; exact ((Below.refl _ _).drew).trans Hb.out; rintro e w2 ⟨u, rfl, hown, hbel⟩; have Ho2 := Lib.hid hown; have Hb2 := Lib.hid hbel; clear hown hbel))
  go_wp2_with fail
  go_ret3
  have hz : w.heap.size ≤ w1.heap.size := Hb.out.size
  refine ⟨v, u, rfl, own_keep (own_ints (own_mono Ho.out (base := w.heap.size) (by simp)) (by simp [List.map_take])) Hb2.out, own_ints (own_mono Ho2.out hz) (by simp [List.map_drop]), own_apart Ho.out Ho2.out (Nat.le_refl _), ?_⟩
  exact (((Below.refl _ _).drew).trans Hb.out).trans (Hb2.out.mono hz)

set_option maxRecDepth 100000 in
set_option maxHeartbeats 400000 in
theorem same_c (v1 v2 : Value) (B : Nat) (xs ys : List Int) (w : World) (h1 : Ints .i32 w B v1 xs) (h2 : Ints .i32 w B v2 ys) :
    Calls Tryd.prog 20 #[v1, v2] w fun e w' => e = .returned (.bool (decide (xs = ys))) ∧ Drawn w w' := by
  have H := Lib.hid (equal_rune v1 v2 B xs ys w h1 h2)
  clear h1 h2
  go_enter Tryd.func20, Tryd.ntmps20
  go_wp2_with fail
  refine H.out.mono ?_
  rintro e w' ⟨rfl, hd⟩
  have Hd := Lib.hid hd
  clear hd
  go_wp2_with fail
  go_ret
  exact ⟨rfl, Hd.out⟩

end Go.Proofs.YtdafbpjgjhfjmaaDoor
