/- Walks: the reference of glyph: Insert, Remove, Cut. -/
import Derived.Test.YtdafbpjgjhfjmaaDoorRG4
import Derived.Deep.RegionLaw
namespace Go.Proofs.YtdafbpjgjhfjmaaDoor
open Go.RowKit Go.Redl
set_option linter.unusedVariables false

theorem rcopy_ent : ∀ args w, (callFunc 15 args).run Tryd.prog w = .ok (.enter 15 args) w := by intro args w; kernel_rfl

set_option maxRecDepth 100000 in
set_option maxHeartbeats 400000 in
theorem rinsert_ok (v1 v2 : Value) (B k : Nat) (r s : List Int) (w : World) (h1 : Ints .i32 w B v1 r) (h2 : Ints .i32 w B v2 s) (hB : B ≤ w.heap.size)
    (he : askedE r k s = 0) (hn : r.length + s.length ≤ 1000000) (hk : k ≤ r.length) :
    Calls Tryd.prog 16 #[v1, .int .i64 k, v2] w (MadeE .i32 w 21 (insL r k s) 0) := by
  have H1 := rcheck_c v1 B r w h1
  have H2 := rcheck_c v2 B s w h2
  obtain ⟨c1, c2⟩ := asked_zero he
  rw [c1] at H1
  rw [c2] at H2
  have H1 := Lib.hid H1
  have H2 := Lib.hid H2
  obtain ⟨⟨a, cap, rfl, hr⟩, -⟩ := h1
  obtain ⟨⟨a2, cap2, rfl, hr2⟩, -⟩ := h2
  have hle := hr.le
  have hmx := hr.max
  unfold maxLen at hmx
  obtain ⟨a3, c3, hs3, hr3⟩ := hr.cut_h 22 21 Tryd.underlying22 (fun W => by kernel_rfl) k hk
  obtain ⟨a4, c4, hs4, hr4⟩ := hr.cut_l 22 21 Tryd.underlying22 (fun W => by kernel_rfl) k hk
  have R2 := Lib.hid hr2
  have R3 := Lib.hid hr3
  have R4 := Lib.hid hr4
  clear hr hr2 hr3 hr4 he c1 c2
  go_enter Tryd.func16, Tryd.ntmps16
  go_wp2_with fail
  refine H1.out.mono ?_
  rintro e w' ⟨rfl, rfl⟩
  go_wp2_with fail
  refine H2.out.mono ?_
  rintro e w' ⟨rfl, rfl⟩
  go_wp2_with fail
  go_region_law (first
    | (refine step_call rfl 15 _ _ rfl rcopy_ent [Value.slice a3 k c3] ?_ _ (rcopy_c B k a3 c3 _ _ (R3.out.keep ?_ (Nat.le_refl _)) ?_ ?_) ?_
       · go_simp
       · exact (Below.refl _ _).drew
       · exact hB
       · omega
       rintro e w1 ⟨v, rfl, hown, hbel⟩
       refine ⟨v, rfl, ?_⟩
       have Ho := Lib.hid hown; have Hb := Lib.hid hbel; clear hown hbel)
    | (refine step_app rfl _ _ 22 rfl w.heap.size 21 (.int .i32 0) 1 4 Tryd.underlying22 info_int32 rfl (by decide) v k _ ?_ Ho.out a2 s.length cap2 B _ ?_ (R2.out.keep ?_ (Nat.le_refl _)) ?_ ?_ ?_ ?_
       · go_simp
       · go_simp
       · exact (((Below.refl _ _).drew).trans (Hb.out.mono hB))
       · unfold maxLen; omega
       · omega
       · exact Hb.out.size
       intro v' w2 hown hgrow
       have Ho2 := Lib.hid hown; have Hb2 := Lib.hid ((((Below.refl w.heap.size w).drew).trans Hb.out).grown hgrow Hb.out.size (fun j hj => (Ho.out.lt j hj).1)); clear hown hgrow)
    | (refine step_app rfl _ _ 22 rfl w.heap.size 21 (.int .i32 0) 1 4 Tryd.underlying22 info_int32 rfl (by decide) v' (k + s.length) _ ?_ Ho2.out a4 (r.length - k) c4 B _ ?_ (R4.out.keep ?_ (Nat.le_refl _)) ?_ ?_ ?_ ?_
       · go_simp
       · go_simp
       · exact Hb2.out.mono hB
       · unfold maxLen; omega
       · omega
       · exact Hb2.out.size
       intro v3 w3 hown hgrow
       have Ho3 := Lib.hid hown; have Hb3 := Lib.hid (Hb2.out.grown hgrow Hb2.out.size (fun j hj => (Ho2.out.lt j hj).1)); clear hown hgrow))
  go_wp2_with fail
  go_ret2
  exact ⟨v3, rfl, own_ints Ho3.out (by simp [insL, List.map_take, List.map_drop]), Hb3.out⟩

set_option maxRecDepth 100000 in
set_option maxHeartbeats 400000 in
theorem rinsert_no (v1 v2 : Value) (B : Nat) (r s : List Int) (at_ : Int) (w : World) (h1 : Ints .i32 w B v1 r) (h2 : Ints .i32 w B v2 s) (he : askedE r at_ s ≠ 0) :
    Calls Tryd.prog 16 #[v1, .int .i64 at_, v2] w (MadeE .i32 w 21 [] (askedE r at_ s)) := by
  have H1 := Lib.hid (rcheck_c v1 B r w h1)
  have H2 := Lib.hid (rcheck_c v2 B s w h2)
  obtain ⟨⟨a, cap, rfl, hr⟩, -⟩ := h1
  clear hr h2
  rcases asked_cases he with ⟨c1, hx⟩ | ⟨c1, c2, hx⟩ | ⟨c1, c2, c3, hx⟩ | ⟨c1, c2, c3, c4, hx⟩
  · have b1 : (checkE r != 0) = true := by simp [c1]
    rw [hx]
    clear c1 hx he
    go_enter Tryd.func16, Tryd.ntmps16
    go_wp2_with fail
    refine H1.out.mono ?_
    rintro e w' ⟨rfl, rfl⟩
    go_wp2_with fail
    go_ret2
    exact ⟨_, rfl, World.ownsRow_nil _ _ _ _, Below.refl _ _⟩
  · rw [c1] at H1
    have b2 : (checkE s != 0) = true := by simp [c2]
    rw [hx]
    clear c1 c2 hx he
    go_enter Tryd.func16, Tryd.ntmps16
    go_wp2_with fail
    refine H1.out.mono ?_
    rintro e w' ⟨rfl, rfl⟩
    go_wp2_with fail
    refine H2.out.mono ?_
    rintro e w' ⟨rfl, rfl⟩
    go_wp2_with fail
    go_ret2
    exact ⟨_, rfl, World.ownsRow_nil _ _ _ _, Below.refl _ _⟩
  · rw [c1] at H1
    rw [c2] at H2
    rw [hx]
    clear c1 c2 hx he
    go_enter Tryd.func16, Tryd.ntmps16
    go_wp2_with fail
    refine H1.out.mono ?_
    rintro e w' ⟨rfl, rfl⟩
    go_wp2_with fail
    refine H2.out.mono ?_
    rintro e w' ⟨rfl, rfl⟩
    go_wp2_with fail
    go_ret2
    exact ⟨_, rfl, World.ownsRow_nil _ _ _ _, Below.refl _ _⟩
  · rw [c1] at H1
    rw [c2] at H2
    rw [hx]
    clear c1 c2 hx he
    go_enter Tryd.func16, Tryd.ntmps16
    go_wp2_with fail
    refine H1.out.mono ?_
    rintro e w' ⟨rfl, rfl⟩
    go_wp2_with fail
    refine H2.out.mono ?_
    rintro e w' ⟨rfl, rfl⟩
    go_wp2_with fail
    go_ret2
    exact ⟨_, rfl, World.ownsRow_nil _ _ _ _, Below.refl _ _⟩

set_option maxRecDepth 100000 in
set_option maxHeartbeats 400000 in
theorem rremove_no (v1 v2 : Value) (B : Nat) (r s : List Int) (at_ : Int) (w : World) (h1 : Ints .i32 w B v1 r) (h2 : Ints .i32 w B v2 s) (he : askedE r at_ s ≠ 0) :
    Calls Tryd.prog 17 #[v1, .int .i64 at_, v2] w (MadeE .i32 w 21 [] (askedE r at_ s)) := by
  have H1 := Lib.hid (rcheck_c v1 B r w h1)
  have H2 := Lib.hid (rcheck_c v2 B s w h2)
  obtain ⟨⟨a, cap, rfl, hr⟩, -⟩ := h1
  clear hr h2
  rcases asked_cases he with ⟨c1, hx⟩ | ⟨c1, c2, hx⟩ | ⟨c1, c2, c3, hx⟩ | ⟨c1, c2, c3, c4, hx⟩
  · have b1 : (checkE r != 0) = true := by simp [c1]
    rw [hx]
    clear c1 hx he
    go_enter Tryd.func17, Tryd.ntmps17
    go_wp2_with fail
    refine H1.out.mono ?_
    rintro e w' ⟨rfl, rfl⟩
    go_wp2_with fail
    go_ret2
    exact ⟨_, rfl, World.ownsRow_nil _ _ _ _, Below.refl _ _⟩
  · rw [c1] at H1
    have b2 : (checkE s != 0) = true := by simp [c2]
    rw [hx]
    clear c1 c2 hx he
    go_enter Tryd.func17, Tryd.ntmps17
    go_wp2_with fail
    refine H1.out.mono ?_
    rintro e w' ⟨rfl, rfl⟩
    go_wp2_with fail
    refine H2.out.mono ?_
    rintro e w' ⟨rfl, rfl⟩
    go_wp2_with fail
    go_ret2
    exact ⟨_, rfl, World.ownsRow_nil _ _ _ _, Below.refl _ _⟩
  · rw [c1] at H1
    rw [c2] at H2
    rw [hx]
    clear c1 c2 hx he
    go_enter Tryd.func17, Tryd.ntmps17
    go_wp2_with fail
    refine H1.out.mono ?_
    rintro e w' ⟨rfl, rfl⟩
    go_wp2_with fail
    refine H2.out.mono ?_
    rintro e w' ⟨rfl, rfl⟩
    go_wp2_with fail
    go_ret2
    exact ⟨_, rfl, World.ownsRow_nil _ _ _ _, Below.refl _ _⟩
  · rw [c1] at H1
    rw [c2] at H2
    rw [hx]
    clear c1 c2 hx he
    go_enter Tryd.func17, Tryd.ntmps17
    go_wp2_with fail
    refine H1.out.mono ?_
    rintro e w' ⟨rfl, rfl⟩
    go_wp2_with fail
    refine H2.out.mono ?_
    rintro e w' ⟨rfl, rfl⟩
    go_wp2_with fail
    go_ret2
    exact ⟨_, rfl, World.ownsRow_nil _ _ _ _, Below.refl _ _⟩

end Go.Proofs.YtdafbpjgjhfjmaaDoor
