/- Walk: GlyphCuts. -/
import Derived.Test.YtdafbpjgjhfjmaaDoorRP1
import Derived.Test.YtdafbpjgjhfjmaaDoorRG4
namespace Go.Proofs.YtdafbpjgjhfjmaaDoor
open Go.RowKit Go.Redl
set_option linter.unusedVariables false

set_option maxRecDepth 100000 in
set_option maxHeartbeats 1000000 in
theorem cuts_big (a1 : Option Addr) (c1 : Nat) (r : List Int) (at_ : Int) (w : World) (ht : TabAt w) (hg : 5 < w.heap.size) (h1 : 200 < r.length) (m1 : r.length ≤ maxLen) :
    Calls Tryd.prog 4 #[.slice a1 r.length c1, .int .i64 at_] w fun e w' => e = .returned (.bool true) ∧ Below w.heap.size w w' := by
  have HL := Lib.hid (live_c w ht hg)
  unfold maxLen at m1
  clear ht
  go_enter Tryd.func4, Tryd.ntmps4
  go_wp2_with fail
  refine HL.out.mono ?_
  rintro e w1 ⟨rfl, hbel⟩
  have Hb := Lib.hid hbel
  clear hbel
  go_wp2_with fail
  go_ret
  exact ⟨rfl, Hb.out⟩

set_option maxRecDepth 100000 in
set_option maxHeartbeats 1000000 in
theorem cuts_no (a1 : Option Addr) (c1 : Nat) (r : List Int) (at_ : Int) (w : World) (ht : TabAt w) (hg : 5 < w.heap.size)
    (i1 : Ints .i32 w w.heap.size (.slice a1 r.length c1) r) (n1 : r.length ≤ 200) (he : askedE r at_ [] ≠ 0) :
    Calls Tryd.prog 4 #[.slice a1 r.length c1, .int .i64 at_] w fun e w' => e = .returned (.bool true) ∧ Below w.heap.size w w' := by
  have HL := Lib.hid (live_c w ht hg)
  have HC := fun (W : World) (h : Below w.heap.size w W) => cut_c _ W.heap.size r at_ W (i1.keep h h.size) (Nat.le_refl _) (by omega)
  have HK := fun (W : World) (h : Below w.heap.size w W) => check_c _ W.heap.size r W (i1.keep h h.size)
  have hcases := asked_cases0' he
  rw [cutR_no he] at HC
  obtain ⟨x, hx⟩ : ∃ x, askedE r at_ [] = x := ⟨_, rfl⟩
  rw [hx] at HC he
  have XC := Lib.hid HC
  have e1 : (x != 0) = true := by simpa using he
  clear ht i1 HC hx he
  rcases hcases with c1 | ⟨c1, c3⟩ | ⟨c1, c3, c4⟩
  · rw [c1] at HK
    have XK := Lib.hid HK
    clear HK c1
    go_enter Tryd.func4, Tryd.ntmps4
    go_wp2_with fail
    refine HL.out.mono ?_
    rintro e w1 ⟨rfl, hbel⟩
    have Hb := Lib.hid hbel
    clear hbel
    go_wp2_with fail
    refine (XC.out _ Hb.out).mono ?_
    intro e w2 hm
    obtain ⟨a, cap, a', cap', rfl, hi, hi', hbel⟩ := hm.open (by simp) (by simp)
    have Hb2 := Lib.hid (Hb.out.trans (hbel.mono Hb.out.size))
    clear hm hi hi' hbel
    go_wp2_with fail
    refine (XK.out _ Hb2.out).mono ?_
    rintro e w3 ⟨rfl, rfl⟩
    go_wp2_with fail
    go_ret
    exact ⟨rfl, Hb2.out⟩
  all_goals
    rw [c1] at HK
    have XK := Lib.hid HK
    clear HK c1
    go_enter Tryd.func4, Tryd.ntmps4
    go_wp2_with fail
    refine HL.out.mono ?_
    rintro e w1 ⟨rfl, hbel⟩
    have Hb := Lib.hid hbel
    clear hbel
    go_wp2_with fail
    refine (XC.out _ Hb.out).mono ?_
    intro e w2 hm
    obtain ⟨a, cap, a', cap', rfl, hi, hi', hbel⟩ := hm.open (by simp) (by simp)
    have Hb2 := Lib.hid (Hb.out.trans (hbel.mono Hb.out.size))
    clear hm hi hi' hbel
    go_wp2_with fail
    refine (XK.out _ Hb2.out).mono ?_
    rintro e w3 ⟨rfl, rfl⟩
    go_wp2_with fail
    go_ret
    exact ⟨rfl, Hb2.out⟩

set_option maxRecDepth 100000 in
set_option maxHeartbeats 2000000 in
theorem cuts_yes (a1 : Option Addr) (c1 : Nat) (r : List Int) (k : Nat) (w : World) (ht : TabAt w) (hg : 5 < w.heap.size)
    (i1 : Ints .i32 w w.heap.size (.slice a1 r.length c1) r) (n1 : r.length ≤ 200) (he : askedE r k [] = 0) :
    Calls Tryd.prog 4 #[.slice a1 r.length c1, .int .i64 k] w fun e w' => e = .returned (.bool true) ∧ Below w.heap.size w w' := by
  have hk := (asked_place he).2
  have wr := i1.wf
  have wx : ∀ z ∈ r.take k, (Lit.int .i32 z).wf = true := fun z hz => wr z (List.mem_of_mem_take hz)
  have wy : ∀ z ∈ r.drop k, (Lit.int .i32 z).wf = true := fun z hz => wr z (List.mem_of_mem_drop hz)
  have HL := Lib.hid (live_c w ht hg)
  have HC := fun (W : World) (h : Below w.heap.size w W) => cut_c _ W.heap.size r k W (i1.keep h h.size) (Nat.le_refl _) (by omega)
  have HI := fun (W : World) (v u : Value) (i : Ints .i32 W W.heap.size v (r.take k)) (j : Ints .i32 W W.heap.size u (r.drop k)) => insert_c v u W.heap.size (r.take k) (r.drop k) (r.take k).length W i j (Nat.le_refl _) (by simp; omega)
  have HR := fun (W : World) (u : Value) (h : Below w.heap.size w W) (j : Ints .i32 W W.heap.size u (r.drop k)) => remove_c _ u W.heap.size r (r.drop k) k W (i1.keep h h.size) j (Nat.le_refl _) (by simp; omega)
  have HS := fun (W : World) (v : Value) (h : Below w.heap.size w W) (i : Ints .i32 W W.heap.size v r) => rsame_c v _ W.heap.size r r W i (i1.keep h h.size)
  have HS2 := fun (W : World) (v u : Value) (i : Ints .i32 W W.heap.size v (r.take k)) (j : Ints .i32 W W.heap.size u (r.take k)) => rsame_c v u W.heap.size _ _ W i j
  simp only [decide_true] at HS HS2
  rw [cutR_yes he] at HC
  rw [cut_ins he] at HI
  rw [cut_rem he] at HR
  obtain ⟨xs, hxs⟩ : ∃ xs, r.take k = xs := ⟨_, rfl⟩
  obtain ⟨ys, hys⟩ : ∃ ys, r.drop k = ys := ⟨_, rfl⟩
  have hxl : xs.length = k := by rw [← hxs]; simp; omega
  have hyl : ys.length ≤ 200 := by rw [← hys]; simp; omega
  rw [hxs] at HC HI HR HS2 wx
  rw [hys] at HC HI HR wy
  have XC := Lib.hid HC; have XI := Lib.hid HI; have XR := Lib.hid HR; have XS := Lib.hid HS; have XS2 := Lib.hid HS2
  have Wx := Lib.hid wx; have Wy := Lib.hid wy; have Wr := Lib.hid wr
  have e1 : (((xs.length : Nat) : Int) == (k : Int)) = true := by simp [hxl]
  have Hxl := Lib.hid hxl
  clear ht i1 HC HI HR HS HS2 wx wy wr hxs hys hxl he
  go_enter Tryd.func4, Tryd.ntmps4
  go_wp2_with fail
  refine HL.out.mono ?_
  rintro e w1 ⟨rfl, hbel⟩
  have Hb := Lib.hid hbel
  clear hbel
  go_wp2_with fail
  refine (XC.out _ Hb.out).mono ?_
  intro e w2 hm
  obtain ⟨a, cap, a', cap', rfl, hi, hi', hbel⟩ := hm.open Wx.out Wy.out
  have Hb2 := Lib.hid (Hb.out.trans (hbel.mono Hb.out.size))
  have Hi2 := Lib.hid hi; have Hj2 := Lib.hid hi'
  clear hm hi hi' hbel
  go_wp2_with fail
  refine (XI.out _ _ _ Hi2.out Hj2.out).mono ?_
  intro e w3 hm
  obtain ⟨a3, cap3, rfl, hi, hbel⟩ := hm.open Wr.out
  have Hb3 := Lib.hid (Hb2.out.trans (hbel.mono Hb2.out.size))
  have Hi3 := Lib.hid hi; have Hx3 := Lib.hid (Hi2.out.keep hbel hbel.size); have Hy3 := Lib.hid (Hj2.out.keep hbel hbel.size)
  clear hm hi hbel
  go_wp2_with fail
  refine (XR.out _ _ Hb3.out Hy3.out).mono ?_
  intro e w4 hm
  obtain ⟨a4, cap4, rfl, hi, hbel⟩ := hm.open Wx.out
  have Hb4 := Lib.hid (Hb3.out.trans (hbel.mono Hb3.out.size))
  have Hi4 := Lib.hid hi; have Hx4 := Lib.hid (Hx3.out.keep hbel hbel.size); have Hc4 := Lib.hid (Hi3.out.keep hbel hbel.size)
  clear hm hi hbel
  go_wp2_with fail
  refine (XS.out _ _ Hb4.out Hc4.out).mono ?_
  rintro e w5 ⟨rfl, q5, rfl⟩
  have Hi5 := Lib.hid (Hi4.out.keep (below_drewN (Below.refl _ _) q5) (Nat.le_refl _)); have Hx5 := Lib.hid (Hx4.out.keep (below_drewN (Below.refl _ _) q5) (Nat.le_refl _))
  go_wp2_with fail
  refine (XS2.out _ _ _ Hi5.out Hx5.out).mono ?_
  rintro e w6 ⟨rfl, q6, rfl⟩
  go_wp2_with fail
  go_ret
  exact ⟨rfl, by first | exact below_drewN Hb4.out _ | exact below_drewN (below_drewN Hb4.out q5) q6⟩

theorem cuts_walk (a1 : Option Addr) (c1 : Nat) (r : List Int) (at_ : Int) (w : World) (ht : TabAt w) (hg : 5 < w.heap.size)
    (i1 : Ints .i32 w w.heap.size (.slice a1 r.length c1) r) :
    Calls Tryd.prog 4 #[.slice a1 r.length c1, .int .i64 at_] w fun e w' => e = .returned (.bool true) ∧ Below w.heap.size w w' := by
  by_cases hb : 200 < r.length
  · obtain ⟨⟨b1, d1, h1, r1⟩, -⟩ := i1
    exact cuts_big a1 c1 r at_ w ht hg hb (Nat.le_trans r1.le r1.max)
  · by_cases he : askedE r at_ [] = 0
    · obtain ⟨k, rfl⟩ := Int.eq_ofNat_of_zero_le (asked_place he).1
      exact cuts_yes a1 c1 r k w ht hg i1 (by omega) he
    · exact cuts_no a1 c1 r at_ w ht hg i1 (by omega) he

end Go.Proofs.YtdafbpjgjhfjmaaDoor
