/- Walk: GlyphUndo. -/
import Derived.Test.YtdafbpjgjhfjmaaDoorRP1
import Derived.Test.YtdafbpjgjhfjmaaDoorRG4
namespace Go.Proofs.YtdafbpjgjhfjmaaDoor
open Go.RowKit Go.Redl
set_option linter.unusedVariables false

set_option maxRecDepth 100000 in
set_option maxHeartbeats 1000000 in
theorem undo_big (a1 a2 : Option Addr) (c1 c2 : Nat) (r s : List Int) (at_ : Int) (w : World) (ht : TabAt w) (hg : 5 < w.heap.size) (hb : 200 < r.length ∨ 200 < s.length) (m1 : r.length ≤ maxLen) (m2 : s.length ≤ maxLen) :
    Calls Tryd.prog 3 #[.slice a1 r.length c1, .int .i64 at_, .slice a2 s.length c2] w fun e w' => e = .returned (.bool true) ∧ Below w.heap.size w w' := by
  have HL := Lib.hid (live_c w ht hg)
  unfold maxLen at m1 m2
  clear ht
  by_cases h1 : 200 < r.length
  · clear hb
    go_enter Tryd.func3, Tryd.ntmps3
    go_wp2_with fail
    refine HL.out.mono ?_
    rintro e w1 ⟨rfl, hbel⟩
    have Hb := Lib.hid hbel
    clear hbel
    go_wp2_with fail
    go_ret
    exact ⟨rfl, Hb.out⟩
  · have h2 : 200 < s.length := by omega
    clear hb
    go_enter Tryd.func3, Tryd.ntmps3
    go_wp2_with fail
    refine HL.out.mono ?_
    rintro e w1 ⟨rfl, hbel⟩
    have Hb := Lib.hid hbel
    clear hbel
    go_wp2_with fail
    go_ret
    exact ⟨rfl, Hb.out⟩

set_option maxRecDepth 100000 in
set_option maxHeartbeats 1000000 in
theorem undo_no (a1 a2 : Option Addr) (c1 c2 : Nat) (r s : List Int) (at_ : Int) (w : World) (ht : TabAt w) (hg : 5 < w.heap.size)
    (i1 : Ints .i32 w w.heap.size (.slice a1 r.length c1) r) (i2 : Ints .i32 w w.heap.size (.slice a2 s.length c2) s) (n1 : r.length ≤ 200) (n2 : s.length ≤ 200) (he : askedE r at_ s ≠ 0) :
    Calls Tryd.prog 3 #[.slice a1 r.length c1, .int .i64 at_, .slice a2 s.length c2] w fun e w' => e = .returned (.bool true) ∧ Below w.heap.size w w' := by
  have HL := Lib.hid (live_c w ht hg)
  have HI := fun (W : World) (h : Below w.heap.size w W) => insert_c _ _ W.heap.size r s at_ W (i1.keep h h.size) (i2.keep h h.size) (Nat.le_refl _) (by omega)
  have HR := fun (W : World) (h : Below w.heap.size w W) => remove_c _ _ W.heap.size r s at_ W (i1.keep h h.size) (i2.keep h h.size) (Nat.le_refl _) (by omega)
  rw [insR_no he] at HI
  rw [remRR_no he] at HR
  obtain ⟨x, hx⟩ : ∃ x, askedE r at_ s = x := ⟨_, rfl⟩
  rw [hx] at HI HR he
  have XI := Lib.hid HI
  have XR := Lib.hid HR
  have e1 : (x != 0) = true := by simpa using he
  have e2 : (x == 0) = false := by simpa using he
  clear ht i1 i2 HI HR hx he
  go_enter Tryd.func3, Tryd.ntmps3
  go_wp2_with fail
  refine HL.out.mono ?_
  rintro e w1 ⟨rfl, hbel⟩
  have Hb := Lib.hid hbel
  clear hbel
  go_wp2_with fail
  refine (XI.out _ Hb.out).mono ?_
  intro e w2 hm
  obtain ⟨a, cap, rfl, hi, hbel⟩ := hm.open (by simp)
  have Hb2 := Lib.hid (Hb.out.trans (hbel.mono Hb.out.size))
  clear hm hi hbel
  go_wp2_with fail
  refine (XR.out _ Hb2.out).mono ?_
  intro e w3 hm
  obtain ⟨a, cap, rfl, hi, hbel⟩ := hm.open (by simp)
  have Hb3 := Lib.hid (Hb2.out.trans (hbel.mono Hb2.out.size))
  clear hm hi hbel
  go_wp2_with fail
  go_ret
  exact ⟨rfl, Hb3.out⟩

set_option maxRecDepth 100000 in
set_option maxHeartbeats 2000000 in
theorem undo_yes (a1 a2 : Option Addr) (c1 c2 : Nat) (r s : List Int) (k : Nat) (w : World) (ht : TabAt w) (hg : 5 < w.heap.size)
    (i1 : Ints .i32 w w.heap.size (.slice a1 r.length c1) r) (i2 : Ints .i32 w w.heap.size (.slice a2 s.length c2) s) (n1 : r.length ≤ 200) (n2 : s.length ≤ 200) (he : askedE r k s = 0) :
    Calls Tryd.prog 3 #[.slice a1 r.length c1, .int .i64 k, .slice a2 s.length c2] w fun e w' => e = .returned (.bool true) ∧ Below w.heap.size w w' := by
  have hk := (asked_place he).2
  have hki : k ≤ r.length := by omega
  have hli : (insL r k s).length = r.length + s.length := len_insL hki
  have wr := i1.wf
  have ws := i2.wf
  have HL := Lib.hid (live_c w ht hg)
  have HI := fun (W : World) (h : Below w.heap.size w W) => insert_c _ _ W.heap.size r s k W (i1.keep h h.size) (i2.keep h h.size) (Nat.le_refl _) (by omega)
  have HR := fun (W : World) (h : Below w.heap.size w W) => remove_c _ _ W.heap.size r s k W (i1.keep h h.size) (i2.keep h h.size) (Nat.le_refl _) (by omega)
  have HR2 := fun (W : World) (v : Value) (h : Below w.heap.size w W) (i : Ints .i32 W W.heap.size v (insL r k s)) => remove_c v _ W.heap.size (insL r k s) s k W i (i2.keep h h.size) (Nat.le_refl _) (by rw [hli]; omega)
  have HI2 := fun (W : World) (v : Value) (h : Below w.heap.size w W) (i : Ints .i32 W W.heap.size v (remL r k s)) => insert_c v _ W.heap.size (remL r k s) s k W i (i2.keep h h.size) (Nat.le_refl _) (by have := List.length_take_le k r; simp [remL]; omega)
  have HS := fun (W : World) (v : Value) (h : Below w.heap.size w W) (i : Ints .i32 W W.heap.size v r) => rsame_c v _ W.heap.size r r W i (i1.keep h h.size)
  simp only [decide_true] at HS
  rw [insR_yes he] at HI
  rw [remRR_yes he] at HR
  rw [remRR_yes (ins_asked he), ins_rem hki] at HR2
  have wi : ∀ z ∈ insL r k s, (Lit.int .i32 z).wf = true := fun z hz => (mem_insL hz).elim (wr z) (ws z)
  have wm : ∀ z ∈ remL r k s, (Lit.int .i32 z).wf = true := fun z hz => wr z (mem_remL hz)
  have XI := Lib.hid HI
  have XR2 := Lib.hid HR2
  have XS := Lib.hid HS
  have Wi := Lib.hid wi
  have Wr := Lib.hid wr
  have hlen : ((insL r k s).length : Int) = (r.length : Int) + (s.length : Int) := by omega
  have e57 : (((insL r k s).length : Int) != (r.length : Int) + (s.length : Int)) = false := by rw [hlen]; simp
  have Hli := Lib.hid hli
  by_cases hs : (r.drop k).take s.length = s
  · rw [remR_yes hs] at HR
    rw [insR_yes (rem_asked he hs), rem_ins hki hs] at HI2
    have XR := Lib.hid HR
    have XI2 := Lib.hid HI2
    have Wm := Lib.hid wm
    clear ht i1 i2 HI HR HR2 HI2 HS hk hli wr ws wi wm hs he hlen
    go_enter Tryd.func3, Tryd.ntmps3
    go_wp2_with fail
    refine HL.out.mono ?_
    rintro e w1 ⟨rfl, hbel⟩
    have Hb := Lib.hid hbel
    clear hbel
    go_wp2_with fail
    refine (XI.out _ Hb.out).mono ?_
    intro e w2 hm
    obtain ⟨a, cap, rfl, hi, hbel⟩ := hm.open Wi.out
    have Hb2 := Lib.hid (Hb.out.trans (hbel.mono Hb.out.size))
    have Hi2 := Lib.hid hi
    clear hm hi hbel
    go_wp2_with fail
    refine (XR2.out _ _ Hb2.out Hi2.out).mono ?_
    intro e w3 hm
    obtain ⟨a3, cap3, rfl, hi, hbel⟩ := hm.open Wr.out
    have Hb3 := Lib.hid (Hb2.out.trans (hbel.mono Hb2.out.size))
    have Hi3 := Lib.hid hi
    clear hm hi hbel
    go_wp2_with fail
    refine (XS.out _ _ Hb3.out Hi3.out).mono ?_
    rintro e w4 ⟨rfl, q, rfl⟩
    have Hb4 := Lib.hid (below_drewN Hb3.out q)
    go_wp2_with fail
    refine (XR.out _ Hb4.out).mono ?_
    intro e w5 hm
    obtain ⟨a5, cap5, rfl, hi, hbel⟩ := hm.open Wm.out
    have Hb5 := Lib.hid (Hb4.out.trans (hbel.mono Hb4.out.size))
    have Hi5 := Lib.hid hi
    clear hm hi hbel
    go_wp2_with fail
    refine (XI2.out _ _ Hb5.out Hi5.out).mono ?_
    intro e w6 hm
    obtain ⟨a6, cap6, rfl, hi, hbel⟩ := hm.open Wr.out
    have Hb6 := Lib.hid (Hb5.out.trans (hbel.mono Hb5.out.size))
    have Hi6 := Lib.hid hi
    clear hm hi hbel
    go_wp2_with fail
    refine (XS.out _ _ Hb6.out Hi6.out).mono ?_
    rintro e w7 ⟨rfl, q7, rfl⟩
    go_wp2_with fail
    go_ret
    exact ⟨rfl, below_drewN Hb6.out q7⟩
  · rw [remR_no hs] at HR
    have XR := Lib.hid HR
    clear ht i1 i2 HI HR HR2 HI2 HS hk hli wr ws wi wm hs he hlen
    go_enter Tryd.func3, Tryd.ntmps3
    go_wp2_with fail
    refine HL.out.mono ?_
    rintro e w1 ⟨rfl, hbel⟩
    have Hb := Lib.hid hbel
    clear hbel
    go_wp2_with fail
    refine (XI.out _ Hb.out).mono ?_
    intro e w2 hm
    obtain ⟨a, cap, rfl, hi, hbel⟩ := hm.open Wi.out
    have Hb2 := Lib.hid (Hb.out.trans (hbel.mono Hb.out.size))
    have Hi2 := Lib.hid hi
    clear hm hi hbel
    go_wp2_with fail
    refine (XR2.out _ _ Hb2.out Hi2.out).mono ?_
    intro e w3 hm
    obtain ⟨a3, cap3, rfl, hi, hbel⟩ := hm.open Wr.out
    have Hb3 := Lib.hid (Hb2.out.trans (hbel.mono Hb2.out.size))
    have Hi3 := Lib.hid hi
    clear hm hi hbel
    go_wp2_with fail
    refine (XS.out _ _ Hb3.out Hi3.out).mono ?_
    rintro e w4 ⟨rfl, q, rfl⟩
    have Hb4 := Lib.hid (below_drewN Hb3.out q)
    go_wp2_with fail
    refine (XR.out _ Hb4.out).mono ?_
    intro e w5 hm
    obtain ⟨a5, cap5, rfl, hi, hbel⟩ := hm.open (by simp)
    have Hb5 := Lib.hid (Hb4.out.trans (hbel.mono Hb4.out.size))
    clear hm hi hbel
    go_wp2_with fail
    go_ret
    exact ⟨rfl, Hb5.out⟩

theorem undo_walk (a1 a2 : Option Addr) (c1 c2 : Nat) (r s : List Int) (at_ : Int) (w : World) (ht : TabAt w) (hg : 5 < w.heap.size)
    (i1 : Ints .i32 w w.heap.size (.slice a1 r.length c1) r) (i2 : Ints .i32 w w.heap.size (.slice a2 s.length c2) s) :
    Calls Tryd.prog 3 #[.slice a1 r.length c1, .int .i64 at_, .slice a2 s.length c2] w fun e w' => e = .returned (.bool true) ∧ Below w.heap.size w w' := by
  by_cases hb : 200 < r.length ∨ 200 < s.length
  · obtain ⟨⟨b1, d1, h1, r1⟩, -⟩ := i1
    obtain ⟨⟨b2, d2, h2, r2⟩, -⟩ := i2
    exact undo_big a1 a2 c1 c2 r s at_ w ht hg hb (Nat.le_trans r1.le r1.max) (Nat.le_trans r2.le r2.max)
  · by_cases he : askedE r at_ s = 0
    · obtain ⟨k, rfl⟩ := Int.eq_ofNat_of_zero_le (asked_place he).1
      exact undo_yes a1 a2 c1 c2 r s k w ht hg i1 i2 (by omega) (by omega) he
    · exact undo_no a1 a2 c1 c2 r s at_ w ht hg i1 i2 (by omega) (by omega) he

end Go.Proofs.YtdafbpjgjhfjmaaDoor
