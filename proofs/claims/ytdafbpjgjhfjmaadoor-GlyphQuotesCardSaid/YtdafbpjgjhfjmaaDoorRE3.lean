/- Walk: GlyphQuotes. -/
import Derived.Test.YtdafbpjgjhfjmaaDoorRE2
import Derived.Test.YtdafbpjgjhfjmaaDoorRR9
namespace Go.Proofs.YtdafbpjgjhfjmaaDoor
open Go.RowKit Go.Redl Go.BigFrame
set_option linter.unusedVariables false

theorem rquote_below {f : Nat} {args : Array Value} {W : World} {v : Value} (h : Calls Tryd.prog f args W fun e w' => e = .returned v ∧ W = w') : Calls Tryd.prog f args W fun e w' => e = .returned v ∧ Below W.heap.size W w' :=
  h.mono fun e w' h => ⟨h.1, by obtain rfl := h.2; exact Below.refl _ _⟩
theorem unq_wf (s : List UInt8) : ∀ z ∈ (unqL s).1, (Lit.int .i32 z).wf = true := by
  rcases unq_cases s with ⟨zs, hz, -, hu⟩ | ⟨p, -, hu⟩
  · rw [hu]; exact valid_wf hz
  · rw [hu]; simp

set_option maxRecDepth 100000 in
set_option maxHeartbeats 1000000 in
theorem quotes_big (a1 : Option Addr) (c1 : Nat) (r : List Int) (S : ByteArray) (w : World) (ht : TabAt w) (hg : 5 < w.heap.size) (hb : 200 < r.length ∨ 400 < S.size) (m1 : r.length ≤ maxLen) (m2 : S.size ≤ maxLen) :
    Calls Tryd.prog 6 #[.slice a1 r.length c1, .string S] w fun e w' => e = .returned (.bool true) ∧ Below w.heap.size w w' := by
  have HL := Lib.hid (live_c w ht hg)
  unfold maxLen at m1 m2
  clear ht
  by_cases h1 : 200 < r.length
  · clear hb
    go_enter Tryd.func6, Tryd.ntmps6
    go_wp2_with fail
    refine HL.out.mono ?_
    rintro e w1 ⟨rfl, hbel⟩
    have Hb := Lib.hid hbel
    clear hbel
    go_wp2_with fail
    go_ret
    exact ⟨rfl, Hb.out⟩
  · have h2 : 400 < S.size := by omega
    clear hb
    go_enter Tryd.func6, Tryd.ntmps6
    go_wp2_with fail
    refine HL.out.mono ?_
    rintro e w1 ⟨rfl, hbel⟩
    have Hb := Lib.hid hbel
    clear hbel
    go_wp2_with fail
    go_ret
    exact ⟨rfl, Hb.out⟩

set_option maxRecDepth 100000 in
set_option maxHeartbeats 2000000 in
theorem quotes_ok (a1 : Option Addr) (c1 : Nat) (r : List Int) (s : List UInt8) (w : World) (ht : TabAt w) (hg : 5 < w.heap.size) (hE : ErrsAt w)
    (i1 : Ints .i32 w w.heap.size (.slice a1 r.length c1) r) (n1 : r.length ≤ 200) (n2 : s.length ≤ 400) (he : checkE r = 0) :
    Calls Tryd.prog 6 #[.slice a1 r.length c1, .string ⟨s.toArray⟩] w fun e w' => e = .returned (.bool true) ∧ Below w.heap.size w w' := by
  have HL := Lib.hid (live_c w ht hg)
  have HQ := fun W (h : Below w.heap.size w W) => Lib.hid (quote_ok _ _ r W (i1.keep h h.size) (Nat.le_refl _) he (by omega) (ht.keep h hg) (Nat.lt_of_lt_of_le hg h.size))
  have HR := fun W (h : Below w.heap.size w W) => Lib.hid (rquote_ok _ _ r W (i1.keep h h.size) (Nat.le_refl _) he (by omega))
  obtain ⟨T, hT⟩ : ∃ T, T = (⟨(quoteL r).toArray⟩ : ByteArray) := ⟨_, rfl⟩
  rw [← hT] at HQ HR
  clear hT
  have HU := fun W (h : Below w.heap.size w W) => Lib.hid (unquote_c s W (by omega) (hE.keep h) (ht.keep h hg) (Nat.lt_of_lt_of_le hg h.size))
  have HRU := fun W => Lib.hid (runquote_c s W (by omega))
  have Hwf := Lib.hid (unq_wf s)
  have hss : (⟨s.toArray⟩ : ByteArray).size = s.length := rfl
  obtain ⟨S, hS⟩ : ∃ S, S = (⟨s.toArray⟩ : ByteArray) := ⟨_, rfl⟩
  rw [← hS] at hss HU HRU ⊢
  generalize unqL s = U at HU HRU Hwf
  obtain ⟨zs, p, er⟩ := U
  clear hS ht i1 he hE
  go_enter Tryd.func6, Tryd.ntmps6
  go_wp2_with fail
  refine HL.out.mono ?_
  rintro e w1 ⟨rfl, hbel⟩
  have Hb1 := Lib.hid hbel
  have HQ1 := HQ _ Hb1.out
  clear hbel HL HQ
  go_wp2_with fail
  refine HQ1.out.mono ?_
  rintro e w2 ⟨rfl, hbel⟩
  have Hb2 := Lib.hid (Hb1.out.trans (hbel.mono Hb1.out.size))
  have HR1 := HR _ Hb2.out
  clear hbel HQ1 HR
  go_wp2_with fail
  refine HR1.out.mono ?_
  rintro e w3 ⟨rfl, hbel⟩
  have Hb3 := Lib.hid (Hb2.out.trans (hbel.mono Hb2.out.size))
  have HU1 := HU _ Hb3.out
  clear hbel HR1 HU
  go_wp2_with fail
  refine HU1.out.mono ?_
  intro e w4 hm
  obtain ⟨a4, c4, rfl, i4, hbel⟩ := hm.open Hwf.out
  have Hb4 := Lib.hid (Hb3.out.trans (hbel.mono Hb3.out.size))
  have I4 := Lib.hid i4
  have HU2 := HRU w4
  clear hbel HU1 HRU hm i4
  go_wp2_with fail
  refine HU2.out.mono ?_
  intro e w5 hm
  obtain ⟨a5, c5, rfl, i5, hbel⟩ := hm.open Hwf.out
  have Hb5 := Lib.hid (Hb4.out.trans (hbel.mono Hb4.out.size))
  have HS : Hid (Calls Tryd.prog 12 #[.slice a4 zs.length c4, .slice a5 zs.length c5] w5 fun e w' => e = .returned (.bool true) ∧ Drawn w5 w') := Lib.hid ((rsame_c _ _ _ zs zs w5 (I4.out.keep hbel hbel.size) i5).mono fun e w' h => ⟨h.1.trans (ret_bool (decide_eq_true rfl)), h.2⟩)
  clear hbel HU2 hm i5 I4 Hwf
  simp only
  go_wp2_with fail
  refine HS.out.mono ?_
  rintro e w6 ⟨rfl, hd⟩
  have Hb6 := Lib.hid (Drawn.trans_below Hb5.out hd)
  clear hd HS
  go_wp2_with fail
  go_ret
  exact ⟨ret_bool (by simp), Hb6.out⟩

set_option maxRecDepth 100000 in
set_option maxHeartbeats 2000000 in
theorem quotes_no (a1 : Option Addr) (c1 : Nat) (r : List Int) (s : List UInt8) (w : World) (ht : TabAt w) (hg : 5 < w.heap.size) (hE : ErrsAt w)
    (i1 : Ints .i32 w w.heap.size (.slice a1 r.length c1) r) (n1 : r.length ≤ 200) (n2 : s.length ≤ 400) (he : checkE r ≠ 0) :
    Calls Tryd.prog 6 #[.slice a1 r.length c1, .string ⟨s.toArray⟩] w fun e w' => e = .returned (.bool true) ∧ Below w.heap.size w w' := by
  have HL := Lib.hid (live_c w ht hg)
  have HQ := fun W (h : Below w.heap.size w W) => Lib.hid (rquote_below (quote_no _ _ r W (i1.keep h h.size) he))
  have HR := fun W (h : Below w.heap.size w W) => Lib.hid (rquote_below (rquote_no _ _ r W (i1.keep h h.size) he))
  have HU := fun W (h : Below w.heap.size w W) => Lib.hid (unquote_c s W (by omega) (hE.keep h) (ht.keep h hg) (Nat.lt_of_lt_of_le hg h.size))
  have HRU := fun W => Lib.hid (runquote_c s W (by omega))
  have Hwf := Lib.hid (unq_wf s)
  have hss : (⟨s.toArray⟩ : ByteArray).size = s.length := rfl
  obtain ⟨S, hS⟩ : ∃ S, S = (⟨s.toArray⟩ : ByteArray) := ⟨_, rfl⟩
  rw [← hS] at hss HU HRU ⊢
  generalize unqL s = U at HU HRU Hwf
  obtain ⟨zs, p, er⟩ := U
  clear hS ht i1 he hE
  go_enter Tryd.func6, Tryd.ntmps6
  go_wp2_with fail
  refine HL.out.mono ?_
  rintro e w1 ⟨rfl, hbel⟩
  have Hb1 := Lib.hid hbel
  have HQ1 := HQ _ Hb1.out
  clear hbel HL HQ
  go_wp2_with fail
  refine HQ1.out.mono ?_
  rintro e w2 ⟨rfl, hbel⟩
  have Hb2 := Lib.hid (Hb1.out.trans (hbel.mono Hb1.out.size))
  have HR1 := HR _ Hb2.out
  clear hbel HQ1 HR
  go_wp2_with fail
  refine HR1.out.mono ?_
  rintro e w3 ⟨rfl, hbel⟩
  have Hb3 := Lib.hid (Hb2.out.trans (hbel.mono Hb2.out.size))
  have HU1 := HU _ Hb3.out
  clear hbel HR1 HU
  go_wp2_with fail
  refine HU1.out.mono ?_
  intro e w4 hm
  obtain ⟨a4, c4, rfl, i4, hbel⟩ := hm.open Hwf.out
  have Hb4 := Lib.hid (Hb3.out.trans (hbel.mono Hb3.out.size))
  have I4 := Lib.hid i4
  have HU2 := HRU w4
  clear hbel HU1 HRU hm i4
  go_wp2_with fail
  refine HU2.out.mono ?_
  intro e w5 hm
  obtain ⟨a5, c5, rfl, i5, hbel⟩ := hm.open Hwf.out
  have Hb5 := Lib.hid (Hb4.out.trans (hbel.mono Hb4.out.size))
  have HS : Hid (Calls Tryd.prog 12 #[.slice a4 zs.length c4, .slice a5 zs.length c5] w5 fun e w' => e = .returned (.bool true) ∧ Drawn w5 w') := Lib.hid ((rsame_c _ _ _ zs zs w5 (I4.out.keep hbel hbel.size) i5).mono fun e w' h => ⟨h.1.trans (ret_bool (decide_eq_true rfl)), h.2⟩)
  clear hbel HU2 hm i5 I4 Hwf
  simp only
  go_wp2_with fail
  refine HS.out.mono ?_
  rintro e w6 ⟨rfl, hd⟩
  have Hb6 := Lib.hid (Drawn.trans_below Hb5.out hd)
  clear hd HS
  go_wp2_with fail
  go_ret
  exact ⟨ret_bool (by simp), Hb6.out⟩

/-- GlyphQuotes. -/
theorem quotes_walk (a1 : Option Addr) (c1 : Nat) (r : List Int) (S : ByteArray) (w : World) (ht : TabAt w) (hg : 5 < w.heap.size) (hE : ErrsAt w)
    (i1 : Ints .i32 w w.heap.size (.slice a1 r.length c1) r) (hS : S.size ≤ maxLen) :
    Calls Tryd.prog 6 #[.slice a1 r.length c1, .string S] w fun e w' => e = .returned (.bool true) ∧ Below w.heap.size w w' := by
  have hm : r.length ≤ maxLen := by
    obtain ⟨⟨a, cap, hv, hr⟩, -⟩ := i1
    have h1 := hr.le; have h2 := hr.max; omega
  by_cases h1 : 200 < r.length
  · exact quotes_big a1 c1 r S w ht hg (.inl h1) hm hS
  · by_cases h2 : 400 < S.size
    · exact quotes_big a1 c1 r S w ht hg (.inr h2) hm hS
    · obtain ⟨s, rfl⟩ : ∃ s : List UInt8, S = ⟨s.toArray⟩ := ⟨S.data.toList, by cases S; simp⟩
      have h3 : s.length ≤ 400 := by have : (⟨s.toArray⟩ : ByteArray).size = s.length := rfl; omega
      by_cases he : checkE r = 0
      · exact quotes_ok a1 c1 r s w ht hg hE i1 (by omega) h3 he
      · exact quotes_no a1 c1 r s w ht hg hE i1 (by omega) h3 he

end Go.Proofs.YtdafbpjgjhfjmaaDoor
