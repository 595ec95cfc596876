/- Walk: GlyphBack. -/
import Derived.Test.YtdafbpjgjhfjmaaDoorRE1
import Derived.Test.YtdafbpjgjhfjmaaDoorRG4
namespace Go.Proofs.YtdafbpjgjhfjmaaDoor
open Go.RowKit Go.Redl Go.BigFrame
set_option linter.unusedVariables false

set_option maxRecDepth 100000 in
set_option maxHeartbeats 1000000 in
theorem back_big (a1 : Option Addr) (c1 : Nat) (r : List Int) (S : ByteArray) (w : World) (ht : TabAt w) (hg : 5 < w.heap.size) (hb : 200 < r.length ∨ 400 < S.size) (m1 : r.length ≤ maxLen) (m2 : S.size ≤ maxLen) :
    Calls Tryd.prog 7 #[.slice a1 r.length c1, .string S] w fun e w' => e = .returned (.bool true) ∧ Below w.heap.size w w' := by
  have HL := Lib.hid (live_c w ht hg)
  unfold maxLen at m1 m2
  clear ht
  by_cases h1 : 200 < r.length
  · clear hb
    go_enter Tryd.func7, Tryd.ntmps7
    go_wp2_with fail
    refine HL.out.mono ?_
    rintro e w1 ⟨rfl, hbel⟩
    have Hb := Lib.hid hbel
    clear hbel
    go_wp2_with fail
    go_ret
    exact ⟨rfl, Hb.out⟩
  · have h2 : 400 < S.size := by omega
    clear hb
    go_enter Tryd.func7, Tryd.ntmps7
    go_wp2_with fail
    refine HL.out.mono ?_
    rintro e w1 ⟨rfl, hbel⟩
    have Hb := Lib.hid hbel
    clear hbel
    go_wp2_with fail
    go_ret
    exact ⟨rfl, Hb.out⟩

theorem UnqP.open {w w' : World} {U : List Int × Int × Int} {e : Ending} (h : UnqP w U e w') (hw : ∀ z ∈ U.1, (Lit.int .i32 z).wf = true) :
    ∃ a cap, e = .returned (.tuple #[.slice a U.1.length cap, .int .i64 U.2.1, .int .i64 U.2.2]) ∧ Ints .i32 w' w'.heap.size (.slice a U.1.length cap) U.1 ∧ Below w.heap.size w w' := by
  obtain ⟨v, rfl, hown, hb⟩ := h
  obtain ⟨a, cap, rfl, hr⟩ := row_of_own hown (ints_one .i32 U.1)
  exact ⟨a, cap, rfl, ⟨⟨a, cap, rfl, hr⟩, hw⟩, hb⟩
theorem valid_wf {zs : List Int} (h : ∀ c ∈ zs, validB c = true) : ∀ z ∈ zs, (Lit.int .i32 z).wf = true := by
  intro z hz
  have := valid_bound (h z hz)
  have h1 : IntKind.i32.min = -2147483648 := by decide
  have h2 : IntKind.i32.max = 2147483647 := by decide
  simp only [Lit.wf, Bool.and_eq_true, decide_eq_true_eq, h1, h2]
  omega
theorem checkE_valid {zs : List Int} (h : ∀ c ∈ zs, validB c = true) : checkE zs = 0 := by
  unfold checkE
  rw [if_neg]
  simp only [List.any_eq_true, not_exists, not_and]
  intro c hc
  simp [h c hc]

set_option maxRecDepth 100000 in
set_option maxHeartbeats 2000000 in
theorem back_okyes (a1 : Option Addr) (c1 : Nat) (r : List Int) (s : List UInt8) (w : World) (ht : TabAt w) (hg : 5 < w.heap.size) (hE : ErrsAt w)
    (i1 : Ints .i32 w w.heap.size (.slice a1 r.length c1) r) (n1 : r.length ≤ 200) (n2 : s.length ≤ 400) (he : checkE r = 0) (zs : List Int) (hz : ∀ c ∈ zs, validB c = true) (hs : s = quoteL zs) (hu : unqL s = (zs, 0, 0)) :
    Calls Tryd.prog 7 #[.slice a1 r.length c1, .string ⟨s.toArray⟩] w fun e w' => e = .returned (.bool true) ∧ Below w.heap.size w w' := by
  have HL := Lib.hid (live_c w ht hg)
  have HU : ∀ W, Below w.heap.size w W → ∀ s : List UInt8, s.length ≤ 1000000 → Hid (Calls Tryd.prog 23 #[.string ⟨s.toArray⟩] W (UnqP W (unqL s))) := fun W h s hs => Lib.hid (unquote_c s W hs (hE.keep h) (ht.keep h hg) (Nat.lt_of_lt_of_le hg h.size))
  have HQ : ∀ W, Below w.heap.size w W → ∀ v zs, Ints .i32 W W.heap.size v zs → checkE zs = 0 → zs.length ≤ 1000000 → Hid (Calls Tryd.prog 21 #[v] W fun e w' => e = .returned (.tuple #[.string ⟨(quoteL zs).toArray⟩, .int .i64 0]) ∧ Below W.heap.size W w') := fun W h v zs i he hn => Lib.hid (quote_ok v _ zs W i (Nat.le_refl _) he (Nat.le_trans hn (by omega)) (ht.keep h hg) (Nat.lt_of_lt_of_le hg h.size))
  have hss : (⟨s.toArray⟩ : ByteArray).size = s.length := rfl
  obtain ⟨S, hS⟩ : ∃ S, S = (⟨s.toArray⟩ : ByteArray) := ⟨_, rfl⟩
  rw [← hS] at hss ⊢
  have HS0 := Lib.hid hS
  clear hS
  have Hs := Lib.hid hs; have Hun := Lib.hid hu; have Hz := Lib.hid hz
  have hzn : zs.length ≤ s.length := by
    have := body_long zs
    rw [hs]; simp [quoteL]; omega
  clear hs hu hz
  have HQ1 : ∀ W, Below w.heap.size w W → Hid (Calls Tryd.prog 21 #[.slice a1 r.length c1] W fun e w' => e = .returned (.tuple #[.string ⟨(quoteL r).toArray⟩, .int .i64 0]) ∧ Below W.heap.size W w') := fun W h => HQ W h _ r (i1.keep h h.size) he (by omega)
  have hv := check_valid he
  have hwf := Lib.hid i1.2
  have I1 := Lib.hid i1
  have Hv := Lib.hid hv
  clear ht he i1 hv
  go_enter Tryd.func7, Tryd.ntmps7
  go_wp2_with fail
  refine HL.out.mono ?_
  rintro e w1 ⟨rfl, hbel⟩
  have Hb := Lib.hid hbel
  clear hbel
  go_wp2_with fail
  refine (HQ1 _ Hb.out).out.mono ?_
  rintro e w2 ⟨rfl, hbel⟩
  have Hb2 := Lib.hid (Hb.out.trans (hbel.mono Hb.out.size))
  clear hbel HQ1
  go_wp2_with fail
  have HU1 := HU _ Hb2.out (quoteL r) (by have := quote_len r; omega)
  rw [unq_quote Hv.out] at HU1
  refine HU1.out.mono ?_
  intro e w3 hm
  obtain ⟨a3, c3, rfl, i3, hbel⟩ := hm.open hwf.out
  have Hb3 := Lib.hid (Hb2.out.trans (hbel.mono Hb2.out.size))
  have HS : Hid (Calls Tryd.prog 12 #[.slice a3 r.length c3, .slice a1 r.length c1] w3 fun e w' => e = .returned (.bool true) ∧ Drawn w3 w') := Lib.hid ((rsame_c _ _ _ r r w3 i3 (I1.out.keep Hb3.out Hb3.out.size)).mono fun e w' h => ⟨h.1.trans (ret_bool (decide_eq_true rfl)), h.2⟩)
  clear hm i3 hbel HU1
  go_wp2_with fail
  refine HS.out.mono ?_
  rintro e w4 ⟨rfl, hd⟩
  have Hb4 := Lib.hid (Drawn.trans_below Hb3.out hd)
  clear hd HS
  go_wp2_with fail
  have HU2 := HU _ Hb4.out s (by omega)
  rw [← HS0.out, Hun.out] at HU2
  refine HU2.out.mono ?_
  intro e w6 hm
  obtain ⟨a6, c6, rfl, i6, hbel⟩ := hm.open (valid_wf Hz.out)
  have Hb6 := Lib.hid (Hb4.out.trans (hbel.mono Hb4.out.size))
  have HQ3 := HQ _ Hb6.out _ zs i6 (checkE_valid Hz.out) (by omega)
  rw [← Hs.out, ← HS0.out] at HQ3
  clear hm i6 hbel HU2 HQ HU
  go_wp2_with fail
  refine HQ3.out.mono ?_
  rintro e w7 ⟨rfl, hbel⟩
  have Hb7 := Lib.hid (Hb6.out.trans (hbel.mono Hb6.out.size))
  clear hbel HQ3
  go_wp2_with fail
  go_ret
  exact ⟨ret_bool (by simp), Hb7.out⟩


set_option maxRecDepth 100000 in
set_option maxHeartbeats 2000000 in
theorem back_okno (a1 : Option Addr) (c1 : Nat) (r : List Int) (s : List UInt8) (w : World) (ht : TabAt w) (hg : 5 < w.heap.size) (hE : ErrsAt w)
    (i1 : Ints .i32 w w.heap.size (.slice a1 r.length c1) r) (n1 : r.length ≤ 200) (n2 : s.length ≤ 400) (he : checkE r = 0) (p : Nat) (hp : p ≤ s.length) (hu : unqL s = ([], (p : Int), 11)) :
    Calls Tryd.prog 7 #[.slice a1 r.length c1, .string ⟨s.toArray⟩] w fun e w' => e = .returned (.bool true) ∧ Below w.heap.size w w' := by
  have HL := Lib.hid (live_c w ht hg)
  have HU : ∀ W, Below w.heap.size w W → ∀ s : List UInt8, s.length ≤ 1000000 → Hid (Calls Tryd.prog 23 #[.string ⟨s.toArray⟩] W (UnqP W (unqL s))) := fun W h s hs => Lib.hid (unquote_c s W hs (hE.keep h) (ht.keep h hg) (Nat.lt_of_lt_of_le hg h.size))
  have HQ : ∀ W, Below w.heap.size w W → ∀ v zs, Ints .i32 W W.heap.size v zs → checkE zs = 0 → zs.length ≤ 1000000 → Hid (Calls Tryd.prog 21 #[v] W fun e w' => e = .returned (.tuple #[.string ⟨(quoteL zs).toArray⟩, .int .i64 0]) ∧ Below W.heap.size W w') := fun W h v zs i he hn => Lib.hid (quote_ok v _ zs W i (Nat.le_refl _) he (Nat.le_trans hn (by omega)) (ht.keep h hg) (Nat.lt_of_lt_of_le hg h.size))
  have hss : (⟨s.toArray⟩ : ByteArray).size = s.length := rfl
  obtain ⟨S, hS⟩ : ∃ S, S = (⟨s.toArray⟩ : ByteArray) := ⟨_, rfl⟩
  rw [← hS] at hss ⊢
  have HS0 := Lib.hid hS
  clear hS
  have Hun := Lib.hid hu
  clear hu
  have HQ1 : ∀ W, Below w.heap.size w W → Hid (Calls Tryd.prog 21 #[.slice a1 r.length c1] W fun e w' => e = .returned (.tuple #[.string ⟨(quoteL r).toArray⟩, .int .i64 0]) ∧ Below W.heap.size W w') := fun W h => HQ W h _ r (i1.keep h h.size) he (by omega)
  have hv := check_valid he
  have hwf := Lib.hid i1.2
  have I1 := Lib.hid i1
  have Hv := Lib.hid hv
  clear ht he i1 hv
  go_enter Tryd.func7, Tryd.ntmps7
  go_wp2_with fail
  refine HL.out.mono ?_
  rintro e w1 ⟨rfl, hbel⟩
  have Hb := Lib.hid hbel
  clear hbel
  go_wp2_with fail
  refine (HQ1 _ Hb.out).out.mono ?_
  rintro e w2 ⟨rfl, hbel⟩
  have Hb2 := Lib.hid (Hb.out.trans (hbel.mono Hb.out.size))
  clear hbel HQ1
  go_wp2_with fail
  have HU1 := HU _ Hb2.out (quoteL r) (by have := quote_len r; omega)
  rw [unq_quote Hv.out] at HU1
  refine HU1.out.mono ?_
  intro e w3 hm
  obtain ⟨a3, c3, rfl, i3, hbel⟩ := hm.open hwf.out
  have Hb3 := Lib.hid (Hb2.out.trans (hbel.mono Hb2.out.size))
  have HS : Hid (Calls Tryd.prog 12 #[.slice a3 r.length c3, .slice a1 r.length c1] w3 fun e w' => e = .returned (.bool true) ∧ Drawn w3 w') := Lib.hid ((rsame_c _ _ _ r r w3 i3 (I1.out.keep Hb3.out Hb3.out.size)).mono fun e w' h => ⟨h.1.trans (ret_bool (decide_eq_true rfl)), h.2⟩)
  clear hm i3 hbel HU1
  go_wp2_with fail
  refine HS.out.mono ?_
  rintro e w4 ⟨rfl, hd⟩
  have Hb4 := Lib.hid (Drawn.trans_below Hb3.out hd)
  clear hd HS
  go_wp2_with fail
  have HU2 := HU _ Hb4.out s (by omega)
  rw [← HS0.out, Hun.out] at HU2
  refine HU2.out.mono ?_
  intro e w6 hm
  obtain ⟨a6, c6, rfl, i6, hbel⟩ := hm.open (by simp)
  have Hb6 := Lib.hid (Hb4.out.trans (hbel.mono Hb4.out.size))
  clear hm i6 hbel HU2 HQ HU
  go_wp2_with fail
  go_ret
  exact ⟨ret_bool (by simp), Hb6.out⟩


set_option maxRecDepth 100000 in
set_option maxHeartbeats 2000000 in
theorem back_noyes (a1 : Option Addr) (c1 : Nat) (r : List Int) (s : List UInt8) (w : World) (ht : TabAt w) (hg : 5 < w.heap.size) (hE : ErrsAt w)
    (i1 : Ints .i32 w w.heap.size (.slice a1 r.length c1) r) (n1 : r.length ≤ 200) (n2 : s.length ≤ 400) (he : checkE r ≠ 0) (zs : List Int) (hz : ∀ c ∈ zs, validB c = true) (hs : s = quoteL zs) (hu : unqL s = (zs, 0, 0)) :
    Calls Tryd.prog 7 #[.slice a1 r.length c1, .string ⟨s.toArray⟩] w fun e w' => e = .returned (.bool true) ∧ Below w.heap.size w w' := by
  have HL := Lib.hid (live_c w ht hg)
  have HU : ∀ W, Below w.heap.size w W → ∀ s : List UInt8, s.length ≤ 1000000 → Hid (Calls Tryd.prog 23 #[.string ⟨s.toArray⟩] W (UnqP W (unqL s))) := fun W h s hs => Lib.hid (unquote_c s W hs (hE.keep h) (ht.keep h hg) (Nat.lt_of_lt_of_le hg h.size))
  have HQ : ∀ W, Below w.heap.size w W → ∀ v zs, Ints .i32 W W.heap.size v zs → checkE zs = 0 → zs.length ≤ 1000000 → Hid (Calls Tryd.prog 21 #[v] W fun e w' => e = .returned (.tuple #[.string ⟨(quoteL zs).toArray⟩, .int .i64 0]) ∧ Below W.heap.size W w') := fun W h v zs i he hn => Lib.hid (quote_ok v _ zs W i (Nat.le_refl _) he (Nat.le_trans hn (by omega)) (ht.keep h hg) (Nat.lt_of_lt_of_le hg h.size))
  have hss : (⟨s.toArray⟩ : ByteArray).size = s.length := rfl
  obtain ⟨S, hS⟩ : ∃ S, S = (⟨s.toArray⟩ : ByteArray) := ⟨_, rfl⟩
  rw [← hS] at hss ⊢
  have HS0 := Lib.hid hS
  clear hS
  have Hs := Lib.hid hs; have Hun := Lib.hid hu; have Hz := Lib.hid hz
  have hzn : zs.length ≤ s.length := by
    have := body_long zs
    rw [hs]; simp [quoteL]; omega
  clear hs hu hz
  have HQ1 : ∀ W, Below w.heap.size w W → Hid (Calls Tryd.prog 21 #[.slice a1 r.length c1] W fun e w' => e = .returned (.tuple #[.string ⟨#[]⟩, .int .i64 4]) ∧ W = w') := fun W h => Lib.hid (quote_no _ _ r W (i1.keep h h.size) he)
  have h4 : checkE r = 4 := by unfold checkE at *; split <;> simp_all
  have HC : ∀ W, Below w.heap.size w W → Hid (Calls Tryd.prog 14 #[.slice a1 r.length c1] W fun e w' => e = .returned (.int .i64 4) ∧ W = w') := fun W h => Lib.hid (by rw [← h4]; exact check_c _ _ r W (i1.keep h h.size))
  clear ht he i1 h4
  go_enter Tryd.func7, Tryd.ntmps7
  go_wp2_with fail
  refine HL.out.mono ?_
  rintro e w1 ⟨rfl, hbel⟩
  have Hb := Lib.hid hbel
  clear hbel
  go_wp2_with fail
  refine (HQ1 _ Hb.out).out.mono ?_
  rintro e w4 ⟨rfl, rfl⟩
  have Hb4 := Hb
  clear HQ1
  go_wp2_with fail
  refine (HC _ Hb4.out).out.mono ?_
  rintro e w5 ⟨rfl, rfl⟩
  go_wp2_with fail
  have HU2 := HU _ Hb4.out s (by omega)
  rw [← HS0.out, Hun.out] at HU2
  refine HU2.out.mono ?_
  intro e w6 hm
  obtain ⟨a6, c6, rfl, i6, hbel⟩ := hm.open (valid_wf Hz.out)
  have Hb6 := Lib.hid (Hb4.out.trans (hbel.mono Hb4.out.size))
  have HQ3 := HQ _ Hb6.out _ zs i6 (checkE_valid Hz.out) (by omega)
  rw [← Hs.out, ← HS0.out] at HQ3
  clear hm i6 hbel HU2 HQ HU
  go_wp2_with fail
  refine HQ3.out.mono ?_
  rintro e w7 ⟨rfl, hbel⟩
  have Hb7 := Lib.hid (Hb6.out.trans (hbel.mono Hb6.out.size))
  clear hbel HQ3
  go_wp2_with fail
  go_ret
  exact ⟨ret_bool (by simp), Hb7.out⟩


set_option maxRecDepth 100000 in
set_option maxHeartbeats 2000000 in
theorem back_nono (a1 : Option Addr) (c1 : Nat) (r : List Int) (s : List UInt8) (w : World) (ht : TabAt w) (hg : 5 < w.heap.size) (hE : ErrsAt w)
    (i1 : Ints .i32 w w.heap.size (.slice a1 r.length c1) r) (n1 : r.length ≤ 200) (n2 : s.length ≤ 400) (he : checkE r ≠ 0) (p : Nat) (hp : p ≤ s.length) (hu : unqL s = ([], (p : Int), 11)) :
    Calls Tryd.prog 7 #[.slice a1 r.length c1, .string ⟨s.toArray⟩] w fun e w' => e = .returned (.bool true) ∧ Below w.heap.size w w' := by
  have HL := Lib.hid (live_c w ht hg)
  have HU : ∀ W, Below w.heap.size w W → ∀ s : List UInt8, s.length ≤ 1000000 → Hid (Calls Tryd.prog 23 #[.string ⟨s.toArray⟩] W (UnqP W (unqL s))) := fun W h s hs => Lib.hid (unquote_c s W hs (hE.keep h) (ht.keep h hg) (Nat.lt_of_lt_of_le hg h.size))
  have HQ : ∀ W, Below w.heap.size w W → ∀ v zs, Ints .i32 W W.heap.size v zs → checkE zs = 0 → zs.length ≤ 1000000 → Hid (Calls Tryd.prog 21 #[v] W fun e w' => e = .returned (.tuple #[.string ⟨(quoteL zs).toArray⟩, .int .i64 0]) ∧ Below W.heap.size W w') := fun W h v zs i he hn => Lib.hid (quote_ok v _ zs W i (Nat.le_refl _) he (Nat.le_trans hn (by omega)) (ht.keep h hg) (Nat.lt_of_lt_of_le hg h.size))
  have hss : (⟨s.toArray⟩ : ByteArray).size = s.length := rfl
  obtain ⟨S, hS⟩ : ∃ S, S = (⟨s.toArray⟩ : ByteArray) := ⟨_, rfl⟩
  rw [← hS] at hss ⊢
  have HS0 := Lib.hid hS
  clear hS
  have Hun := Lib.hid hu
  clear hu
  have HQ1 : ∀ W, Below w.heap.size w W → Hid (Calls Tryd.prog 21 #[.slice a1 r.length c1] W fun e w' => e = .returned (.tuple #[.string ⟨#[]⟩, .int .i64 4]) ∧ W = w') := fun W h => Lib.hid (quote_no _ _ r W (i1.keep h h.size) he)
  have h4 : checkE r = 4 := by unfold checkE at *; split <;> simp_all
  have HC : ∀ W, Below w.heap.size w W → Hid (Calls Tryd.prog 14 #[.slice a1 r.length c1] W fun e w' => e = .returned (.int .i64 4) ∧ W = w') := fun W h => Lib.hid (by rw [← h4]; exact check_c _ _ r W (i1.keep h h.size))
  clear ht he i1 h4
  go_enter Tryd.func7, Tryd.ntmps7
  go_wp2_with fail
  refine HL.out.mono ?_
  rintro e w1 ⟨rfl, hbel⟩
  have Hb := Lib.hid hbel
  clear hbel
  go_wp2_with fail
  refine (HQ1 _ Hb.out).out.mono ?_
  rintro e w4 ⟨rfl, rfl⟩
  have Hb4 := Hb
  clear HQ1
  go_wp2_with fail
  refine (HC _ Hb4.out).out.mono ?_
  rintro e w5 ⟨rfl, rfl⟩
  go_wp2_with fail
  have HU2 := HU _ Hb4.out s (by omega)
  rw [← HS0.out, Hun.out] at HU2
  refine HU2.out.mono ?_
  intro e w6 hm
  obtain ⟨a6, c6, rfl, i6, hbel⟩ := hm.open (by simp)
  have Hb6 := Lib.hid (Hb4.out.trans (hbel.mono Hb4.out.size))
  clear hm i6 hbel HU2 HQ HU
  go_wp2_with fail
  go_ret
  exact ⟨ret_bool (by simp), Hb6.out⟩


/-- GlyphBack. -/
theorem back_walk (a1 : Option Addr) (c1 : Nat) (r : List Int) (S : ByteArray) (w : World) (ht : TabAt w) (hg : 5 < w.heap.size) (hE : ErrsAt w)
    (i1 : Ints .i32 w w.heap.size (.slice a1 r.length c1) r) (hS : S.size ≤ maxLen) :
    Calls Tryd.prog 7 #[.slice a1 r.length c1, .string S] w fun e w' => e = .returned (.bool true) ∧ Below w.heap.size w w' := by
  have hm : r.length ≤ maxLen := by
    obtain ⟨⟨a, cap, hv, hr⟩, -⟩ := i1
    have h1 := hr.le; have h2 := hr.max; omega
  by_cases h1 : 200 < r.length
  · exact back_big a1 c1 r S w ht hg (.inl h1) hm hS
  · by_cases h2 : 400 < S.size
    · exact back_big a1 c1 r S w ht hg (.inr h2) hm hS
    · obtain ⟨s, rfl⟩ : ∃ s : List UInt8, S = ⟨s.toArray⟩ := ⟨S.data.toList, by cases S; simp⟩
      have h3 : s.length ≤ 400 := by have : (⟨s.toArray⟩ : ByteArray).size = s.length := rfl; omega
      by_cases he : checkE r = 0
      · rcases unq_cases s with ⟨zs, hz, hs, hu⟩ | ⟨p, hp, hu⟩
        · exact back_okyes a1 c1 r s w ht hg hE i1 (by omega) h3 he zs hz hs hu
        · exact back_okno a1 c1 r s w ht hg hE i1 (by omega) h3 he p hp hu
      · rcases unq_cases s with ⟨zs, hz, hs, hu⟩ | ⟨p, hp, hu⟩
        · exact back_noyes a1 c1 r s w ht hg hE i1 (by omega) h3 he zs hz hs hu
        · exact back_nono a1 c1 r s w ht hg hE i1 (by omega) h3 he p hp hu

end Go.Proofs.YtdafbpjgjhfjmaaDoor
