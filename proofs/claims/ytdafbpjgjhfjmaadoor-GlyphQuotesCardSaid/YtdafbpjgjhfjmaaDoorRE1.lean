/- Walk: GlyphEnds. -/
import Derived.Test.YtdafbpjgjhfjmaaDoorRT2
import Derived.Test.YtdafbpjgjhfjmaaDoorRL1
namespace Go.Proofs.YtdafbpjgjhfjmaaDoor
open Go.RowKit Go.Redl Go.BigFrame
set_option linter.unusedVariables false

set_option maxRecDepth 100000 in
set_option maxHeartbeats 1000000 in
theorem ends_big (a1 : Option Addr) (c1 : Nat) (r : List Int) (b : Int) (w : World) (ht : TabAt w) (hg : 5 < w.heap.size) (hb : 200 < r.length) (m1 : r.length ≤ maxLen) :
    Calls Tryd.prog 8 #[.slice a1 r.length c1, .int .u8 b] w fun e w' => e = .returned (.bool true) ∧ Below w.heap.size w w' := by
  have HL := Lib.hid (live_c w ht hg)
  unfold maxLen at m1
  clear ht
  go_enter Tryd.func8, Tryd.ntmps8
  go_wp2_with fail
  refine HL.out.mono ?_
  rintro e w1 ⟨rfl, hbel⟩
  have Hb := Lib.hid hbel
  clear hbel
  go_wp2_with fail
  go_ret
  exact ⟨rfl, Hb.out⟩

set_option maxRecDepth 100000 in
set_option maxHeartbeats 1000000 in
theorem ends_no (a1 : Option Addr) (c1 : Nat) (r : List Int) (b : Int) (w : World) (ht : TabAt w) (hg : 5 < w.heap.size)
    (i1 : Ints .i32 w w.heap.size (.slice a1 r.length c1) r) (n1 : r.length ≤ 200) (he : checkE r ≠ 0) :
    Calls Tryd.prog 8 #[.slice a1 r.length c1, .int .u8 b] w fun e w' => e = .returned (.bool true) ∧ Below w.heap.size w w' := by
  have HL := Lib.hid (live_c w ht hg)
  have HQ : ∀ W, Below w.heap.size w W → Hid (Calls Tryd.prog 21 #[.slice a1 r.length c1] W fun e w' => e = .returned (.tuple #[.string ⟨#[]⟩, .int .i64 4]) ∧ W = w') := fun W h => Lib.hid (quote_no _ _ r W (i1.keep h h.size) he)
  clear ht i1 he
  go_enter Tryd.func8, Tryd.ntmps8
  go_wp2_with fail
  refine HL.out.mono ?_
  rintro e w1 ⟨rfl, hbel⟩
  have Hb := Lib.hid hbel
  clear hbel
  go_wp2_with fail
  refine (HQ _ Hb.out).out.mono ?_
  rintro e w2 ⟨rfl, rfl⟩
  go_wp2_with fail
  go_ret
  exact ⟨rfl, Hb.out⟩

theorem quote_len (r : List Int) : (quoteL r).length ≤ 22 * r.length + 2 := by
  have := body_len r
  simp [quoteL]; omega
theorem one_byte (w : World) (b : Nat) (hb : b < 256) : (convert 40 9 (.slice (some ⟨w.heap.size, 0, none⟩) 1 1)).run Tryd.prog (w.alloc (.cells #[.int .u8 b] 5)) = .ok (.string ⟨[UInt8.ofNat b].toArray⟩) (w.alloc (.cells #[.int .u8 b] 5)) := by
  refine bytes_string Tryd.underlying40 Tryd.underlying5 Tryd.underlying9 w.heap.size 0 1 1 [UInt8.ofNat b] rfl fun j hj => ?_
  have : j = 0 := by simpa using hj
  subst this
  simp only [World.cell?, World.alloc, Array.getElem?_push_size]
  simp [Nat.mod_eq_of_lt hb]
theorem str_app (A B : List UInt8) : ((⟨A.toArray⟩ : ByteArray) ++ (⟨B.toArray⟩ : ByteArray)) = ⟨(A ++ B).toArray⟩ := by
  apply ByteArray.ext
  simp

set_option maxRecDepth 100000 in
set_option maxHeartbeats 2000000 in
theorem ends_yes (a1 : Option Addr) (c1 : Nat) (r : List Int) (b : Nat) (hb : b < 256) (w : World) (ht : TabAt w) (hg : 5 < w.heap.size) (hE : ErrsAt w)
    (i1 : Ints .i32 w w.heap.size (.slice a1 r.length c1) r) (n1 : r.length ≤ 200) (he : checkE r = 0) :
    Calls Tryd.prog 8 #[.slice a1 r.length c1, .int .u8 b] w fun e w' => e = .returned (.bool true) ∧ Below w.heap.size w w' := by
  have HL := Lib.hid (live_c w ht hg)
  have HQ : ∀ W, Below w.heap.size w W → Hid (Calls Tryd.prog 21 #[.slice a1 r.length c1] W fun e w' => e = .returned (.tuple #[.string ⟨(quoteL r).toArray⟩, .int .i64 0]) ∧ Below W.heap.size W w') := fun W h => Lib.hid (quote_ok _ _ r W (i1.keep h h.size) (Nat.le_refl _) he (by omega) (ht.keep h hg) (Nat.lt_of_lt_of_le hg h.size))
  have HU : ∀ W, Below w.heap.size w W → ∀ s : List UInt8, s.length ≤ 1000000 → Hid (Calls Tryd.prog 23 #[.string ⟨s.toArray⟩] W (UnqP W (unqL s))) := fun W h s hs => Lib.hid (unquote_c s W hs (hE.keep h) (ht.keep h hg) (Nat.lt_of_lt_of_le hg h.size))
  clear ht i1
  have Hce := Lib.hid he
  clear he
  go_enter Tryd.func8, Tryd.ntmps8
  go_wp2_with fail
  refine HL.out.mono ?_
  rintro e w1 ⟨rfl, hbel⟩
  have Hb := Lib.hid hbel
  clear hbel
  go_wp2_with fail
  refine (HQ _ Hb.out).out.mono ?_
  rintro e w2 ⟨rfl, hbel⟩
  have Hb2 := Lib.hid (Hb.out.trans (hbel.mono Hb.out.size))
  clear hbel HQ
  have hq2 : 2 ≤ (quoteL r).length := by simp [quoteL]
  have hq3 : (quoteL r).length ≤ 5000 := by have := quote_len r; omega
  have hcv := one_byte w2 b hb
  generalize hT : quoteL r = T at hq2 hq3 ⊢
  have HT := Lib.hid hT
  clear hT
  have hs1 : (⟨T.toArray⟩ : ByteArray).size = T.length := rfl
  have hs2 : (⟨[UInt8.ofNat b].toArray⟩ : ByteArray).size = 1 := rfl
  have hu1 := unq_more (zs := r) (check_valid Hce.out) (UInt8.ofNat b)
  have hu2 := unq_less (zs := r) (check_valid Hce.out)
  have hu3 := unq_ahead (zs := r) (UInt8.ofNat b)
  have hcut : (⟨T.toArray⟩ : ByteArray).extract 0 (T.length - 1) = ⟨(34 :: bodyL r).toArray⟩ := by
    rw [ByteArray.extract_mk, ← HT.out]
    have h1 : (quoteL r).length - 1 = (34 :: bodyL r).length := by simp [quoteL]
    have h2 : quoteL r = (34 :: bodyL r) ++ [34] := by simp [quoteL]
    rw [List.drop_zero, Nat.sub_zero, h1, h2, List.take_left]
  rw [HT.out] at hu1 hu3
  have hl2 : (1 + (bodyL r).length : Int) = (T.length : Int) - 1 := by rw [← HT.out]; simp [quoteL]; omega
  rw [hl2] at hu2
  have ha1 := str_app T [UInt8.ofNat b]
  have ha2 := str_app [UInt8.ofNat b] T
  have Hu1 := Lib.hid hu1; have Hu2 := Lib.hid hu2; have Hu3 := Lib.hid hu3
  have hl3 : (34 :: bodyL r).length ≤ 1000000 := by have := body_len r; simp; omega
  have Hl3 := Lib.hid hl3
  have hm1 : wrap64 ((T.length : Int) - 1) = T.length - 1 := IntWalk.wrap64_in _ (by omega)
  have hB0 : Hid (Below w.heap.size w (w2.alloc (.cells #[.int .u8 b] 5))) := Lib.hid (Hb2.out.alloc Hb2.out.size _)
  clear hu1 hu2 hu3 hl2 hl3
  go_wp2_with fail
  refine (HU _ hB0.out (T ++ [UInt8.ofNat b]) (by simp; omega)).out.mono ?_
  rintro e w4 ⟨v4, rfl, -, hbel⟩
  have Hb4 := Lib.hid (hB0.out.trans (hbel.mono hB0.out.size))
  rw [Hu1.out]
  clear hbel ha1 hcv hB0
  go_wp2_with fail
  first | rw [hcut] | skip
  refine (HU _ Hb4.out (34 :: bodyL r) Hl3.out).out.mono ?_
  rintro e w5 ⟨v5, rfl, -, hbel⟩
  have Hb5 := Lib.hid (Hb4.out.trans (hbel.mono Hb4.out.size))
  rw [Hu2.out]
  clear hbel hcut
  have hHU := fun h => HU _ Hb5.out ([UInt8.ofNat b] ++ T) h
  have HU3 := Lib.hid (hHU (by simp; omega)).out
  clear hHU HU
  by_cases hb34 : b = 34
  · subst hb34
    have hv : unqL ([UInt8.ofNat 34] ++ T) = ([], 2, 11) := Hu3.out
    rw [hv] at HU3
    go_wp2_with fail
    refine HU3.out.mono ?_
    rintro e w6 ⟨v6, rfl, -, hbel⟩
    have Hb6 := Lib.hid (Hb5.out.trans (hbel.mono Hb5.out.size))
    clear hbel
    go_wp2_with fail
    go_ret
    exact ⟨rfl, Hb6.out⟩
  · have hne : UInt8.ofNat b ≠ 34 := fun h => hb34 (by
      have h1 := congrArg UInt8.toNat h
      rw [UInt8.toNat_ofNat', Nat.mod_eq_of_lt (by omega)] at h1
      exact h1)
    have hv : unqL ([UInt8.ofNat b] ++ T) = ([], 0, 11) := by
      have := Hu3.out
      rw [if_neg hne] at this
      exact this
    rw [hv] at HU3
    have hbb : ((b : Int) != 34) = true := by simp only [bne_iff_ne, ne_eq]; omega
    have hbb2 : ((b : Int) == 34) = false := by simp only [beq_eq_false_iff_ne, ne_eq]; omega
    clear hb34 hne hv
    go_wp2_with fail
    refine HU3.out.mono ?_
    rintro e w6 ⟨v6, rfl, -, hbel⟩
    have Hb6 := Lib.hid (Hb5.out.trans (hbel.mono Hb5.out.size))
    clear hbel
    go_wp2_with fail
    go_ret
    exact ⟨rfl, Hb6.out⟩

/-- GlyphEnds. -/
theorem ends_walk (a1 : Option Addr) (c1 : Nat) (r : List Int) (b : Int) (w : World) (ht : TabAt w) (hg : 5 < w.heap.size) (hE : ErrsAt w)
    (i1 : Ints .i32 w w.heap.size (.slice a1 r.length c1) r) (hb : 0 ≤ b ∧ b ≤ 255) :
    Calls Tryd.prog 8 #[.slice a1 r.length c1, .int .u8 b] w fun e w' => e = .returned (.bool true) ∧ Below w.heap.size w w' := by
  obtain ⟨n, rfl⟩ := Int.eq_ofNat_of_zero_le hb.1
  by_cases h1 : 200 < r.length
  · exact ends_big a1 c1 r n w ht hg h1 (by
      obtain ⟨⟨a, cap, hv, hr⟩, -⟩ := i1
      have h1 := hr.le; have h2 := hr.max; omega)
  · by_cases he : checkE r = 0
    · exact ends_yes a1 c1 r n (by omega) w ht hg hE i1 (by omega) he
    · exact ends_no a1 c1 r n w ht hg i1 (by omega) he

end Go.Proofs.YtdafbpjgjhfjmaaDoor
