/- Walks: strconv.FormatInt at base 16; glyph.plain, glyph.escaped. -/
import Derived.Test.YtmhgbocejjnoaaaDoorRG1
import Derived.Laws.BytesArg
import Derived.Deep.RegionWith
namespace Go.Proofs.YtmhgbocejjnoaaaDoor
open Go.RowKit Go.Redl
set_option linter.unusedVariables false

/-- The one cell of the library's table that is read. -/
def TabAt (w : World) : Prop := w.cell? ⟨3, 15, none⟩ = some (.int .u8 4)

set_option maxRecDepth 100000 in
set_option maxHeartbeats 400000 in
theorem tz64_16 (w : World) (h : w.cell? ⟨3, 15, none⟩ = some (.int .u8 4)) :
    Calls Tryd.prog 102 #[.int .u64 16] w fun e w' => e = .returned (.int .i64 4) ∧ w = w' := by
  have hoff : (IntKind.u64.wrap (bits BinOp.and IntKind.u64 16 (IntKind.u64.wrap (-16)) * 285870213051353865) / 288230376151711744).toNat = 15 := by decide +kernel
  have h' : w.cell? ⟨3, (IntKind.u64.wrap (bits BinOp.and IntKind.u64 16 (IntKind.u64.wrap (-16)) * 285870213051353865) / 288230376151711744).toNat, none⟩ = some (.int .u8 4) := by rw [hoff]; exact h
  clear hoff h
  go_enter Tryd.func102, Tryd.ntmps102
  go_wp2_with fail
  go_ret
  exact ⟨rfl, rfl⟩

set_option maxRecDepth 100000 in
set_option maxHeartbeats 400000 in
theorem tz_16 (w : World) (h : w.cell? ⟨3, 15, none⟩ = some (.int .u8 4)) :
    Calls Tryd.prog 91 #[.int .u64 16] w fun e w' => e = .returned (.int .i64 4) ∧ w = w' := by
  have H := Lib.hid (tz64_16 w h)
  clear h
  go_enter Tryd.func91, Tryd.ntmps91
  go_wp2_with fail
  refine H.out.mono ?_
  rintro e w' ⟨rfl, rfl⟩
  go_wp2_with fail
  go_ret
  exact ⟨rfl, rfl⟩

set_option maxRecDepth 100000 in
set_option maxHeartbeats 400000 in
theorem pow2_16 (w : World) :
    Calls Tryd.prog 90 #[.int .i64 16] w fun e w' => e = .returned (.bool true) ∧ w = w' := by
  go_enter Tryd.func90, Tryd.ntmps90
  go_wp2_with fail
  go_ret
  exact ⟨rfl, rfl⟩

set_option maxRecDepth 100000 in
set_option maxHeartbeats 1000000 in
theorem formatBits_16 (n : Nat) (w : World) (hn : n ≤ 2000000000) (h : TabAt w) (hg : 3 < w.heap.size) :
    Calls Tryd.prog 83 #[.slice none 0 0, .int .u64 n, .int .i64 16, .bool false, .bool false] w fun e w' => e = .returned (.tuple #[.slice none 0 0, .string ⟨(hexL n).toArray⟩]) ∧ Below w.heap.size w w' := by
  go_enter Tryd.func83, Tryd.ntmps83
  go_wp2_with fail
  refine (pow2_16 _).mono ?_
  rintro e w' ⟨rfl, rfl⟩
  go_wp2_with fail
  refine (tz_16 _ ?_).mono ?_
  · rw [← h]; exact World.cell?_of_block (Below.heap_alloc _ _ _ hg)
  rintro e w' ⟨rfl, rfl⟩
  go_wp2_with fail
  have hT : TailAt (w.alloc (Obj.cells Tryd.zeroCells119 119)) w.heap.size 119 65 [] := ⟨⟨_, heap_alloc_new w _, by kernel_rfl, by kernel_rfl⟩⟩
  have HT := Lib.hid hT
  have HB := Lib.hid ((Below.refl w.heap.size w).alloc (Nat.le_refl _) (Obj.cells Tryd.zeroCells119 119))
  have HI := Lib.hid (hinv_start hn)
  clear hT h
  go_loopw [1, 13] (fun x y wr => ∃ (u i : Nat) (L : List UInt8), x = .int .u64 u ∧ y = .int .i64 i ∧ HInv n u L i ∧ TailAt wr w.heap.size 119 i L ∧ Below w.heap.size w wr ∧ u ≤ 2000000000) (fun x _ _ => (intOf x).toNat)
  case atStart => exact ⟨n, 65, [], rfl, rfl, HI.out, HT.out, HB.out, hn⟩
  case round =>
    obtain ⟨u, i, L, rfl, rfl, hI, hT, hB, hu⟩ := hrel
    clear HI HT HB
    obtain ⟨hi1, hi2⟩ := hinv_pos hI
    obtain ⟨x, hc, hf⟩ := hT.cell (i - 1) (by omega)
    by_cases h16 : 16 ≤ u
    · obtain ⟨m, hm⟩ : ∃ m, m = u % 16 := ⟨_, rfl⟩
      have hstep := hinv_step hI h16
      rw [← hm] at hstep
      have HI := Lib.hid hstep
      have HT := Lib.hid (hT.put (by omega) hi2 (dig m))
      have hand : bits BinOp.and IntKind.u64 (u : Int) 15 = (m : Int) := by rw [hm]; exact and15 u hu
      have hm16 : m < 16 := by omega
      clear hm hstep
      have HB := Lib.hid hB
      clear hI hT hB
      go_wp2_with fail
      go_roundw
      case rel =>
        rw [dig_byte m hm16]
        exact ⟨u / 16, i - 1, dig m :: L, by go_num, by go_num, HI.out, HT.out, HB.out.setCell (Nat.le_refl _) _, by omega⟩
      case measure => simp [intOf]; omega
    · have HI := Lib.hid (hinv_end hI (by omega))
      have HT := Lib.hid (hT.put (by omega) hi2 (dig u))
      have HB := Lib.hid hB
      have hu16 : u < 16 := by omega
      have hlen := hinv_len hI (by omega)
      clear hI hT hB
      have hdb := dig_byte u hu16
      have hsl : ∀ W, (Instr.sliceAt 119 (.pointer (some ⟨w.heap.size, 0, none⟩)) (some (.int .i64 ((i : Int) - 1))) none none).run Tryd.prog W = .ok (.slice (some ⟨w.heap.size, i - 1, none⟩) (65 - (i - 1)) (65 - (i - 1))) W := by
        intro W
        rw [run_sliceAt_array_l W 119 ⟨w.heap.size, 0, none⟩ (by kernel_rfl) .i64 ((i : Int) - 1) (by omega) (by rw [show Tryd.prog.arrayLen 119 = 65 by kernel_rfl]; omega)]
        rw [show Tryd.prog.arrayLen 119 = 65 by kernel_rfl, show (sizeOf (Tryd.prog.elem 119)).run Tryd.prog W = .ok 1 W by kernel_rfl]
        simp only [Result.andThen, slicedAt]
        rw [show ((i : Int) - 1).toNat = i - 1 by omega, if_neg (by omega), addr_add]
        simp
      have hcv := HT.out.string (P := Tryd.prog) Tryd.underlying41 Tryd.underlying5 Tryd.underlying9 (65 - (i - 1)) (65 - (i - 1)) hlen
      go_wp2_with fail
      go_ret2
      exact ⟨by rw [HI.out]; rfl, HB.out.setCell (Nat.le_refl _) _⟩

set_option maxRecDepth 100000 in
set_option maxHeartbeats 1000000 in
theorem iformatInt_16 (n : Nat) (w : World) (hn : n ≤ 2000000000) (h : TabAt w) (hg : 3 < w.heap.size) :
    Calls Tryd.prog 70 #[.int .i64 n, .int .i64 16] w fun e w' => e = .returned (.string ⟨(hexL n).toArray⟩) ∧ Below w.heap.size w w' := by
  have H := Lib.hid (formatBits_16 n w hn h hg)
  clear h
  go_enter Tryd.func70, Tryd.ntmps70
  go_wp2_with fail
  refine H.out.mono ?_
  rintro e w1 ⟨rfl, hb⟩
  have Hb := Lib.hid hb
  clear hb
  go_wp2_with fail
  go_ret
  exact ⟨rfl, Hb.out⟩

set_option maxRecDepth 100000 in
set_option maxHeartbeats 1000000 in
theorem formatInt_16 (n : Nat) (w : World) (hn : n ≤ 2000000000) (h : TabAt w) (hg : 3 < w.heap.size) :
    Calls Tryd.prog 54 #[.int .i64 n, .int .i64 16] w fun e w' => e = .returned (.string ⟨(hexL n).toArray⟩) ∧ Below w.heap.size w w' := by
  have H := Lib.hid (iformatInt_16 n w hn h hg)
  clear h
  go_enter Tryd.func54, Tryd.ntmps54
  go_wp2_with fail
  refine H.out.mono ?_
  rintro e w1 ⟨rfl, hb⟩
  have Hb := Lib.hid hb
  clear hb
  go_wp2_with fail
  go_ret
  exact ⟨rfl, Hb.out⟩

set_option maxRecDepth 100000 in
set_option maxHeartbeats 1000000 in
theorem escaped_c (n : Nat) (w : World) (hn : n ≤ 2000000000) (h : TabAt w) (hg : 3 < w.heap.size) :
    Calls Tryd.prog 32 #[.int .i32 n] w fun e w' => e = .returned (.string ⟨(escL n).toArray⟩) ∧ Below w.heap.size w w' := by
  have H := Lib.hid (formatInt_16 n w hn h hg)
  clear h
  have hl : (hexL n).length ≤ 20 := hexL_len n
  go_enter Tryd.func32, Tryd.ntmps32
  go_wp2_with fail
  refine H.out.mono ?_
  rintro e w1 ⟨rfl, hb⟩
  have Hb := Lib.hid hb
  clear hb
  go_wp2_with fail
  rw [esc_string n]
  go_ret
  exact ⟨rfl, Hb.out⟩

set_option maxRecDepth 100000 in
set_option maxHeartbeats 400000 in
theorem plain_c (c : Int) (w : World) :
    Calls Tryd.prog 29 #[.int .i32 c] w fun e w' => e = .returned (.bool (plainB c)) ∧ w = w' := by
  by_cases h1 : 32 ≤ c
  · by_cases h2 : c ≤ 126
    · by_cases h3 : c = 34
      · subst h3
        go_enter Tryd.func29, Tryd.ntmps29
        go_wp2_with fail
        go_ret
        exact ⟨ret_bool (by decide), rfl⟩
      · have b3 : (c != 34) = true := by simp [h3]
        by_cases h4 : c = 92
        · subst h4
          go_enter Tryd.func29, Tryd.ntmps29
          go_wp2_with fail
          go_ret
          exact ⟨ret_bool (by decide), rfl⟩
        · have b4 : (c != 92) = true := by simp [h4]
          have Hp : Hid (plainB c = true) := by show plainB c = true; unfold plainB; simp; omega
          clear h3 h4
          go_enter Tryd.func29, Tryd.ntmps29
          go_wp2_with fail
          go_ret
          exact ⟨ret_bool Hp.out.symm, rfl⟩
    · have Hp : Hid (plainB c = false) := by show plainB c = false; unfold plainB; simp; omega
      go_enter Tryd.func29, Tryd.ntmps29
      go_wp2_with fail
      go_ret
      exact ⟨ret_bool Hp.out.symm, rfl⟩
  · have Hp : Hid (plainB c = false) := by show plainB c = false; unfold plainB; simp; omega
    go_enter Tryd.func29, Tryd.ntmps29
    go_wp2_with fail
    go_ret
    exact ⟨ret_bool Hp.out.symm, rfl⟩

end Go.Proofs.YtmhgbocejjnoaaaDoor
