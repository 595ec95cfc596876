/- Parts of the proof, one behind the other: RW1, RF1, RR1, RR4, RR5, RW2, RW3, RW4, RW5, RB1, RB2, RQ1, RR6. -/
import Derived.Test.YtmhgbocejjnoaaaGreatDoorPK1
import Derived.Lib.SlTrimSet
import Derived.Laws.BytesArg
import Derived.Deep.RegionWith
import Derived.Deep.RegionLaw
import Derived.Lib.Builder
import Derived.Lib.AppendStr
/- Walks: prop's key, val. -/
namespace Go.Proofs.YtmhgbocejjnoaaaGreatDoor
open Go.RowKit Go.Redl
set_option linter.unusedVariables false

theorem dropWhile_all {α : Type} {p : α → Bool} : ∀ {l : List α}, (∀ x ∈ l.dropWhile p, p x = true) → ∀ x ∈ l, p x = true
  | [], _ => by simp
  | a :: l, h => by
    cases ha : p a with
    | true =>
      rw [List.dropWhile_cons_of_pos ha] at h
      intro x hx
      rcases List.mem_cons.1 hx with rfl | hx
      · exact ha
      · exact dropWhile_all h x hx
    | false =>
      rw [List.dropWhile_cons_of_neg (by simp [ha])] at h
      have := h a (by simp)
      rw [ha] at this; cases this
theorem dropWhile_none {α : Type} {p : α → Bool} : ∀ {l : List α}, (∀ x ∈ l, p x = true) → l.dropWhile p = []
  | [], _ => rfl
  | a :: l, h => by
    rw [List.dropWhile_cons_of_pos (h a (by simp))]
    exact dropWhile_none fun x hx => h x (by simp [hx])
theorem trim_nil (l cs : List UInt8) : Lib.trimS l cs = [] ↔ l.all (cs.contains ·) = true := by
  unfold Lib.trimS Lib.trimLeftS Lib.trimRightS
  rw [List.all_eq_true]
  constructor
  · intro h
    have h1 : ∀ x ∈ (l.reverse.dropWhile (cs.contains ·)).reverse, cs.contains x = true := dropWhile_all (by rw [h]; simp)
    have h2 : ∀ x ∈ l.reverse, cs.contains x = true := dropWhile_all fun x hx => h1 x (List.mem_reverse.2 hx)
    exact fun x hx => h2 x (by simpa using hx)
  · intro h
    rw [dropWhile_none (l := l.reverse) fun x hx => h x (by simpa using hx)]
    rfl
def lowSet : List UInt8 := [97, 98, 99, 100, 101, 102, 103, 104, 105, 106, 107, 108, 109, 110, 111, 112, 113, 114, 115, 116, 117, 118, 119, 120, 121, 122]
def valSet : List UInt8 := [97, 98, 99, 100, 101, 102, 103, 104, 105, 106, 107, 108, 109, 110, 111, 112, 113, 114, 115, 116, 117, 118, 119, 120, 121, 122, 48, 49, 50, 51, 52, 53, 54, 55, 56, 57, 45]
theorem low_set (c : UInt8) : lowSet.contains c = lowB c := by
  have h : ∀ n : Fin 256, lowSet.contains (UInt8.ofNat n.1) = lowB (UInt8.ofNat n.1) := by decide +kernel
  have := h ⟨c.toNat, c.toNat_lt⟩
  simpa using this
theorem val_set (c : UInt8) : valSet.contains c = valcB c := by
  have h : ∀ n : Fin 256, valSet.contains (UInt8.ofNat n.1) = valcB (UInt8.ofNat n.1) := by decide +kernel
  have := h ⟨c.toNat, c.toNat_lt⟩
  simpa using this
theorem all_set {s cs : List UInt8} {p : UInt8 → Bool} (h : ∀ c, cs.contains c = p c) : s.all (cs.contains ·) = s.all p := by
  congr 1; funext c; exact h c
/-- strings.Trim, at such a set: is nothing left? -/
theorem trim_c (s cs : List UInt8) (p : UInt8 → Bool) (hp : ∀ c, cs.contains c = p c) (hc : cs.length ≤ 1000) (ha : cs.all (fun b => decide (b.toNat < 128)) = true) (w : World) (hn : s.length ≤ 1000000000) :
    (s.all p = true → Calls Tryz.prog 73 #[.string ⟨s.toArray⟩, .string ⟨cs.toArray⟩] w fun e w' => e = .returned (.string ⟨#[]⟩) ∧ Below w.heap.size w w') ∧
    (s.all p = false → ∃ y ys, Calls Tryz.prog 73 #[.string ⟨s.toArray⟩, .string ⟨cs.toArray⟩] w fun e w' => e = .returned (.string ⟨(y :: ys).toArray⟩) ∧ Below w.heap.size w w') := by
  have h := Tryz.strings_Trim_set ⟨s.toArray⟩ ⟨cs.toArray⟩ w (by show s.length ≤ _; omega) (by show cs.length < _; omega) (fun j b hj => by
    rw [List.all_eq_true] at ha
    have : b ∈ cs := List.mem_of_getElem? (by simpa using hj)
    simpa using ha b this)
  have h0 := trim_nil s cs
  rw [all_set hp] at h0
  constructor
  · intro hs
    have : Lib.trimS (⟨s.toArray⟩ : ByteArray).data.toList (⟨cs.toArray⟩ : ByteArray).data.toList = [] := by simpa using h0.2 hs
    rw [this] at h
    exact h
  · intro hs
    have hne : Lib.trimS (⟨s.toArray⟩ : ByteArray).data.toList (⟨cs.toArray⟩ : ByteArray).data.toList ≠ [] := by
      intro he
      have := h0.1 (by simpa using he)
      rw [hs] at this; cases this
    obtain ⟨y, ys, hy⟩ := List.exists_cons_of_ne_nil hne
    rw [hy] at h
    exact ⟨y, ys, h⟩

set_option maxRecDepth 100000 in
set_option maxHeartbeats 1000000 in
theorem key_c (s : List UInt8) (w : World) (hn : s.length ≤ 1000000000) :
    Calls Tryz.prog 61 #[.string ⟨s.toArray⟩] w fun e w' => e = .returned (.bool (keyB s)) ∧ Below w.heap.size w w' := by
  have Hk : Hid (keyB s = (decide (1 ≤ s.length ∧ s.length ≤ 16) && s.all lowB)) := rfl
  obtain ⟨hT, hF⟩ := trim_c s lowSet lowB low_set (by decide) (by decide +kernel) w hn
  have HT := Lib.hid hT; have HF := Lib.hid hF
  clear hT hF
  cases s with
  | nil =>
    go_enter Tryz.func61, Tryz.ntmps61
    go_wp2_with fail
    go_ret
    exact ⟨ret_bool (by rw [Hk.out]; rfl), Below.refl _ _⟩
  | cons c r =>
    have hsz : (⟨(c :: r).toArray⟩ : ByteArray).size = r.length + 1 := rfl
    have hne : ((⟨(c :: r).toArray⟩ : ByteArray).toList.isEmpty) = false := by rw [ByteArray.toList_mk]; rfl
    have hne2 : (!(⟨(c :: r).toArray⟩ : ByteArray).toList.isEmpty) = true := by rw [ByteArray.toList_mk]; rfl
    obtain ⟨S, hS⟩ : ∃ S, S = (⟨(c :: r).toArray⟩ : ByteArray) := ⟨_, rfl⟩
    rw [← hS] at hsz hne hne2 HT HF ⊢
    by_cases h16 : 16 < r.length + 1
    · have Hz : Hid (keyB (c :: r) = false) := by
        show keyB _ = false
        rw [Hk.out, decide_eq_false (by simp only [List.length_cons]; omega)]; rfl
      clear hS HT HF
      go_enter Tryz.func61, Tryz.ntmps61
      go_wp2_with fail
      go_ret
      exact ⟨ret_bool Hz.out.symm, Below.refl _ _⟩
    · have Hk2 : Hid (keyB (c :: r) = (c :: r).all lowB) := by
        show keyB _ = _
        rw [Hk.out, decide_eq_true (by simp only [List.length_cons]; omega)]; simp
      cases hall : (c :: r).all lowB with
      | true =>
        have HC := Lib.hid (HT.out hall)
        rw [hall] at Hk2
        clear hS HT HF hall
        go_enter Tryz.func61, Tryz.ntmps61
        go_wp2_with fail
        refine HC.out.mono ?_
        rintro e w1 ⟨rfl, hb⟩
        have Hb := Lib.hid hb
        clear hb
        go_wp2_with fail
        go_ret
        exact ⟨ret_bool Hk2.out.symm, Hb.out⟩
      | false =>
        obtain ⟨y, ys, hC⟩ := HF.out hall
        have HC := Lib.hid hC
        rw [hall] at Hk2
        have hn2 : ((⟨(y :: ys).toArray⟩ : ByteArray).toList.isEmpty) = false := by rw [ByteArray.toList_mk]; rfl
        clear hS HT HF hall hC
        go_enter Tryz.func61, Tryz.ntmps61
        go_wp2_with fail
        refine HC.out.mono ?_
        rintro e w1 ⟨rfl, hb⟩
        have Hb := Lib.hid hb
        clear hb
        go_wp2_with fail
        go_ret
        exact ⟨ret_bool Hk2.out.symm, Hb.out⟩

set_option maxRecDepth 100000 in
set_option maxHeartbeats 1000000 in
theorem val_c (s : List UInt8) (w : World) (hn : s.length ≤ 1000000000) :
    Calls Tryz.prog 62 #[.string ⟨s.toArray⟩] w fun e w' => e = .returned (.bool (valB s)) ∧ Below w.heap.size w w' := by
  have Hk : Hid (valB s = (decide (s.length ≤ 32) && s.all valcB)) := rfl
  obtain ⟨hT, hF⟩ := trim_c s valSet valcB val_set (by decide) (by decide +kernel) w hn
  have HT := Lib.hid hT; have HF := Lib.hid hF
  have hsz : (⟨s.toArray⟩ : ByteArray).size = s.length := rfl
  clear hT hF
  obtain ⟨S, hS⟩ : ∃ S, S = (⟨s.toArray⟩ : ByteArray) := ⟨_, rfl⟩
  rw [← hS] at hsz HT HF ⊢
  clear hS
  by_cases h32 : 32 < s.length
  · have Hz : Hid (valB s = false) := by
      show valB _ = false
      rw [Hk.out, decide_eq_false (by omega)]; rfl
    clear HT HF
    go_enter Tryz.func62, Tryz.ntmps62
    go_wp2_with fail
    go_ret
    exact ⟨ret_bool Hz.out.symm, Below.refl _ _⟩
  · have Hk2 : Hid (valB s = s.all valcB) := by
      show valB _ = _
      rw [Hk.out, decide_eq_true (by omega)]; simp
    cases hall : s.all valcB with
    | true =>
      have HC := Lib.hid (HT.out hall)
      rw [hall] at Hk2
      clear HT HF hall
      go_enter Tryz.func62, Tryz.ntmps62
      go_wp2_with fail
      refine HC.out.mono ?_
      rintro e w1 ⟨rfl, hb⟩
      have Hb := Lib.hid hb
      clear hb
      go_wp2_with fail
      go_ret
      exact ⟨ret_bool Hk2.out.symm, Hb.out⟩
    | false =>
      obtain ⟨y, ys, hC⟩ := HF.out hall
      have HC := Lib.hid hC
      rw [hall] at Hk2
      have hn2 : ((⟨(y :: ys).toArray⟩ : ByteArray).toList.isEmpty) = false := by rw [ByteArray.toList_mk]; rfl
      clear HT HF hall hC
      go_enter Tryz.func62, Tryz.ntmps62
      go_wp2_with fail
      refine HC.out.mono ?_
      rintro e w1 ⟨rfl, hb⟩
      have Hb := Lib.hid hb
      clear hb
      go_wp2_with fail
      go_ret
      exact ⟨ret_bool Hk2.out.symm, Hb.out⟩

end Go.Proofs.YtmhgbocejjnoaaaGreatDoor
/- Walks: strconv.FormatInt at base 16; glyph.plain, glyph.escaped. -/
namespace Go.Proofs.YtmhgbocejjnoaaaGreatDoor
open Go.RowKit Go.Redl
set_option linter.unusedVariables false

/-- The one cell of the library's table that is read. -/
def TabAt (w : World) : Prop := w.cell? ⟨7, 15, none⟩ = some (.int .u8 4)

set_option maxRecDepth 100000 in
set_option maxHeartbeats 400000 in
theorem tz64_16 (w : World) (h : w.cell? ⟨7, 15, none⟩ = some (.int .u8 4)) :
    Calls Tryz.prog 114 #[.int .u64 16] w fun e w' => e = .returned (.int .i64 4) ∧ w = w' := by
  have hoff : (IntKind.u64.wrap (bits BinOp.and IntKind.u64 16 (IntKind.u64.wrap (-16)) * 285870213051353865) / 288230376151711744).toNat = 15 := by decide +kernel
  have h' : w.cell? ⟨7, (IntKind.u64.wrap (bits BinOp.and IntKind.u64 16 (IntKind.u64.wrap (-16)) * 285870213051353865) / 288230376151711744).toNat, none⟩ = some (.int .u8 4) := by rw [hoff]; exact h
  clear hoff h
  go_enter Tryz.func114, Tryz.ntmps114
  go_wp2_with fail
  go_ret
  exact ⟨rfl, rfl⟩

set_option maxRecDepth 100000 in
set_option maxHeartbeats 400000 in
theorem tz_16 (w : World) (h : w.cell? ⟨7, 15, none⟩ = some (.int .u8 4)) :
    Calls Tryz.prog 106 #[.int .u64 16] w fun e w' => e = .returned (.int .i64 4) ∧ w = w' := by
  have H := Lib.hid (tz64_16 w h)
  clear h
  go_enter Tryz.func106, Tryz.ntmps106
  go_wp2_with fail
  refine H.out.mono ?_
  rintro e w' ⟨rfl, rfl⟩
  go_wp2_with fail
  go_ret
  exact ⟨rfl, rfl⟩

set_option maxRecDepth 100000 in
set_option maxHeartbeats 400000 in
theorem pow2_16 (w : World) :
    Calls Tryz.prog 105 #[.int .i64 16] w fun e w' => e = .returned (.bool true) ∧ w = w' := by
  go_enter Tryz.func105, Tryz.ntmps105
  go_wp2_with fail
  go_ret
  exact ⟨rfl, rfl⟩

set_option maxRecDepth 100000 in
set_option maxHeartbeats 1000000 in
theorem formatBits_16 (n : Nat) (w : World) (hn : n ≤ 2000000000) (h : TabAt w) (hg : 7 < w.heap.size) :
    Calls Tryz.prog 91 #[.slice none 0 0, .int .u64 n, .int .i64 16, .bool false, .bool false] w fun e w' => e = .returned (.tuple #[.slice none 0 0, .string ⟨(hexL n).toArray⟩]) ∧ Below w.heap.size w w' := by
  go_enter Tryz.func91, Tryz.ntmps91
  go_wp2_with fail
  refine (pow2_16 _).mono ?_
  rintro e w' ⟨rfl, rfl⟩
  go_wp2_with fail
  refine (tz_16 _ ?_).mono ?_
  · rw [← h]; exact World.cell?_of_block (Below.heap_alloc _ _ _ hg)
  rintro e w' ⟨rfl, rfl⟩
  go_wp2_with fail
  have hT : TailAt (w.alloc (Obj.cells Tryz.zeroCells131 131)) w.heap.size 131 65 [] := ⟨⟨_, heap_alloc_new w _, by kernel_rfl, by kernel_rfl⟩⟩
  have HT := Lib.hid hT
  have HB := Lib.hid ((Below.refl w.heap.size w).alloc (Nat.le_refl _) (Obj.cells Tryz.zeroCells131 131))
  have HI := Lib.hid (hinv_start hn)
  clear hT h
  go_loopw [1, 13] (fun x y wr => ∃ (u i : Nat) (L : List UInt8), x = .int .u64 u ∧ y = .int .i64 i ∧ HInv n u L i ∧ TailAt wr w.heap.size 131 i L ∧ Below w.heap.size w wr ∧ u ≤ 2000000000) (fun x _ _ => (intOf x).toNat)
  case atStart => exact ⟨n, 65, [], rfl, rfl, HI.out, HT.out, HB.out, hn⟩
  case round =>
    obtain ⟨u, i, L, rfl, rfl, hI, hT, hB, hu⟩ := hrel
    clear HI HT HB
    obtain ⟨hi1, hi2⟩ := hinv_pos hI
    obtain ⟨x, hc, hf⟩ := hT.cell (i - 1) (by omega)
    by_cases h16 : 16 ≤ u
    · obtain ⟨m, hm⟩ : ∃ m, m = u % 16 := ⟨_, rfl⟩
      have hstep := hinv_step hI h16
      rw [← hm] at hstep
      have HI := Lib.hid hstep
      have HT := Lib.hid (hT.put (by omega) hi2 (dig m))
      have hand : bits BinOp.and IntKind.u64 (u : Int) 15 = (m : Int) := by rw [hm]; exact and15 u hu
      have hm16 : m < 16 := by omega
      clear hm hstep
      have HB := Lib.hid hB
      clear hI hT hB
      go_wp2_with fail
      go_roundw
      case rel =>
        rw [dig_byte m hm16]
        exact ⟨u / 16, i - 1, dig m :: L, by go_num, by go_num, HI.out, HT.out, HB.out.setCell (Nat.le_refl _) _, by omega⟩
      case measure => simp [intOf]; omega
    · have HI := Lib.hid (hinv_end hI (by omega))
      have HT := Lib.hid (hT.put (by omega) hi2 (dig u))
      have HB := Lib.hid hB
      have hu16 : u < 16 := by omega
      have hlen := hinv_len hI (by omega)
      clear hI hT hB
      have hdb := dig_byte u hu16
      have hsl : ∀ W, (Instr.sliceAt 131 (.pointer (some ⟨w.heap.size, 0, none⟩)) (some (.int .i64 ((i : Int) - 1))) none none).run Tryz.prog W = .ok (.slice (some ⟨w.heap.size, i - 1, none⟩) (65 - (i - 1)) (65 - (i - 1))) W := by
        intro W
        rw [run_sliceAt_array_l W 131 ⟨w.heap.size, 0, none⟩ (by kernel_rfl) .i64 ((i : Int) - 1) (by omega) (by rw [show Tryz.prog.arrayLen 131 = 65 by kernel_rfl]; omega)]
        rw [show Tryz.prog.arrayLen 131 = 65 by kernel_rfl, show (sizeOf (Tryz.prog.elem 131)).run Tryz.prog W = .ok 1 W by kernel_rfl]
        simp only [Result.andThen, slicedAt]
        rw [show ((i : Int) - 1).toNat = i - 1 by omega, if_neg (by omega), addr_add]
        simp
      have hcv := HT.out.string (P := Tryz.prog) Tryz.underlying56 Tryz.underlying5 Tryz.underlying9 (65 - (i - 1)) (65 - (i - 1)) hlen
      go_wp2_with fail
      go_ret2
      exact ⟨by rw [HI.out]; rfl, HB.out.setCell (Nat.le_refl _) _⟩

set_option maxRecDepth 100000 in
set_option maxHeartbeats 1000000 in
theorem iformatInt_16 (n : Nat) (w : World) (hn : n ≤ 2000000000) (h : TabAt w) (hg : 7 < w.heap.size) :
    Calls Tryz.prog 78 #[.int .i64 n, .int .i64 16] w fun e w' => e = .returned (.string ⟨(hexL n).toArray⟩) ∧ Below w.heap.size w w' := by
  have H := Lib.hid (formatBits_16 n w hn h hg)
  clear h
  go_enter Tryz.func78, Tryz.ntmps78
  go_wp2_with fail
  refine H.out.mono ?_
  rintro e w1 ⟨rfl, hb⟩
  have Hb := Lib.hid hb
  clear hb
  go_wp2_with fail
  go_ret
  exact ⟨rfl, Hb.out⟩

set_option maxRecDepth 100000 in
set_option maxHeartbeats 1000000 in
theorem formatInt_16 (n : Nat) (w : World) (hn : n ≤ 2000000000) (h : TabAt w) (hg : 7 < w.heap.size) :
    Calls Tryz.prog 72 #[.int .i64 n, .int .i64 16] w fun e w' => e = .returned (.string ⟨(hexL n).toArray⟩) ∧ Below w.heap.size w w' := by
  have H := Lib.hid (iformatInt_16 n w hn h hg)
  clear h
  go_enter Tryz.func72, Tryz.ntmps72
  go_wp2_with fail
  refine H.out.mono ?_
  rintro e w1 ⟨rfl, hb⟩
  have Hb := Lib.hid hb
  clear hb
  go_wp2_with fail
  go_ret
  exact ⟨rfl, Hb.out⟩

set_option maxRecDepth 100000 in
set_option maxHeartbeats 1000000 in
theorem escaped_c (n : Nat) (w : World) (hn : n ≤ 2000000000) (h : TabAt w) (hg : 7 < w.heap.size) :
    Calls Tryz.prog 59 #[.int .i32 n] w fun e w' => e = .returned (.string ⟨(escL n).toArray⟩) ∧ Below w.heap.size w w' := by
  have H := Lib.hid (formatInt_16 n w hn h hg)
  clear h
  have hl : (hexL n).length ≤ 20 := hexL_len n
  go_enter Tryz.func59, Tryz.ntmps59
  go_wp2_with fail
  refine H.out.mono ?_
  rintro e w1 ⟨rfl, hb⟩
  have Hb := Lib.hid hb
  clear hb
  go_wp2_with fail
  rw [esc_string n]
  go_ret
  exact ⟨rfl, Hb.out⟩

set_option maxRecDepth 100000 in
set_option maxHeartbeats 400000 in
theorem plain_c (c : Int) (w : World) :
    Calls Tryz.prog 57 #[.int .i32 c] w fun e w' => e = .returned (.bool (plainB c)) ∧ w = w' := by
  by_cases h1 : 32 ≤ c
  · by_cases h2 : c ≤ 126
    · by_cases h3 : c = 34
      · subst h3
        go_enter Tryz.func57, Tryz.ntmps57
        go_wp2_with fail
        go_ret
        exact ⟨ret_bool (by decide), rfl⟩
      · have b3 : (c != 34) = true := by simp [h3]
        by_cases h4 : c = 92
        · subst h4
          go_enter Tryz.func57, Tryz.ntmps57
          go_wp2_with fail
          go_ret
          exact ⟨ret_bool (by decide), rfl⟩
        · have b4 : (c != 92) = true := by simp [h4]
          have Hp : Hid (plainB c = true) := by show plainB c = true; unfold plainB; simp; omega
          clear h3 h4
          go_enter Tryz.func57, Tryz.ntmps57
          go_wp2_with fail
          go_ret
          exact ⟨ret_bool Hp.out.symm, rfl⟩
    · have Hp : Hid (plainB c = false) := by show plainB c = false; unfold plainB; simp; omega
      go_enter Tryz.func57, Tryz.ntmps57
      go_wp2_with fail
      go_ret
      exact ⟨ret_bool Hp.out.symm, rfl⟩
  · have Hp : Hid (plainB c = false) := by show plainB c = false; unfold plainB; simp; omega
    go_enter Tryz.func57, Tryz.ntmps57
    go_wp2_with fail
    go_ret
    exact ⟨ret_bool Hp.out.symm, rfl⟩

end Go.Proofs.YtmhgbocejjnoaaaGreatDoor
/- Walks: the reference of glyph: how a text is written. -/
namespace Go.Proofs.YtmhgbocejjnoaaaGreatDoor
open Go.RowKit Go.Redl
set_option linter.unusedVariables false

theorem check_valid' {zs : List Int} (h : checkE zs = 0) : ∀ c ∈ zs, validB c = true := by
  intro c hc
  unfold checkE at h
  cases hv : validB c with
  | true => rfl
  | false =>
    have : (zs.any fun c => !validB c) = true := List.any_eq_true.2 ⟨c, hc, by simp [hv]⟩
    rw [this] at h
    cases h

set_option maxRecDepth 100000 in
set_option maxHeartbeats 400000 in
theorem rplain_c (c : Int) (w : World) :
    Calls Tryz.prog 55 #[.int .i32 c] w fun e w' => e = .returned (.bool (plainB c)) ∧ w = w' := by
  by_cases h1 : 32 ≤ c
  · by_cases h2 : c ≤ 126
    · by_cases h3 : c = 34
      · subst h3
        go_enter Tryz.func55, Tryz.ntmps55
        go_wp2_with fail
        go_ret
        exact ⟨ret_bool (by decide), rfl⟩
      · have b3 : (c != 34) = true := by simp [h3]
        by_cases h4 : c = 92
        · subst h4
          go_enter Tryz.func55, Tryz.ntmps55
          go_wp2_with fail
          go_ret
          exact ⟨ret_bool (by decide), rfl⟩
        · have b4 : (c != 92) = true := by simp [h4]
          have Hp : Hid (plainB c = true) := by show plainB c = true; unfold plainB; simp; omega
          clear h3 h4
          go_enter Tryz.func55, Tryz.ntmps55
          go_wp2_with fail
          go_ret
          exact ⟨ret_bool Hp.out.symm, rfl⟩
    · have Hp : Hid (plainB c = false) := by show plainB c = false; unfold plainB; simp; omega
      go_enter Tryz.func55, Tryz.ntmps55
      go_wp2_with fail
      go_ret
      exact ⟨ret_bool Hp.out.symm, rfl⟩
  · have Hp : Hid (plainB c = false) := by show plainB c = false; unfold plainB; simp; omega
    go_enter Tryz.func55, Tryz.ntmps55
    go_wp2_with fail
    go_ret
    exact ⟨ret_bool Hp.out.symm, rfl⟩


theorem dig16 (m : Nat) (hm : m < 16) : (⟨#[48, 49, 50, 51, 52, 53, 54, 55, 56, 57, 97, 98, 99, 100, 101, 102]⟩ : ByteArray).extract m (m + 1) = ⟨[dig m].toArray⟩ := by
  have : m = 0 ∨ m = 1 ∨ m = 2 ∨ m = 3 ∨ m = 4 ∨ m = 5 ∨ m = 6 ∨ m = 7 ∨ m = 8 ∨ m = 9 ∨ m = 10 ∨ m = 11 ∨ m = 12 ∨ m = 13 ∨ m = 14 ∨ m = 15 := by omega
  rcases this with rfl | rfl | rfl | rfl | rfl | rfl | rfl | rfl | rfl | rfl | rfl | rfl | rfl | rfl | rfl | rfl <;> rfl

set_option maxRecDepth 100000 in
set_option maxHeartbeats 1000000 in
theorem rhexF_c (f : Nat) : ∀ (n : Nat) (w : World), n < 16 ^ f → n ≤ 2000000000 → 1 ≤ f → f ≤ 100 →
    Calls Tryz.prog 69 #[.int .i32 n] w fun e w' => e = .returned (.string ⟨(hexF f n).toArray⟩) ∧ w = w' := by
  induction f with
  | zero => intro n w _ _ h _; omega
  | succ f ih =>
    intro n w hn hm _ hf100
    have hd := dig16 (n % 16) (Nat.mod_lt _ (by decide))
    have hlt16 : n % 16 < 16 := Nat.mod_lt _ (by decide)
    have Hh : Hid (hexF (f + 1) n = if n < 16 then [dig n] else hexF f (n / 16) ++ [dig (n % 16)]) := rfl
    by_cases hs : n < 16
    · have Hd := Lib.hid hd
      clear hd ih
      go_enter Tryz.func69, Tryz.ntmps69
      go_wp2_with fail
      go_ret
      refine ⟨congrArg (fun s => Ending.returned (Value.string s)) ?_, rfl⟩
      rw [Hd.out, Hh.out, if_pos hs, Nat.mod_eq_of_lt hs]
    · have hf : 1 ≤ f := by
        rcases Nat.eq_zero_or_pos f with rfl | h
        · simp at hn; omega
        · exact h
      have HI := Lib.hid (ih (n / 16) w (by rw [Nat.pow_succ] at hn; omega) (by omega) hf (by omega))
      have hlen := hexF_len f (n / 16)
      have hq : (n : Int) / 16 = ((n / 16 : Nat) : Int) := by omega
      have Hq := Lib.hid hq
      have Hd := Lib.hid hd
      clear hd ih hq hn hf
      go_enter Tryz.func69, Tryz.ntmps69
      go_wp2_with fail
      rw [Hq.out]
      refine HI.out.mono ?_
      rintro e w1 ⟨rfl, rfl⟩
      go_wp2_with fail
      go_ret
      refine ⟨congrArg (fun s => Ending.returned (Value.string s)) ?_, rfl⟩
      rw [Hd.out, Hh.out, if_neg hs, bytes_append]

theorem rhex_c (n : Nat) (w : World) (h : n ≤ 2000000000) : Calls Tryz.prog 69 #[.int .i32 n] w fun e w' => e = .returned (.string ⟨(hexL n).toArray⟩) ∧ w = w' :=
  rhexF_c 20 n w (Nat.lt_of_le_of_lt h (by decide)) h (by decide) (by decide)

theorem one_byte8 (w : World) (b : Nat) (hb : b < 256) : (convert 56 9 (.slice (some ⟨w.heap.size, 0, none⟩) 1 1)).run Tryz.prog (w.alloc (.cells #[.int .u8 b] 5)) = .ok (.string ⟨[UInt8.ofNat b].toArray⟩) (w.alloc (.cells #[.int .u8 b] 5)) := by
  refine bytes_string Tryz.underlying56 Tryz.underlying5 Tryz.underlying9 w.heap.size 0 1 1 [UInt8.ofNat b] rfl fun j hj => ?_
  have : j = 0 := by simpa using hj
  subst this
  simp only [World.cell?, World.alloc, Array.getElem?_push_size]
  simp [Nat.mod_eq_of_lt hb]

end Go.Proofs.YtmhgbocejjnoaaaGreatDoor
/- Walks: the reference of node: Size. -/
namespace Go.Proofs.YtmhgbocejjnoaaaGreatDoor
open Go.RowKit Go.Redl
set_option linter.unusedVariables false

end Go.Proofs.YtmhgbocejjnoaaaGreatDoor
/- Walks: the reference of node: check, Check. -/
namespace Go.Proofs.YtmhgbocejjnoaaaGreatDoor
open Go.RowKit Go.Redl
set_option linter.unusedVariables false

/-- A box of four cells, behind more memory. -/
theorem box_keep {w w1 : World} {c0 c1 c2 c3 : Value} {T : TypeId} (hb : Below (w.heap.size + 1) (w.alloc (.cells #[c0, c1, c2, c3] T)) w1) :
    w1.cell? ⟨w.heap.size, 0, none⟩ = some c0 ∧ w1.cell? ⟨w.heap.size, 1, none⟩ = some c1 ∧ w1.cell? ⟨w.heap.size, 2, none⟩ = some c2 ∧ w1.cell? ⟨w.heap.size, 3, none⟩ = some c3 := by
  have h : w1.heap[w.heap.size]? = some (.cells #[c0, c1, c2, c3] T (0, 0)) := by
    rw [hb.block w.heap.size (by omega)]
    exact heap_alloc_new w _
  refine ⟨?_, ?_, ?_, ?_⟩ <;> (rw [cell_of_row _ _ _ _ _ _ h]; rfl)
theorem below_box {w w1 : World} {o : Obj} (hb : Below (w.alloc o).heap.size (w.alloc o) w1) : Below (w.heap.size + 1) (w.alloc o) w1 := by
  have : (w.alloc o).heap.size = w.heap.size + 1 := by simp
  rwa [this] at hb
theorem below_unbox {w w1 : World} {o : Obj} (hb : Below (w.heap.size + 1) (w.alloc o) w1) : Below w.heap.size w w1 :=
  ((Below.refl w.heap.size w).alloc (Nat.le_refl _) o).trans (hb.mono (by omega))
theorem below_box_more {w w1 : World} {o o' : Obj} (hb : Below (w.heap.size + 1) (w.alloc o) w1) : Below (w.heap.size + 1) (w.alloc o) (w1.alloc o') :=
  hb.alloc (by have := hb.size; simp at this; omega) o'
theorem ownE_cases (l : Bool) (ps : List PropD) (t : List Int) (m : Nat) : ownE l ps t m = if propsE ps ≠ 0 then propsE ps else if (l && decide (0 < m)) || (!l && decide (0 < t.length)) then 7 else checkE t := rfl

end Go.Proofs.YtmhgbocejjnoaaaGreatDoor
/- Walks: prop.Check. -/
namespace Go.Proofs.YtmhgbocejjnoaaaGreatDoor
open Go.RowKit Go.Redl
set_option linter.unusedVariables false

/-- A box of two cells, behind more memory. -/
theorem box2_keep {w w1 : World} {c0 c1 : Value} {T : TypeId} (hb : Below (w.heap.size + 1) (w.alloc (.cells #[c0, c1] T)) w1) :
    w1.cell? ⟨w.heap.size, 0, none⟩ = some c0 ∧ w1.cell? ⟨w.heap.size, 1, none⟩ = some c1 := by
  have h : w1.heap[w.heap.size]? = some (.cells #[c0, c1] T (0, 0)) := by
    rw [hb.block w.heap.size (by omega)]
    exact heap_alloc_new w _
  refine ⟨?_, ?_⟩ <;> (rw [cell_of_row _ _ _ _ _ _ h]; rfl)
theorem below_then {B : Nat} {w w1 w2 : World} (h : Below B w w1) (h2 : Below w1.heap.size w1 w2) (hB : B ≤ w.heap.size) : Below B w w2 :=
  h.trans (h2.mono (Nat.le_trans hB h.size))

set_option maxRecDepth 100000 in
set_option maxHeartbeats 2000000 in
theorem pcheck_c (v : Value) (B : Nat) (ps : List PropD) (w : World) (hv : ∃ a cap, v = .slice a ps.length cap ∧ RowA w B 2 a ps.length cap (propCells ps)) (hB : B ≤ w.heap.size) (hn : propsWt ps ≤ 1000000000) :
    Calls Tryz.prog 48 #[v] w fun e w' => e = .returned (.int .i64 (propsE ps)) ∧ Below w.heap.size w w' := by
  obtain ⟨a, cap, rfl, hr⟩ := hv
  have hm := props_len hr
  by_cases h16 : 16 < ps.length
  · have He : Hid (propsE ps = if 16 < ps.length then 2 else propsGo [] ps) := rfl
    go_enter Tryz.func48, Tryz.ntmps48
    go_wp2_with fail
    go_ret
    exact ⟨ret_int (by rw [He.out, if_pos h16]), Below.refl _ _⟩
  · have He : Hid (propsE ps = propsGo [] ps) := by
      show propsE ps = _
      unfold propsE; rw [if_neg h16]
    go_enter Tryz.func48, Tryz.ntmps48
    go_wp2_with fail
    go_loopw [3, 11] (fun s i wr => ∃ (k : Nat) (q : List UInt8), k ≤ ps.length ∧ i = .int .i64 k ∧ s = .string ⟨q.toArray⟩ ∧ q = lastK ps k ∧ propsGo q (ps.drop k) = propsE ps ∧ Below w.heap.size w wr) (fun _ i _ => ps.length - (intOf i).toNat)
    case atStart => exact ⟨0, [], Nat.zero_le _, rfl, rfl, rfl, by rw [He.out]; rfl, Below.refl _ _⟩
    case round =>
      obtain ⟨k, q, hk, rfl, rfl, hq, hp, hbel⟩ := hrel
      have hr2 := hr.keep (hbel.mono hB) (Nat.le_refl _)
      have Hp := Lib.hid hp
      have Hb := Lib.hid hbel
      have Hq := Lib.hid hq
      clear hp hbel hq
      by_cases hlt : k < ps.length
      · have Hstep := Lib.hid (propsGo_step hlt)
        rw [← Hq.out] at Hstep
        obtain ⟨b, off, rfl, hb, hc0, hc1⟩ := hr2.prop_at k hlt
        have hmem := propsWt_mem (List.getElem_mem hlt)
        have HK := Lib.hid (key_c ps[k].1)
        have HV := Lib.hid (val_c ps[k].2)
        have hla : Hid (lastK ps (k + 1) = ps[k].1) := by show (ps.getD k ([], [])).1 = _; rw [getD_of_lt hlt]
        generalize ps[k] = p at hc0 hc1 hmem HK HV Hstep hla
        obtain ⟨p1, p2⟩ := p
        simp only at hc0 hc1 hmem HK HV Hstep hla
        have hl1 : p1.length ≤ 1000000000 := by omega
        have hl2 : p2.length ≤ 1000000000 := by omega
        have HK1 := fun W => Lib.hid (HK.out W hl1)
        have HV1 := fun W => Lib.hid (HV.out W hl2)
        clear HK HV hmem
        cases hkey : keyB p1
        · simp only [hkey] at HK1
          go_wp2_with fail
          refine (HK1 _).out.mono ?_
          rintro e w1 ⟨rfl, hbel⟩
          have Hb1 := Lib.hid (below_then Hb.out (below_unbox (below_box hbel)) (Nat.le_refl _))
          clear hbel
          go_wp2_with fail
          go_ret
          exact ⟨ret_int (by rw [← Hp.out, Hstep.out, hkey]; simp), Hb1.out⟩
        · simp only [hkey] at HK1
          cases hval : valB p2
          · simp only [hval] at HV1
            go_wp2_with fail
            refine (HK1 _).out.mono ?_
            rintro e w1 ⟨rfl, hbel⟩
            obtain ⟨x0, x1⟩ := box2_keep (below_box hbel)
            have Hb1 := Lib.hid (below_then Hb.out (below_unbox (below_box hbel)) (Nat.le_refl _))
            clear hbel
            go_wp2_with fail
            refine (HV1 _).out.mono ?_
            rintro e w2 ⟨rfl, hbel⟩
            have Hb2 := Lib.hid (below_then Hb1.out hbel (Nat.le_refl _))
            clear hbel x0 x1
            go_wp2_with fail
            go_ret
            exact ⟨ret_int (by rw [← Hp.out, Hstep.out, hkey, hval]; simp), Hb2.out⟩
          · simp only [hval] at HV1
            have Hkv : Hid (propsE ps = if leB p1 q = true then 1 else propsGo (lastK ps (k + 1)) (ps.drop (k + 1))) := by
              show propsE ps = _
              rw [← Hp.out, Hstep.out, hkey, hval]; simp
            have Hle : Hid (leB p1 q = (Op.bytesLess p1 q || p1 == q)) := rfl
            clear hkey hval
            cases hx : Op.bytesLess p1 q
            · cases hy : (p1 == q)
              · have Hlb : Hid (leB p1 q = false) := by show leB p1 q = false; rw [Hle.out, hx, hy]; rfl
                go_wp2_with fail
                refine (HK1 _).out.mono ?_
                rintro e w1 ⟨rfl, hbel⟩
                obtain ⟨x0, x1⟩ := box2_keep (below_box hbel)
                have Hb1 := Lib.hid (below_then Hb.out (below_unbox (below_box hbel)) (Nat.le_refl _))
                have Hbx := Lib.hid (below_box hbel)
                clear hbel
                go_wp2_with fail
                refine (HV1 _).out.mono ?_
                rintro e w2 ⟨rfl, hbel⟩
                obtain ⟨y0, y1⟩ := box2_keep (below_then Hbx.out hbel (by simp))
                have Hb2 := Lib.hid (below_then Hb1.out hbel (Nat.le_refl _))
                clear hbel x0 x1
                go_wp2_with fail
                go_roundw
                case rel => exact ⟨k + 1, p1, by omega, by go_num, rfl, hla.out.symm, by rw [Hkv.out, hla.out, Hlb.out]; simp, Hb2.out⟩
                case measure => simp [intOf]; omega
              · have Hlb : Hid (leB p1 q = true) := by show leB p1 q = true; rw [Hle.out, hx, hy]; rfl
                go_wp2_with fail
                refine (HK1 _).out.mono ?_
                rintro e w1 ⟨rfl, hbel⟩
                obtain ⟨x0, x1⟩ := box2_keep (below_box hbel)
                have Hb1 := Lib.hid (below_then Hb.out (below_unbox (below_box hbel)) (Nat.le_refl _))
                have Hbx := Lib.hid (below_box hbel)
                clear hbel
                go_wp2_with fail
                refine (HV1 _).out.mono ?_
                rintro e w2 ⟨rfl, hbel⟩
                obtain ⟨y0, y1⟩ := box2_keep (below_then Hbx.out hbel (by simp))
                have Hb2 := Lib.hid (below_then Hb1.out hbel (Nat.le_refl _))
                clear hbel x0 x1
                go_wp2_with fail
                go_ret
                exact ⟨ret_int (by rw [Hkv.out, Hlb.out]; simp), Hb2.out⟩
            · have Hlb : Hid (leB p1 q = true) := by show leB p1 q = true; rw [Hle.out, hx]; rfl
              go_wp2_with fail
              refine (HK1 _).out.mono ?_
              rintro e w1 ⟨rfl, hbel⟩
              obtain ⟨x0, x1⟩ := box2_keep (below_box hbel)
              have Hb1 := Lib.hid (below_then Hb.out (below_unbox (below_box hbel)) (Nat.le_refl _))
              have Hbx := Lib.hid (below_box hbel)
              clear hbel
              go_wp2_with fail
              refine (HV1 _).out.mono ?_
              rintro e w2 ⟨rfl, hbel⟩
              obtain ⟨y0, y1⟩ := box2_keep (below_then Hbx.out hbel (by simp))
              have Hb2 := Lib.hid (below_then Hb1.out hbel (Nat.le_refl _))
              clear hbel x0 x1
              go_wp2_with fail
              go_ret
              exact ⟨ret_int (by rw [Hkv.out, Hlb.out]; simp), Hb2.out⟩
      · obtain rfl : k = ps.length := by omega
        go_wp2_with fail
        go_ret
        exact ⟨ret_int (by rw [← Hp.out, propsGo_end]), Hb.out⟩

end Go.Proofs.YtmhgbocejjnoaaaGreatDoor
/- Walks: node's own. -/
namespace Go.Proofs.YtmhgbocejjnoaaaGreatDoor
open Go.RowKit Go.Redl
set_option linter.unusedVariables false

set_option maxRecDepth 100000 in
set_option maxHeartbeats 2000000 in
theorem own_c (l : Bool) (ps : List PropD) (t : List Int) (ks : List NodeD) (v : Value) (B : Nat) (w : World) (hB : B ≤ w.heap.size) (hn : (NodeD.mk l ps t ks).wt ≤ 100000000) (hv : NodeV w B (.mk l ps t ks) v) :
    Calls Tryz.prog 31 #[v] w fun e w' => e = .returned (.int .i64 (ownE l ps t ks.length)) ∧ Below w.heap.size w w' := by
  obtain ⟨ap, cp, at_, ct, ak, ck, css, rfl, hp, ht, hk, hc⟩ := hv.open
  have hwt : 1 + propsWt ps + t.length + wtAll ks = (NodeD.mk l ps t ks).wt := rfl
  have hw4 : propsWt ps ≤ 1000000000 := by omega
  have hkl := wtAll_len ks
  have htl : t.length ≤ 100000000 := by omega
  have hkl2 : ks.length ≤ 100000000 := by omega
  have hB0 := ((Below.refl w.heap.size w).alloc (Nat.le_refl _) (Obj.cells #[.bool l, .slice ap ps.length cp, .slice at_ t.length ct, .slice ak ks.length ck] 27))
  have HP := Lib.hid (pcheck_c (.slice ap ps.length cp) w.heap.size ps (w.alloc (Obj.cells #[.bool l, .slice ap ps.length cp, .slice at_ t.length ct, .slice ak ks.length ck] 27)) ⟨ap, cp, rfl, hp.keep (hB0.mono hB) hB⟩ (by simp) hw4)
  have HT := fun W (hW : Below w.heap.size w W) => Lib.hid (check_c _ _ t W (ht.keep (hW.mono hB) (Nat.le_refl _)))
  have Ho := Lib.hid (ownE_cases l ps t ks.length)
  clear hv hp ht hwt hn hB0 hk hc
  by_cases hpe : propsE ps ≠ 0
  · have Hr : Hid (ownE l ps t ks.length = propsE ps) := by
      show ownE l ps t ks.length = _
      rw [Ho.out, if_pos hpe]
    have hne : (propsE ps != 0) = true := by simpa using hpe
    clear hpe
    go_enter Tryz.func31, Tryz.ntmps31
    go_wp2_with fail
    refine HP.out.mono ?_
    rintro e w1 ⟨rfl, hbel⟩
    have Hb := Lib.hid (below_unbox (below_box hbel))
    clear hbel HP
    go_wp2_with fail
    go_ret
    exact ⟨ret_int Hr.out.symm, Hb.out⟩
  · have hpe : propsE ps = 0 := by simpa using hpe
    rw [hpe] at HP
    cases hbad : (l && decide (0 < ks.length)) || (!l && decide (0 < t.length)) with
    | true =>
      have Hr : Hid (ownE l ps t ks.length = 7) := by
        show ownE l ps t ks.length = _
        rw [Ho.out, hpe, hbad]; rfl
      clear hpe
      cases l with
      | true =>
        have hb2 : 0 < ks.length := by simpa using hbad
        clear hbad
        go_enter Tryz.func31, Tryz.ntmps31
        go_wp2_with fail
        refine HP.out.mono ?_
        rintro e w1 ⟨rfl, hbel⟩
        obtain ⟨x0, x1, x2, x3⟩ := box_keep (below_box hbel)
        have Hb := Lib.hid (below_unbox (below_box hbel))
        clear hbel HP
        go_wp2_with fail
        go_ret
        exact ⟨ret_int Hr.out.symm, Hb.out⟩
      | false =>
        have hb2 : 0 < t.length := by simpa using hbad
        clear hbad
        go_enter Tryz.func31, Tryz.ntmps31
        go_wp2_with fail
        refine HP.out.mono ?_
        rintro e w1 ⟨rfl, hbel⟩
        obtain ⟨x0, x1, x2, x3⟩ := box_keep (below_box hbel)
        have Hb := Lib.hid (below_unbox (below_box hbel))
        clear hbel HP
        go_wp2_with fail
        go_ret
        exact ⟨ret_int Hr.out.symm, Hb.out⟩
    | false =>
      have Hr : Hid (ownE l ps t ks.length = checkE t) := by
        show ownE l ps t ks.length = _
        rw [Ho.out, hpe, hbad]; rfl
      clear hpe
      cases l with
      | true =>
        have hb2 : ks.length ≤ 0 := by simp at hbad; simp [hbad]
        clear hbad
        go_enter Tryz.func31, Tryz.ntmps31
        go_wp2_with fail
        refine HP.out.mono ?_
        rintro e w1 ⟨rfl, hbel⟩
        obtain ⟨x0, x1, x2, x3⟩ := box_keep (below_box hbel)
        have Hb := Lib.hid (below_unbox (below_box hbel))
        clear hbel HP
        go_wp2_with fail
        refine (HT _ Hb.out).out.mono ?_
        rintro e w2 ⟨rfl, rfl⟩
        go_wp2_with fail
        go_ret
        exact ⟨ret_int Hr.out.symm, Hb.out⟩
      | false =>
        have hb2 : t.length ≤ 0 := by simp at hbad; simp [hbad]
        clear hbad
        go_enter Tryz.func31, Tryz.ntmps31
        go_wp2_with fail
        refine HP.out.mono ?_
        rintro e w1 ⟨rfl, hbel⟩
        obtain ⟨x0, x1, x2, x3⟩ := box_keep (below_box hbel)
        have Hb := Lib.hid (below_unbox (below_box hbel))
        clear hbel HP
        go_wp2_with fail
        refine (HT _ Hb.out).out.mono ?_
        rintro e w2 ⟨rfl, rfl⟩
        go_wp2_with fail
        go_ret
        exact ⟨ret_int Hr.out.symm, Hb.out⟩

end Go.Proofs.YtmhgbocejjnoaaaGreatDoor
/- Walks: node's walk: a function asked at each node, in order, till it says no. -/
namespace Go.Proofs.YtmhgbocejjnoaaaGreatDoor
open Go.RowKit Go.Redl
set_option linter.unusedVariables false

section
variable {S : Type} (go : NodeD → Bool) (st : NodeD → S → S)
mutual
/-- What such a walk answers, and the state that it leaves. -/
def eachS : NodeD → S → Bool × S
  | .mk l ps t ks, s => if go (.mk l ps t ks) then kidsS ks (st (.mk l ps t ks) s) else (false, st (.mk l ps t ks) s)
def kidsS : List NodeD → S → Bool × S
  | [], s => (true, s)
  | k :: ks, s => if (eachS k s).1 then kidsS ks (eachS k s).2 else (false, (eachS k s).2)
end
theorem kidsS_step {ks : List NodeD} {k : Nat} {s : S} (h : k < ks.length) : kidsS go st (ks.drop k) s = if (eachS go st ks[k] s).1 then kidsS go st (ks.drop (k + 1)) (eachS go st ks[k] s).2 else (false, (eachS go st ks[k] s).2) := by
  conv => lhs; rw [List.drop_eq_getElem_cons h]
  simp only [kidsS]
end

/-- The asked function's contract. -/
def AskC {S : Type} (Φ : S → World → Prop) (bad : TypeId → Bool) (B cb : Nat) (caps : Array Value) (go : NodeD → Bool) (st : NodeD → S → S) (M : Nat) : Prop :=
  ∀ (n : NodeD) (v : Value) (s : S) (W : World), n.wt ≤ M → NodeV W B n v → B ≤ W.heap.size → Φ s W →
    Calls Tryz.prog cb (#[v] ++ caps) W fun e w' => e = .returned (.bool (go n)) ∧ Φ (st n s) w' ∧ Spares bad B W w'
/-- The walk's two variables. -/
def EnvAt (W : World) (tb eb cb : Nat) (caps : Array Value) : Prop :=
  W.heap[tb]? = some (Obj.cells #[.func (.func cb) #[] caps] 64 (0, 0)) ∧ W.heap[eb]? = some (Obj.cells #[.func (.func 45) #[] #[.pointer (some ⟨tb, 0, none⟩), .pointer (some ⟨eb, 0, none⟩)]] 64 (0, 0))
theorem EnvAt.keep {W W' : World} {tb eb cb B : Nat} {caps : Array Value} {bad : TypeId → Bool} (h : EnvAt W tb eb cb caps) (hs : Spares bad B W W') (hb : bad 64 = false) : EnvAt W' tb eb cb caps :=
  ⟨hs.block _ _ _ _ h.1 hb, hs.block _ _ _ _ h.2 hb⟩
theorem EnvAt.cells {W : World} {tb eb cb : Nat} {caps : Array Value} (h : EnvAt W tb eb cb caps) :
    W.cell? ⟨tb, 0, none⟩ = some (.func (.func cb) #[] caps) ∧ W.cell? ⟨eb, 0, none⟩ = some (.func (.func 45) #[] #[.pointer (some ⟨tb, 0, none⟩), .pointer (some ⟨eb, 0, none⟩)]) ∧ tb < W.heap.size ∧ eb < W.heap.size :=
  ⟨by rw [cell_of_row _ _ _ _ _ _ h.1]; rfl, by rw [cell_of_row _ _ _ _ _ _ h.2]; rfl, (Array.getElem?_eq_some_iff.1 h.1).1, (Array.getElem?_eq_some_iff.1 h.2).1⟩
/-- What a call of the walk's own function leaves. -/
def EachP {S : Type} (Φ : S → World → Prop) (bad : TypeId → Bool) (B : Nat) (W : World) (b : Bool) (s : S) (e : Ending) (w' : World) : Prop := e = .returned (.bool b) ∧ Φ s w' ∧ Spares bad B W w'
/-- What IndexFunc leaves there. -/
def IdxP {S : Type} (Φ : S → World → Prop) (bad : TypeId → Bool) (B : Nat) (W : World) (b : Bool) (s : S) (e : Ending) (w' : World) : Prop := ∃ i : Int, e = .returned (.int .i64 i) ∧ decide (0 ≤ i) = !b ∧ Φ s w' ∧ Spares bad B W w'

section
variable {S : Type} {Φ : S → World → Prop} {bad : TypeId → Bool} {B tb eb cb : Nat} {caps : Array Value} {go : NodeD → Bool} {st : NodeD → S → S} {M : Nat}

set_option maxRecDepth 100000 in
set_option maxHeartbeats 1000000 in
theorem kid_c (hΦ : ∀ s W W', Φ s W → Below W.heap.size W W' → Φ s W') (hbad : bad 64 = false) (q : NodeD) (v : Value) (s : S) (W : World) (hE : EnvAt W tb eb cb caps) (hv : NodeV W B q v) (hB : B ≤ W.heap.size) (hs : Φ s W)
    (hC : ∀ W', NodeV W' B q v → B ≤ W'.heap.size → EnvAt W' tb eb cb caps → Φ s W' → Calls Tryz.prog 45 #[v, .pointer (some ⟨tb, 0, none⟩), .pointer (some ⟨eb, 0, none⟩)] W' (EachP Φ bad B W' (eachS go st q s).1 (eachS go st q s).2)) :
    Calls Tryz.prog 47 #[v, .pointer (some ⟨eb, 0, none⟩)] W (EachP Φ bad B W (!(eachS go st q s).1) (eachS go st q s).2) := by
  have hv0 := hv
  obtain ⟨l, ps, t, ks⟩ := q
  obtain ⟨ap, cp, at_, ct, ak, ck, css, rfl, -, -, -, -⟩ := hv0.open
  generalize NodeD.mk l ps t ks = q at hv hC ⊢
  generalize eachS go st q s = r at hC ⊢
  obtain ⟨b, s'⟩ := r
  have hS0 : Spares bad B W (W.alloc (Obj.cells #[.bool l, .slice ap ps.length cp, .slice at_ t.length ct, .slice ak ks.length ck] 27)) := (Spares.refl hB).alloc hB _
  have HC := Lib.hid (hC _ (hv.keep hS0.below (Nat.le_refl _)) (Nat.le_trans hB hS0.size) (hE.keep hS0 hbad) (hΦ _ _ _ hs ((Below.refl _ _).alloc (Nat.le_refl _) _)))
  obtain ⟨e1, e2, l1, l2⟩ := hE.cells
  have HS0 := Lib.hid hS0
  clear hC hv0 hv hE hs hS0 e1
  go_enter Tryz.func47, Tryz.ntmps47
  go_wp2_with fail
  refine HC.out.mono ?_
  rintro e w1 ⟨rfl, hφ, hsp⟩
  have Hφ := Lib.hid hφ
  have HS := Lib.hid (HS0.out.trans hsp)
  clear hφ hsp HC
  go_wp2_with fail
  go_ret
  exact ⟨rfl, Hφ.out, HS.out⟩

set_option maxRecDepth 100000 in
set_option maxHeartbeats 1000000 in
theorem idxKids_c (ks : List NodeD) (a : Option Addr) (cap : Nat) (css : List Value) (s : S) (W : World) (hE : EnvAt W tb eb cb caps) (hbad : bad 64 = false) (hr : RowA W B 4 a ks.length cap css) (hk : KidsC W B ks css) (hB : B ≤ W.heap.size) (hs : Φ s W)
    (hC : ∀ (q : NodeD) (v : Value) (s : S) (W' : World), q ∈ ks → NodeV W' B q v → B ≤ W'.heap.size → EnvAt W' tb eb cb caps → Φ s W' → Calls Tryz.prog 47 #[v, .pointer (some ⟨eb, 0, none⟩)] W' (EachP Φ bad B W' (!(eachS go st q s).1) (eachS go st q s).2)) :
    Calls Tryz.prog 60 #[.slice a ks.length cap, .func (.func 47) #[] #[.pointer (some ⟨eb, 0, none⟩)]] W (IdxP Φ bad B W (kidsS go st ks s).1 (kidsS go st ks s).2) := by
  have HC := Lib.hid hC; have HE := Lib.hid hE
  have hm := props_len hr
  have Hst := fun (s' : S) (W' : World) (h : Φ s' W') => h
  have Hs := Lib.hid hs
  obtain ⟨R, hR⟩ : ∃ R, R = kidsS go st ks s := ⟨_, rfl⟩
  rw [← hR]
  have HR := Lib.hid hR
  clear hC hE hs Hst hR
  go_enter Tryz.func60, Tryz.ntmps60
  go_wp2_with fail
  go_loopw [8] (fun i wr => ∃ (k : Nat) (s' : S), k ≤ ks.length ∧ i = .int .i64 k ∧ kidsS go st (ks.drop k) s' = R ∧ Φ s' wr ∧ Spares bad B W wr) (fun i _ => ks.length - (intOf i).toNat)
  case atStart => exact ⟨0, s, Nat.zero_le _, rfl, HR.out.symm, Hs.out, Spares.refl hB⟩
  case round =>
    obtain ⟨k, s', hkn, rfl, hke, hφ, hsp⟩ := hrel
    have hr2 := hr.keep hsp.below (Nat.le_refl _)
    have hc2 := KidsC.keep hsp.below (Nat.le_refl _) ks css hk
    have Hke := Lib.hid hke; have Hφ := Lib.hid hφ; have Hsp := Lib.hid hsp
    clear hke hφ hsp
    by_cases hlt : k < ks.length
    · have Hss := Lib.hid (kidsS_step go st (s := s') hlt)
      have hmem := List.getElem_mem hlt
      obtain ⟨b, off, l', a1, n1, c1, a2, n2, c2, a3, n3, c3, rfl, hb, hnc, g0, g1, g2, g3⟩ := hr2.kid_at hc2 k hlt
      generalize ks[k] = q at hnc hmem Hss
      have HC1 := Lib.hid (HC.out q (.agg #[.bool l', .slice a1 n1 c1, .slice a2 n2 c2, .slice a3 n3 c3]) s' wr hmem ⟨_, rfl, hnc⟩ (Nat.le_trans hB Hsp.out.size) (HE.out.keep Hsp.out hbad) Hφ.out)
      have he : ∀ args w, (callFunc 47 args).run Tryz.prog w = .ok (.enter 47 args) w := by intro args w; kernel_rfl
      generalize eachS go st q s' = r at HC1 Hss
      obtain ⟨b', s2⟩ := r
      clear hmem hnc hr2 hc2
      cases b' with
      | true =>
        have HR2 : Hid (kidsS go st (ks.drop (k + 1)) s2 = R) := by
          show kidsS go st _ _ = R
          rw [← Hke.out, Hss.out]; rfl
        go_wp2_with fail
        refine HC1.out.mono ?_
        rintro e w1 ⟨rfl, hφ, hsp⟩
        have Hφ2 := Lib.hid hφ; have Hsp2 := Lib.hid (Hsp.out.trans hsp)
        clear hφ hsp
        go_wp2_with fail
        go_roundw
        case rel => exact ⟨k + 1, s2, by omega, by go_num, HR2.out, Hφ2.out, Hsp2.out⟩
        case measure => simp [intOf]; omega
      | false =>
        have HR2 : Hid ((false, s2) = R) := by
          show _ = R
          rw [← Hke.out, Hss.out]; rfl
        go_wp2_with fail
        refine HC1.out.mono ?_
        rintro e w1 ⟨rfl, hφ, hsp⟩
        have Hφ2 := Lib.hid hφ; have Hsp2 := Lib.hid (Hsp.out.trans hsp)
        clear hφ hsp
        go_wp2_with fail
        go_ret
        refine ⟨(k : Int), rfl, ?_, ?_, Hsp2.out⟩
        · rw [← HR2.out]; simp
        · rw [← HR2.out]; exact Hφ2.out
    · obtain rfl : k = ks.length := by omega
      have HR2 : Hid ((true, s') = R) := by
        show _ = R
        rw [← Hke.out, List.drop_length]; rfl
      go_wp2_with fail
      go_ret
      refine ⟨-1, rfl, ?_, ?_, Hsp.out⟩
      · rw [← HR2.out]; rfl
      · rw [← HR2.out]; exact Hφ.out

set_option maxRecDepth 100000 in
set_option maxHeartbeats 1000000 in
theorem hasKids_c (a : Option Addr) (n cap : Nat) (b : Bool) (s' : S) (W : World) (f : Value)
    (hC : Calls Tryz.prog 60 #[.slice a n cap, f] W (IdxP Φ bad B W b s')) :
    Calls Tryz.prog 46 #[.slice a n cap, f] W (EachP Φ bad B W (!b) s') := by
  have HC := Lib.hid hC
  clear hC
  go_enter Tryz.func46, Tryz.ntmps46
  go_wp2_with fail
  refine HC.out.mono ?_
  rintro e w1 ⟨i, rfl, hi, hφ, hsp⟩
  have Hφ := Lib.hid hφ; have Hsp := Lib.hid hsp; have Hi := Lib.hid hi
  clear hφ hsp hi HC
  go_wp2_with fail
  go_ret
  exact ⟨ret_bool Hi.out, Hφ.out, Hsp.out⟩

set_option maxRecDepth 100000 in
set_option maxHeartbeats 2000000 in
theorem each_c (hΦ : ∀ s W W', Φ s W → Below W.heap.size W W' → Φ s W') (hb1 : bad 64 = false) (hb2 : bad 27 = false) (hcb : ∀ args w, (callFunc cb args).run Tryz.prog w = .ok (.enter cb args) w) (hA : AskC Φ bad B cb caps go st M) (m : Nat) :
    ∀ (n : NodeD) (v : Value) (s : S) (W : World), n.wt ≤ m → n.wt ≤ M → NodeV W B n v → B ≤ W.heap.size → EnvAt W tb eb cb caps → Φ s W →
      Calls Tryz.prog 45 #[v, .pointer (some ⟨tb, 0, none⟩), .pointer (some ⟨eb, 0, none⟩)] W (EachP Φ bad B W (eachS go st n s).1 (eachS go st n s).2) := by
  induction m with
  | zero => intro n v s W hm; have := wt_pos n; omega
  | succ m ih =>
    intro n v s W hm hM hv hB hE hs
    have IH := Lib.hid ih
    have hv0 := hv
    obtain ⟨l, ps, t, ks⟩ := n
    obtain ⟨ap, cp, at_, ct, ak, ck, css, rfl, hp, ht, hk, hc⟩ := hv0.open
    have hwt : 1 + propsWt ps + t.length + wtAll ks = (NodeD.mk l ps t ks).wt := rfl
    have hw3 : ∀ q ∈ ks, q.wt ≤ m ∧ q.wt ≤ M := fun q hq => by have := wtAll_mem hq; omega
    have Hw3 := Lib.hid hw3
    have hR : Hid (eachS go st (.mk l ps t ks) s = if go (.mk l ps t ks) then kidsS go st ks (st (.mk l ps t ks) s) else (false, st (.mk l ps t ks) s)) := rfl
    have hS0 : Spares bad B W (W.alloc (Obj.cells #[.bool l, .slice ap ps.length cp, .slice at_ t.length ct, .slice ak ks.length ck] 27)) := (Spares.refl hB).alloc hB _
    have HA := Lib.hid (hA (.mk l ps t ks) _ s _ hM (hv.keep hS0.below (Nat.le_refl _)) (Nat.le_trans hB hS0.size) (hΦ _ _ _ hs ((Below.refl _ _).alloc (Nat.le_refl _) _)))
    obtain ⟨e1, e2, l1, l2⟩ := hE.cells
    have HS0 := Lib.hid hS0; have HE := Lib.hid hE
    have Hk := Lib.hid hk; have Hc := Lib.hid hc
    generalize st (.mk l ps t ks) s = s1 at HA hR
    obtain ⟨R, hRR⟩ : ∃ R, R = eachS go st (.mk l ps t ks) s := ⟨_, rfl⟩
    rw [← hRR]
    have HR : Hid (R = if go (.mk l ps t ks) then kidsS go st ks s1 else (false, s1)) := by
      show R = _
      rw [hRR, hR.out]
    clear hv0 hv hE hs hS0 hp ht hk hc hwt hw3 hm hM hR hRR ih hA
    cases hgo : go (.mk l ps t ks) with
    | false =>
      rw [hgo] at HA HR
      go_enter Tryz.func45, Tryz.ntmps45
      go_wp2_with fail
      refine HA.out.mono ?_
      rintro e w1 ⟨rfl, hφ, hsp⟩
      have Hφ := Lib.hid hφ; have HS := Lib.hid (HS0.out.trans hsp)
      clear hφ hsp HA
      go_wp2_with fail
      go_ret
      refine ⟨?_, ?_, HS.out⟩
      · rw [HR.out]; rfl
      · rw [HR.out]; exact Hφ.out
    | true =>
      rw [hgo] at HA HR
      have HK := fun (w1 : World) (hφ : Φ s1 w1) (hs : Spares bad B W w1) => Lib.hid (hasKids_c _ _ _ _ _ _ _ (idxKids_c (go := go) (st := st) ks ak ck css s1 w1 (HE.out.keep hs hb1) hb1 (Hk.out.keep hs.below (Nat.le_refl _)) (KidsC.keep hs.below (Nat.le_refl _) ks css Hc.out) (Nat.le_trans hB hs.size) hφ
        (fun q v s W' hq hv hB' hE' hφ' => kid_c hΦ hb1 q v s W' hE' hv hB' hφ' (fun W2 hv2 hB2 hE2 hφ2 => IH.out q v s W2 (Hw3.out q hq).1 (Hw3.out q hq).2 hv2 hB2 hE2 hφ2))))
      have HR2 : Hid (R = kidsS go st ks s1) := by
        show R = _
        rw [HR.out]; rfl
      generalize kidsS go st ks s1 = r at HK HR2
      obtain ⟨b, s2⟩ := r
      clear HR Hw3 IH Hk Hc HE
      have hmf : ∀ (fn : Fn) (first cap : Array Value) (w : World), (Instr.makeFunc fn first cap).run Tryz.prog w = .ok (.func fn first cap) w := fun _ _ _ _ => rfl
      go_enter Tryz.func45, Tryz.ntmps45
      go_wp2_with fail
      refine HA.out.mono ?_
      rintro e w1 ⟨rfl, hφ, hsp⟩
      obtain ⟨x0, x1, x2, x3⟩ := hsp.box4 hb2
      have HS := Lib.hid (HS0.out.trans hsp)
      have HK1 := HK w1 hφ HS.out
      clear hφ hsp HA HK
      go_wp2_with fail
      refine HK1.out.mono ?_
      rintro e w2 ⟨rfl, hφ, hsp⟩
      have Hφ := Lib.hid hφ; have HS2 := Lib.hid (HS.out.trans hsp)
      clear hφ hsp HK1 x0 x1 x2 x3
      cases b <;> (
        go_wp2_with fail
        go_ret
        refine ⟨?_, ?_, HS2.out⟩
        · rw [HR2.out]; rfl
        · rw [HR2.out]; exact Hφ.out)
end

end Go.Proofs.YtmhgbocejjnoaaaGreatDoor
/- Walks: node's walk, Size, Check. -/
namespace Go.Proofs.YtmhgbocejjnoaaaGreatDoor
open Go.RowKit Go.Redl
set_option linter.unusedVariables false

theorem env_new (W : World) (o : Obj) (cb : Nat) (caps : Array Value) : EnvAt (((W.alloc o).alloc (Obj.cells #[.func (.func cb) #[] caps] 64)).alloc (Obj.cells #[.func (.func 45) #[] #[.pointer (some ⟨W.heap.size + 1, 0, none⟩), .pointer (some ⟨W.heap.size + 1 + 1, 0, none⟩)]] 64))
    (W.heap.size + 1) (W.heap.size + 1 + 1) cb caps := by
  constructor
  · rw [Below.heap_alloc _ _ _ (by simp)]
    have h := heap_alloc_new (W.alloc o) (Obj.cells #[.func (.func cb) #[] caps] 64)
    simpa using h
  · have h := heap_alloc_new ((W.alloc o).alloc (Obj.cells #[.func (.func cb) #[] caps] 64)) (Obj.cells #[.func (.func 45) #[] #[.pointer (some ⟨W.heap.size + 1, 0, none⟩), .pointer (some ⟨W.heap.size + 1 + 1, 0, none⟩)]] 64)
    simpa using h
theorem below_three (W : World) (o1 o2 o3 : Obj) : Below W.heap.size W (((W.alloc o1).alloc o2).alloc o3) :=
  (((Below.refl _ _).alloc (Nat.le_refl _) o1).alloc (by simp) o2).alloc (by simp; omega) o3

section
variable {S : Type} {Φ : S → World → Prop} {bad : TypeId → Bool} {B cb : Nat} {caps : Array Value} {go : NodeD → Bool} {st : NodeD → S → S} {M : Nat}

set_option maxRecDepth 100000 in
set_option maxHeartbeats 2000000 in
theorem walk_c (hΦ : ∀ s W W', Φ s W → Below W.heap.size W W' → Φ s W') (hb1 : bad 64 = false) (hb2 : bad 27 = false) (hcb : ∀ args w, (callFunc cb args).run Tryz.prog w = .ok (.enter cb args) w) (hA : AskC Φ bad B cb caps go st M)
    (n : NodeD) (v : Value) (s : S) (W : World) (hM : n.wt ≤ M) (hv : NodeV W B n v) (hB : B ≤ W.heap.size) (hs : Φ s W) :
      Calls Tryz.prog 29 #[v, .func (.func cb) #[] caps] W (EachP Φ bad B W (eachS go st n s).1 (eachS go st n s).2) := by
  have hv0 := hv
  obtain ⟨l, ps, t, ks⟩ := n
  obtain ⟨ap, cp, at_, ct, ak, ck, css, rfl, -, -, -, -⟩ := hv0.open
  generalize NodeD.mk l ps t ks = n at hv hM ⊢
  have HE := fun (tb eb : Nat) (W' : World) (hE : EnvAt W' tb eb cb caps) (hW : Below W.heap.size W W') => Lib.hid (each_c (tb := tb) (eb := eb) hΦ hb1 hb2 hcb hA _ n _ s W' (Nat.le_refl _) hM (hv.keep (hW.mono hB) (Nat.le_refl _)) (Nat.le_trans hB hW.size) hE (hΦ _ _ _ hs hW))
  have HS := fun (W' w' : World) (hW : Below W.heap.size W W') (hS : Spares bad B W' w') => (Spares.of_below (bad := bad) hW hB).trans hS
  generalize eachS go st n s = r at HE ⊢
  obtain ⟨b, s'⟩ := r
  have HE := Lib.hid HE
  have HS := Lib.hid HS
  have hmf : ∀ (fn : Fn) (first cap : Array Value) (w : World), (Instr.makeFunc fn first cap).run Tryz.prog w = .ok (.func fn first cap) w := fun _ _ _ _ => rfl
  have hst := fun (W : World) (a : Addr) (fn : Fn) (first cap : Array Value) (m : Mode) => run_store Tryz.prog W a (.func fn first cap) m rfl
  clear hv0 hv hA hs hM
  go_enter Tryz.func29, Tryz.ntmps29
  go_wp2_with fail
  refine (HE.out _ _ _ (env_new W _ cb caps) (below_three _ _ _ _)).out.mono ?_
  rintro e w1 ⟨rfl, hφ, hsp⟩
  have Hφ := Lib.hid hφ; have HSp := Lib.hid (HS.out _ _ (below_three _ _ _ _) hsp)
  clear hφ hsp
  go_wp2_with fail
  go_ret
  exact ⟨rfl, Hφ.out, HSp.out⟩
end

/-- A cell of a number. -/
def CellI (T : TypeId) (b : Nat) (x : Int) (W : World) : Prop := W.heap[b]? = some (Obj.cells #[.int .i64 x] T (0, 0))
theorem CellI.keep {T : TypeId} {b : Nat} {x : Int} {W W' : World} (h : CellI T b x W) (hb : Below W.heap.size W W') : CellI T b x W' := by
  unfold CellI at *
  rw [hb.block b (Array.getElem?_eq_some_iff.1 h).1]; exact h
theorem CellI.cell {T : TypeId} {b : Nat} {x : Int} {W : World} (h : CellI T b x W) : W.cell? ⟨b, 0, none⟩ = some (.int .i64 x) ∧ W.frozen? ⟨b, 0, none⟩ = false ∧ b < W.heap.size := by
  unfold CellI at h
  exact ⟨by rw [cell_of_row _ _ _ _ _ _ h]; rfl, by simp [World.frozen?, h], (Array.getElem?_eq_some_iff.1 h).1⟩
theorem CellI.set_ {T : TypeId} {b : Nat} {x y : Int} {W : World} (h : CellI T b x W) : CellI T b y (W.setCell ⟨b, 0, none⟩ (.int .i64 y)) := by
  unfold CellI at *
  simp [World.setCell, Array.getElem?_modify, h]

/-- The sum so far. -/
def SumAt (b : Nat) (s : Nat) (W : World) : Prop := ∃ x : Int, x = wrap64 (s : Int) ∧ CellI 3 b x W
def txtLen : NodeD → Nat
  | .mk _ _ t _ => t.length
def badInt (T : TypeId) : Bool := T == 3

theorem wrap64_add (a b : Int) : wrap64 (wrap64 a + b) = wrap64 (a + b) := by
  unfold wrap64; omega

def goSize : NodeD → Bool := fun _ => true
def stSize (n : NodeD) (s : Nat) : Nat := s + (1 + txtLen n)

set_option maxRecDepth 100000 in
set_option maxHeartbeats 1000000 in
theorem size1_c (b B M : Nat) (hBb : B ≤ b) (hM : M ≤ 1000000000) : AskC (SumAt b) badInt B 44 #[.pointer (some ⟨b, 0, none⟩)] goSize stSize M := by
  intro n v s W hn hv hB hs
  have hv0 := hv
  obtain ⟨l, ps, t, ks⟩ := n
  obtain ⟨ap, cp, at_, ct, ak, ck, css, rfl, -, -, -, -⟩ := hv0.open
  have hwt : 1 + propsWt ps + t.length + wtAll ks = (NodeD.mk l ps t ks).wt := rfl
  have htl : t.length ≤ 1000000000 := by omega
  obtain ⟨x, hx, hc⟩ := hs
  obtain ⟨c1, c2, c3⟩ := hc.cell
  have Hx := Lib.hid hx
  have Hc := Lib.hid hc
  have Hst : Hid (txtLen (.mk l ps t ks) = t.length) := rfl
  clear hv0 hv hx hc hwt hn
  show Calls Tryz.prog 44 #[_, _] W _
  go_enter Tryz.func44, Tryz.ntmps44
  go_wp2_with fail
  go_ret
  refine ⟨rfl, ⟨_, ?_, (Hc.out.set_).keep ((Below.refl _ _).alloc (Nat.le_refl _) _)⟩, ?_⟩
  · show _ = wrap64 ((s + (1 + txtLen (.mk l ps t ks)) : Nat) : Int)
    rw [Hst.out, Hx.out, wrap64_add, Int.natCast_add, Int.natCast_add]; rfl
  · exact ((Spares.refl hB).setCell Hc.out rfl hBb _).alloc hB _

def badErr (T : TypeId) : Bool := T == 28
def ownN : NodeD → Int
  | .mk l ps t ks => ownE l ps t ks.length

def goCheck (n : NodeD) : Bool := ownN n == 0
def stCheck (n : NodeD) (_ : Int) : Int := ownN n

set_option maxRecDepth 100000 in
set_option maxHeartbeats 1000000 in
theorem ask_c (b B M : Nat) (hBb : B ≤ b) (hM : M ≤ 100000000) : AskC (CellI 28 b) badErr B 30 #[.pointer (some ⟨b, 0, none⟩)] goCheck stCheck M := by
  intro n v s W hn hv hB hs
  have hv0 := hv
  obtain ⟨l, ps, t, ks⟩ := n
  obtain ⟨ap, cp, at_, ct, ak, ck, css, rfl, -, -, -, -⟩ := hv0.open
  have hW1 : Below W.heap.size W (W.alloc (Obj.cells #[.bool l, .slice ap ps.length cp, .slice at_ t.length ct, .slice ak ks.length ck] 27)) := (Below.refl _ _).alloc (Nat.le_refl _) _
  have HO := Lib.hid (own_c l ps t ks _ B _ (Nat.le_trans hB hW1.size) (by omega) (hv.keep (hW1.mono hB) (Nat.le_refl _)))
  have Hst : Hid (goCheck (.mk l ps t ks) = (ownE l ps t ks.length == 0)) := rfl
  have Hst2 : Hid (stCheck (.mk l ps t ks) s = ownE l ps t ks.length) := rfl
  have HW1 := Lib.hid hW1
  have Hs := Lib.hid hs
  generalize NodeD.mk l ps t ks = n at Hst Hst2 ⊢
  show Calls Tryz.prog 30 #[.agg #[.bool l, .slice ap ps.length cp, .slice at_ t.length ct, .slice ak ks.length ck], .pointer (some ⟨b, 0, none⟩)] W _
  rw [Hst.out, Hst2.out]
  generalize ownE l ps t ks.length = x at HO ⊢
  clear hv0 hv hn hs hW1
  by_cases hx : x = 0
  · subst hx
    go_enter Tryz.func30, Tryz.ntmps30
    go_wp2_with fail
    refine HO.out.mono ?_
    rintro e w1 ⟨rfl, hbel⟩
    have Hb := Lib.hid (below_then HW1.out hbel (Nat.le_refl _))
    have Hc := Lib.hid (Hs.out.keep Hb.out)
    obtain ⟨c1, c2, c3⟩ := Hc.out.cell
    clear hbel HO
    go_wp2_with fail
    go_ret
    exact ⟨rfl, Hc.out.set_, (Spares.of_below Hb.out hB).setCell Hc.out rfl hBb _⟩
  · have hxb : (x == 0) = false := by simpa using hx
    have Hxb := Lib.hid hxb
    clear hx
    go_enter Tryz.func30, Tryz.ntmps30
    go_wp2_with fail
    refine HO.out.mono ?_
    rintro e w1 ⟨rfl, hbel⟩
    have Hb := Lib.hid (below_then HW1.out hbel (Nat.le_refl _))
    have Hc := Lib.hid (Hs.out.keep Hb.out)
    obtain ⟨c1, c2, c3⟩ := Hc.out.cell
    clear hbel HO
    go_wp2_with fail
    go_ret
    exact ⟨ret_bool Hxb.out.symm, Hc.out.set_, (Spares.of_below Hb.out hB).setCell Hc.out rfl hBb _⟩

theorem eachS_mk {S : Type} (go : NodeD → Bool) (st : NodeD → S → S) (l : Bool) (ps : List PropD) (t : List Int) (ks : List NodeD) (s : S) : eachS go st (.mk l ps t ks) s = if go (.mk l ps t ks) then kidsS go st ks (st (.mk l ps t ks) s) else (false, st (.mk l ps t ks) s) := by
  rw [eachS]
theorem kidsS_cons {S : Type} (go : NodeD → Bool) (st : NodeD → S → S) (k : NodeD) (ks : List NodeD) (s : S) : kidsS go st (k :: ks) s = if (eachS go st k s).1 then kidsS go st ks (eachS go st k s).2 else (false, (eachS go st k s).2) := by
  rw [kidsS]
mutual
theorem eachS_size : ∀ (n : NodeD) (s : Nat), eachS goSize stSize n s = (true, s + sizeN n)
  | .mk l ps t ks, s => by
    have hg : goSize (.mk l ps t ks) = true := rfl
    rw [eachS_mk, hg, if_pos rfl, kidsS_size ks]
    have : sizeN (.mk l ps t ks) = 1 + t.length + sizeK ks := by rw [sizeN]
    rw [this]
    show (true, s + (1 + t.length) + sizeK ks) = _
    congr 1; omega
theorem kidsS_size : ∀ (ks : List NodeD) (s : Nat), kidsS goSize stSize ks s = (true, s + sizeK ks)
  | [], s => by simp [kidsS, sizeK]
  | k :: ks, s => by
    rw [kidsS_cons, eachS_size k, if_pos rfl, kidsS_size ks]
    have : sizeK (k :: ks) = sizeN k + sizeK ks := by rw [sizeK]
    rw [this]
    congr 1; omega
end
theorem nodeE_mk (l : Bool) (ps : List PropD) (t : List Int) (ks : List NodeD) : nodeE (.mk l ps t ks) = if ownE l ps t ks.length ≠ 0 then ownE l ps t ks.length else kidsE ks := by rw [nodeE]
theorem kidsE_cons (k : NodeD) (ks : List NodeD) : kidsE (k :: ks) = if nodeE k ≠ 0 then nodeE k else kidsE ks := by rw [kidsE]
mutual
theorem eachS_check : ∀ (n : NodeD) (s : Int), eachS goCheck stCheck n s = (nodeE n == 0, nodeE n)
  | .mk l ps t ks, s => by
    have hg : goCheck (.mk l ps t ks) = (ownE l ps t ks.length == 0) := rfl
    have hs : stCheck (.mk l ps t ks) s = ownE l ps t ks.length := rfl
    rw [eachS_mk, hg, hs, nodeE_mk]
    by_cases h : ownE l ps t ks.length = 0
    · rw [h]; simp [kidsS_check ks]
    · rw [if_neg (by simpa using h), if_pos h]
      simp [h]
theorem kidsS_check : ∀ (ks : List NodeD), kidsS goCheck stCheck ks 0 = (kidsE ks == 0, kidsE ks)
  | [] => by rw [kidsS, kidsE]; rfl
  | k :: ks => by
    rw [kidsS_cons, eachS_check k, kidsE_cons]
    by_cases h : nodeE k = 0
    · rw [h]; simp [kidsS_check ks]
    · rw [if_neg (by simpa using h), if_pos h]
      simp [h]
end

set_option maxRecDepth 100000 in
set_option maxHeartbeats 1000000 in
theorem nsize_c (n : NodeD) (v : Value) (B : Nat) (W : World) (hn : n.wt ≤ 100000000) (hv : NodeV W B n v) (hB : B ≤ W.heap.size) :
    Calls Tryz.prog 28 #[v] W fun e w' => e = .returned (.int .i64 (sizeN n)) ∧ Below W.heap.size W w' := by
  have hv0 := hv
  obtain ⟨l, ps, t, ks⟩ := n
  obtain ⟨ap, cp, at_, ct, ak, ck, css, rfl, -, -, -, -⟩ := hv0.open
  have hsz := sizeN_le (.mk l ps t ks)
  generalize NodeD.mk l ps t ks = n at hv hn hsz ⊢
  have hW1 : Below W.heap.size W (W.alloc (Obj.cells #[.bool l, .slice ap ps.length cp, .slice at_ t.length ct, .slice ak ks.length ck] 27)) := (Below.refl _ _).alloc (Nat.le_refl _) _
  have hW2 := hW1.alloc (o := Obj.cells #[.int .i64 0] 3) (by simp)
  have hv2 := hv.keep (hW2.mono hB) hB
  have hc0 : SumAt (W.heap.size + 1) 0 ((W.alloc (Obj.cells #[.bool l, .slice ap ps.length cp, .slice at_ t.length ct, .slice ak ks.length ck] 27)).alloc (Obj.cells #[.int .i64 0] 3)) := by
    refine ⟨0, (IntWalk.wrap64_in 0 (by omega)).symm, ?_⟩
    have h := heap_alloc_new (W.alloc (Obj.cells #[.bool l, .slice ap ps.length cp, .slice at_ t.length ct, .slice ak ks.length ck] 27)) (Obj.cells #[.int .i64 0] 3)
    simpa [CellI] using h
  have HW := Lib.hid (walk_c (Φ := SumAt (W.heap.size + 1)) (bad := badInt) (M := 100000000) (fun s W W' h hb => by obtain ⟨x, h1, h2⟩ := h; exact ⟨x, h1, h2.keep hb⟩) rfl rfl (by intro args w; kernel_rfl)
    (size1_c (W.heap.size + 1) W.heap.size 100000000 (by omega) (by omega)) n _ 0 _ hn hv2 hW2.size hc0)
  rw [eachS_size, Nat.zero_add] at HW
  have hw0 : wrap64 (sizeN n : Int) = sizeN n := IntWalk.wrap64_in _ (by omega)
  have Hw0 := Lib.hid hw0
  have hmf : ∀ (fn : Fn) (first cap : Array Value) (w : World), (Instr.makeFunc fn first cap).run Tryz.prog w = .ok (.func fn first cap) w := fun _ _ _ _ => rfl
  have HW2 := Lib.hid hW2
  clear hv0 hv hsz hW1 hv2 hc0 hn hw0 hW2
  go_enter Tryz.func28, Tryz.ntmps28
  go_wp2_with fail
  refine HW.out.mono ?_
  rintro e w1 ⟨rfl, ⟨x, hx, hc⟩, hsp⟩
  rw [Hw0.out] at hx
  subst hx
  obtain ⟨c1, c2, c3⟩ := hc.cell
  have Hb := Lib.hid (HW2.out.trans hsp.below)
  clear hc hsp HW
  go_wp2_with fail
  go_ret
  exact ⟨rfl, Hb.out⟩

set_option maxRecDepth 100000 in
set_option maxHeartbeats 1000000 in
theorem ncheck_c (n : NodeD) (v : Value) (B : Nat) (W : World) (hn : n.wt ≤ 1048576) (hv : NodeV W B n v) (hB : B ≤ W.heap.size) :
    Calls Tryz.prog 13 #[v] W fun e w' => e = .returned (.int .i64 (nodeE n)) ∧ Below W.heap.size W w' := by
  have hv0 := hv
  obtain ⟨l, ps, t, ks⟩ := n
  obtain ⟨ap, cp, at_, ct, ak, ck, css, rfl, -, -, -, -⟩ := hv0.open
  have hsz := sizeN_le (.mk l ps t ks)
  generalize NodeD.mk l ps t ks = n at hv hn hsz ⊢
  have hW1 : Below W.heap.size W (W.alloc (Obj.cells #[.bool l, .slice ap ps.length cp, .slice at_ t.length ct, .slice ak ks.length ck] 27)) := (Below.refl _ _).alloc (Nat.le_refl _) _
  have HS := Lib.hid (nsize_c n _ B _ (by omega) (hv.keep (hW1.mono hB) (Nat.le_refl _)) (Nat.le_trans hB hW1.size))
  have hs2 : sizeN n ≤ 1048576 := by omega
  have HK := fun (w1 : World) (hb : Below W.heap.size W w1) => Lib.hid (walk_c (Φ := CellI 28 w1.heap.size) (bad := badErr) (M := 100000000) (fun s W W' h hb => h.keep hb) rfl rfl (by intro args w; kernel_rfl)
    (ask_c w1.heap.size w1.heap.size 100000000 (by omega) (by omega)) n _ 0 (w1.alloc (Obj.cells #[.int .i64 0] 28)) (by omega) (hv.keep ((hb.alloc hb.size _).mono hB) (Nat.le_trans hB hb.size)) (by simp) (heap_alloc_new w1 _))
  simp only [eachS_check] at HK
  have hmf : ∀ (fn : Fn) (first cap : Array Value) (w : World), (Instr.makeFunc fn first cap).run Tryz.prog w = .ok (.func fn first cap) w := fun _ _ _ _ => rfl
  clear hv0 hv hsz hW1 hn
  go_enter Tryz.func13, Tryz.ntmps13
  go_wp2_with fail
  refine HS.out.mono ?_
  rintro e w1 ⟨rfl, hbel⟩
  obtain ⟨x0, x1, x2, x3⟩ := box_keep (below_box hbel)
  have Hb1 := Lib.hid (below_unbox (below_box hbel))
  have hsz1 : W.heap.size < w1.heap.size := by have := (below_box hbel).size; simp at this; omega
  have HK1 := HK w1 Hb1.out
  clear hbel HS HK
  go_wp2_with fail
  refine HK1.out.mono ?_
  rintro e w2 ⟨rfl, hc, hsp⟩
  obtain ⟨c1, c2, c3⟩ := hc.cell
  have Hb2 := Lib.hid (Hb1.out.trans (((Below.refl w1.heap.size w1).alloc (Nat.le_refl _) (Obj.cells #[.int .i64 0] 28)).trans hsp.below |>.mono Hb1.out.size))
  clear hc hsp HK1 x0 x1 x2 x3
  go_wp2_with fail
  go_ret
  exact ⟨rfl, Hb2.out⟩

end Go.Proofs.YtmhgbocejjnoaaaGreatDoor
/- Walks: strings.Builder (made by the call itself, only written, then read once). After the shelf's own walks of these methods. -/
namespace Go.Proofs.YtmhgbocejjnoaaaGreatDoor
open Go.RowKit Go.Redl
set_option linter.unusedVariables false

theorem info_u8 : (Tryz.prog.info? 5).map (fun i => (i.zero, i.size, i.bytes)) = some (some (.int .u8 0), 1, 1) := by kernel_rfl
theorem size_builder : (Tryz.prog.info? 58).map (·.size) = some 2 := by kernel_rfl
theorem lies_builder : liesAt Tryz.prog Tryz.prog.depth 58 (2 / Tryz.prog.cellsOf 58) 0 58 1 = true := by kernel_rfl

/-- Block b, from B on, is a builder that holds the bytes l. -/
def Bld (w : World) (B b : Nat) (l : List UInt8) : Prop := Lib.IsBuilder 58 5 B b (Lib.byteCells l) w
/-- .. and has been written. -/
def BldU (w : World) (B b : Nat) (l : List UInt8) : Prop := Lib.BuilderAt 58 5 B b (.pointer (some ⟨b, 0, none⟩)) (Lib.byteCells l) w
theorem BldU.bld {w : World} {B b : Nat} {l : List UInt8} (h : BldU w B b l) : Bld w B b l := .inr h

set_option maxRecDepth 100000 in
set_option maxHeartbeats 400000 in
theorem copyCheck_old (b : Nat) (w : World) (h0 : w.cell? ⟨b, 0, none⟩ = some (.pointer (some ⟨b, 0, none⟩))) :
    Calls Tryz.prog 56 #[.pointer (some ⟨b, 0, none⟩)] w fun e w' => e = .returned (.tuple #[]) ∧ w = w' := by
  obtain ⟨j, hj, _⟩ := Option.map_eq_some_iff.1 size_builder
  go_enter Tryz.func56, Tryz.ntmps56
  go_wp2_with fail
  rw [Lib.run_neq_ptr_same w _ Tryz.underlying55 hj]
  go_wp2_with fail
  go_end0
  exact ⟨rfl, rfl⟩

set_option maxRecDepth 100000 in
set_option maxHeartbeats 400000 in
theorem copyCheck_new (b : Nat) (w : World) (h0 : w.cell? ⟨b, 0, none⟩ = some (.pointer none)) (hsh : w.shape? b = some (58, 2)) (hfz : w.frozen? ⟨b, 0, none⟩ = false) :
    Calls Tryz.prog 56 #[.pointer (some ⟨b, 0, none⟩)] w fun e w' => e = .returned (.tuple #[]) ∧ w.setCell ⟨b, 0, none⟩ (.pointer (some ⟨b, 0, none⟩)) = w' := by
  obtain ⟨j, hj, hjs⟩ := Option.map_eq_some_iff.1 size_builder
  go_enter Tryz.func56, Tryz.ntmps56
  go_wp2_with fail
  rw [Lib.run_to_unsafe w ⟨b, 0, none⟩ Tryz.underlying55 Tryz.underlying97 hj (by rw [hjs]; decide) hsh (Nat.zero_lt_succ 1)]
  simp only [Result.andThen]
  rw [Oper.upon_value]
  go_wp2_with fail
  rw [run_callFunc_extern Tryz.func70 (by kernel_rfl) (by kernel_rfl) (by kernel_rfl) (e := Extern.AbiNoEscape.same) (by kernel_rfl)]
  rw [Lib.run_noEscape]
  simp only [Result.andThen]
  rw [Oper.upon_value]
  go_wp2_with fail
  rw [Lib.run_from_unsafe w ⟨b, 0, none⟩ Tryz.underlying97 Tryz.underlying55 hj hsh lies_builder]
  simp only [Result.andThen]
  rw [Oper.upon_value]
  go_wp2_with fail
  go_end0
  exact ⟨rfl, rfl⟩

theorem copyCheck_c (B b : Nat) (l : List UInt8) (w : World) (h : Bld w B b l) :
    Calls Tryz.prog 56 #[.pointer (some ⟨b, 0, none⟩)] w fun e w' => e = .returned (.tuple #[]) ∧ BldU w' B b l ∧ Below B w w' := by
  rcases h with h | h
  · refine (copyCheck_new b w h.cell0 h.shape h.frozen0).mono ?_
    rintro e w' ⟨rfl, rfl⟩
    exact ⟨rfl, h.used _, (Below.refl B w).setCell (p := ⟨b, 0, none⟩) h.1 _⟩
  · refine (copyCheck_old b w h.cell0).mono ?_
    rintro e w' ⟨rfl, rfl⟩
    exact ⟨rfl, h, Below.refl B _⟩

/-- What a writing method leaves. -/
def Wrote (w : World) (B b : Nat) (l : List UInt8) (v : Value) (e : Ending) (w' : World) : Prop := e = .returned v ∧ BldU w' B b l ∧ Below B w w'

set_option maxRecDepth 100000 in
set_option maxHeartbeats 1000000 in
theorem writeByte_c (B b : Nat) (l : List UInt8) (c : UInt8) (w : World) (h : Bld w B b l) (hlen : l.length ≤ 100000000) (hBw : B ≤ w.heap.size) :
    Calls Tryz.prog 40 #[.pointer (some ⟨b, 0, none⟩), .int .u8 c.toNat] w (Wrote w B b (l ++ [c]) .nilIface) := by
  have H := Lib.hid (copyCheck_c B b l w h)
  clear h
  go_enter Tryz.func40, Tryz.ntmps40
  go_wp2_with fail
  refine H.out.mono ?_
  rintro e w1 ⟨rfl, h1, hb1⟩
  obtain ⟨hB, v, hbk, hown, hne⟩ := h1
  have hlenc : (Lib.byteCells l).length = l.length := by simp [Lib.byteCells]
  have c0 : w1.cell? ⟨b, 0, none⟩ = some (.pointer (some ⟨b, 0, none⟩)) := by rw [Lib.cell_of_heap hbk]; rfl
  have c1 : w1.cell? ⟨b, 1, none⟩ = some v := by rw [Lib.cell_of_heap hbk]; rfl
  have hlt : b < w1.heap.size := (Array.getElem?_eq_some_iff.1 hbk).1
  have Hbk := Lib.hid hbk; have Ho := Lib.hid hown; have Hne := Lib.hid hne; have Hb1 := Lib.hid hb1; have Hlc := Lib.hid hlenc
  clear hbk hown hne hb1 hlenc H
  go_wp2_with (at_builtin; refine wpList_app rfl _ _ 56 rfl B 5 (.int .u8 0) 1 1 Tryz.underlying56 info_u8 rfl (by decide) _ _ _ rfl (Ho.out.alloc _) (some ⟨w1.heap.size, 0, none⟩) 1 1 (w1.heap.size + 1) [.int .u8 c.toNat] rfl ?hr ?c3 ?c4 ?c5 ?_)
  case hr => exact row_one _ _ _ _ rfl
  case c3 => rw [Hlc.out]; unfold maxLen; omega
  case c4 => rw [Hlc.out]; omega
  case c5 => have := Hb1.out.size; simp; omega
  intro v' w2 hown' hgrow
  have hb2 : w2.heap[b]? = some (.cells #[.pointer (some ⟨b, 0, none⟩), v] 58 (0, 0)) := by
    rw [hgrow.block b (by simp; omega) (fun e => Hne.out e.symm), Lib.alloc_old w1 _ b hlt]
    exact Hbk.out
  have d0 : w2.cell? ⟨b, 0, none⟩ = some (.pointer (some ⟨b, 0, none⟩)) := by rw [Lib.cell_of_heap hb2]; rfl
  have d1 : w2.cell? ⟨b, 1, none⟩ = some v := by rw [Lib.cell_of_heap hb2]; rfl
  have f1 : w2.frozen? ⟨b, 1, none⟩ = false := Lib.frozen_of_heap hb2 1
  obtain ⟨ao, n', cap, rfl⟩ : ∃ ao n' cap, v' = .slice ao n' cap := by
    rcases hown'.2 with ⟨hv, _⟩ | ⟨g, cap, cur, hv, _⟩
    · exact ⟨_, _, _, hv⟩
    · exact ⟨_, _, _, hv⟩
  have hbel := (((Hb1.out.alloc (by have := Hb1.out.size; omega) _).grown hgrow (by have := Hb1.out.size; simp; omega) (fun k hk => (Ho.out.lt k hk).1)).setCell (p := ⟨b, 1, none⟩) hB (.slice ao n' cap))
  have Ho2 := Lib.hid hown'; have Hb2 := Lib.hid hb2; have Hbel := Lib.hid hbel
  clear hown' hb2 hgrow hbel
  go_wp2_with fail
  go_ret
  refine ⟨rfl, ?_, Hbel.out⟩
  have := Ho2.out
  refine Lib.BuilderAt.put (T := 58) (e := 5) hB Hb2.out ?_ (by decide)
  have e : Lib.byteCells (l ++ [c]) = Lib.byteCells l ++ [.int .u8 c.toNat] := by simp [Lib.byteCells]
  rw [e, List.length_append]
  exact this

set_option maxRecDepth 100000 in
set_option maxHeartbeats 1000000 in
theorem writeString_c (B b : Nat) (l s : List UInt8) (w : World) (h : Bld w B b l) (hlen : l.length + s.length ≤ 100000000) (hBw : B ≤ w.heap.size) :
    Calls Tryz.prog 39 #[.pointer (some ⟨b, 0, none⟩), .string ⟨s.toArray⟩] w (Wrote w B b (l ++ s) (.tuple #[.int .i64 s.length, .nilIface])) := by
  obtain ⟨i0, hi, hz0, hz1, hz2⟩ := info_parts info_u8
  have H := Lib.hid (copyCheck_c B b l w h)
  clear h
  have Hi := Lib.hid hi; have Hz0 := Lib.hid hz0; have Hz1 := Lib.hid hz1; have Hz2 := Lib.hid hz2
  clear hi hz0 hz1 hz2
  go_enter Tryz.func39, Tryz.ntmps39
  go_wp2_with fail
  refine H.out.mono ?_
  rintro e w1 ⟨rfl, h1, hb1⟩
  obtain ⟨hB, v, hbk, hown, hne⟩ := h1
  have hlenc : (Lib.byteCells l).length = l.length := by simp [Lib.byteCells]
  have c0 : w1.cell? ⟨b, 0, none⟩ = some (.pointer (some ⟨b, 0, none⟩)) := by rw [Lib.cell_of_heap hbk]; rfl
  have c1 : w1.cell? ⟨b, 1, none⟩ = some v := by rw [Lib.cell_of_heap hbk]; rfl
  have hlt : b < w1.heap.size := (Array.getElem?_eq_some_iff.1 hbk).1
  have Hbk := Lib.hid hbk; have Ho := Lib.hid hown; have Hne := Lib.hid hne; have Hb1 := Lib.hid hb1; have Hlc := Lib.hid hlenc
  clear hbk hown hne hb1 hlenc H
  go_wp2_with (at_builtin; refine Lib.wpList_append_own_string _ rfl _ _ 56 9 rfl B 5 i0 Tryz.underlying56 Tryz.underlying9 Hi.out Hz0.out Hz1.out Hz2.out _ _ _ rfl Ho.out ⟨s.toArray⟩ rfl ?c3 ?c4 ?c5 ?_)
  case c3 => rw [Hlc.out]; unfold maxLen; simp [ByteArray.size]; omega
  case c4 => rw [Hlc.out]; simp [ByteArray.size]; omega
  case c5 => have := Hb1.out.size; omega
  intro v' w2 hown' hgrow _
  have hb2 : w2.heap[b]? = some (.cells #[.pointer (some ⟨b, 0, none⟩), v] 58 (0, 0)) := by
    rw [hgrow.block b hlt (fun e => Hne.out e.symm)]
    exact Hbk.out
  have d0 : w2.cell? ⟨b, 0, none⟩ = some (.pointer (some ⟨b, 0, none⟩)) := by rw [Lib.cell_of_heap hb2]; rfl
  have d1 : w2.cell? ⟨b, 1, none⟩ = some v := by rw [Lib.cell_of_heap hb2]; rfl
  have f1 : w2.frozen? ⟨b, 1, none⟩ = false := Lib.frozen_of_heap hb2 1
  obtain ⟨ao, n', cap, rfl⟩ : ∃ ao n' cap, v' = .slice ao n' cap := by
    rcases hown'.2 with ⟨hv, _⟩ | ⟨g, cap, cur, hv, _⟩
    · exact ⟨_, _, _, hv⟩
    · exact ⟨_, _, _, hv⟩
  have hbel := ((Hb1.out.grown hgrow (by have := Hb1.out.size; omega) (fun k hk => (Ho.out.lt k hk).1)).setCell (p := ⟨b, 1, none⟩) hB (.slice ao n' cap))
  have Ho2 := Lib.hid hown'; have Hb2 := Lib.hid hb2; have Hbel := Lib.hid hbel
  clear hown' hb2 hgrow hbel
  go_wp2_with fail
  go_ret2
  refine ⟨?_, ?_, Hbel.out⟩
  · simp
  have := Ho2.out
  refine Lib.BuilderAt.put (T := 58) (e := 5) hB Hb2.out ?_ (by decide)
  have e : Lib.byteCells (l ++ s) = Lib.byteCells l ++ Lib.strCells ⟨s.toArray⟩ := by simp [Lib.byteCells, Lib.strCells]
  rw [e, List.length_append, Lib.strCells_length]
  exact this

set_option maxRecDepth 100000 in
set_option maxHeartbeats 1000000 in
theorem string_c (B b : Nat) (l : List UInt8) (w : World) (h : Bld w B b l) (h0 : l ≠ []) :
    Calls Tryz.prog 24 #[.pointer (some ⟨b, 0, none⟩)] w fun e w' => e = .returned (.string ⟨l.toArray⟩) ∧ Below B w w' := by
  obtain ⟨p, hB, v, hbk, hown, hne⟩ : ∃ p, Lib.BuilderAt 58 5 B b p (Lib.byteCells l) w := by
    rcases h with h | h
    · exact ⟨_, h⟩
    · exact ⟨_, h⟩
  have hl0 : l.length ≠ 0 := by simpa using h0
  rw [Lib.byteCells_length] at hown
  obtain ⟨g, cap, cur, rfl, hbg, hg, hnc, hcm, hcs, htake⟩ : ∃ g cap cur, v = .slice (some ⟨g, 0, none⟩) l.length cap ∧ B ≤ g ∧ w.heap[g]? = some (.cells cur 5 (0, 0)) ∧ l.length ≤ cap ∧ cap ≤ maxLen ∧ cur.size = cap * 1 ∧ cur.toList.take (l.length * 1) = Lib.byteCells l := by
    rcases hown.2 with ⟨_, hz⟩ | ⟨g, cap, cur, hv, r⟩
    · exact absurd hz hl0
    · exact ⟨g, cap, cur, hv, r⟩
  have c1 : w.drew.cell? ⟨b, 1, none⟩ = some (.slice (some ⟨g, 0, none⟩) l.length cap) := by
    have : w.drew.heap[b]? = some (.cells #[p, .slice (some ⟨g, 0, none⟩) l.length cap] 58 (0, 0)) := hbk
    rw [Lib.cell_of_heap this]; rfl
  have hSD : (Builtin.unsafeSliceData_ #[56] 81 #[.slice (some ⟨g, 0, none⟩) l.length cap]).run Tryz.prog w.drew = .ok (.pointer (some ⟨g, 0, none⟩)) w.drew :=
    Lib.run_unsafeSliceData_row _ _ _ _ _ _ (by omega)
  have hUS : (Builtin.unsafeString_ #[81, 3] 9 #[.pointer (some ⟨g, 0, none⟩), .int .i64 l.length]).run Tryz.prog w.drew = .ok (.string ⟨l.toArray⟩) (w.drew.freeze ⟨g, 0, none⟩ l.length) := by
    refine Lib.run_unsafeString_row w.drew 81 3 9 5 Tryz.underlying81 (by kernel_rfl) g cur.size (by have hg' : w.drew.heap[g]? = some (.cells cur 5 (0, 0)) := hg; simp [World.shape?, hg']) l h0 (by omega) (by unfold maxLen at hcm; omega) ?_
    intro j x hx
    have := hown.cells (g := g) rfl j (.int .u8 x.toNat) (by simp [Lib.byteCells, hx])
    exact this
  clear hne hown hl0 h0 hcs htake hg hbk h
  go_enter Tryz.func24, Tryz.ntmps24
  go_wp2_with fail
  go_region
  all_goals (go_wp2_with fail; go_ret; exact ⟨rfl, Lib.below_freeze (Below.drew (Below.refl B w)) (p := ⟨g, 0, none⟩) hbg _⟩)

set_option maxRecDepth 100000 in
set_option maxHeartbeats 1000000 in
theorem appendRune_c (B n : Nat) (v : Value) (cs : List Value) (c : Int) (w : World) (hown : w.ownsRow B 5 1 v n cs) (hB : B ≤ w.heap.size) (h0 : 0 ≤ c) (h1 : c ≤ 127) (hn : n ≤ 100000000) :
    Calls Tryz.prog 71 #[v, .int .i32 c] w fun e w' => ∃ v', e = .returned v' ∧ w'.ownsRow B 5 1 v' (n + 1) (cs ++ [.int .u8 c]) ∧ w.grownBy w' v.ownBlock := by
  have Ho := Lib.hid hown
  clear hown
  go_enter Tryz.func71, Tryz.ntmps71
  go_wp2_with (at_builtin; refine wpList_app rfl _ _ 56 rfl B 5 (.int .u8 0) 1 1 Tryz.underlying56 info_u8 rfl (by decide) _ _ _ rfl (Ho.out.alloc _) (some ⟨w.heap.size, 0, none⟩) 1 1 (w.heap.size + 1) [.int .u8 c] rfl ?hr ?c3 ?c4 ?c5 ?_)
  case hr => exact row_one _ _ _ _ rfl
  case c3 => unfold maxLen; omega
  case c4 => omega
  case c5 => simp; omega
  intro v' w2 hown' hgrow
  have Ho2 := Lib.hid hown'; have Hg := Lib.hid hgrow
  clear hown' hgrow
  go_wp2_with fail
  go_ret
  exact ⟨v', rfl, Ho2.out, grownBy_trans (World.grownBy_alloc w _ _) Hg.out⟩

set_option maxRecDepth 100000 in
set_option maxHeartbeats 1000000 in
theorem writeRune_c (B b : Nat) (l : List UInt8) (c : Int) (w : World) (h : Bld w B b l) (hlen : l.length ≤ 100000000) (hBw : B ≤ w.heap.size) (h0 : 0 ≤ c) (h1 : c ≤ 127) :
    Calls Tryz.prog 58 #[.pointer (some ⟨b, 0, none⟩), .int .i32 c] w (Wrote w B b (l ++ [UInt8.ofNat c.toNat]) (.tuple #[.int .i64 1, .nilIface])) := by
  have H := Lib.hid (copyCheck_c B b l w h)
  clear h
  go_enter Tryz.func58, Tryz.ntmps58
  go_wp2_with fail
  refine H.out.mono ?_
  rintro e w1 ⟨rfl, h1, hb1⟩
  obtain ⟨hB, v, hbk, hown, hne⟩ := h1
  have hlenc : (Lib.byteCells l).length = l.length := by simp [Lib.byteCells]
  rw [hlenc] at hown
  obtain ⟨ao, cap, rfl, hr⟩ := row_of_own hown (by simp [Lib.byteCells]; intro a _; rfl)
  have hmx := hr.max; have hle := hr.le
  unfold maxLen at hmx
  have c0 : w1.cell? ⟨b, 0, none⟩ = some (.pointer (some ⟨b, 0, none⟩)) := by rw [Lib.cell_of_heap hbk]; rfl
  have c1 : w1.cell? ⟨b, 1, none⟩ = some (.slice ao l.length cap) := by rw [Lib.cell_of_heap hbk]; rfl
  have hlt : b < w1.heap.size := (Array.getElem?_eq_some_iff.1 hbk).1
  have HA := Lib.hid (appendRune_c B l.length _ _ c w1 hown (Nat.le_trans hBw hb1.size) h0 h1 hlen)
  have Hbk := Lib.hid hbk; have Ho := Lib.hid hown; have Hne := Lib.hid hne; have Hb1 := Lib.hid hb1
  clear hbk hown hne hb1 hlenc H hr
  go_wp2_with fail
  refine HA.out.mono ?_
  rintro e w2 ⟨v', rfl, hown', hgrow⟩
  have hb2 : w2.heap[b]? = some (.cells #[.pointer (some ⟨b, 0, none⟩), .slice ao l.length cap] 58 (0, 0)) := by
    rw [hgrow.block b hlt (fun e => Hne.out e.symm)]
    exact Hbk.out
  have d0 : w2.cell? ⟨b, 0, none⟩ = some (.pointer (some ⟨b, 0, none⟩)) := by rw [Lib.cell_of_heap hb2]; rfl
  have d1 : w2.cell? ⟨b, 1, none⟩ = some (.slice ao l.length cap) := by rw [Lib.cell_of_heap hb2]; rfl
  have f1 : w2.frozen? ⟨b, 1, none⟩ = false := Lib.frozen_of_heap hb2 1
  obtain ⟨ao', n', cap', rfl, hn'⟩ : ∃ ao n' cap, v' = .slice ao n' cap ∧ n' = l.length + 1 := by
    rcases hown'.2 with ⟨hv, h0⟩ | ⟨g, cap, cur, hv, _⟩
    · omega
    · exact ⟨_, _, _, hv, rfl⟩
  subst hn'
  have hbel := ((Hb1.out.grown hgrow (by have := Hb1.out.size; omega) (fun k hk => (Ho.out.lt k hk).1)).setCell (p := ⟨b, 1, none⟩) hB (.slice ao' (l.length + 1) cap'))
  have Ho2 := Lib.hid hown'; have Hb2 := Lib.hid hb2; have Hbel := Lib.hid hbel
  clear hown' hb2 hgrow hbel HA
  go_wp2_with fail
  go_ret2
  refine ⟨?_, ?_, Hbel.out⟩
  · have e : ((l.length + 1 : Nat) : Int) - (l.length : Int) = 1 := by omega
    simp
    try omega
  have := Ho2.out
  refine Lib.BuilderAt.put (T := 58) (e := 5) hB Hb2.out ?_ (by decide)
  have hc : (((UInt8.ofNat c.toNat).toNat : Nat) : Int) = c := by
    have : (UInt8.ofNat c.toNat).toNat = c.toNat := by rw [UInt8.toNat_ofNat']; exact Nat.mod_eq_of_lt (by omega)
    rw [this]; omega
  have e : Lib.byteCells (l ++ [UInt8.ofNat c.toNat]) = Lib.byteCells l ++ [.int .u8 c] := by simp only [Lib.byteCells, List.map_append, List.map_cons, List.map_nil, hc]
  rw [e, List.length_append, Lib.byteCells_length]
  exact this

end Go.Proofs.YtmhgbocejjnoaaaGreatDoor
/- Walks: strings.Builder, written while other memory of the call's own stays as it is. -/
namespace Go.Proofs.YtmhgbocejjnoaaaGreatDoor
open Go.RowKit Go.Redl
set_option linter.unusedVariables false

/-- What a builder writes: its own block, and its bytes. -/
def badBld (T : TypeId) : Bool := T == 58 || T == 5
/-- What a writing method leaves. -/
def WroteS (w : World) (B b : Nat) (l : List UInt8) (v : Value) (e : Ending) (w' : World) : Prop := e = .returned v ∧ BldU w' B b l ∧ Spares badBld B w w'

theorem copyCheckS_c (B b : Nat) (l : List UInt8) (w : World) (h : Bld w B b l) (hBw : B ≤ w.heap.size) :
    Calls Tryz.prog 56 #[.pointer (some ⟨b, 0, none⟩)] w fun e w' => e = .returned (.tuple #[]) ∧ BldU w' B b l ∧ Spares badBld B w w' := by
  rcases h with h | h
  · refine (copyCheck_new b w h.cell0 h.shape h.frozen0).mono ?_
    rintro e w' ⟨rfl, rfl⟩
    have h2 := h
    obtain ⟨hB, v, hbk, -⟩ := h2
    exact ⟨rfl, h.used _, (Spares.refl hBw).setCell (b := b) (off := 0) hbk rfl hB _⟩
  · refine (copyCheck_old b w h.cell0).mono ?_
    rintro e w' ⟨rfl, rfl⟩
    exact ⟨rfl, h, Spares.refl hBw⟩

set_option maxRecDepth 100000 in
set_option maxHeartbeats 1000000 in
theorem writeByteS_c (B b : Nat) (l : List UInt8) (c : UInt8) (w : World) (h : Bld w B b l) (hlen : l.length ≤ 100000000) (hBw : B ≤ w.heap.size) :
    Calls Tryz.prog 40 #[.pointer (some ⟨b, 0, none⟩), .int .u8 c.toNat] w (WroteS w B b (l ++ [c]) .nilIface) := by
  have H := Lib.hid (copyCheckS_c B b l w h hBw)
  clear h
  go_enter Tryz.func40, Tryz.ntmps40
  go_wp2_with fail
  refine H.out.mono ?_
  rintro e w1 ⟨rfl, h1, hsp1⟩
  have hb1 := hsp1.below
  obtain ⟨hB, v, hbk, hown, hne⟩ := h1
  have hlenc : (Lib.byteCells l).length = l.length := by simp [Lib.byteCells]
  have c0 : w1.cell? ⟨b, 0, none⟩ = some (.pointer (some ⟨b, 0, none⟩)) := by rw [Lib.cell_of_heap hbk]; rfl
  have c1 : w1.cell? ⟨b, 1, none⟩ = some v := by rw [Lib.cell_of_heap hbk]; rfl
  have hlt : b < w1.heap.size := (Array.getElem?_eq_some_iff.1 hbk).1
  have Hbk := Lib.hid hbk; have Ho := Lib.hid hown; have Hne := Lib.hid hne; have Hb1 := Lib.hid hb1; have Hsp1 := Lib.hid hsp1; have Hlc := Lib.hid hlenc
  clear hbk hown hne hb1 hsp1 hlenc H
  go_wp2_with (at_builtin; refine wpList_app rfl _ _ 56 rfl B 5 (.int .u8 0) 1 1 Tryz.underlying56 info_u8 rfl (by decide) _ _ _ rfl (Ho.out.alloc _) (some ⟨w1.heap.size, 0, none⟩) 1 1 (w1.heap.size + 1) [.int .u8 c.toNat] rfl ?hr ?c3 ?c4 ?c5 ?_)
  case hr => exact row_one _ _ _ _ rfl
  case c3 => rw [Hlc.out]; unfold maxLen; omega
  case c4 => rw [Hlc.out]; omega
  case c5 => have := Hb1.out.size; simp; omega
  intro v' w2 hown' hgrow
  have hb2 : w2.heap[b]? = some (.cells #[.pointer (some ⟨b, 0, none⟩), v] 58 (0, 0)) := by
    rw [hgrow.block b (by simp; omega) (fun e => Hne.out e.symm), Lib.alloc_old w1 _ b hlt]
    exact Hbk.out
  have d0 : w2.cell? ⟨b, 0, none⟩ = some (.pointer (some ⟨b, 0, none⟩)) := by rw [Lib.cell_of_heap hb2]; rfl
  have d1 : w2.cell? ⟨b, 1, none⟩ = some v := by rw [Lib.cell_of_heap hb2]; rfl
  have f1 : w2.frozen? ⟨b, 1, none⟩ = false := Lib.frozen_of_heap hb2 1
  obtain ⟨ao, n', cap, rfl⟩ : ∃ ao n' cap, v' = .slice ao n' cap := by
    rcases hown'.2 with ⟨hv, _⟩ | ⟨g, cap, cur, hv, _⟩
    · exact ⟨_, _, _, hv⟩
    · exact ⟨_, _, _, hv⟩
  have hbel := ((((Hsp1.out.alloc hBw (.cells #[.int .u8 c.toNat] 5)).grown (Ho.out.alloc _) hgrow rfl (Nat.le_refl _) hBw)).setCell (b := b) (off := 1) hb2 rfl hB (.slice ao n' cap))
  have Ho2 := Lib.hid hown'; have Hb2 := Lib.hid hb2; have Hbel := Lib.hid hbel
  clear hown' hb2 hgrow hbel
  go_wp2_with fail
  go_ret
  refine ⟨rfl, ?_, Hbel.out⟩
  have := Ho2.out
  refine Lib.BuilderAt.put (T := 58) (e := 5) hB Hb2.out ?_ (by decide)
  have e : Lib.byteCells (l ++ [c]) = Lib.byteCells l ++ [.int .u8 c.toNat] := by simp [Lib.byteCells]
  rw [e, List.length_append]
  exact this

set_option maxRecDepth 100000 in
set_option maxHeartbeats 1000000 in
theorem writeStringS_c (B b : Nat) (l s : List UInt8) (w : World) (h : Bld w B b l) (hlen : l.length + s.length ≤ 100000000) (hBw : B ≤ w.heap.size) :
    Calls Tryz.prog 39 #[.pointer (some ⟨b, 0, none⟩), .string ⟨s.toArray⟩] w (WroteS w B b (l ++ s) (.tuple #[.int .i64 s.length, .nilIface])) := by
  obtain ⟨i0, hi, hz0, hz1, hz2⟩ := info_parts info_u8
  have H := Lib.hid (copyCheckS_c B b l w h hBw)
  clear h
  have Hi := Lib.hid hi; have Hz0 := Lib.hid hz0; have Hz1 := Lib.hid hz1; have Hz2 := Lib.hid hz2
  clear hi hz0 hz1 hz2
  go_enter Tryz.func39, Tryz.ntmps39
  go_wp2_with fail
  refine H.out.mono ?_
  rintro e w1 ⟨rfl, h1, hsp1⟩
  have hb1 := hsp1.below
  obtain ⟨hB, v, hbk, hown, hne⟩ := h1
  have hlenc : (Lib.byteCells l).length = l.length := by simp [Lib.byteCells]
  have c0 : w1.cell? ⟨b, 0, none⟩ = some (.pointer (some ⟨b, 0, none⟩)) := by rw [Lib.cell_of_heap hbk]; rfl
  have c1 : w1.cell? ⟨b, 1, none⟩ = some v := by rw [Lib.cell_of_heap hbk]; rfl
  have hlt : b < w1.heap.size := (Array.getElem?_eq_some_iff.1 hbk).1
  have Hbk := Lib.hid hbk; have Ho := Lib.hid hown; have Hne := Lib.hid hne; have Hb1 := Lib.hid hb1; have Hsp1 := Lib.hid hsp1; have Hlc := Lib.hid hlenc
  clear hbk hown hne hb1 hsp1 hlenc H
  go_wp2_with (at_builtin; refine Lib.wpList_append_own_string _ rfl _ _ 56 9 rfl B 5 i0 Tryz.underlying56 Tryz.underlying9 Hi.out Hz0.out Hz1.out Hz2.out _ _ _ rfl Ho.out ⟨s.toArray⟩ rfl ?c3 ?c4 ?c5 ?_)
  case c3 => rw [Hlc.out]; unfold maxLen; simp [ByteArray.size]; omega
  case c4 => rw [Hlc.out]; simp [ByteArray.size]; omega
  case c5 => have := Hb1.out.size; omega
  intro v' w2 hown' hgrow _
  have hb2 : w2.heap[b]? = some (.cells #[.pointer (some ⟨b, 0, none⟩), v] 58 (0, 0)) := by
    rw [hgrow.block b hlt (fun e => Hne.out e.symm)]
    exact Hbk.out
  have d0 : w2.cell? ⟨b, 0, none⟩ = some (.pointer (some ⟨b, 0, none⟩)) := by rw [Lib.cell_of_heap hb2]; rfl
  have d1 : w2.cell? ⟨b, 1, none⟩ = some v := by rw [Lib.cell_of_heap hb2]; rfl
  have f1 : w2.frozen? ⟨b, 1, none⟩ = false := Lib.frozen_of_heap hb2 1
  obtain ⟨ao, n', cap, rfl⟩ : ∃ ao n' cap, v' = .slice ao n' cap := by
    rcases hown'.2 with ⟨hv, _⟩ | ⟨g, cap, cur, hv, _⟩
    · exact ⟨_, _, _, hv⟩
    · exact ⟨_, _, _, hv⟩
  have hbel := ((Hsp1.out.grown Ho.out hgrow rfl (Nat.le_refl _) hBw).setCell (b := b) (off := 1) hb2 rfl hB (.slice ao n' cap))
  have Ho2 := Lib.hid hown'; have Hb2 := Lib.hid hb2; have Hbel := Lib.hid hbel
  clear hown' hb2 hgrow hbel
  go_wp2_with fail
  go_ret2
  refine ⟨?_, ?_, Hbel.out⟩
  · simp
  have := Ho2.out
  refine Lib.BuilderAt.put (T := 58) (e := 5) hB Hb2.out ?_ (by decide)
  have e : Lib.byteCells (l ++ s) = Lib.byteCells l ++ Lib.strCells ⟨s.toArray⟩ := by simp [Lib.byteCells, Lib.strCells]
  rw [e, List.length_append, Lib.strCells_length]
  exact this

theorem writeByteS_n (B b : Nat) (l : List UInt8) (c : UInt8) (n : Int) (hc : (c.toNat : Int) = n) (w : World) (h : Bld w B b l) (hlen : l.length ≤ 100000000) (hBw : B ≤ w.heap.size) :
    Calls Tryz.prog 40 #[.pointer (some ⟨b, 0, none⟩), .int .u8 n] w (WroteS w B b (l ++ [c]) .nilIface) := by
  subst hc; exact writeByteS_c B b l c w h hlen hBw

end Go.Proofs.YtmhgbocejjnoaaaGreatDoor
/- Walks: glyph.Quote. -/
namespace Go.Proofs.YtmhgbocejjnoaaaGreatDoor
open Go.RowKit Go.Redl
set_option linter.unusedVariables false

theorem BldU.keep {w w' : World} {B b : Nat} {l : List UInt8} (h : BldU w B b l) (hb : Below w.heap.size w w') : BldU w' B b l := by
  obtain ⟨hB, v, hbk, hown, hne⟩ := h
  have hlt : b < w.heap.size := (Array.getElem?_eq_some_iff.1 hbk).1
  exact ⟨hB, v, (hb.block b hlt).trans hbk, own_keep hown hb, hne⟩
theorem BldU.cast {w : World} {B b : Nat} {l l' : List UInt8} (h : BldU w B b l) (e : l = l') : BldU w B b l' := e ▸ h
theorem TabAt.keep {w w' : World} {B : Nat} (h : TabAt w) (hb : Below B w w') (hg : 7 < B) : TabAt w' := by
  unfold TabAt at *; rw [← h]; exact hb.cell (p := ⟨_, 15, none⟩) hg

theorem check_valid {zs : List Int} (h : checkE zs = 0) : ∀ c ∈ zs, validB c = true := by
  intro c hc
  unfold checkE at h
  cases hv : validB c with
  | true => rfl
  | false =>
    have : (zs.any fun c => !validB c) = true := List.any_eq_true.2 ⟨c, hc, by simp [hv]⟩
    rw [this] at h
    cases h

theorem writeByte_n (B b : Nat) (l : List UInt8) (c : UInt8) (n : Int) (hc : (c.toNat : Int) = n) (w : World) (h : Bld w B b l) (hlen : l.length ≤ 100000000) (hBw : B ≤ w.heap.size) :
    Calls Tryz.prog 40 #[.pointer (some ⟨b, 0, none⟩), .int .u8 n] w (Wrote w B b (l ++ [c]) .nilIface) := by
  subst hc; exact writeByte_c B b l c w h hlen hBw

set_option maxRecDepth 100000 in
set_option maxHeartbeats 1000000 in
theorem quote_no (v : Value) (B : Nat) (zs : List Int) (w : World) (hv : Ints .i32 w B v zs) (he : checkE zs ≠ 0) :
    Calls Tryz.prog 41 #[v] w fun e w' => e = .returned (.tuple #[.string ⟨#[]⟩, .int .i64 4]) ∧ w = w' := by
  have H := check_c v B zs w hv
  have h4 : checkE zs = 4 := by unfold checkE at *; split <;> simp_all
  rw [h4] at H
  have H := Lib.hid H
  clear he h4 hv
  go_enter Tryz.func41, Tryz.ntmps41
  go_wp2_with fail
  refine H.out.mono ?_
  rintro e w' ⟨rfl, rfl⟩
  go_wp2_with fail
  go_ret2
  exact ⟨rfl, rfl⟩

set_option maxRecDepth 100000 in
set_option maxHeartbeats 1000000 in
theorem quote_ok (v : Value) (B : Nat) (zs : List Int) (w : World) (hv : Ints .i32 w B v zs) (hB : B ≤ w.heap.size) (he : checkE zs = 0) (hn : zs.length ≤ 2000000) (ht : TabAt w) (hg : 7 < w.heap.size) :
    Calls Tryz.prog 41 #[v] w fun e w' => e = .returned (.tuple #[.string ⟨(quoteL zs).toArray⟩, .int .i64 0]) ∧ Below w.heap.size w w' := by
  have H := check_c v B zs w hv
  rw [he] at H
  have Hc := Lib.hid H
  have Hval := Lib.hid (check_valid he)
  obtain ⟨⟨a, cap, rfl, hr⟩, -⟩ := hv
  have Ht := Lib.hid ht
  clear H he ht
  go_enter Tryz.func41, Tryz.ntmps41
  go_wp2_with fail
  refine Hc.out.mono ?_
  rintro e w' ⟨rfl, rfl⟩
  have HW := Lib.hid (writeByte_n w.heap.size w.heap.size [] 34 34 rfl (w.alloc (Obj.cells #[Value.pointer none, Value.slice none 0 0] 58)) (Lib.fresh_isBuilder 58 5 w) (by simp) (by simp))
  go_wp2_with fail
  refine HW.out.mono ?_
  rintro e w1 ⟨rfl, hbld, hbel⟩
  have hbel' := ((Below.refl w.heap.size w).alloc (Nat.le_refl _) (Obj.cells #[Value.pointer none, Value.slice none 0 0] 58)).trans hbel
  have Hbld := Lib.hid hbld; have Hb := Lib.hid hbel'
  clear HW hbld hbel hbel'
  go_wp2_with fail
  go_loopw [16] (fun i wr => ∃ k : Nat, k ≤ zs.length ∧ i = .int .i64 k ∧ BldU wr w.heap.size w.heap.size (34 :: bodyL (zs.take k)) ∧ Below w.heap.size w wr) (fun i _ => zs.length - (intOf i).toNat)
  case atStart => exact ⟨0, Nat.zero_le _, rfl, Hbld.out.cast (by simp [bodyL]), Hb.out⟩
  case round =>
    obtain ⟨k, hk, rfl, hbld, hbel⟩ := hrel
    clear Hbld Hb
    have hr2 := hr.keep (hbel.mono hB) (Nat.le_refl _)
    have hbl := body_len (zs.take k)
    have hlen : (34 :: bodyL (zs.take k)).length ≤ 44000001 := by simp at hbl ⊢; omega
    have Hlen := Lib.hid hlen
    have Hbld := Lib.hid hbld; have Hb := Lib.hid hbel
    clear hbld hbel hbl hlen
    by_cases hlt : k < zs.length
    · have hsucc := Lib.hid (body_succ zs k hlt)
      have hval := Hval.out zs[k] (List.getElem_mem hlt)
      obtain ⟨b, off, rfl, hb, hall⟩ := hr2.int_at k hlt
      have hcell := hall k hlt
      clear hall
      rw [getD_of_lt hlt] at hcell
      obtain ⟨c, hc⟩ : ∃ c, zs[k] = c := ⟨_, rfl⟩
      rw [hc] at hcell hval hsucc
      clear hc
      have HP := plain_c c wr
      cases hp : plainB c
      · rw [hp] at HP
        obtain ⟨hv0, hv1⟩ := valid_bound hval
        obtain ⟨n, rfl⟩ := Int.eq_ofNat_of_zero_le hv0
        have hq : qb (n : Int) = escL n := by unfold qb; rw [if_neg (by simp [hp])]; simp
        rw [hq] at hsucc
        have HP1 := Lib.hid HP
        have HE := Lib.hid (escaped_c n wr (by omega) (Ht.out.keep Hb.out hg) (Nat.lt_of_lt_of_le hg Hb.out.size))
        have Hs := Lib.hid hsucc
        clear hval hp hq hsucc HP hv0
        go_wp2_with fail
        refine HP1.out.mono ?_
        rintro e w' ⟨rfl, rfl⟩
        go_wp2_with fail
        refine HE.out.mono ?_
        rintro e w2 ⟨rfl, hbel2⟩
        have hlen2 := escL_len n
        have HR := Lib.hid (writeString_c w.heap.size w.heap.size _ (escL n) w2 (Hbld.out.keep hbel2).bld (by have := Hlen.out; omega) (Nat.le_trans Hb.out.size hbel2.size))
        have Hb2 := Lib.hid (Hb.out.trans (hbel2.mono Hb.out.size))
        clear hbel2 hlen2
        go_wp2_with fail
        refine HR.out.mono ?_
        rintro e w3 ⟨rfl, hbld3, hbel3⟩
        have Hbld3 := Lib.hid hbld3; have Hb3 := Lib.hid (Hb2.out.trans hbel3)
        clear hbld3 hbel3
        go_wp2_with fail
        go_roundw
        case rel => exact ⟨k + 1, by omega, by go_num, Hbld3.out.cast (by rw [Hs.out]; simp), Hb3.out⟩
        case measure => simp [intOf]; omega
      · rw [hp] at HP
        have hq : qb c = [UInt8.ofNat c.toNat] := by unfold qb; rw [if_pos hp]
        rw [hq] at hsucc
        obtain ⟨hp0, hp1⟩ := plain_bound hp
        have HP1 := Lib.hid HP
        clear HP
        have HR := Lib.hid (writeRune_c w.heap.size w.heap.size _ c wr Hbld.out.bld (by have := Hlen.out; omega) Hb.out.size hp0 hp1)
        have Hs := Lib.hid hsucc
        clear hval hp hq hsucc
        go_wp2_with fail
        refine HP1.out.mono ?_
        rintro e w' ⟨rfl, rfl⟩
        go_wp2_with fail
        refine HR.out.mono ?_
        rintro e w2 ⟨rfl, hbld2, hbel2⟩
        have Hbld2 := Lib.hid hbld2; have Hb2 := Lib.hid (Hb.out.trans hbel2)
        clear hbld2 hbel2
        go_wp2_with fail
        go_roundw
        case rel => exact ⟨k + 1, by omega, by go_num, Hbld2.out.cast (by rw [Hs.out]; simp), Hb2.out⟩
        case measure => simp [intOf]; omega
    · have : k = zs.length := by omega
      subst this
      have HW := Lib.hid (writeByte_n w.heap.size w.heap.size _ 34 34 rfl wr Hbld.out.bld (by have := Hlen.out; omega) Hb.out.size)
      go_wp2_with fail
      refine HW.out.mono ?_
      rintro e w2 ⟨rfl, hbld2, hbel2⟩
      have HS := Lib.hid (string_c w.heap.size w.heap.size _ w2 hbld2.bld (by simp))
      have Hb2 := Lib.hid (Hb.out.trans hbel2)
      clear hbld2 hbel2 HW
      go_wp2_with fail
      refine HS.out.mono ?_
      rintro e w3 ⟨rfl, hbel3⟩
      have Hb3 := Lib.hid (Hb2.out.trans hbel3)
      clear hbel3 HS
      go_wp2_with fail
      go_ret2
      exact ⟨rfl, Hb3.out⟩

end Go.Proofs.YtmhgbocejjnoaaaGreatDoor
/- Walks: the reference's writing of a tree. -/
namespace Go.Proofs.YtmhgbocejjnoaaaGreatDoor
open Go.RowKit Go.Redl
set_option linter.unusedVariables false

theorem str_prop (T K V : List UInt8) (c : UInt8) : ((⟨T.toArray⟩ : ByteArray) ++ ⟨#[c]⟩) ++ (((⟨K.toArray⟩ : ByteArray) ++ ⟨#[58]⟩) ++ ⟨V.toArray⟩) = ⟨(T ++ c :: propL (K, V)).toArray⟩ := by
  rw [show (⟨#[c]⟩ : ByteArray) = ⟨[c].toArray⟩ from rfl, show (⟨#[58]⟩ : ByteArray) = ⟨[58].toArray⟩ from rfl, bytes_append, bytes_append, bytes_append, bytes_append]
  simp [propL]
theorem str_snoc (T : List UInt8) (c : UInt8) : ((⟨T.toArray⟩ : ByteArray) ++ ⟨#[c]⟩) = ⟨(T ++ [c]).toArray⟩ := by
  rw [show (⟨#[c]⟩ : ByteArray) = ⟨[c].toArray⟩ from rfl, bytes_append]
theorem nodeE_zero {l : Bool} {ps : List PropD} {t : List Int} {ks : List NodeD} (h : nodeE (.mk l ps t ks) = 0) : propsE ps = 0 ∧ checkE t = 0 ∧ kidsE ks = 0 ∧ (l = true → ks = []) ∧ (l = false → t = []) := by
  simp only [nodeE] at h
  split at h
  · contradiction
  · rename_i h0
    have h0 : ownE l ps t ks.length = 0 := by simpa using h0
    unfold ownE at h0
    split at h0
    · contradiction
    · rename_i h1
      have h1 : propsE ps = 0 := by simpa using h1
      split at h0
      · cases h0
      · rename_i h2
        refine ⟨h1, h0, h, fun hl => ?_, fun hl => ?_⟩
        · subst hl; simp at h2; exact h2
        · subst hl; simp at h2; exact h2
theorem kidsE_mem {ks : List NodeD} (h : kidsE ks = 0) : ∀ k ∈ ks, nodeE k = 0 := by
  induction ks with
  | nil => simp
  | cons q ks ih =>
    simp only [kidsE] at h
    split at h
    · contradiction
    · rename_i h0
      have h0 : nodeE q = 0 := by simpa using h0
      intro k hk
      rcases List.mem_cons.1 hk with rfl | hk
      · exact h0
      · exact ih h k hk

end Go.Proofs.YtmhgbocejjnoaaaGreatDoor
