/- Walks: strings.Builder, written while other memory of the call's own stays as it is. -/
import Derived.Test.YtmhgbocejjnoaaaDoorRB1
import Derived.Test.YtmhgbocejjnoaaaDoorRX1
namespace Go.Proofs.YtmhgbocejjnoaaaDoor
open Go.RowKit Go.Redl
set_option linter.unusedVariables false

/-- What a builder writes: its own block, and its bytes. -/
def badBld (T : TypeId) : Bool := T == 52 || T == 5
/-- What a writing method leaves. -/
def WroteS (w : World) (B b : Nat) (l : List UInt8) (v : Value) (e : Ending) (w' : World) : Prop := e = .returned v ∧ BldU w' B b l ∧ Spares badBld B w w'

theorem copyCheckS_c (B b : Nat) (l : List UInt8) (w : World) (h : Bld w B b l) (hBw : B ≤ w.heap.size) :
    Calls Tryd.prog 52 #[.pointer (some ⟨b, 0, none⟩)] w fun e w' => e = .returned (.tuple #[]) ∧ BldU w' B b l ∧ Spares badBld B w w' := by
  rcases h with h | h
  · refine (copyCheck_new b w h.cell0 h.shape h.frozen0).mono ?_
    rintro e w' ⟨rfl, rfl⟩
    have h2 := h
    obtain ⟨hB, v, hbk, -⟩ := h2
    exact ⟨rfl, h.used _, (Spares.refl hBw).setCell (b := b) (off := 0) hbk rfl hB _⟩
  · refine (copyCheck_old b w h.cell0).mono ?_
    rintro e w' ⟨rfl, rfl⟩
    exact ⟨rfl, h, Spares.refl hBw⟩

set_option maxRecDepth 100000 in
set_option maxHeartbeats 1000000 in
theorem writeByteS_c (B b : Nat) (l : List UInt8) (c : UInt8) (w : World) (h : Bld w B b l) (hlen : l.length ≤ 100000000) (hBw : B ≤ w.heap.size) :
    Calls Tryd.prog 28 #[.pointer (some ⟨b, 0, none⟩), .int .u8 c.toNat] w (WroteS w B b (l ++ [c]) .nilIface) := by
  have H := Lib.hid (copyCheckS_c B b l w h hBw)
  clear h
  go_enter Tryd.func28, Tryd.ntmps28
  go_wp2_with fail
  refine H.out.mono ?_
  rintro e w1 ⟨rfl, h1, hsp1⟩
  have hb1 := hsp1.below
  obtain ⟨hB, v, hbk, hown, hne⟩ := h1
  have hlenc : (Lib.byteCells l).length = l.length := by simp [Lib.byteCells]
  have c0 : w1.cell? ⟨b, 0, none⟩ = some (.pointer (some ⟨b, 0, none⟩)) := by rw [Lib.cell_of_heap hbk]; rfl
  have c1 : w1.cell? ⟨b, 1, none⟩ = some v := by rw [Lib.cell_of_heap hbk]; rfl
  have hlt : b < w1.heap.size := (Array.getElem?_eq_some_iff.1 hbk).1
  have Hbk := Lib.hid hbk; have Ho := Lib.hid hown; have Hne := Lib.hid hne; have Hb1 := Lib.hid hb1; have Hsp1 := Lib.hid hsp1; have Hlc := Lib.hid hlenc
  clear hbk hown hne hb1 hsp1 hlenc H
  go_wp2_with (at_builtin; refine wpList_app rfl _ _ 41 rfl B 5 (.int .u8 0) 1 1 Tryd.underlying41 info_u8 rfl (by decide) _ _ _ rfl (Ho.out.alloc _) (some ⟨w1.heap.size, 0, none⟩) 1 1 (w1.heap.size + 1) [.int .u8 c.toNat] rfl ?hr ?c3 ?c4 ?c5 ?_)
  case hr => exact row_one _ _ _ _ rfl
  case c3 => rw [Hlc.out]; unfold maxLen; omega
  case c4 => rw [Hlc.out]; omega
  case c5 => have := Hb1.out.size; simp; omega
  intro v' w2 hown' hgrow
  have hb2 : w2.heap[b]? = some (.cells #[.pointer (some ⟨b, 0, none⟩), v] 52 (0, 0)) := by
    rw [hgrow.block b (by simp; omega) (fun e => Hne.out e.symm), Lib.alloc_old w1 _ b hlt]
    exact Hbk.out
  have d0 : w2.cell? ⟨b, 0, none⟩ = some (.pointer (some ⟨b, 0, none⟩)) := by rw [Lib.cell_of_heap hb2]; rfl
  have d1 : w2.cell? ⟨b, 1, none⟩ = some v := by rw [Lib.cell_of_heap hb2]; rfl
  have f1 : w2.frozen? ⟨b, 1, none⟩ = false := Lib.frozen_of_heap hb2 1
  obtain ⟨ao, n', cap, rfl⟩ : ∃ ao n' cap, v' = .slice ao n' cap := by
    rcases hown'.2 with ⟨hv, _⟩ | ⟨g, cap, cur, hv, _⟩
    · exact ⟨_, _, _, hv⟩
    · exact ⟨_, _, _, hv⟩
  have hbel := ((((Hsp1.out.alloc hBw (.cells #[.int .u8 c.toNat] 5)).grown (Ho.out.alloc _) hgrow rfl (Nat.le_refl _) hBw)).setCell (b := b) (off := 1) hb2 rfl hB (.slice ao n' cap))
  have Ho2 := Lib.hid hown'; have Hb2 := Lib.hid hb2; have Hbel := Lib.hid hbel
  clear hown' hb2 hgrow hbel
  go_wp2_with fail
  go_ret
  refine ⟨rfl, ?_, Hbel.out⟩
  have := Ho2.out
  refine Lib.BuilderAt.put (T := 52) (e := 5) hB Hb2.out ?_ (by decide)
  have e : Lib.byteCells (l ++ [c]) = Lib.byteCells l ++ [.int .u8 c.toNat] := by simp [Lib.byteCells]
  rw [e, List.length_append]
  exact this

set_option maxRecDepth 100000 in
set_option maxHeartbeats 1000000 in
theorem writeStringS_c (B b : Nat) (l s : List UInt8) (w : World) (h : Bld w B b l) (hlen : l.length + s.length ≤ 100000000) (hBw : B ≤ w.heap.size) :
    Calls Tryd.prog 31 #[.pointer (some ⟨b, 0, none⟩), .string ⟨s.toArray⟩] w (WroteS w B b (l ++ s) (.tuple #[.int .i64 s.length, .nilIface])) := by
  obtain ⟨i0, hi, hz0, hz1, hz2⟩ := info_parts info_u8
  have H := Lib.hid (copyCheckS_c B b l w h hBw)
  clear h
  have Hi := Lib.hid hi; have Hz0 := Lib.hid hz0; have Hz1 := Lib.hid hz1; have Hz2 := Lib.hid hz2
  clear hi hz0 hz1 hz2
  go_enter Tryd.func31, Tryd.ntmps31
  go_wp2_with fail
  refine H.out.mono ?_
  rintro e w1 ⟨rfl, h1, hsp1⟩
  have hb1 := hsp1.below
  obtain ⟨hB, v, hbk, hown, hne⟩ := h1
  have hlenc : (Lib.byteCells l).length = l.length := by simp [Lib.byteCells]
  have c0 : w1.cell? ⟨b, 0, none⟩ = some (.pointer (some ⟨b, 0, none⟩)) := by rw [Lib.cell_of_heap hbk]; rfl
  have c1 : w1.cell? ⟨b, 1, none⟩ = some v := by rw [Lib.cell_of_heap hbk]; rfl
  have hlt : b < w1.heap.size := (Array.getElem?_eq_some_iff.1 hbk).1
  have Hbk := Lib.hid hbk; have Ho := Lib.hid hown; have Hne := Lib.hid hne; have Hb1 := Lib.hid hb1; have Hsp1 := Lib.hid hsp1; have Hlc := Lib.hid hlenc
  clear hbk hown hne hb1 hsp1 hlenc H
  go_wp2_with (at_builtin; refine Lib.wpList_append_own_string _ rfl _ _ 41 9 rfl B 5 i0 Tryd.underlying41 Tryd.underlying9 Hi.out Hz0.out Hz1.out Hz2.out _ _ _ rfl Ho.out ⟨s.toArray⟩ rfl ?c3 ?c4 ?c5 ?_)
  case c3 => rw [Hlc.out]; unfold maxLen; simp [ByteArray.size]; omega
  case c4 => rw [Hlc.out]; simp [ByteArray.size]; omega
  case c5 => have := Hb1.out.size; omega
  intro v' w2 hown' hgrow _
  have hb2 : w2.heap[b]? = some (.cells #[.pointer (some ⟨b, 0, none⟩), v] 52 (0, 0)) := by
    rw [hgrow.block b hlt (fun e => Hne.out e.symm)]
    exact Hbk.out
  have d0 : w2.cell? ⟨b, 0, none⟩ = some (.pointer (some ⟨b, 0, none⟩)) := by rw [Lib.cell_of_heap hb2]; rfl
  have d1 : w2.cell? ⟨b, 1, none⟩ = some v := by rw [Lib.cell_of_heap hb2]; rfl
  have f1 : w2.frozen? ⟨b, 1, none⟩ = false := Lib.frozen_of_heap hb2 1
  obtain ⟨ao, n', cap, rfl⟩ : ∃ ao n' cap, v' = .slice ao n' cap := by
    rcases hown'.2 with ⟨hv, _⟩ | ⟨g, cap, cur, hv, _⟩
    · exact ⟨_, _, _, hv⟩
    · exact ⟨_, _, _, hv⟩
  have hbel := ((Hsp1.out.grown Ho.out hgrow rfl (Nat.le_refl _) hBw).setCell (b := b) (off := 1) hb2 rfl hB (.slice ao n' cap))
  have Ho2 := Lib.hid hown'; have Hb2 := Lib.hid hb2; have Hbel := Lib.hid hbel
  clear hown' hb2 hgrow hbel
  go_wp2_with fail
  go_ret2
  refine ⟨?_, ?_, Hbel.out⟩
  · simp
  have := Ho2.out
  refine Lib.BuilderAt.put (T := 52) (e := 5) hB Hb2.out ?_ (by decide)
  have e : Lib.byteCells (l ++ s) = Lib.byteCells l ++ Lib.strCells ⟨s.toArray⟩ := by simp [Lib.byteCells, Lib.strCells]
  rw [e, List.length_append, Lib.strCells_length]
  exact this

theorem writeByteS_n (B b : Nat) (l : List UInt8) (c : UInt8) (n : Int) (hc : (c.toNat : Int) = n) (w : World) (h : Bld w B b l) (hlen : l.length ≤ 100000000) (hBw : B ≤ w.heap.size) :
    Calls Tryd.prog 28 #[.pointer (some ⟨b, 0, none⟩), .int .u8 n] w (WroteS w B b (l ++ [c]) .nilIface) := by
  subst hc; exact writeByteS_c B b l c w h hlen hBw

end Go.Proofs.YtmhgbocejjnoaaaDoor
