/- The frame of this seat's laws: what the listed tables give, how a slice of runes that came in is read. -/
import Derived.Test.YtdafbpjgjhfjmaaDoorCards
import Derived.Test.YtdafbpjgjhfjmaaDoorTie
import Derived.Test.YtdafbpjgjhfjmaaDoorRF1
import Derived.ProofKit
import Derived.LaidMore
import Derived.OpenShut
import Derived.ShutString
import Derived.ChangeOld
import Derived.Below
import Derived.Stop.Joined
import Derived.Lib.LaidTab
import Derived.Stop.LaidErr
namespace Go.Proofs.YtdafbpjgjhfjmaaDoor
open Go.ChangeShapes Go.WideShapes Go.ChangeAt Go.WideMaps Go.WideElems Go.RowKit Go.Redl
set_option linter.unusedVariables false

theorem own : ownKnob Tryd.prog.godebug = none := by kernel_rfl
theorem laidOut : laidOutB Tryd.prog = true := by kernel_rfl

theorem ints_of_trod {P : Program} {H : Type} {enc : TypeId × Value → H} {W : World} {t e : TypeId} {k : IntKind} {a : Option Addr} {len cap : Nat} {d : DataW H} {p : List MemPlace} (ht : P.underlying t = some (.slice e)) (he : P.underlying e = some (.int k)) (hc : P.cellsOf e = 1)
    (h : ∃ fuel, DataW.trod enc P W 0 (fun _ => true) true fuel t (Value.slice a len cap).cells.toList = some (d, p)) :
    ∃ zs : List Int, len = zs.length ∧ Ints k W W.heap.size (.slice a zs.length cap) zs := by
  obtain ⟨fuel, hf⟩ := h
  rcases open_ints ht he hc hf with ⟨hcs, _⟩ | ⟨x, l, c, zs, hcs, _, hl, hm, hz, _, hcell, hwz⟩
  · simp [Value.cells] at hcs
    obtain ⟨rfl, rfl, rfl⟩ := hcs
    exact ⟨[], rfl, ⟨⟨none, 0, rfl, RowA.empty _ _ _⟩, by simp⟩⟩
  · simp [Value.cells] at hcs
    obtain ⟨rfl, rfl, rfl⟩ := hcs
    have hzl : zs.length = cap := by simpa using hz
    have htl : (zs.take len).length = len := by simp; omega
    refine ⟨zs.take len, htl.symm, ⟨⟨some x, cap, rfl, ?_⟩, fun z hz => hwz z (List.mem_of_mem_take hz)⟩⟩
    rw [htl]
    refine ⟨by simp; omega, hl, hm, ints_one k _, (fun h => by cases h), fun hne => ?_⟩
    have hpos : 0 < zs.length := by
      rcases Nat.eq_zero_or_pos zs.length with h0 | h0
      · have : zs = [] := List.eq_nil_of_length_eq_zero h0
        subst this
        simp at hne
      · exact h0
    obtain ⟨b, off, rfl, hc2⟩ := ints_at hcell hpos
    refine ⟨b, off, rfl, ?_, fun j u hj => ?_⟩
    · exact World.block_lt_of_cell? W _ (hc2 0 hpos)
    · simp only [List.getElem?_map, List.getElem?_take] at hj
      split at hj
      · rename_i hlt
        have hjz : j < zs.length := by omega
        rw [List.getElem?_eq_getElem hjz] at hj
        simp at hj
        subst hj
        rw [hc2 j hjz, getD_of_lt hjz]
      · simp at hj

def dB64 : List Int := [0, 1, 56, 2, 57, 49, 28, 3, 61, 58, 42, 50, 38, 29, 17, 4, 62, 47, 59, 36, 45, 43, 51, 22, 53, 39, 33, 30, 24, 18, 12, 5, 63, 55, 48, 27, 60, 41, 37, 16, 46, 35, 44, 21, 52, 32, 23, 11, 54, 26, 40, 15, 34, 20, 31, 10, 25, 14, 19, 9, 13, 8, 7, 6]

theorem laid3_met (os : Os) (args : Array Value) : laidMetH Tryd.prog Rows.glyphUndoRow.laid ((World.doorLaid Tryd.prog 400 os).forCall (fun _ _ => 0) ⟨#[], args, []⟩).memory :=
  laidMetH_of_parts3 (fuel := 8) (laidMet_of_run' 8 (by kernel_rfl) (by kernel_rfl)) (by kernel_rfl) (by kernel_rfl)

theorem laid3_tab {W : World} (h : laidMetH Tryd.prog Rows.glyphUndoRow.laid W) : TabAt W ∧ 5 < W.heap.size := by
  rw [MakeChecks.laidMetH_plain _ _ _ (by kernel_rfl)] at h
  have h1 := Lib.tabIs_of_head (k := .u8) (zs := dB64) (g := 5) (t := 102) (e := 5) (n := 64) (by kernel_rfl) (by kernel_rfl) Tryd.underlying102 Tryd.underlying5 (by kernel_rfl) (by kernel_rfl) (laidMet.tail (show laidMet Tryd.prog (_ :: _) W from h))
  have h2 := h1.cell (g := 5) (by kernel_rfl) 15 (by decide)
  exact ⟨h2, World.block_lt_of_cell? W _ h2⟩

end Go.Proofs.YtdafbpjgjhfjmaaDoor
