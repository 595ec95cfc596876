/- The frame of the Upto laws at this seat: what the listed tables give. -/
import Derived.Test.YtmhgbocejjnoaaaDoorCards
import Derived.Test.YtmhgbocejjnoaaaDoorTie
import Derived.Test.YtmhgbocejjnoaaaDoorRF1
import Derived.Test.YtmhgbocejjnoaaaDoorRN2
import Derived.ProofKit
import Derived.LaidMore
import Derived.OpenShut
import Derived.ShutString
import Derived.ChangeOld
import Derived.Below
import Derived.Stop.Joined
import Derived.Lib.LaidTab
import Derived.Stop.LaidErr
import Derived.Deep.DeepHandedRow
import Derived.Deep.DeepWitnessRowRef
import Derived.JoinedCond
import Derived.Lay
import Derived.SevenTiedAt
namespace Go.Proofs.YtmhgbocejjnoaaaDoor
open Go.ChangeShapes Go.WideShapes Go.ChangeAt Go.WideMaps Go.WideElems Go.RowKit Go.Redl
set_option linter.unusedVariables false

theorem own : ownKnob Tryd.prog.godebug = none := by kernel_rfl
theorem laidOut : laidOutB Tryd.prog = true := by kernel_rfl

def dB64 : List Int := [0, 1, 56, 2, 57, 49, 28, 3, 61, 58, 42, 50, 38, 29, 17, 4, 62, 47, 59, 36, 45, 43, 51, 22, 53, 39, 33, 30, 24, 18, 12, 5, 63, 55, 48, 27, 60, 41, 37, 16, 46, 35, 44, 21, 52, 32, 23, 11, 54, 26, 40, 15, 34, 20, 31, 10, 25, 14, 19, 9, 13, 8, 7, 6]

set_option maxRecDepth 100000 in
theorem laidP_tab {W : World} (h : laidMetH Tryd.prog Rows.codePrintsUptoRow.laid W) : TabAt W ∧ 3 < W.heap.size := by
  rw [MakeChecks.laidMetH_plain _ _ _ (by kernel_rfl)] at h
  have h1 := Lib.tabIs_of_head (k := .u8) (zs := dB64) (g := 3) (t := 136) (e := 5) (n := 64) (by kernel_rfl) (by kernel_rfl) Tryd.underlying136 Tryd.underlying5 (by kernel_rfl) (by kernel_rfl) (laidMet.tail (show laidMet Tryd.prog (_ :: _) W from h))
  have h2 := h1.cell (g := 3) (by kernel_rfl) 15 (by decide)
  exact ⟨h2, World.block_lt_of_cell? W _ h2⟩

end Go.Proofs.YtmhgbocejjnoaaaDoor
