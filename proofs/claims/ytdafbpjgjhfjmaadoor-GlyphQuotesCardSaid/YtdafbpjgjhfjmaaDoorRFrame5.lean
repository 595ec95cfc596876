/- The frame of the laws that read the library's errors too: five listed variables. -/
import Derived.Test.YtdafbpjgjhfjmaaDoorRFrame
import Derived.Test.YtdafbpjgjhfjmaaDoorRPV
namespace Go.Proofs.YtdafbpjgjhfjmaaDoor
open Go.ChangeShapes Go.WideShapes Go.ChangeAt Go.WideMaps Go.WideElems Go.RowKit Go.Redl
set_option linter.unusedVariables false
set_option maxRecDepth 100000

theorem laid5_met (os : Os) (args : Array Value) : laidMetH Tryd.prog Rows.glyphBackRow.laid ((World.doorLaid Tryd.prog 400 os).forCall (fun _ _ => 0) ⟨#[], args, []⟩).memory :=
  laidMetH_of_parts3 (fuel := 8) (laidMet_of_run' 8 (by kernel_rfl) (by kernel_rfl)) (by kernel_rfl) (by kernel_rfl)

theorem err_at {W : World} {n : String} {g : Nat} {v : Value} (hg : Tryd.prog.globalNamed n = some g) (h : W.var? Tryd.prog n = some #[v]) : W.cell? ⟨g, 0, none⟩ = some v := by
  have := World.var?_cell hg h 0
  simpa using this

theorem star_err : "*" ++ "errors.errorString" = "*errors.errorString" := by decide
theorem row_err (u : TypeId) (h : Tryd.prog.typeName? 3 u = some "*errors.errorString") : u = 98 :=
  typeName_ptr_named (nm := "errors.errorString") (by rw [star_err]; kernel_rfl) (by kernel_rfl) (by decide) u (by rw [star_err]; exact h)

theorem laid5_tab {W : World} (h : laidMetH Tryd.prog Rows.glyphBackRow.laid W) : TabAt W ∧ 5 < W.heap.size ∧ ErrsAt W := by
  rw [MakeChecks.laidMetH_plain _ _ _ (by kernel_rfl)] at h
  have t1 := laidMet.tail (show laidMet Tryd.prog (_ :: _) W from h)
  have h1 := Lib.tabIs_of_head (k := .u8) (zs := dB64) (g := 5) (t := 102) (e := 5) (n := 64) (by kernel_rfl) (by kernel_rfl) Tryd.underlying102 Tryd.underlying5 (by kernel_rfl) (by kernel_rfl) t1
  have h2 := h1.cell (g := 5) (by kernel_rfl) 15 (by decide)
  have t3 := laidMet.tail (show laidMet Tryd.prog (_ :: _) W from laidMet.tail t1)
  have t4 := laidMet.tail (show laidMet Tryd.prog (_ :: _) W from t3)
  obtain ⟨a1, s1, hv1, hc1, ht1, _⟩ := laid_sentinel (g := 3) t3 (by kernel_rfl) (by kernel_rfl) Tryd.underlying50 row_err Tryd.underlying98 Tryd.underlying100 rfl rfl Tryd.underlying9 (by kernel_rfl) (by kernel_rfl)
  obtain ⟨a0, s0, hv0, hc0, ht0, _⟩ := laid_sentinel (g := 2) t4 (by kernel_rfl) (by kernel_rfl) Tryd.underlying50 row_err Tryd.underlying98 Tryd.underlying100 rfl rfl Tryd.underlying9 (by kernel_rfl) (by kernel_rfl)
  have c1 := err_at (g := 3) (by kernel_rfl) hv1
  have c0 := err_at (g := 2) (by kernel_rfl) hv0
  exact ⟨h2, World.block_lt_of_cell? W _ h2, ⟨_, _, c0⟩, ⟨_, _, c1⟩, World.block_lt_of_cell? W _ c0, World.block_lt_of_cell? W _ c1⟩

end Go.Proofs.YtdafbpjgjhfjmaaDoor
