/- The frame's laws on the library's errors. -/
import Derived.Test.YtmhgbocejjnoaaaDoorRFB
import Derived.Test.YtmhgbocejjnoaaaDoorRPV
namespace Go.Proofs.YtmhgbocejjnoaaaDoor
open Go.ChangeShapes Go.WideShapes Go.ChangeAt Go.WideMaps Go.WideElems Go.RowKit Go.Redl
set_option linter.unusedVariables false
set_option maxRecDepth 100000

theorem err_at {W : World} {n : String} {g : Nat} {v : Value} (hg : Tryd.prog.globalNamed n = some g) (h : W.var? Tryd.prog n = some #[v]) : W.cell? ⟨g, 0, none⟩ = some v := by
  have := World.var?_cell hg h 0
  simpa using this

theorem star_err : "*" ++ "errors.errorString" = "*errors.errorString" := by decide
theorem row_err (u : TypeId) (h : Tryd.prog.typeName? 3 u = some "*errors.errorString") : u = 152 :=
  typeName_ptr_named (nm := "errors.errorString") (by rw [star_err]; kernel_rfl) (by kernel_rfl) (by decide) u (by rw [star_err]; exact h)

end Go.Proofs.YtmhgbocejjnoaaaDoor
