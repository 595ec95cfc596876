/- Plain laws: what Parse makes of a printed tree, of one cut short, of one made longer. -/
import Derived.Test.YtmhgbocejjnoaaaDoorRDF
import Derived.Test.YtmhgbocejjnoaaaDoorRDG
namespace Go.Proofs.YtmhgbocejjnoaaaDoor
open Go.RowKit Go.Redl
set_option linter.unusedVariables false

theorem parse_whole {n : NodeD} (h : nodeE n = 0) : parseL (printL n) = .ok n (printL n).length := by
  have := rdN_print n [] [] (2 * (printL n).length + 1) h (by simp)
  simp only [List.nil_append, List.append_nil, List.length_nil, Nat.zero_add] at this
  unfold parseL
  rw [this]
  simp
theorem parse_less {n : NodeD} (h : nodeE n = 0) : parseL (printL n).dropLast = .bad ((printL n).length - 1) 11 := by
  have := rdN_less n (2 * (printL n).dropLast.length + 1) h (by simp)
  unfold parseL
  rw [this]
theorem parse_more {n : NodeD} (h : nodeE n = 0) (b : UInt8) : parseL (printL n ++ [b]) = .bad (printL n).length 11 := by
  have := rdN_print n [] [b] (2 * (printL n ++ [b]).length + 1) h (by simp)
  simp only [List.nil_append, List.length_nil, Nat.zero_add] at this
  unfold parseL
  rw [this]
  simp

end Go.Proofs.YtmhgbocejjnoaaaDoor
