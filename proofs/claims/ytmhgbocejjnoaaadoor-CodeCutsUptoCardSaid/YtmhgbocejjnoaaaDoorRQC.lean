/- A region that draws its order, walked once, in a class of worlds: its callees may make memory. -/
import Derived.Test.YtmhgbocejjnoaaaDoorRBase
import Derived.Deep.QuietTactic
import Derived.BigQuiet
namespace Go.Redl
open Go Go.RowKit
set_option linter.unusedVariables false

/-- ONE WALK FOR EVERY ORDER, in the class of the worlds that S lets in, written as W i. -/
theorem wp_region_class {P : Program} {id : Nat} {Q : Exit → Act → World → Prop} {a : Act} {w : World} {l : List Oper} (S : World → Prop) (hm : P.follows .mixedOrders = true) (hB : Region.lexB .any l.toArray = true) (hS : S w.drew)
    (h : ∀ (ι : Type) [Inhabited ι] (W : ι → World), (∀ i, S (W i)) → (∀ w', S w' → ∃ i, w' = W i) →
      wpQuiet P l.toArray (fun w' => ∃ i, w' = W i) (fun a' => ∀ w', (∃ i, w' = W i) → Q .normal a' w') l a) : (Code.region id l.toArray true).wp P Q a w := by
  have : Inhabited {w' // S w'} := ⟨⟨w.drew, hS⟩⟩
  exact wp_region_quiet (C := fun w' => ∃ i : {w' // S w'}, w' = i.1) hm hB ⟨⟨w.drew, hS⟩, rfl⟩ (by simpa using h {w' // S w'} (fun i => i.1) (fun i => i.2) (fun w' hw => ⟨⟨w', hw⟩, rfl⟩))

end Go.Redl
