/-
  DERIVED. GIVEN WITH THE SEED: THE CARDS: each row of YtmhgbocejjnoaaaDoorRows.lean that lists a variable, with what it lists TIED to the program's text (the seventh form; the later family's looks); each row that meets fmt, with fmt's text TOLD by the authors' own Lean function (tested against real Go, not proved from fmt's source: count such statements apart). THE CARD IS WHAT COUNTS. Prove the row's statement (the work); the ties are given (YtmhgbocejjnoaaaDoorTie.lean); close each card by the builder's one call (the guide's Derived/Test/ToyasCard.lean, 'card_holds'). Laid BY PROGRAM, IN A SANDBOX (cutbox-door.mjs). By AI agents, Wed Nov 11 2026. No macro, syntax, notation, axiom, sorry.
-/
import Derived.Test.YtmhgbocejjnoaaaDoorRows
import GoSem.ClaimSeven
namespace Go.Proofs.YtmhgbocejjnoaaaDoor
namespace Rows

/-- THE TIED CARD OF 'redlinelaw06.CodePrints'. -/
def codePrintsCard : Claim7 := { stood := { row := codePrintsRow, standIns := [], harness := (true, "333c1fc7da7f92ec1325117c2338cd06cbde662bd98e5ed117d5b448380aa66a"), looks := true }, kinds := [], alts := [], laidByText := true, laidKinds := [.data, .data, .data, .data, .pinned], laidTests := true, laidLooks := .later }
def CodePrintsCardSaid : Prop := Claim7.holds Tryd.pinned (.plain (OpenSpec.ofChange codePrintsSpec)) codePrintsCard

/-- THE TIED CARD OF 'redlinelaw06.CodeParts'. -/
def codePartsCard : Claim7 := { stood := { row := codePartsRow, standIns := [], harness := (true, "333c1fc7da7f92ec1325117c2338cd06cbde662bd98e5ed117d5b448380aa66a"), looks := true }, kinds := [], alts := [], laidByText := true, laidKinds := [.data, .data, .data, .data, .pinned], laidTests := true, laidLooks := .later }
def CodePartsCardSaid : Prop := Claim7.holds Tryd.pinned (.plain (OpenSpec.ofChange codePartsSpec)) codePartsCard

/-- THE TIED CARD OF 'redlinelaw06.CodeCuts'. -/
def codeCutsCard : Claim7 := { stood := { row := codeCutsRow, standIns := [], harness := (true, "333c1fc7da7f92ec1325117c2338cd06cbde662bd98e5ed117d5b448380aa66a"), looks := true }, kinds := [], alts := [], laidByText := true, laidKinds := [.data, .data, .data, .data, .sentinel, .sentinel, .pinned], laidTests := true, laidLooks := .later }
def CodeCutsCardSaid : Prop := Claim7.holds Tryd.pinned (.plain (OpenSpec.ofChange codeCutsSpec)) codeCutsCard

/-- THE SECOND FORM's CARD OF 'redlinelaw06.CodePrints'. -/
def codePrintsUptoCard : Claim7 := { stood := { row := codePrintsUptoRow, standIns := [], harness := (true, "333c1fc7da7f92ec1325117c2338cd06cbde662bd98e5ed117d5b448380aa66a"), looks := true }, kinds := [], alts := [], laidByText := true, laidKinds := [.data, .data, .data, .data, .pinned], laidTests := true, laidLooks := .later }
def CodePrintsUptoCardSaid : Prop := Claim7.holds Tryd.pinned (.plain (OpenSpec.upto codePrintsSpec)) codePrintsUptoCard

/-- THE SECOND FORM's CARD OF 'redlinelaw06.CodeParts'. -/
def codePartsUptoCard : Claim7 := { stood := { row := codePartsUptoRow, standIns := [], harness := (true, "333c1fc7da7f92ec1325117c2338cd06cbde662bd98e5ed117d5b448380aa66a"), looks := true }, kinds := [], alts := [], laidByText := true, laidKinds := [.data, .data, .data, .data, .pinned], laidTests := true, laidLooks := .later }
def CodePartsUptoCardSaid : Prop := Claim7.holds Tryd.pinned (.plain (OpenSpec.upto codePartsSpec)) codePartsUptoCard

/-- THE SECOND FORM's CARD OF 'redlinelaw06.CodeCuts'. -/
def codeCutsUptoCard : Claim7 := { stood := { row := codeCutsUptoRow, standIns := [], harness := (true, "333c1fc7da7f92ec1325117c2338cd06cbde662bd98e5ed117d5b448380aa66a"), looks := true }, kinds := [], alts := [], laidByText := true, laidKinds := [.data, .data, .data, .data, .sentinel, .sentinel, .pinned], laidTests := true, laidLooks := .later }
def CodeCutsUptoCardSaid : Prop := Claim7.holds Tryd.pinned (.plain (OpenSpec.upto codeCutsSpec)) codeCutsUptoCard
end Rows
end Go.Proofs.YtmhgbocejjnoaaaDoor
