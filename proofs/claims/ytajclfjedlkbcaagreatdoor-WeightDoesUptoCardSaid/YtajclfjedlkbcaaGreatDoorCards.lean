/-
  DERIVED. GIVEN WITH THE SEED: THE CARDS: each row of YtajclfjedlkbcaaGreatDoorRows.lean that lists a variable, with what it lists TIED to the program's text (the seventh form; the later family's looks); each row that meets fmt, with fmt's text TOLD by the authors' own Lean function (tested against real Go, not proved from fmt's source: count such statements apart). THE CARD IS WHAT COUNTS. Prove the row's statement (the work); the ties are given (YtajclfjedlkbcaaGreatDoorTie.lean); close each card by the builder's one call (the guide's Derived/Test/ToyasCard.lean, 'card_holds'). Laid BY PROGRAM, IN A SANDBOX (cutbox-door.mjs). By AI agents, Wed Nov 11 2026. No macro, syntax, notation, axiom, sorry.
-/
import Derived.Test.YtajclfjedlkbcaaGreatDoorRows
import GoSem.ClaimSeven
namespace Go.Proofs.YtajclfjedlkbcaaGreatDoor
namespace Rows

/-- THE TIED CARD OF 'redlinelaw19.WeightDoes'. -/
def weightDoesCard : Claim7 := { stood := { row := weightDoesRow, standIns := [], harness := (true, "d276444722aea056edc411c31076de6a8370dd88ffb19c2e8d54414a17d0b021"), looks := false }, kinds := [], alts := [], laidByText := true, laidKinds := [.data, .pinned], laidTests := true, laidLooks := .later }
def WeightDoesCardSaid : Prop := Claim7.holds Tryz.pinned (.plain (OpenSpec.ofChange weightDoesSpec)) weightDoesCard

/-- THE TIED CARD OF 'redlinelaw19.WeightFills'. -/
def weightFillsCard : Claim7 := { stood := { row := weightFillsRow, standIns := [], harness := (true, "d276444722aea056edc411c31076de6a8370dd88ffb19c2e8d54414a17d0b021"), looks := false }, kinds := [], alts := [], laidByText := true, laidKinds := [.data, .pinned], laidTests := true, laidLooks := .later }
def WeightFillsCardSaid : Prop := Claim7.holds Tryz.pinned (.plain (OpenSpec.ofChange weightFillsSpec)) weightFillsCard

/-- THE SECOND FORM's CARD OF 'redlinelaw19.WeightDoes'. -/
def weightDoesUptoCard : Claim7 := { stood := { row := weightDoesUptoRow, standIns := [], harness := (true, "d276444722aea056edc411c31076de6a8370dd88ffb19c2e8d54414a17d0b021"), looks := false }, kinds := [], alts := [], laidByText := true, laidKinds := [.data, .pinned], laidTests := true, laidLooks := .later }
def WeightDoesUptoCardSaid : Prop := Claim7.holds Tryz.pinned (.plain (OpenSpec.upto weightDoesSpec)) weightDoesUptoCard

/-- THE SECOND FORM's CARD OF 'redlinelaw19.WeightFills'. -/
def weightFillsUptoCard : Claim7 := { stood := { row := weightFillsUptoRow, standIns := [], harness := (true, "d276444722aea056edc411c31076de6a8370dd88ffb19c2e8d54414a17d0b021"), looks := false }, kinds := [], alts := [], laidByText := true, laidKinds := [.data, .pinned], laidTests := true, laidLooks := .later }
def WeightFillsUptoCardSaid : Prop := Claim7.holds Tryz.pinned (.plain (OpenSpec.upto weightFillsSpec)) weightFillsUptoCard
end Rows
end Go.Proofs.YtajclfjedlkbcaaGreatDoor
