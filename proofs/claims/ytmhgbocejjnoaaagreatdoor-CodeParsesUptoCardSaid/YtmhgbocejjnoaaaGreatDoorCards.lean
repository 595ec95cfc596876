/-
  DERIVED. GIVEN WITH THE SEED: THE CARDS: each row of YtmhgbocejjnoaaaGreatDoorRows.lean that lists a variable, with what it lists TIED to the program's text (the seventh form; the later family's looks); each row that meets fmt, with fmt's text TOLD by the authors' own Lean function (tested against real Go, not proved from fmt's source: count such statements apart). THE CARD IS WHAT COUNTS. Prove the row's statement (the work); the ties are given (YtmhgbocejjnoaaaGreatDoorTie.lean); close each card by the builder's one call (the guide's Derived/Test/ToyasCard.lean, 'card_holds'). Laid BY PROGRAM, IN A SANDBOX (cutbox-door.mjs). By AI agents, Wed Nov 11 2026. No macro, syntax, notation, axiom, sorry.
-/
import Derived.Test.YtmhgbocejjnoaaaGreatDoorRows
import GoSem.ClaimSeven
namespace Go.Proofs.YtmhgbocejjnoaaaGreatDoor
namespace Rows

/-- THE TIED CARD OF 'redlinelaw06.CodeParses'. -/
def codeParsesCard : Claim7 := { stood := { row := codeParsesRow, standIns := [], harness := (true, "25e0462081ef985f91e23b12fce54fcfc523d9855eb64db418f6718bf1ec958c"), looks := true }, kinds := [], alts := [], laidByText := true, laidKinds := [.data, .data, .data, .data, .sentinel, .sentinel, .pinned], laidTests := true, laidLooks := .later }
def CodeParsesCardSaid : Prop := Claim7.holds Tryz.pinned (.plain (OpenSpec.ofChange codeParsesSpec)) codeParsesCard

/-- THE TIED CARD OF 'redlinelaw06.CodeBack'. -/
def codeBackCard : Claim7 := { stood := { row := codeBackRow, standIns := [], harness := (true, "25e0462081ef985f91e23b12fce54fcfc523d9855eb64db418f6718bf1ec958c"), looks := true }, kinds := [], alts := [], laidByText := true, laidKinds := [.data, .data, .data, .data, .sentinel, .sentinel, .pinned], laidTests := true, laidLooks := .later }
def CodeBackCardSaid : Prop := Claim7.holds Tryz.pinned (.plain (OpenSpec.ofChange codeBackSpec)) codeBackCard

/-- THE TIED CARD OF 'redlinelaw06.CodeKids'. -/
def codeKidsCard : Claim7 := { stood := { row := codeKidsRow, standIns := [], harness := (true, "25e0462081ef985f91e23b12fce54fcfc523d9855eb64db418f6718bf1ec958c"), looks := true }, kinds := [], alts := [], laidByText := true, laidKinds := [.data, .data, .data, .data, .sentinel, .sentinel, .pinned], laidTests := true, laidLooks := .later }
def CodeKidsCardSaid : Prop := Claim7.holds Tryz.pinned (.plain (OpenSpec.ofChange codeKidsSpec)) codeKidsCard

/-- THE SECOND FORM's CARD OF 'redlinelaw06.CodeParses'. -/
def codeParsesUptoCard : Claim7 := { stood := { row := codeParsesUptoRow, standIns := [], harness := (true, "25e0462081ef985f91e23b12fce54fcfc523d9855eb64db418f6718bf1ec958c"), looks := true }, kinds := [], alts := [], laidByText := true, laidKinds := [.data, .data, .data, .data, .sentinel, .sentinel, .pinned], laidTests := true, laidLooks := .later }
def CodeParsesUptoCardSaid : Prop := Claim7.holds Tryz.pinned (.plain (OpenSpec.upto codeParsesSpec)) codeParsesUptoCard

/-- THE SECOND FORM's CARD OF 'redlinelaw06.CodeBack'. -/
def codeBackUptoCard : Claim7 := { stood := { row := codeBackUptoRow, standIns := [], harness := (true, "25e0462081ef985f91e23b12fce54fcfc523d9855eb64db418f6718bf1ec958c"), looks := true }, kinds := [], alts := [], laidByText := true, laidKinds := [.data, .data, .data, .data, .sentinel, .sentinel, .pinned], laidTests := true, laidLooks := .later }
def CodeBackUptoCardSaid : Prop := Claim7.holds Tryz.pinned (.plain (OpenSpec.upto codeBackSpec)) codeBackUptoCard

/-- THE SECOND FORM's CARD OF 'redlinelaw06.CodeKids'. -/
def codeKidsUptoCard : Claim7 := { stood := { row := codeKidsUptoRow, standIns := [], harness := (true, "25e0462081ef985f91e23b12fce54fcfc523d9855eb64db418f6718bf1ec958c"), looks := true }, kinds := [], alts := [], laidByText := true, laidKinds := [.data, .data, .data, .data, .sentinel, .sentinel, .pinned], laidTests := true, laidLooks := .later }
def CodeKidsUptoCardSaid : Prop := Claim7.holds Tryz.pinned (.plain (OpenSpec.upto codeKidsSpec)) codeKidsUptoCard
end Rows
end Go.Proofs.YtmhgbocejjnoaaaGreatDoor
