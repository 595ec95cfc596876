/-
  DERIVED. GIVEN WITH THE SEED: THE CARDS: each row of YtdafbpjgjhfjmaaDoorRows.lean that lists a variable, with what it lists TIED to the program's text (the seventh form; the later family's looks); each row that meets fmt, with fmt's text TOLD by the authors' own Lean function (tested against real Go, not proved from fmt's source: count such statements apart). THE CARD IS WHAT COUNTS. Prove the row's statement (the work); the ties are given (YtdafbpjgjhfjmaaDoorTie.lean); close each card by the builder's one call (the guide's Derived/Test/ToyasCard.lean, 'card_holds'). Laid BY PROGRAM, IN A SANDBOX (cutbox-door.mjs). By AI agents, Wed Nov 11 2026. No macro, syntax, notation, axiom, sorry.
-/
import Derived.Test.YtdafbpjgjhfjmaaDoorRows
import GoSem.ClaimSeven
namespace Go.Proofs.YtdafbpjgjhfjmaaDoor
namespace Rows

/-- THE TIED CARD OF 'redlinelaw03.GlyphUndo'. -/
def glyphUndoCard : Claim7 := { stood := { row := glyphUndoRow, standIns := [], harness := (true, "bfe90933493630323a5c9d88d2df79e904e00c50811a3fb7c614d7f06b7be6d0"), looks := true }, kinds := [], alts := [], laidByText := true, laidKinds := [.data, .data, .data], laidTests := true, laidLooks := .later }
def GlyphUndoCardSaid : Prop := Claim7.holds Tryd.pinned (.plain (OpenSpec.ofChange glyphUndoSpec)) glyphUndoCard

/-- THE TIED CARD OF 'redlinelaw03.GlyphCuts'. -/
def glyphCutsCard : Claim7 := { stood := { row := glyphCutsRow, standIns := [], harness := (true, "bfe90933493630323a5c9d88d2df79e904e00c50811a3fb7c614d7f06b7be6d0"), looks := true }, kinds := [], alts := [], laidByText := true, laidKinds := [.data, .data, .data], laidTests := true, laidLooks := .later }
def GlyphCutsCardSaid : Prop := Claim7.holds Tryd.pinned (.plain (OpenSpec.ofChange glyphCutsSpec)) glyphCutsCard

/-- THE TIED CARD OF 'redlinelaw03.GlyphChanges'. -/
def glyphChangesCard : Claim7 := { stood := { row := glyphChangesRow, standIns := [], harness := (true, "bfe90933493630323a5c9d88d2df79e904e00c50811a3fb7c614d7f06b7be6d0"), looks := true }, kinds := [], alts := [], laidByText := true, laidKinds := [.data, .data, .data], laidTests := true, laidLooks := .later }
def GlyphChangesCardSaid : Prop := Claim7.holds Tryd.pinned (.plain (OpenSpec.ofChange glyphChangesSpec)) glyphChangesCard

/-- THE TIED CARD OF 'redlinelaw03.GlyphQuotes'. -/
def glyphQuotesCard : Claim7 := { stood := { row := glyphQuotesRow, standIns := [], harness := (true, "bfe90933493630323a5c9d88d2df79e904e00c50811a3fb7c614d7f06b7be6d0"), looks := true }, kinds := [], alts := [], laidByText := true, laidKinds := [.data, .data, .data, .sentinel, .sentinel], laidTests := true, laidLooks := .later }
def GlyphQuotesCardSaid : Prop := Claim7.holds Tryd.pinned (.plain (OpenSpec.ofChange glyphQuotesSpec)) glyphQuotesCard

/-- THE TIED CARD OF 'redlinelaw03.GlyphBack'. -/
def glyphBackCard : Claim7 := { stood := { row := glyphBackRow, standIns := [], harness := (true, "bfe90933493630323a5c9d88d2df79e904e00c50811a3fb7c614d7f06b7be6d0"), looks := true }, kinds := [], alts := [], laidByText := true, laidKinds := [.data, .data, .data, .sentinel, .sentinel], laidTests := true, laidLooks := .later }
def GlyphBackCardSaid : Prop := Claim7.holds Tryd.pinned (.plain (OpenSpec.ofChange glyphBackSpec)) glyphBackCard

/-- THE TIED CARD OF 'redlinelaw03.GlyphEnds'. -/
def glyphEndsCard : Claim7 := { stood := { row := glyphEndsRow, standIns := [], harness := (true, "bfe90933493630323a5c9d88d2df79e904e00c50811a3fb7c614d7f06b7be6d0"), looks := true }, kinds := [], alts := [], laidByText := true, laidKinds := [.data, .data, .data, .sentinel, .sentinel], laidTests := true, laidLooks := .later }
def GlyphEndsCardSaid : Prop := Claim7.holds Tryd.pinned (.plain (OpenSpec.ofChange glyphEndsSpec)) glyphEndsCard

/-- THE SECOND FORM's CARD OF 'redlinelaw03.GlyphUndo'. -/
def glyphUndoUptoCard : Claim7 := { stood := { row := glyphUndoUptoRow, standIns := [], harness := (true, "bfe90933493630323a5c9d88d2df79e904e00c50811a3fb7c614d7f06b7be6d0"), looks := true }, kinds := [], alts := [], laidByText := true, laidKinds := [.data, .data, .data], laidTests := true, laidLooks := .later }
def GlyphUndoUptoCardSaid : Prop := Claim7.holds Tryd.pinned (.plain (OpenSpec.upto glyphUndoSpec)) glyphUndoUptoCard

/-- THE SECOND FORM's CARD OF 'redlinelaw03.GlyphCuts'. -/
def glyphCutsUptoCard : Claim7 := { stood := { row := glyphCutsUptoRow, standIns := [], harness := (true, "bfe90933493630323a5c9d88d2df79e904e00c50811a3fb7c614d7f06b7be6d0"), looks := true }, kinds := [], alts := [], laidByText := true, laidKinds := [.data, .data, .data], laidTests := true, laidLooks := .later }
def GlyphCutsUptoCardSaid : Prop := Claim7.holds Tryd.pinned (.plain (OpenSpec.upto glyphCutsSpec)) glyphCutsUptoCard

/-- THE SECOND FORM's CARD OF 'redlinelaw03.GlyphChanges'. -/
def glyphChangesUptoCard : Claim7 := { stood := { row := glyphChangesUptoRow, standIns := [], harness := (true, "bfe90933493630323a5c9d88d2df79e904e00c50811a3fb7c614d7f06b7be6d0"), looks := true }, kinds := [], alts := [], laidByText := true, laidKinds := [.data, .data, .data], laidTests := true, laidLooks := .later }
def GlyphChangesUptoCardSaid : Prop := Claim7.holds Tryd.pinned (.plain (OpenSpec.upto glyphChangesSpec)) glyphChangesUptoCard

/-- THE SECOND FORM's CARD OF 'redlinelaw03.GlyphQuotes'. -/
def glyphQuotesUptoCard : Claim7 := { stood := { row := glyphQuotesUptoRow, standIns := [], harness := (true, "bfe90933493630323a5c9d88d2df79e904e00c50811a3fb7c614d7f06b7be6d0"), looks := true }, kinds := [], alts := [], laidByText := true, laidKinds := [.data, .data, .data, .sentinel, .sentinel], laidTests := true, laidLooks := .later }
def GlyphQuotesUptoCardSaid : Prop := Claim7.holds Tryd.pinned (.plain (OpenSpec.upto glyphQuotesSpec)) glyphQuotesUptoCard

/-- THE SECOND FORM's CARD OF 'redlinelaw03.GlyphBack'. -/
def glyphBackUptoCard : Claim7 := { stood := { row := glyphBackUptoRow, standIns := [], harness := (true, "bfe90933493630323a5c9d88d2df79e904e00c50811a3fb7c614d7f06b7be6d0"), looks := true }, kinds := [], alts := [], laidByText := true, laidKinds := [.data, .data, .data, .sentinel, .sentinel], laidTests := true, laidLooks := .later }
def GlyphBackUptoCardSaid : Prop := Claim7.holds Tryd.pinned (.plain (OpenSpec.upto glyphBackSpec)) glyphBackUptoCard

/-- THE SECOND FORM's CARD OF 'redlinelaw03.GlyphEnds'. -/
def glyphEndsUptoCard : Claim7 := { stood := { row := glyphEndsUptoRow, standIns := [], harness := (true, "bfe90933493630323a5c9d88d2df79e904e00c50811a3fb7c614d7f06b7be6d0"), looks := true }, kinds := [], alts := [], laidByText := true, laidKinds := [.data, .data, .data, .sentinel, .sentinel], laidTests := true, laidLooks := .later }
def GlyphEndsUptoCardSaid : Prop := Claim7.holds Tryd.pinned (.plain (OpenSpec.upto glyphEndsSpec)) glyphEndsUptoCard
end Rows
end Go.Proofs.YtdafbpjgjhfjmaaDoor
