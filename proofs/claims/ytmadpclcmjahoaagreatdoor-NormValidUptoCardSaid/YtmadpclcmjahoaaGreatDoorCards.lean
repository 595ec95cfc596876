/-
  DERIVED. GIVEN WITH THE SEED: THE CARDS: each row of YtmadpclcmjahoaaGreatDoorRows.lean that lists a variable, with what it lists TIED to the program's text (the seventh form; the later family's looks); each row that meets fmt, with fmt's text TOLD by the authors' own Lean function (tested against real Go, not proved from fmt's source: count such statements apart). THE CARD IS WHAT COUNTS. Prove the row's statement (the work); the ties are given (YtmadpclcmjahoaaGreatDoorTie.lean); close each card by the builder's one call (the guide's Derived/Test/ToyasCard.lean, 'card_holds'). Laid BY PROGRAM, IN A SANDBOX (cutbox-door.mjs). By AI agents, Wed Nov 11 2026. No macro, syntax, notation, axiom, sorry.
-/
import Derived.Test.YtmadpclcmjahoaaGreatDoorRows
import GoSem.ClaimSeven
namespace Go.Proofs.YtmadpclcmjahoaaGreatDoor
namespace Rows

/-- THE TIED CARD OF 'redlinelaw17.FixMarks'. -/
def fixMarksCard : Claim7 := { stood := { row := fixMarksRow, standIns := [], harness := (true, "3d7a327595326528b3dd3390befee846adb07ac4615fbc90812039d407c70e3b"), looks := false }, kinds := [], alts := [], laidByText := true, laidKinds := [.data, .pinned], laidTests := true, laidLooks := .later }
def FixMarksCardSaid : Prop := Claim7.holds Tryz.pinned (.plain (OpenSpec.ofChange fixMarksSpec)) fixMarksCard

/-- THE TIED CARD OF 'redlinelaw18.NormPicks'. -/
def normPicksCard : Claim7 := { stood := { row := normPicksRow, standIns := [], harness := (true, "3d7a327595326528b3dd3390befee846adb07ac4615fbc90812039d407c70e3b"), looks := false }, kinds := [], alts := [], laidByText := true, laidKinds := [.data, .pinned], laidTests := true, laidLooks := .later }
def NormPicksCardSaid : Prop := Claim7.holds Tryz.pinned (.plain (OpenSpec.ofChange normPicksSpec)) normPicksCard

/-- THE TIED CARD OF 'redlinelaw18.NormValid'. -/
def normValidCard : Claim7 := { stood := { row := normValidRow, standIns := [], harness := (true, "3d7a327595326528b3dd3390befee846adb07ac4615fbc90812039d407c70e3b"), looks := false }, kinds := [], alts := [], laidByText := true, laidKinds := [.data, .pinned], laidTests := true, laidLooks := .later }
def NormValidCardSaid : Prop := Claim7.holds Tryz.pinned (.plain (OpenSpec.ofChange normValidSpec)) normValidCard

/-- THE TIED CARD OF 'redlinelaw18.NormFixed'. -/
def normFixedCard : Claim7 := { stood := { row := normFixedRow, standIns := [], harness := (true, "3d7a327595326528b3dd3390befee846adb07ac4615fbc90812039d407c70e3b"), looks := false }, kinds := [], alts := [], laidByText := true, laidKinds := [.data, .pinned], laidTests := true, laidLooks := .later }
def NormFixedCardSaid : Prop := Claim7.holds Tryz.pinned (.plain (OpenSpec.ofChange normFixedSpec)) normFixedCard

/-- THE TIED CARD OF 'redlinelaw19.WeightBounds'. -/
def weightBoundsCard : Claim7 := { stood := { row := weightBoundsRow, standIns := [], harness := (true, "3d7a327595326528b3dd3390befee846adb07ac4615fbc90812039d407c70e3b"), looks := false }, kinds := [], alts := [], laidByText := true, laidKinds := [.data, .pinned], laidTests := true, laidLooks := .later }
def WeightBoundsCardSaid : Prop := Claim7.holds Tryz.pinned (.plain (OpenSpec.ofChange weightBoundsSpec)) weightBoundsCard

/-- THE SECOND FORM's CARD OF 'redlinelaw17.FixMarks'. -/
def fixMarksUptoCard : Claim7 := { stood := { row := fixMarksUptoRow, standIns := [], harness := (true, "3d7a327595326528b3dd3390befee846adb07ac4615fbc90812039d407c70e3b"), looks := false }, kinds := [], alts := [], laidByText := true, laidKinds := [.data, .pinned], laidTests := true, laidLooks := .later }
def FixMarksUptoCardSaid : Prop := Claim7.holds Tryz.pinned (.plain (OpenSpec.upto fixMarksSpec)) fixMarksUptoCard

/-- THE SECOND FORM's CARD OF 'redlinelaw18.NormPicks'. -/
def normPicksUptoCard : Claim7 := { stood := { row := normPicksUptoRow, standIns := [], harness := (true, "3d7a327595326528b3dd3390befee846adb07ac4615fbc90812039d407c70e3b"), looks := false }, kinds := [], alts := [], laidByText := true, laidKinds := [.data, .pinned], laidTests := true, laidLooks := .later }
def NormPicksUptoCardSaid : Prop := Claim7.holds Tryz.pinned (.plain (OpenSpec.upto normPicksSpec)) normPicksUptoCard

/-- THE SECOND FORM's CARD OF 'redlinelaw18.NormValid'. -/
def normValidUptoCard : Claim7 := { stood := { row := normValidUptoRow, standIns := [], harness := (true, "3d7a327595326528b3dd3390befee846adb07ac4615fbc90812039d407c70e3b"), looks := false }, kinds := [], alts := [], laidByText := true, laidKinds := [.data, .pinned], laidTests := true, laidLooks := .later }
def NormValidUptoCardSaid : Prop := Claim7.holds Tryz.pinned (.plain (OpenSpec.upto normValidSpec)) normValidUptoCard

/-- THE SECOND FORM's CARD OF 'redlinelaw18.NormFixed'. -/
def normFixedUptoCard : Claim7 := { stood := { row := normFixedUptoRow, standIns := [], harness := (true, "3d7a327595326528b3dd3390befee846adb07ac4615fbc90812039d407c70e3b"), looks := false }, kinds := [], alts := [], laidByText := true, laidKinds := [.data, .pinned], laidTests := true, laidLooks := .later }
def NormFixedUptoCardSaid : Prop := Claim7.holds Tryz.pinned (.plain (OpenSpec.upto normFixedSpec)) normFixedUptoCard

/-- THE SECOND FORM's CARD OF 'redlinelaw19.WeightBounds'. -/
def weightBoundsUptoCard : Claim7 := { stood := { row := weightBoundsUptoRow, standIns := [], harness := (true, "3d7a327595326528b3dd3390befee846adb07ac4615fbc90812039d407c70e3b"), looks := false }, kinds := [], alts := [], laidByText := true, laidKinds := [.data, .pinned], laidTests := true, laidLooks := .later }
def WeightBoundsUptoCardSaid : Prop := Claim7.holds Tryz.pinned (.plain (OpenSpec.upto weightBoundsSpec)) weightBoundsUptoCard
end Rows
end Go.Proofs.YtmadpclcmjahoaaGreatDoor
