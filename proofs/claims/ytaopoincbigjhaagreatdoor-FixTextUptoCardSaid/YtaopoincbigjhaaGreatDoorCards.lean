/-
  DERIVED. GIVEN WITH THE SEED: THE CARDS: each row of YtaopoincbigjhaaGreatDoorRows.lean that lists a variable, with what it lists TIED to the program's text (the seventh form; the later family's looks); each row that meets fmt, with fmt's text TOLD by the authors' own Lean function (tested against real Go, not proved from fmt's source: count such statements apart). THE CARD IS WHAT COUNTS. Prove the row's statement (the work); the ties are given (YtaopoincbigjhaaGreatDoorTie.lean); close each card by the builder's one call (the guide's Derived/Test/ToyasCard.lean, 'card_holds'). Laid BY PROGRAM, IN A SANDBOX (cutbox-door.mjs). By AI agents, Wed Nov 11 2026. No macro, syntax, notation, axiom, sorry.
-/
import Derived.Test.YtaopoincbigjhaaGreatDoorRows
import GoSem.ClaimSeven
namespace Go.Proofs.YtaopoincbigjhaaGreatDoor
namespace Rows

/-- THE TIED CARD OF 'redlinelaw17.FixCan'. -/
def fixCanCard : Claim7 := { stood := { row := fixCanRow, standIns := [], harness := (true, "2301081a734759df95989fea908af6b11bd12c8d7b7b1807c52236982ab03f9b"), looks := false }, kinds := [], alts := [], laidByText := true, laidKinds := [.data, .pinned], laidTests := true, laidLooks := .later }
def FixCanCardSaid : Prop := Claim7.holds Tryz.pinned (.plain (OpenSpec.ofChange fixCanSpec)) fixCanCard

/-- THE TIED CARD OF 'redlinelaw17.FixHere'. -/
def fixHereCard : Claim7 := { stood := { row := fixHereRow, standIns := [], harness := (true, "2301081a734759df95989fea908af6b11bd12c8d7b7b1807c52236982ab03f9b"), looks := false }, kinds := [], alts := [], laidByText := true, laidKinds := [.data, .pinned], laidTests := true, laidLooks := .later }
def FixHereCardSaid : Prop := Claim7.holds Tryz.pinned (.plain (OpenSpec.ofChange fixHereSpec)) fixHereCard

/-- THE TIED CARD OF 'redlinelaw17.FixLess'. -/
def fixLessCard : Claim7 := { stood := { row := fixLessRow, standIns := [], harness := (true, "2301081a734759df95989fea908af6b11bd12c8d7b7b1807c52236982ab03f9b"), looks := false }, kinds := [], alts := [], laidByText := true, laidKinds := [.data, .pinned], laidTests := true, laidLooks := .later }
def FixLessCardSaid : Prop := Claim7.holds Tryz.pinned (.plain (OpenSpec.ofChange fixLessSpec)) fixLessCard

/-- THE TIED CARD OF 'redlinelaw17.FixText'. -/
def fixTextCard : Claim7 := { stood := { row := fixTextRow, standIns := [], harness := (true, "2301081a734759df95989fea908af6b11bd12c8d7b7b1807c52236982ab03f9b"), looks := false }, kinds := [], alts := [], laidByText := true, laidKinds := [.data, .pinned], laidTests := true, laidLooks := .later }
def FixTextCardSaid : Prop := Claim7.holds Tryz.pinned (.plain (OpenSpec.ofChange fixTextSpec)) fixTextCard

/-- THE TIED CARD OF 'redlinelaw17.FixMarks'. -/
def fixMarksCard : Claim7 := { stood := { row := fixMarksRow, standIns := [], harness := (true, "2301081a734759df95989fea908af6b11bd12c8d7b7b1807c52236982ab03f9b"), looks := false }, kinds := [], alts := [], laidByText := true, laidKinds := [.data, .pinned], laidTests := true, laidLooks := .later }
def FixMarksCardSaid : Prop := Claim7.holds Tryz.pinned (.plain (OpenSpec.ofChange fixMarksSpec)) fixMarksCard

/-- THE SECOND FORM's CARD OF 'redlinelaw17.FixCan'. -/
def fixCanUptoCard : Claim7 := { stood := { row := fixCanUptoRow, standIns := [], harness := (true, "2301081a734759df95989fea908af6b11bd12c8d7b7b1807c52236982ab03f9b"), looks := false }, kinds := [], alts := [], laidByText := true, laidKinds := [.data, .pinned], laidTests := true, laidLooks := .later }
def FixCanUptoCardSaid : Prop := Claim7.holds Tryz.pinned (.plain (OpenSpec.upto fixCanSpec)) fixCanUptoCard

/-- THE SECOND FORM's CARD OF 'redlinelaw17.FixHere'. -/
def fixHereUptoCard : Claim7 := { stood := { row := fixHereUptoRow, standIns := [], harness := (true, "2301081a734759df95989fea908af6b11bd12c8d7b7b1807c52236982ab03f9b"), looks := false }, kinds := [], alts := [], laidByText := true, laidKinds := [.data, .pinned], laidTests := true, laidLooks := .later }
def FixHereUptoCardSaid : Prop := Claim7.holds Tryz.pinned (.plain (OpenSpec.upto fixHereSpec)) fixHereUptoCard

/-- THE SECOND FORM's CARD OF 'redlinelaw17.FixLess'. -/
def fixLessUptoCard : Claim7 := { stood := { row := fixLessUptoRow, standIns := [], harness := (true, "2301081a734759df95989fea908af6b11bd12c8d7b7b1807c52236982ab03f9b"), looks := false }, kinds := [], alts := [], laidByText := true, laidKinds := [.data, .pinned], laidTests := true, laidLooks := .later }
def FixLessUptoCardSaid : Prop := Claim7.holds Tryz.pinned (.plain (OpenSpec.upto fixLessSpec)) fixLessUptoCard

/-- THE SECOND FORM's CARD OF 'redlinelaw17.FixText'. -/
def fixTextUptoCard : Claim7 := { stood := { row := fixTextUptoRow, standIns := [], harness := (true, "2301081a734759df95989fea908af6b11bd12c8d7b7b1807c52236982ab03f9b"), looks := false }, kinds := [], alts := [], laidByText := true, laidKinds := [.data, .pinned], laidTests := true, laidLooks := .later }
def FixTextUptoCardSaid : Prop := Claim7.holds Tryz.pinned (.plain (OpenSpec.upto fixTextSpec)) fixTextUptoCard

/-- THE SECOND FORM's CARD OF 'redlinelaw17.FixMarks'. -/
def fixMarksUptoCard : Claim7 := { stood := { row := fixMarksUptoRow, standIns := [], harness := (true, "2301081a734759df95989fea908af6b11bd12c8d7b7b1807c52236982ab03f9b"), looks := false }, kinds := [], alts := [], laidByText := true, laidKinds := [.data, .pinned], laidTests := true, laidLooks := .later }
def FixMarksUptoCardSaid : Prop := Claim7.holds Tryz.pinned (.plain (OpenSpec.upto fixMarksSpec)) fixMarksUptoCard
end Rows
end Go.Proofs.YtaopoincbigjhaaGreatDoor
