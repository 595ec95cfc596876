/-
  NARROWER THAN 'FOR EVERY INPUT', by the rows' own cells (each row's printed sentence says how): FixCan: loops, laid · FixHere: loops, laid · FixLess: loops, laid · FixText: loops, laid · FixMarks: loops, laid.
  DERIVED. THE GIVEN ROWS OF THIS SEAT. 5 by the template 'for every input the law returns true; each argument reads behind the call as it read before'; 0 by the template 'total and deterministic' (their statements: YtaopoincbigjhaaGreatDoorTotals.lean).
  GIVEN WITH THE SEED: the statements are not yours to turn. If you find one false, say at which input.
  Laid BY PROGRAM, IN A SANDBOX (cutbox-rows.mjs): the forced cells as the released guide's own fill.sh prints them over the translation 604d2dd9926ab7cf… (all of the seat's roots in one cut). By AI agents, Wed Nov 11 2026. No macro, syntax, notation, axiom, sorry.
-/
import Derived.Test.YtaopoincbigjhaaGreatDoorChecked
import GoSem.PinnedTables
import GoSem.Claim
import GoSem.ClaimJoined
import GoSem.ClaimMapViews
import Derived.JoinedTies
import Derived.KernelRfl
namespace Go.Proofs.YtaopoincbigjhaaGreatDoor
/- THE CELL 'sum', in the pinned program and in every row, IS THE sha256 OF THE DUMP (.gsa) THAT YtaopoincbigjhaaGreatDoorProg.lean LOADS. Nothing in Lean hashes anything: it is a label: what it is worth is what the hold of that sum in a sandbox is worth. -/
noncomputable def Tryz.pinned : Pinned := { name := "ytaopoincbigjhaagreatdoor", sum := "604d2dd9926ab7cf54344a879dccbfb8a0459b11a6f946ff2c390d9a46c214f3", checked := Tryz.checked }
namespace Rows
def none {H : Type} : Left H := { results := [], args := [] }

/- WHAT THE LISTED PACKAGE-LEVEL VARIABLES READ AS WHEN THE CALL BEGINS. Each datum BY PROGRAM (the guide's laid-datum.mjs) off the statement by which the dump's own 'gosem.cut.vars' lays the variable. In a bare row this is a premise. The card (YtaopoincbigjhaaGreatDoorCards.lean) ties it to the program's text. -/
def laid_unicode_utf8_acceptRanges {H : Type} : DataW H := .agg [.agg [.lit (.int .u8 128), .lit (.int .u8 191)], .agg [.lit (.int .u8 160), .lit (.int .u8 191)], .agg [.lit (.int .u8 128), .lit (.int .u8 159)], .agg [.lit (.int .u8 144), .lit (.int .u8 191)], .agg [.lit (.int .u8 128), .lit (.int .u8 143)], .agg [.lit (.int .u8 0), .lit (.int .u8 0)], .agg [.lit (.int .u8 0), .lit (.int .u8 0)], .agg [.lit (.int .u8 0), .lit (.int .u8 0)], .agg [.lit (.int .u8 0), .lit (.int .u8 0)], .agg [.lit (.int .u8 0), .lit (.int .u8 0)], .agg [.lit (.int .u8 0), .lit (.int .u8 0)], .agg [.lit (.int .u8 0), .lit (.int .u8 0)], .agg [.lit (.int .u8 0), .lit (.int .u8 0)], .agg [.lit (.int .u8 0), .lit (.int .u8 0)], .agg [.lit (.int .u8 0), .lit (.int .u8 0)], .agg [.lit (.int .u8 0), .lit (.int .u8 0)]]
/-- One of Go's own tables, pinned by name: the form's constant. -/
def laid_unicode_utf8_first : DataW Unit := Go.Pinned.utf8First

/-- 'redlinelaw17.FixCan': WHATEVER THE INPUT: true; the input reads as it did. -/
def fixCanSpec : ChangeSpec := { name := "fixCan", fn := fun _ => fun
  | [d1, d2, d3] => { results := [.lit (.bool true)], args := [d1, d2, d3] }
  | _ => none }
def fixCanRow : OpenClaim := { program := "ytaopoincbigjhaagreatdoor", sum := "604d2dd9926ab7cf54344a879dccbfb8a0459b11a6f946ff2c390d9a46c214f3", func := "redline/redlinelaw17.FixCan", spec := "fixCan", inPlace := ["internal/bytealg.IndexByteString", "internal/bytealg.IndexString", "slices.overlaps[redline/api.Node]"], unfollowed := true, recurses := true, named := ["unicode/utf8.first", "unicode/utf8.acceptRanges", "internal/bytealg.MaxLen"], loops := true, apart := false, laid := [("unicode/utf8.acceptRanges", laid_unicode_utf8_acceptRanges), ("unicode/utf8.first", laid_unicode_utf8_first)] }
def FixCanSaid : Prop := fixCanRow.holds Tryz.pinned (OpenSpec.ofChange fixCanSpec)

/-- ITS FALSE NEIGHBOUR: 'it returns false'. Refute it at one input. -/
def fixCanWrong : ChangeSpec := { name := "fixCan", fn := fun _ => fun
  | [d1, d2, d3] => { results := [.lit (.bool false)], args := [d1, d2, d3] }
  | _ => none }
def FixCanWrongFalsely : Prop := fixCanRow.holds Tryz.pinned (OpenSpec.ofChange fixCanWrong)

/-- 'redlinelaw17.FixHere': WHATEVER THE INPUT: true; the input reads as it did. -/
def fixHereSpec : ChangeSpec := { name := "fixHere", fn := fun _ => fun
  | [d1, d2, d3, d4] => { results := [.lit (.bool true)], args := [d1, d2, d3, d4] }
  | _ => none }
def fixHereRow : OpenClaim := { program := "ytaopoincbigjhaagreatdoor", sum := "604d2dd9926ab7cf54344a879dccbfb8a0459b11a6f946ff2c390d9a46c214f3", func := "redline/redlinelaw17.FixHere", spec := "fixHere", inPlace := ["internal/bytealg.IndexByteString", "internal/bytealg.IndexString", "slices.overlaps[redline/api.Node]"], unfollowed := true, recurses := true, named := ["unicode/utf8.first", "unicode/utf8.acceptRanges", "internal/bytealg.MaxLen"], loops := true, apart := false, laid := [("unicode/utf8.acceptRanges", laid_unicode_utf8_acceptRanges), ("unicode/utf8.first", laid_unicode_utf8_first)] }
def FixHereSaid : Prop := fixHereRow.holds Tryz.pinned (OpenSpec.ofChange fixHereSpec)

/-- ITS FALSE NEIGHBOUR: 'it returns false'. Refute it at one input. -/
def fixHereWrong : ChangeSpec := { name := "fixHere", fn := fun _ => fun
  | [d1, d2, d3, d4] => { results := [.lit (.bool false)], args := [d1, d2, d3, d4] }
  | _ => none }
def FixHereWrongFalsely : Prop := fixHereRow.holds Tryz.pinned (OpenSpec.ofChange fixHereWrong)

/-- 'redlinelaw17.FixLess': WHATEVER THE INPUT: true; the input reads as it did. -/
def fixLessSpec : ChangeSpec := { name := "fixLess", fn := fun _ => fun
  | [d1, d2, d3] => { results := [.lit (.bool true)], args := [d1, d2, d3] }
  | _ => none }
def fixLessRow : OpenClaim := { program := "ytaopoincbigjhaagreatdoor", sum := "604d2dd9926ab7cf54344a879dccbfb8a0459b11a6f946ff2c390d9a46c214f3", func := "redline/redlinelaw17.FixLess", spec := "fixLess", inPlace := ["internal/bytealg.IndexByteString", "internal/bytealg.IndexString", "slices.overlaps[redline/api.Node]"], unfollowed := true, recurses := true, named := ["unicode/utf8.first", "unicode/utf8.acceptRanges", "internal/bytealg.MaxLen"], loops := true, apart := false, laid := [("unicode/utf8.acceptRanges", laid_unicode_utf8_acceptRanges), ("unicode/utf8.first", laid_unicode_utf8_first)] }
def FixLessSaid : Prop := fixLessRow.holds Tryz.pinned (OpenSpec.ofChange fixLessSpec)

/-- ITS FALSE NEIGHBOUR: 'it returns false'. Refute it at one input. -/
def fixLessWrong : ChangeSpec := { name := "fixLess", fn := fun _ => fun
  | [d1, d2, d3] => { results := [.lit (.bool false)], args := [d1, d2, d3] }
  | _ => none }
def FixLessWrongFalsely : Prop := fixLessRow.holds Tryz.pinned (OpenSpec.ofChange fixLessWrong)

/-- 'redlinelaw17.FixText': WHATEVER THE INPUT: true; the input reads as it did. -/
def fixTextSpec : ChangeSpec := { name := "fixText", fn := fun _ => fun
  | [d1, d2, d3] => { results := [.lit (.bool true)], args := [d1, d2, d3] }
  | _ => none }
def fixTextRow : OpenClaim := { program := "ytaopoincbigjhaagreatdoor", sum := "604d2dd9926ab7cf54344a879dccbfb8a0459b11a6f946ff2c390d9a46c214f3", func := "redline/redlinelaw17.FixText", spec := "fixText", inPlace := ["internal/bytealg.IndexByteString", "internal/bytealg.IndexString", "slices.overlaps[redline/api.Node]"], unfollowed := true, recurses := true, named := ["unicode/utf8.first", "unicode/utf8.acceptRanges", "internal/bytealg.MaxLen"], loops := true, apart := false, laid := [("unicode/utf8.acceptRanges", laid_unicode_utf8_acceptRanges), ("unicode/utf8.first", laid_unicode_utf8_first)] }
def FixTextSaid : Prop := fixTextRow.holds Tryz.pinned (OpenSpec.ofChange fixTextSpec)

/-- ITS FALSE NEIGHBOUR: 'it returns false'. Refute it at one input. -/
def fixTextWrong : ChangeSpec := { name := "fixText", fn := fun _ => fun
  | [d1, d2, d3] => { results := [.lit (.bool false)], args := [d1, d2, d3] }
  | _ => none }
def FixTextWrongFalsely : Prop := fixTextRow.holds Tryz.pinned (OpenSpec.ofChange fixTextWrong)

/-- 'redlinelaw17.FixMarks': WHATEVER THE INPUT: true; the input reads as it did. -/
def fixMarksSpec : ChangeSpec := { name := "fixMarks", fn := fun _ => fun
  | [d1, d2, d3] => { results := [.lit (.bool true)], args := [d1, d2, d3] }
  | _ => none }
def fixMarksRow : OpenClaim := { program := "ytaopoincbigjhaagreatdoor", sum := "604d2dd9926ab7cf54344a879dccbfb8a0459b11a6f946ff2c390d9a46c214f3", func := "redline/redlinelaw17.FixMarks", spec := "fixMarks", inPlace := ["internal/bytealg.IndexByteString", "internal/bytealg.IndexString", "slices.overlaps[redline/api.Node]"], unfollowed := true, recurses := true, named := ["unicode/utf8.first", "unicode/utf8.acceptRanges", "internal/bytealg.MaxLen"], loops := true, apart := false, laid := [("unicode/utf8.acceptRanges", laid_unicode_utf8_acceptRanges), ("unicode/utf8.first", laid_unicode_utf8_first)] }
def FixMarksSaid : Prop := fixMarksRow.holds Tryz.pinned (OpenSpec.ofChange fixMarksSpec)

/-- ITS FALSE NEIGHBOUR: 'it returns false'. Refute it at one input. -/
def fixMarksWrong : ChangeSpec := { name := "fixMarks", fn := fun _ => fun
  | [d1, d2, d3] => { results := [.lit (.bool false)], args := [d1, d2, d3] }
  | _ => none }
def FixMarksWrongFalsely : Prop := fixMarksRow.holds Tryz.pinned (OpenSpec.ofChange fixMarksWrong)

/- THE SECOND FORM. 'bulk': how many values and letters a reading holds, each counted each time it is reached (what is shared counts as often as it is met; a slice's spare places count too). A statement '..UptoSaid' is the law's where the arguments, and the package variables that the reading takes, are together of bulk at most 1048576: NARROWER than '..Said'. Prove '..Said' where nothing that the law and all that it calls make is longer than what came in: it says more and counts as full. Else prove '..UptoSaid'. A law counts once. -/
mutual
def uptoBulk {H : Type} : DataW H → Nat
  | .lit (.string bytes) => bytes.length + 1
  | .lit _ => 1
  | .nil => 1
  | .ptr d => uptoBulk d + 1
  | .slice elems spare => uptoBulkAll elems + uptoBulkAll spare + 1
  | .agg parts => uptoBulkAll parts + 1
  | .iface _ d => uptoBulk d + 1
  | .map entries => uptoBulkEntries entries + 1
  | .held _ => 1
def uptoBulkAll {H : Type} : List (DataW H) → Nat
  | [] => 0
  | d :: r => uptoBulk d + uptoBulkAll r
def uptoBulkEntries {H : Type} : List (Lit × DataW H) → Nat
  | [] => 0
  | x :: r => uptoBulkEntry x + uptoBulkEntries r
def uptoBulkEntry {H : Type} : Lit × DataW H → Nat
  | (.string bytes, d) => bytes.length + uptoBulk d + 1
  | (_, d) => uptoBulk d + 1
 end
def uptoSmall : (H : Type) → List (DataW H) → Bool := fun _ ds => decide (uptoBulkAll ds ≤ 1048576)
def OpenSpec.upto (s : _root_.Go.ChangeSpec) : _root_.Go.OpenSpec := { _root_.Go.OpenSpec.ofChange s with cond := some uptoSmall }

/-- 'redlinelaw17.FixCan', WHERE WHAT IT READS IS OF BULK AT MOST 1048576: true; the input reads as it did. -/
def fixCanUptoRow : OpenClaim := { program := "ytaopoincbigjhaagreatdoor", sum := "604d2dd9926ab7cf54344a879dccbfb8a0459b11a6f946ff2c390d9a46c214f3", func := "redline/redlinelaw17.FixCan", spec := "fixCan", inPlace := ["internal/bytealg.IndexByteString", "internal/bytealg.IndexString", "slices.overlaps[redline/api.Node]"], unfollowed := true, recurses := true, named := ["unicode/utf8.first", "unicode/utf8.acceptRanges", "internal/bytealg.MaxLen"], loops := true, apart := false, laid := [("unicode/utf8.acceptRanges", laid_unicode_utf8_acceptRanges), ("unicode/utf8.first", laid_unicode_utf8_first)], narrowed := true }
def FixCanUptoSaid : Prop := fixCanUptoRow.holds Tryz.pinned (OpenSpec.upto fixCanSpec)

/-- 'redlinelaw17.FixHere', WHERE WHAT IT READS IS OF BULK AT MOST 1048576: true; the input reads as it did. -/
def fixHereUptoRow : OpenClaim := { program := "ytaopoincbigjhaagreatdoor", sum := "604d2dd9926ab7cf54344a879dccbfb8a0459b11a6f946ff2c390d9a46c214f3", func := "redline/redlinelaw17.FixHere", spec := "fixHere", inPlace := ["internal/bytealg.IndexByteString", "internal/bytealg.IndexString", "slices.overlaps[redline/api.Node]"], unfollowed := true, recurses := true, named := ["unicode/utf8.first", "unicode/utf8.acceptRanges", "internal/bytealg.MaxLen"], loops := true, apart := false, laid := [("unicode/utf8.acceptRanges", laid_unicode_utf8_acceptRanges), ("unicode/utf8.first", laid_unicode_utf8_first)], narrowed := true }
def FixHereUptoSaid : Prop := fixHereUptoRow.holds Tryz.pinned (OpenSpec.upto fixHereSpec)

/-- 'redlinelaw17.FixLess', WHERE WHAT IT READS IS OF BULK AT MOST 1048576: true; the input reads as it did. -/
def fixLessUptoRow : OpenClaim := { program := "ytaopoincbigjhaagreatdoor", sum := "604d2dd9926ab7cf54344a879dccbfb8a0459b11a6f946ff2c390d9a46c214f3", func := "redline/redlinelaw17.FixLess", spec := "fixLess", inPlace := ["internal/bytealg.IndexByteString", "internal/bytealg.IndexString", "slices.overlaps[redline/api.Node]"], unfollowed := true, recurses := true, named := ["unicode/utf8.first", "unicode/utf8.acceptRanges", "internal/bytealg.MaxLen"], loops := true, apart := false, laid := [("unicode/utf8.acceptRanges", laid_unicode_utf8_acceptRanges), ("unicode/utf8.first", laid_unicode_utf8_first)], narrowed := true }
def FixLessUptoSaid : Prop := fixLessUptoRow.holds Tryz.pinned (OpenSpec.upto fixLessSpec)

/-- 'redlinelaw17.FixText', WHERE WHAT IT READS IS OF BULK AT MOST 1048576: true; the input reads as it did. -/
def fixTextUptoRow : OpenClaim := { program := "ytaopoincbigjhaagreatdoor", sum := "604d2dd9926ab7cf54344a879dccbfb8a0459b11a6f946ff2c390d9a46c214f3", func := "redline/redlinelaw17.FixText", spec := "fixText", inPlace := ["internal/bytealg.IndexByteString", "internal/bytealg.IndexString", "slices.overlaps[redline/api.Node]"], unfollowed := true, recurses := true, named := ["unicode/utf8.first", "unicode/utf8.acceptRanges", "internal/bytealg.MaxLen"], loops := true, apart := false, laid := [("unicode/utf8.acceptRanges", laid_unicode_utf8_acceptRanges), ("unicode/utf8.first", laid_unicode_utf8_first)], narrowed := true }
def FixTextUptoSaid : Prop := fixTextUptoRow.holds Tryz.pinned (OpenSpec.upto fixTextSpec)

/-- 'redlinelaw17.FixMarks', WHERE WHAT IT READS IS OF BULK AT MOST 1048576: true; the input reads as it did. -/
def fixMarksUptoRow : OpenClaim := { program := "ytaopoincbigjhaagreatdoor", sum := "604d2dd9926ab7cf54344a879dccbfb8a0459b11a6f946ff2c390d9a46c214f3", func := "redline/redlinelaw17.FixMarks", spec := "fixMarks", inPlace := ["internal/bytealg.IndexByteString", "internal/bytealg.IndexString", "slices.overlaps[redline/api.Node]"], unfollowed := true, recurses := true, named := ["unicode/utf8.first", "unicode/utf8.acceptRanges", "internal/bytealg.MaxLen"], loops := true, apart := false, laid := [("unicode/utf8.acceptRanges", laid_unicode_utf8_acceptRanges), ("unicode/utf8.first", laid_unicode_utf8_first)], narrowed := true }
def FixMarksUptoSaid : Prop := fixMarksUptoRow.holds Tryz.pinned (OpenSpec.upto fixMarksSpec)

end Rows
end Go.Proofs.YtaopoincbigjhaaGreatDoor
