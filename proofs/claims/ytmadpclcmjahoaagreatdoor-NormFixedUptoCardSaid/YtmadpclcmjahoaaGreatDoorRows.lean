/-
  NARROWER THAN 'FOR EVERY INPUT', by the rows' own cells (each row's printed sentence says how): FixMarks: loops, laid · NormPicks: loops, laid · NormValid: loops, laid · NormFixed: loops, laid · WeightBounds: loops, laid.
  DERIVED. THE GIVEN ROWS OF THIS SEAT. 5 by the template 'for every input the law returns true; each argument reads behind the call as it read before'; 0 by the template 'total and deterministic' (their statements: YtmadpclcmjahoaaGreatDoorTotals.lean).
  GIVEN WITH THE SEED: the statements are not yours to turn. If you find one false, say at which input.
  Laid BY PROGRAM, IN A SANDBOX (cutbox-rows.mjs): the forced cells as the released guide's own fill.sh prints them over the translation 23ef72ab23147924… (all of the seat's roots in one cut). By AI agents, Wed Nov 11 2026. No macro, syntax, notation, axiom, sorry.
-/
import Derived.Test.YtmadpclcmjahoaaGreatDoorChecked
import GoSem.PinnedTables
import GoSem.Claim
import GoSem.ClaimJoined
import GoSem.ClaimMapViews
import Derived.JoinedTies
import Derived.KernelRfl
namespace Go.Proofs.YtmadpclcmjahoaaGreatDoor
/- THE CELL 'sum', in the pinned program and in every row, IS THE sha256 OF THE DUMP (.gsa) THAT YtmadpclcmjahoaaGreatDoorProg.lean LOADS. Nothing in Lean hashes anything: it is a label: what it is worth is what the hold of that sum in a sandbox is worth. -/
noncomputable def Tryz.pinned : Pinned := { name := "ytmadpclcmjahoaagreatdoor", sum := "23ef72ab231479240adfe1f073e20079f11120b43c30c0ed31b4c00b1bd02073", checked := Tryz.checked }
namespace Rows
def none {H : Type} : Left H := { results := [], args := [] }

/- WHAT THE LISTED PACKAGE-LEVEL VARIABLES READ AS WHEN THE CALL BEGINS. Each datum BY PROGRAM (the guide's laid-datum.mjs) off the statement by which the dump's own 'gosem.cut.vars' lays the variable. In a bare row this is a premise. The card (YtmadpclcmjahoaaGreatDoorCards.lean) ties it to the program's text. -/
def laid_unicode_utf8_acceptRanges {H : Type} : DataW H := .agg [.agg [.lit (.int .u8 128), .lit (.int .u8 191)], .agg [.lit (.int .u8 160), .lit (.int .u8 191)], .agg [.lit (.int .u8 128), .lit (.int .u8 159)], .agg [.lit (.int .u8 144), .lit (.int .u8 191)], .agg [.lit (.int .u8 128), .lit (.int .u8 143)], .agg [.lit (.int .u8 0), .lit (.int .u8 0)], .agg [.lit (.int .u8 0), .lit (.int .u8 0)], .agg [.lit (.int .u8 0), .lit (.int .u8 0)], .agg [.lit (.int .u8 0), .lit (.int .u8 0)], .agg [.lit (.int .u8 0), .lit (.int .u8 0)], .agg [.lit (.int .u8 0), .lit (.int .u8 0)], .agg [.lit (.int .u8 0), .lit (.int .u8 0)], .agg [.lit (.int .u8 0), .lit (.int .u8 0)], .agg [.lit (.int .u8 0), .lit (.int .u8 0)], .agg [.lit (.int .u8 0), .lit (.int .u8 0)], .agg [.lit (.int .u8 0), .lit (.int .u8 0)]]
/-- One of Go's own tables, pinned by name: the form's constant. -/
def laid_unicode_utf8_first : DataW Unit := Go.Pinned.utf8First

/-- 'redlinelaw17.FixMarks': WHATEVER THE INPUT: true; the input reads as it did. -/
def fixMarksSpec : ChangeSpec := { name := "fixMarks", fn := fun _ => fun
  | [d1, d2, d3] => { results := [.lit (.bool true)], args := [d1, d2, d3] }
  | _ => none }
def fixMarksRow : OpenClaim := { program := "ytmadpclcmjahoaagreatdoor", sum := "23ef72ab231479240adfe1f073e20079f11120b43c30c0ed31b4c00b1bd02073", func := "redline/redlinelaw17.FixMarks", spec := "fixMarks", inPlace := ["internal/bytealg.IndexByteString", "internal/bytealg.IndexString", "slices.overlaps[redline/api.Node]"], unfollowed := true, recurses := true, named := ["unicode/utf8.first", "unicode/utf8.acceptRanges", "internal/bytealg.MaxLen"], loops := true, apart := false, laid := [("unicode/utf8.acceptRanges", laid_unicode_utf8_acceptRanges), ("unicode/utf8.first", laid_unicode_utf8_first)] }
def FixMarksSaid : Prop := fixMarksRow.holds Tryz.pinned (OpenSpec.ofChange fixMarksSpec)

/-- ITS FALSE NEIGHBOUR: 'it returns false'. Refute it at one input. -/
def fixMarksWrong : ChangeSpec := { name := "fixMarks", fn := fun _ => fun
  | [d1, d2, d3] => { results := [.lit (.bool false)], args := [d1, d2, d3] }
  | _ => none }
def FixMarksWrongFalsely : Prop := fixMarksRow.holds Tryz.pinned (OpenSpec.ofChange fixMarksWrong)

/-- 'redlinelaw18.NormPicks': WHATEVER THE INPUT: true; the input reads as it did. -/
def normPicksSpec : ChangeSpec := { name := "normPicks", fn := fun _ => fun
  | [d1, d2, d3] => { results := [.lit (.bool true)], args := [d1, d2, d3] }
  | _ => none }
def normPicksRow : OpenClaim := { program := "ytmadpclcmjahoaagreatdoor", sum := "23ef72ab231479240adfe1f073e20079f11120b43c30c0ed31b4c00b1bd02073", func := "redline/redlinelaw18.NormPicks", spec := "normPicks", inPlace := ["internal/bytealg.IndexByteString", "internal/bytealg.IndexString", "slices.overlaps[redline/api.Node]"], unfollowed := true, recurses := true, named := ["unicode/utf8.first", "unicode/utf8.acceptRanges", "internal/bytealg.MaxLen"], loops := true, apart := false, laid := [("unicode/utf8.acceptRanges", laid_unicode_utf8_acceptRanges), ("unicode/utf8.first", laid_unicode_utf8_first)] }
def NormPicksSaid : Prop := normPicksRow.holds Tryz.pinned (OpenSpec.ofChange normPicksSpec)

/-- ITS FALSE NEIGHBOUR: 'it returns false'. Refute it at one input. -/
def normPicksWrong : ChangeSpec := { name := "normPicks", fn := fun _ => fun
  | [d1, d2, d3] => { results := [.lit (.bool false)], args := [d1, d2, d3] }
  | _ => none }
def NormPicksWrongFalsely : Prop := normPicksRow.holds Tryz.pinned (OpenSpec.ofChange normPicksWrong)

/-- 'redlinelaw18.NormValid': WHATEVER THE INPUT: true; the input reads as it did. -/
def normValidSpec : ChangeSpec := { name := "normValid", fn := fun _ => fun
  | [d1, d2, d3] => { results := [.lit (.bool true)], args := [d1, d2, d3] }
  | _ => none }
def normValidRow : OpenClaim := { program := "ytmadpclcmjahoaagreatdoor", sum := "23ef72ab231479240adfe1f073e20079f11120b43c30c0ed31b4c00b1bd02073", func := "redline/redlinelaw18.NormValid", spec := "normValid", inPlace := ["internal/bytealg.IndexByteString", "internal/bytealg.IndexString", "slices.overlaps[redline/api.Node]"], unfollowed := true, recurses := true, named := ["unicode/utf8.first", "unicode/utf8.acceptRanges", "internal/bytealg.MaxLen"], loops := true, apart := false, laid := [("unicode/utf8.acceptRanges", laid_unicode_utf8_acceptRanges), ("unicode/utf8.first", laid_unicode_utf8_first)] }
def NormValidSaid : Prop := normValidRow.holds Tryz.pinned (OpenSpec.ofChange normValidSpec)

/-- ITS FALSE NEIGHBOUR: 'it returns false'. Refute it at one input. -/
def normValidWrong : ChangeSpec := { name := "normValid", fn := fun _ => fun
  | [d1, d2, d3] => { results := [.lit (.bool false)], args := [d1, d2, d3] }
  | _ => none }
def NormValidWrongFalsely : Prop := normValidRow.holds Tryz.pinned (OpenSpec.ofChange normValidWrong)

/-- 'redlinelaw18.NormFixed': WHATEVER THE INPUT: true; the input reads as it did. -/
def normFixedSpec : ChangeSpec := { name := "normFixed", fn := fun _ => fun
  | [d1, d2, d3, d4] => { results := [.lit (.bool true)], args := [d1, d2, d3, d4] }
  | _ => none }
def normFixedRow : OpenClaim := { program := "ytmadpclcmjahoaagreatdoor", sum := "23ef72ab231479240adfe1f073e20079f11120b43c30c0ed31b4c00b1bd02073", func := "redline/redlinelaw18.NormFixed", spec := "normFixed", inPlace := ["internal/bytealg.IndexByteString", "internal/bytealg.IndexString", "slices.overlaps[redline/api.Node]"], unfollowed := true, recurses := true, named := ["unicode/utf8.first", "unicode/utf8.acceptRanges", "internal/bytealg.MaxLen"], loops := true, apart := false, laid := [("unicode/utf8.acceptRanges", laid_unicode_utf8_acceptRanges), ("unicode/utf8.first", laid_unicode_utf8_first)] }
def NormFixedSaid : Prop := normFixedRow.holds Tryz.pinned (OpenSpec.ofChange normFixedSpec)

/-- ITS FALSE NEIGHBOUR: 'it returns false'. Refute it at one input. -/
def normFixedWrong : ChangeSpec := { name := "normFixed", fn := fun _ => fun
  | [d1, d2, d3, d4] => { results := [.lit (.bool false)], args := [d1, d2, d3, d4] }
  | _ => none }
def NormFixedWrongFalsely : Prop := normFixedRow.holds Tryz.pinned (OpenSpec.ofChange normFixedWrong)

/-- 'redlinelaw19.WeightBounds': WHATEVER THE INPUT: true; the input reads as it did. -/
def weightBoundsSpec : ChangeSpec := { name := "weightBounds", fn := fun _ => fun
  | [d1, d2, d3, d4] => { results := [.lit (.bool true)], args := [d1, d2, d3, d4] }
  | _ => none }
def weightBoundsRow : OpenClaim := { program := "ytmadpclcmjahoaagreatdoor", sum := "23ef72ab231479240adfe1f073e20079f11120b43c30c0ed31b4c00b1bd02073", func := "redline/redlinelaw19.WeightBounds", spec := "weightBounds", inPlace := ["internal/bytealg.IndexByteString", "internal/bytealg.IndexString", "slices.overlaps[redline/api.Node]"], unfollowed := true, recurses := true, named := ["unicode/utf8.first", "unicode/utf8.acceptRanges", "internal/bytealg.MaxLen"], loops := true, apart := false, laid := [("unicode/utf8.acceptRanges", laid_unicode_utf8_acceptRanges), ("unicode/utf8.first", laid_unicode_utf8_first)] }
def WeightBoundsSaid : Prop := weightBoundsRow.holds Tryz.pinned (OpenSpec.ofChange weightBoundsSpec)

/-- ITS FALSE NEIGHBOUR: 'it returns false'. Refute it at one input. -/
def weightBoundsWrong : ChangeSpec := { name := "weightBounds", fn := fun _ => fun
  | [d1, d2, d3, d4] => { results := [.lit (.bool false)], args := [d1, d2, d3, d4] }
  | _ => none }
def WeightBoundsWrongFalsely : Prop := weightBoundsRow.holds Tryz.pinned (OpenSpec.ofChange weightBoundsWrong)

/- THE SECOND FORM. 'bulk': how many values and letters a reading holds, each counted each time it is reached (what is shared counts as often as it is met; a slice's spare places count too). A statement '..UptoSaid' is the law's where the arguments, and the package variables that the reading takes, are together of bulk at most 1048576: NARROWER than '..Said'. Prove '..Said' where nothing that the law and all that it calls make is longer than what came in: it says more and counts as full. Else prove '..UptoSaid'. A law counts once. -/
mutual
def uptoBulk {H : Type} : DataW H → Nat
  | .lit (.string bytes) => bytes.length + 1
  | .lit _ => 1
  | .nil => 1
  | .ptr d => uptoBulk d + 1
  | .slice elems spare => uptoBulkAll elems + uptoBulkAll spare + 1
  | .agg parts => uptoBulkAll parts + 1
  | .iface _ d => uptoBulk d + 1
  | .map entries => uptoBulkEntries entries + 1
  | .held _ => 1
def uptoBulkAll {H : Type} : List (DataW H) → Nat
  | [] => 0
  | d :: r => uptoBulk d + uptoBulkAll r
def uptoBulkEntries {H : Type} : List (Lit × DataW H) → Nat
  | [] => 0
  | x :: r => uptoBulkEntry x + uptoBulkEntries r
def uptoBulkEntry {H : Type} : Lit × DataW H → Nat
  | (.string bytes, d) => bytes.length + uptoBulk d + 1
  | (_, d) => uptoBulk d + 1
 end
def uptoSmall : (H : Type) → List (DataW H) → Bool := fun _ ds => decide (uptoBulkAll ds ≤ 1048576)
def OpenSpec.upto (s : _root_.Go.ChangeSpec) : _root_.Go.OpenSpec := { _root_.Go.OpenSpec.ofChange s with cond := some uptoSmall }

/-- 'redlinelaw17.FixMarks', WHERE WHAT IT READS IS OF BULK AT MOST 1048576: true; the input reads as it did. -/
def fixMarksUptoRow : OpenClaim := { program := "ytmadpclcmjahoaagreatdoor", sum := "23ef72ab231479240adfe1f073e20079f11120b43c30c0ed31b4c00b1bd02073", func := "redline/redlinelaw17.FixMarks", spec := "fixMarks", inPlace := ["internal/bytealg.IndexByteString", "internal/bytealg.IndexString", "slices.overlaps[redline/api.Node]"], unfollowed := true, recurses := true, named := ["unicode/utf8.first", "unicode/utf8.acceptRanges", "internal/bytealg.MaxLen"], loops := true, apart := false, laid := [("unicode/utf8.acceptRanges", laid_unicode_utf8_acceptRanges), ("unicode/utf8.first", laid_unicode_utf8_first)], narrowed := true }
def FixMarksUptoSaid : Prop := fixMarksUptoRow.holds Tryz.pinned (OpenSpec.upto fixMarksSpec)

/-- 'redlinelaw18.NormPicks', WHERE WHAT IT READS IS OF BULK AT MOST 1048576: true; the input reads as it did. -/
def normPicksUptoRow : OpenClaim := { program := "ytmadpclcmjahoaagreatdoor", sum := "23ef72ab231479240adfe1f073e20079f11120b43c30c0ed31b4c00b1bd02073", func := "redline/redlinelaw18.NormPicks", spec := "normPicks", inPlace := ["internal/bytealg.IndexByteString", "internal/bytealg.IndexString", "slices.overlaps[redline/api.Node]"], unfollowed := true, recurses := true, named := ["unicode/utf8.first", "unicode/utf8.acceptRanges", "internal/bytealg.MaxLen"], loops := true, apart := false, laid := [("unicode/utf8.acceptRanges", laid_unicode_utf8_acceptRanges), ("unicode/utf8.first", laid_unicode_utf8_first)], narrowed := true }
def NormPicksUptoSaid : Prop := normPicksUptoRow.holds Tryz.pinned (OpenSpec.upto normPicksSpec)

/-- 'redlinelaw18.NormValid', WHERE WHAT IT READS IS OF BULK AT MOST 1048576: true; the input reads as it did. -/
def normValidUptoRow : OpenClaim := { program := "ytmadpclcmjahoaagreatdoor", sum := "23ef72ab231479240adfe1f073e20079f11120b43c30c0ed31b4c00b1bd02073", func := "redline/redlinelaw18.NormValid", spec := "normValid", inPlace := ["internal/bytealg.IndexByteString", "internal/bytealg.IndexString", "slices.overlaps[redline/api.Node]"], unfollowed := true, recurses := true, named := ["unicode/utf8.first", "unicode/utf8.acceptRanges", "internal/bytealg.MaxLen"], loops := true, apart := false, laid := [("unicode/utf8.acceptRanges", laid_unicode_utf8_acceptRanges), ("unicode/utf8.first", laid_unicode_utf8_first)], narrowed := true }
def NormValidUptoSaid : Prop := normValidUptoRow.holds Tryz.pinned (OpenSpec.upto normValidSpec)

/-- 'redlinelaw18.NormFixed', WHERE WHAT IT READS IS OF BULK AT MOST 1048576: true; the input reads as it did. -/
def normFixedUptoRow : OpenClaim := { program := "ytmadpclcmjahoaagreatdoor", sum := "23ef72ab231479240adfe1f073e20079f11120b43c30c0ed31b4c00b1bd02073", func := "redline/redlinelaw18.NormFixed", spec := "normFixed", inPlace := ["internal/bytealg.IndexByteString", "internal/bytealg.IndexString", "slices.overlaps[redline/api.Node]"], unfollowed := true, recurses := true, named := ["unicode/utf8.first", "unicode/utf8.acceptRanges", "internal/bytealg.MaxLen"], loops := true, apart := false, laid := [("unicode/utf8.acceptRanges", laid_unicode_utf8_acceptRanges), ("unicode/utf8.first", laid_unicode_utf8_first)], narrowed := true }
def NormFixedUptoSaid : Prop := normFixedUptoRow.holds Tryz.pinned (OpenSpec.upto normFixedSpec)

/-- 'redlinelaw19.WeightBounds', WHERE WHAT IT READS IS OF BULK AT MOST 1048576: true; the input reads as it did. -/
def weightBoundsUptoRow : OpenClaim := { program := "ytmadpclcmjahoaagreatdoor", sum := "23ef72ab231479240adfe1f073e20079f11120b43c30c0ed31b4c00b1bd02073", func := "redline/redlinelaw19.WeightBounds", spec := "weightBounds", inPlace := ["internal/bytealg.IndexByteString", "internal/bytealg.IndexString", "slices.overlaps[redline/api.Node]"], unfollowed := true, recurses := true, named := ["unicode/utf8.first", "unicode/utf8.acceptRanges", "internal/bytealg.MaxLen"], loops := true, apart := false, laid := [("unicode/utf8.acceptRanges", laid_unicode_utf8_acceptRanges), ("unicode/utf8.first", laid_unicode_utf8_first)], narrowed := true }
def WeightBoundsUptoSaid : Prop := weightBoundsUptoRow.holds Tryz.pinned (OpenSpec.upto weightBoundsSpec)

end Rows
end Go.Proofs.YtmadpclcmjahoaaGreatDoor
