/-
  NARROWER THAN 'FOR EVERY INPUT', by the rows' own cells (each row's printed sentence says how): FixDoes: loops · WeightTwice: loops · WeightAll: loops.
  DERIVED. THE GIVEN ROWS OF THIS SEAT. 3 by the template 'for every input the law returns true; each argument reads behind the call as it read before'; 0 by the template 'total and deterministic' (their statements: YtiinmgccjlmoaaaTotals.lean).
  GIVEN WITH THE SEED: the statements are not yours to turn. If you find one false, say at which input.
  Laid BY PROGRAM, IN A SANDBOX (cutbox-rows.mjs): the forced cells as the released guide's own fill.sh prints them over the translation 2836562384569bc3… (all of the seat's roots in one cut). By AI agents, Wed Nov 11 2026. No macro, syntax, notation, axiom, sorry.
-/
import Derived.Test.YtiinmgccjlmoaaaChecked
import GoSem.Claim
import GoSem.ClaimJoined
import GoSem.ClaimMapViews
import Derived.JoinedTies
import Derived.KernelRfl
namespace Go.Proofs.Ytiinmgccjlmoaaa
/- THE CELL 'sum', in the pinned program and in every row, IS THE sha256 OF THE DUMP (.gsa) THAT YtiinmgccjlmoaaaProg.lean LOADS. Nothing in Lean hashes anything: it is a label: what it is worth is what the hold of that sum in a sandbox is worth. -/
noncomputable def Try.pinned : Pinned := { name := "ytiinmgccjlmoaaa", sum := "2836562384569bc35e4895b5636f35a04aeab46022015a07d62b2ac04815a72b", checked := Try.checked }
namespace Rows
def none {H : Type} : Left H := { results := [], args := [] }

/-- 'redlinelaw17.FixDoes': WHATEVER THE INPUT: true; the input reads as it did. -/
def fixDoesSpec : ChangeSpec := { name := "fixDoes", fn := fun _ => fun
  | [d1, d2, d3] => { results := [.lit (.bool true)], args := [d1, d2, d3] }
  | _ => none }
def fixDoesRow : OpenClaim := { program := "ytiinmgccjlmoaaa", sum := "2836562384569bc35e4895b5636f35a04aeab46022015a07d62b2ac04815a72b", func := "redline/redlinelaw17.FixDoes", spec := "fixDoes", unfollowed := true, recurses := true, loops := true, apart := false }
def FixDoesSaid : Prop := fixDoesRow.holds Try.pinned (OpenSpec.ofChange fixDoesSpec)

/-- ITS FALSE NEIGHBOUR: 'it returns false'. Refute it at one input. -/
def fixDoesWrong : ChangeSpec := { name := "fixDoes", fn := fun _ => fun
  | [d1, d2, d3] => { results := [.lit (.bool false)], args := [d1, d2, d3] }
  | _ => none }
def FixDoesWrongFalsely : Prop := fixDoesRow.holds Try.pinned (OpenSpec.ofChange fixDoesWrong)

/-- 'redlinelaw19.WeightTwice': WHATEVER THE INPUT: true; the input reads as it did. -/
def weightTwiceSpec : ChangeSpec := { name := "weightTwice", fn := fun _ => fun
  | [d1, d2, d3] => { results := [.lit (.bool true)], args := [d1, d2, d3] }
  | _ => none }
def weightTwiceRow : OpenClaim := { program := "ytiinmgccjlmoaaa", sum := "2836562384569bc35e4895b5636f35a04aeab46022015a07d62b2ac04815a72b", func := "redline/redlinelaw19.WeightTwice", spec := "weightTwice", unfollowed := true, recurses := true, loops := true, apart := false }
def WeightTwiceSaid : Prop := weightTwiceRow.holds Try.pinned (OpenSpec.ofChange weightTwiceSpec)

/-- ITS FALSE NEIGHBOUR: 'it returns false'. Refute it at one input. -/
def weightTwiceWrong : ChangeSpec := { name := "weightTwice", fn := fun _ => fun
  | [d1, d2, d3] => { results := [.lit (.bool false)], args := [d1, d2, d3] }
  | _ => none }
def WeightTwiceWrongFalsely : Prop := weightTwiceRow.holds Try.pinned (OpenSpec.ofChange weightTwiceWrong)

/-- 'redlinelaw19.WeightAll': WHATEVER THE INPUT: true; the input reads as it did. -/
def weightAllSpec : ChangeSpec := { name := "weightAll", fn := fun _ => fun
  | [d1, d2, d3, d4] => { results := [.lit (.bool true)], args := [d1, d2, d3, d4] }
  | _ => none }
def weightAllRow : OpenClaim := { program := "ytiinmgccjlmoaaa", sum := "2836562384569bc35e4895b5636f35a04aeab46022015a07d62b2ac04815a72b", func := "redline/redlinelaw19.WeightAll", spec := "weightAll", unfollowed := true, recurses := true, loops := true, apart := false }
def WeightAllSaid : Prop := weightAllRow.holds Try.pinned (OpenSpec.ofChange weightAllSpec)

/-- ITS FALSE NEIGHBOUR: 'it returns false'. Refute it at one input. -/
def weightAllWrong : ChangeSpec := { name := "weightAll", fn := fun _ => fun
  | [d1, d2, d3, d4] => { results := [.lit (.bool false)], args := [d1, d2, d3, d4] }
  | _ => none }
def WeightAllWrongFalsely : Prop := weightAllRow.holds Try.pinned (OpenSpec.ofChange weightAllWrong)

/- THE SECOND FORM. 'bulk': how many values and letters a reading holds, each counted each time it is reached (what is shared counts as often as it is met; a slice's spare places count too). A statement '..UptoSaid' is the law's where the arguments, and the package variables that the reading takes, are together of bulk at most 1048576: NARROWER than '..Said'. Prove '..Said' where nothing that the law and all that it calls make is longer than what came in: it says more and counts as full. Else prove '..UptoSaid'. A law counts once. -/
mutual
def uptoBulk {H : Type} : DataW H → Nat
  | .lit (.string bytes) => bytes.length + 1
  | .lit _ => 1
  | .nil => 1
  | .ptr d => uptoBulk d + 1
  | .slice elems spare => uptoBulkAll elems + uptoBulkAll spare + 1
  | .agg parts => uptoBulkAll parts + 1
  | .iface _ d => uptoBulk d + 1
  | .map entries => uptoBulkEntries entries + 1
  | .held _ => 1
def uptoBulkAll {H : Type} : List (DataW H) → Nat
  | [] => 0
  | d :: r => uptoBulk d + uptoBulkAll r
def uptoBulkEntries {H : Type} : List (Lit × DataW H) → Nat
  | [] => 0
  | x :: r => uptoBulkEntry x + uptoBulkEntries r
def uptoBulkEntry {H : Type} : Lit × DataW H → Nat
  | (.string bytes, d) => bytes.length + uptoBulk d + 1
  | (_, d) => uptoBulk d + 1
 end
def uptoSmall : (H : Type) → List (DataW H) → Bool := fun _ ds => decide (uptoBulkAll ds ≤ 1048576)
def OpenSpec.upto (s : _root_.Go.ChangeSpec) : _root_.Go.OpenSpec := { _root_.Go.OpenSpec.ofChange s with cond := some uptoSmall }

/-- 'redlinelaw17.FixDoes', WHERE WHAT IT READS IS OF BULK AT MOST 1048576: true; the input reads as it did. -/
def fixDoesUptoRow : OpenClaim := { program := "ytiinmgccjlmoaaa", sum := "2836562384569bc35e4895b5636f35a04aeab46022015a07d62b2ac04815a72b", func := "redline/redlinelaw17.FixDoes", spec := "fixDoes", unfollowed := true, recurses := true, loops := true, apart := false, narrowed := true }
def FixDoesUptoSaid : Prop := fixDoesUptoRow.holds Try.pinned (OpenSpec.upto fixDoesSpec)

/-- 'redlinelaw19.WeightTwice', WHERE WHAT IT READS IS OF BULK AT MOST 1048576: true; the input reads as it did. -/
def weightTwiceUptoRow : OpenClaim := { program := "ytiinmgccjlmoaaa", sum := "2836562384569bc35e4895b5636f35a04aeab46022015a07d62b2ac04815a72b", func := "redline/redlinelaw19.WeightTwice", spec := "weightTwice", unfollowed := true, recurses := true, loops := true, apart := false, narrowed := true }
def WeightTwiceUptoSaid : Prop := weightTwiceUptoRow.holds Try.pinned (OpenSpec.upto weightTwiceSpec)

/-- 'redlinelaw19.WeightAll', WHERE WHAT IT READS IS OF BULK AT MOST 1048576: true; the input reads as it did. -/
def weightAllUptoRow : OpenClaim := { program := "ytiinmgccjlmoaaa", sum := "2836562384569bc35e4895b5636f35a04aeab46022015a07d62b2ac04815a72b", func := "redline/redlinelaw19.WeightAll", spec := "weightAll", unfollowed := true, recurses := true, loops := true, apart := false, narrowed := true }
def WeightAllUptoSaid : Prop := weightAllUptoRow.holds Try.pinned (OpenSpec.upto weightAllSpec)

end Rows
end Go.Proofs.Ytiinmgccjlmoaaa
