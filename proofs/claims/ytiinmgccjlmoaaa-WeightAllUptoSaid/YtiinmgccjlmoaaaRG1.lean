/- Walks: glyph.Check and what it calls. -/
import Derived.Test.YtiinmgccjlmoaaaProg
import Derived.Test.YtiinmgccjlmoaaaRBase
import Derived.Deep.QuietTactic
import Derived.BigQuiet
namespace Go.Proofs.Ytiinmgccjlmoaaa
open Go.RowKit Go.Redl
set_option linter.unusedVariables false

theorem info_int32 : (Try.prog.info? 21).map (fun i => (i.zero, i.size, i.bytes)) = some (some (.int .i32 0), 1, 4) := by kernel_rfl

/-- A text's error. -/
def checkE (zs : List Int) : Int := if zs.any (fun c => !validB c) then 4 else 0

set_option maxHeartbeats 400000 in
theorem clone_rune (B n : Nat) (a : Option Addr) (cap : Nat) (cs : List Value) (w : World) (hr : RowA w B 1 a n cap cs) (hB : B ≤ w.heap.size) (hn : n ≤ 1000000) :
    Calls Try.prog 71 #[.slice a n cap] w (MadeRow w 21 1 n cs) := by
  have hel := fun (w : World) => Lib.run_eql_slice_nil w (P := Try.prog) 32 21 a n cap 0 0 Try.underlying32
  cases ha : a with
  | none =>
    subst ha
    obtain rfl := hr.nil rfl
    obtain rfl : n = 0 := by have := hr.le; omega
    have hcs : cs = [] := List.eq_nil_of_length_eq_zero (by simpa using hr.len)
    subst hcs
    go_enter Try.func71, Try.ntmps71
    go_wp2_with fail
    go_ret
    exact ⟨_, rfl, World.ownsRow_nil _ _ _ _, Below.refl _ _⟩
  | some ad =>
    subst ha
    go_enter Try.func71, Try.ntmps71
    go_wp2_with (at_builtin; refine wpList_app rfl _ _ 32 rfl w.heap.size 21 (.int .i32 0) 1 4 Try.underlying32 info_int32 rfl (by decide) _ 0 [] rfl ?hown _ n cap B cs rfl ?hr ?h63 ?hb ?hbase ?_)
    case hown => exact World.ownsRow_lit w #[] 0 (Nat.le_refl _) (Nat.zero_le _) rfl
    case hr => exact hr.keep ((Below.refl _ _).alloc hB _) (Nat.le_refl _)
    case h63 => unfold maxLen; omega
    case hb => omega
    case hbase => simp
    intro v' w1 hown hgrow
    have Ho := Lib.hid hown; have Hg := Lib.hid hgrow; clear hown hgrow hel hr
    go_wp2_with fail
    go_ret
    refine ⟨v', rfl, by simpa using Ho.out, ((Below.refl _ _).alloc (Nat.le_refl _) _).grown Hg.out (by simp) ?_⟩
    simp [Value.ownBlock]

end Go.Proofs.Ytiinmgccjlmoaaa
