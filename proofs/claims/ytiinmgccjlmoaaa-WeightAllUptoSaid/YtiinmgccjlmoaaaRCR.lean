/- Plain words: the paths of a tree; lists of paths in memory; a clone of a path. -/
import Derived.Test.YtiinmgccjlmoaaaRCQ
namespace Go.Proofs.Ytiinmgccjlmoaaa
open Go.RowKit Go.Redl
set_option linter.unusedVariables false

theorem info_int : (Try.prog.info? 3).map (fun i => (i.zero, i.size, i.bytes)) = some (some (.int .i64 0), 1, 8) := by kernel_rfl
set_option maxRecDepth 100000 in
set_option maxHeartbeats 400000 in
theorem clone_int (B n : Nat) (a : Option Addr) (cap : Nat) (cs : List Value) (w : World) (hr : RowA w B 1 a n cap cs) (hB : B ≤ w.heap.size) (hn : n ≤ 100000000) :
    Calls Try.prog 45 #[.slice a n cap] w (MadeRow w 3 1 n cs) := by
  have hel := fun (w : World) => Lib.run_eql_slice_nil w (P := Try.prog) 36 3 a n cap 0 0 Try.underlying36
  cases ha : a with
  | none =>
    subst ha
    obtain rfl := hr.nil rfl
    obtain rfl : n = 0 := by have := hr.le; omega
    have hcs : cs = [] := List.eq_nil_of_length_eq_zero (by simpa using hr.len)
    subst hcs
    go_enter Try.func45, Try.ntmps45
    go_wp2_with fail
    go_ret
    exact ⟨_, rfl, World.ownsRow_nil _ _ _ _, Below.refl _ _⟩
  | some ad =>
    subst ha
    go_enter Try.func45, Try.ntmps45
    go_wp2_with (at_builtin; refine wpList_app rfl _ _ 36 rfl w.heap.size 3 (.int .i64 0) 1 8 Try.underlying36 info_int rfl (by decide) _ 0 [] rfl ?hown _ n cap B cs rfl ?hr ?h63 ?hb ?hbase ?_)
    case hown => exact World.ownsRow_lit w #[] 0 (Nat.le_refl _) (Nat.zero_le _) rfl
    case hr => exact hr.keep ((Below.refl _ _).alloc hB _) (Nat.le_refl _)
    case h63 => unfold maxLen; omega
    case hb => omega
    case hbase => simp
    intro v' w1 hown hgrow
    have Ho := Lib.hid hown; have Hg := Lib.hid hgrow; clear hown hgrow hel hr
    go_wp2_with fail
    go_ret
    refine ⟨v', rfl, by simpa using Ho.out, ((Below.refl _ _).alloc (Nat.le_refl _) _).grown Hg.out (by simp) ?_⟩
    simp [Value.ownBlock]


mutual
/-- The paths of a node at p, and of all in it, that are wanted. -/
def pathsW (want : NodeD → Bool) : NodeD → List Int → List (List Int)
  | .mk l ps t ks, p => (if want (.mk l ps t ks) then [p] else []) ++ pathsK want ks 0 p
def pathsK (want : NodeD → Bool) : List NodeD → Nat → List Int → List (List Int)
  | [], _, _ => []
  | k :: ks, i, p => pathsW want k (p ++ [(i : Int)]) ++ pathsK want ks (i + 1) p
end
/-- A list of paths: its cells, each a row of numbers in blocks that ok lets in. -/
def PathsQ (w : World) (ok : Nat → Prop) : List (List Int) → List Value → Prop
  | [], cs => cs = []
  | zs :: l, cs => ∃ a cap cs', cs = .slice a zs.length cap :: cs' ∧ RowQ w ok 1 a zs.length cap (zs.map (Value.int .i64)) ∧ PathsQ w ok l cs'
theorem PathsQ.keep {w w' : World} {ok ok' : Nat → Prop} (hs : w.heap.size ≤ w'.heap.size) (hk : ∀ b, ok b → b < w.heap.size → w'.heap[b]? = w.heap[b]?) (ho : ∀ b, ok b → b < w.heap.size → ok' b) : ∀ {l : List (List Int)} {cs : List Value}, PathsQ w ok l cs → PathsQ w' ok' l cs
  | [], cs, h => h
  | zs :: l, cs, h => by
    obtain ⟨a, cap, cs', h1, h2, h3⟩ := h
    exact ⟨a, cap, cs', h1, h2.keep hs hk ho, PathsQ.keep hs hk ho h3⟩
theorem PathsQ.len {w : World} {ok : Nat → Prop} : ∀ {l : List (List Int)} {cs : List Value}, PathsQ w ok l cs → cs.length = l.length
  | [], cs, h => by subst h; rfl
  | zs :: l, cs, h => by
    obtain ⟨a, cap, cs', rfl, h2, h3⟩ := h
    simp [PathsQ.len h3]
theorem PathsQ.one {w : World} {ok : Nat → Prop} : ∀ {l : List (List Int)} {cs : List Value}, PathsQ w ok l cs → ∀ u ∈ cs, u.oneCell' = true
  | [], cs, h => by subst h; simp
  | zs :: l, cs, h => by
    obtain ⟨a, cap, cs', rfl, h2, h3⟩ := h
    intro u hu
    rcases List.mem_cons.1 hu with rfl | hu
    · rfl
    · exact PathsQ.one h3 u hu
theorem PathsQ.snoc {w : World} {ok : Nat → Prop} {zs : List Int} {a : Option Addr} {cap : Nat} (hr : RowQ w ok 1 a zs.length cap (zs.map (Value.int .i64))) : ∀ {l : List (List Int)} {cs : List Value}, PathsQ w ok l cs → PathsQ w ok (l ++ [zs]) (cs ++ [.slice a zs.length cap])
  | [], cs, h => by subst h; exact ⟨a, cap, [], rfl, hr, rfl⟩
  | ys :: l, cs, h => by
    obtain ⟨b, c, cs', rfl, h2, h3⟩ := h
    exact ⟨b, c, cs' ++ [.slice a zs.length cap], rfl, h2, PathsQ.snoc hr h3⟩

end Go.Proofs.Ytiinmgccjlmoaaa
