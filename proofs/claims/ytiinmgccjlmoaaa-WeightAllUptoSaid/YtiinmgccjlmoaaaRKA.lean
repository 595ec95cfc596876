/- Plain words: rows of paths that may be rewritten in place. -/
import Derived.Test.YtiinmgccjlmoaaaRHN
import Derived.Test.YtiinmgccjlmoaaaRHC
namespace Go.Proofs.Ytiinmgccjlmoaaa
open Go.RowKit Go.Redl
set_option linter.unusedVariables false

theorem grown_of_below {w w1 : World} {r : Option Nat} (h : Below w.heap.size w w1) : w.grownBy w1 r := ⟨h.os, h.tape, h.output, h.size, fun i hi _ => h.block i hi⟩
theorem _root_.Go.World.grownBy.then {w w1 w2 : World} {r : Option Nat} (h : w.grownBy w1 r) (k : Below w1.heap.size w1 w2) : w.grownBy w2 r := h.trans (grown_of_below k)
theorem _root_.Go.World.grownBy.set {w w1 : World} {b : Nat} (h : w.grownBy w1 (some b)) (o : Nat) (u : Value) : w.grownBy (w1.setCell ⟨b, o, none⟩ u) (some b) :=
  h.trans ⟨rfl, rfl, rfl, by simp [World.setCell], fun i _ hne => Below.heap_setCell w1 ⟨b, o, none⟩ u i (by intro e; exact hne (by rw [e]))⟩
theorem _root_.Go.World.grownBy.old {w w1 : World} {r : Option Nat} (h : w.grownBy w1 r) {M : Nat} (hM : M ≤ w.heap.size) (hr : ∀ k, r = some k → M ≤ k) : Below M w w1 :=
  (Below.refl M w).grown h hM hr

theorem below_and {w0 w w1 : World} (h : Below w0.heap.size w0 w) (h1 : Below w.heap.size w w1) : Below w0.heap.size w0 w1 := h.trans (h1.mono h.size)
theorem rowq_imp {w : World} {ok ok' : Nat → Prop} {sz n cap : Nat} {a : Option Addr} {cs : List Value} (h : RowQ w ok sz a n cap cs) (f : ∀ b, ok b → ok' b) : RowQ w ok' sz a n cap cs := h.keep (Nat.le_refl _) (fun _ _ _ => rfl) (fun b hb _ => f b hb)
theorem rowq_since {w w' : World} {ok : Nat → Prop} {sz n cap : Nat} {a : Option Addr} {cs : List Value} (h : RowQ w ok sz a n cap cs) (hb : Below w.heap.size w w') : RowQ w' ok sz a n cap cs := h.keep hb.size (fun b _ hlt => hb.block b hlt) (fun _ h _ => h)
/-- A path with where it lies. -/
abbrev PX := List Int × Option Addr × Nat
def pxV (x : PX) : Value := .slice x.2.1 x.1.length x.2.2
abbrev pxs (xs : List PX) : List (List Int) := xs.map (·.1)
theorem pxV_one (x : PX) : (pxV x).oneCell' = true := rfl
abbrev PxQ (w : World) (ok : Nat → Prop) (x : PX) : Prop := PathQ w ok x.2.1 x.2.2 x.1
/-- A row of paths: it lies in no block ahead of M, what its paths lead to in none ahead of L, nor in the row's own. -/
structure RowX (w : World) (M L : Nat) (v : Value) (xs : List PX) : Prop where
  own : w.ownsRow M 36 1 v xs.length (xs.map pxV)
  all : ∀ x ∈ xs, PxQ w (fun b => L ≤ b ∧ v.ownBlock ≠ some b) x
theorem RowX.nil (w : World) (M L : Nat) : RowX w M L (.slice none 0 0) [] := ⟨World.ownsRow_nil _ _ _ _, by simp⟩
/-- It is nil, or lies in a block. -/
theorem RowX.open {w : World} {M L : Nat} {v : Value} {xs : List PX} (h : RowX w M L v xs) :
    v = .slice none 0 0 ∧ xs = [] ∨ ∃ b cap tl, v = .slice (some ⟨b, 0, none⟩) xs.length cap ∧ M ≤ b ∧ At w b (xs.map pxV ++ tl) 36 ∧ xs.length + tl.length = cap ∧ cap ≤ maxLen := by
  obtain ⟨hl, h2⟩ := h.own
  rcases h2 with ⟨rfl, h0⟩ | ⟨g, cap, cur, rfl, hb, hg, hnc, hcm, hcs, htake⟩
  · exact .inl ⟨rfl, List.eq_nil_of_length_eq_zero h0⟩
  · refine .inr ⟨g, cap, cur.toList.drop xs.length, rfl, hb, ?_, ?_, hcm⟩
    · rw [Nat.mul_one] at htake
      rw [← htake, List.take_append_drop]
      simpa [At] using hg
    · simp; omega
theorem RowX.shut {w : World} {M L b cap : Nat} {xs : List PX} {tl : List Value} (hM : M ≤ b) (hA : At w b (xs.map pxV ++ tl) 36) (hl : xs.length + tl.length = cap) (hm : cap ≤ maxLen) (hq : ∀ x ∈ xs, PxQ w (fun k => L ≤ k ∧ k ≠ b) x) :
    RowX w M L (.slice (some ⟨b, 0, none⟩) xs.length cap) xs := by
  refine ⟨⟨by simp, .inr ⟨b, cap, _, rfl, hM, hA, by omega, hm, by simp; omega, ?_⟩⟩, fun x hx => rowq_imp (hq x hx) fun k hk => ⟨hk.1, ?_⟩⟩
  · simp
  · simp only [Value.ownBlock, ne_eq, Option.some.injEq]
    exact fun e => hk.2 e.symm
theorem PxQ.grown {w w' : World} {b L : Nat} {x : PX} (h : PxQ w (fun k => L ≤ k ∧ k ≠ b) x) (hg : w.grownBy w' (some b)) : PxQ w' (fun k => L ≤ k ∧ k ≠ b) x :=
  RowQ.keep h hg.size (fun k hk hlt => hg.block k hlt (fun e => hk.2 (Option.some.inj e))) (fun _ h _ => h)
theorem RowX.below {w w' : World} {M L : Nat} {v : Value} {xs : List PX} (h : RowX w M L v xs) (hb : Below w.heap.size w w') : RowX w' M L v xs :=
  ⟨own_keep h.own hb, fun x hx => rowq_since (h.all x hx) hb⟩
theorem RowX.form {w : World} {M L : Nat} {v : Value} {xs : List PX} (h : RowX w M L v xs) : ∃ a c, v = .slice a xs.length c := by
  rcases h.open with ⟨rfl, rfl⟩ | ⟨b, cap, tl, rfl, -⟩
  · exact ⟨none, 0, rfl⟩
  · exact ⟨_, _, rfl⟩
theorem RowX.ge {w : World} {M L : Nat} {v : Value} {xs : List PX} (h : RowX w M L v xs) : ∀ k, v.ownBlock = some k → M ≤ k := fun k hk => (h.own.lt k hk).1
/-- It may be said to lie further down. -/
theorem RowX.from {w : World} {M L M' L' : Nat} {v : Value} {xs : List PX} (h : RowX w M L v xs) (hM : M' ≤ M) (hL : L' ≤ L) : RowX w M' L' v xs := by
  refine ⟨?_, fun x hx => rowq_imp (h.all x hx) fun k hk => ⟨by omega, hk.2⟩⟩
  obtain ⟨hl, h2⟩ := h.own
  exact ⟨hl, h2.imp id fun ⟨g, cap, cur, hv, hb, hr⟩ => ⟨g, cap, cur, hv, by omega, hr⟩⟩
theorem pathsQ_px {w : World} {ok : Nat → Prop} : ∀ {l : List (List Int)} {cs : List Value}, PathsQ w ok l cs → ∃ xs : List PX, l = pxs xs ∧ cs = xs.map pxV ∧ ∀ x ∈ xs, PxQ w ok x
  | [], cs, h => ⟨[], rfl, h, by simp⟩
  | zs :: l, cs, h => by
    obtain ⟨a, cap, cs', rfl, h2, h3⟩ := h
    obtain ⟨xs, rfl, rfl, h4⟩ := pathsQ_px h3
    refine ⟨(zs, a, cap) :: xs, rfl, rfl, fun x hx => ?_⟩
    rcases List.mem_cons.1 hx with rfl | hx
    · exact h2
    · exact h4 x hx
theorem px_pathsQ {w : World} {ok : Nat → Prop} : ∀ {xs : List PX}, (∀ x ∈ xs, PxQ w ok x) → PathsQ w ok (pxs xs) (xs.map pxV)
  | [], h => rfl
  | x :: xs, h => ⟨x.2.1, x.2.2, _, rfl, h x (by simp), px_pathsQ fun y hy => h y (by simp [hy])⟩
/-- A list of paths, made by the call, its row its own. -/
def ListX (W : World) (L : List (List Int)) (e : Ending) (w' : World) : Prop :=
  ∃ v xs, e = .returned v ∧ RowX w' W.heap.size W.heap.size v xs ∧ pxs xs = L ∧ Below W.heap.size W w'

end Go.Proofs.Ytiinmgccjlmoaaa
