/- Boxes of any size; walks: prop.Get, node.Type, and the reference's. -/
import Derived.Test.YtiinmgccjlmoaaaRHB
import Derived.Test.YtiinmgccjlmoaaaRSA
namespace Go.Proofs.Ytiinmgccjlmoaaa
open Go.RowKit Go.Redl
set_option linter.unusedVariables false

/-- A box: its cells. -/
def At (w : World) (N : Nat) (cs : List Value) (T : TypeId) : Prop := w.heap[N]? = some (.cells cs.toArray T (0, 0))
theorem At.fresh (W : World) (cs : List Value) (T : TypeId) : At (W.alloc (.cells cs.toArray T)) W.heap.size cs T := heap_alloc_new W _
theorem At.lt {w : World} {N : Nat} {cs : List Value} {T : TypeId} (h : At w N cs T) : N < w.heap.size := (Array.getElem?_eq_some_iff.1 h).1
theorem At.keep {w w' : World} {N : Nat} {cs : List Value} {T : TypeId} (h : At w N cs T) (hb : Below (N + 1) w w') : At w' N cs T := by
  unfold At; rw [hb.block N (by omega)]; exact h
theorem At.kept {w w' : World} {N : Nat} {cs : List Value} {T : TypeId} (h : At w N cs T) (hb : Below w.heap.size w w') : At w' N cs T := by
  unfold At; rw [hb.block N h.lt]; exact h
theorem At.alloc {w : World} {N : Nat} {cs : List Value} {T : TypeId} (h : At w N cs T) (o : Obj) : At (w.alloc o) N cs T := by
  unfold At; rw [Lib.alloc_old _ _ _ h.lt]; exact h
theorem At.cell {w : World} {N : Nat} {cs : List Value} {T : TypeId} (h : At w N cs T) (j : Nat) {v : Value} (hj : cs[j]? = some v) : w.cell? ⟨N, j, none⟩ = some v := by
  rw [cell_of_row _ _ _ _ _ _ h]; simpa using hj
theorem At.set_ne {w : World} {N b o : Nat} {cs : List Value} {T : TypeId} (h : At w N cs T) (hne : N ≠ b) (u : Value) : At (w.setCell ⟨b, o, none⟩ u) N cs T := by
  unfold At; rw [Below.heap_setCell _ _ _ _ hne]; exact h
theorem At.set {w : World} {N : Nat} {cs : List Value} {T : TypeId} (h : At w N cs T) (j : Nat) (u : Value) : At (w.setCell ⟨N, j, none⟩ u) N (cs.set j u) T := by
  have := Lib.heap_setCell_same (i := j) h u
  simpa [At] using this
theorem At.grown {w w' : World} {N : Nat} {cs : List Value} {T : TypeId} {r : Option Nat} (h : At w N cs T) (hg : w.grownBy w' r) (hr : r ≠ some N) : At w' N cs T := by
  unfold At; rw [hg.block N h.lt (fun e => hr e.symm)]; exact h
theorem At.f1 {w : World} {N : Nat} {c0 : Value} {T : TypeId} (h : At w N [c0] T) : (w.cell? ⟨N, 0, none⟩ = some c0) ∧ (∀ j, w.frozen? ⟨N, j, none⟩ = false) ∧ N < w.heap.size :=
  ⟨h.cell 0 rfl, fun j => Lib.frozen_of_heap h _, h.lt⟩

theorem At.f2 {w : World} {N : Nat} {c0 c1 : Value} {T : TypeId} (h : At w N [c0, c1] T) : (w.cell? ⟨N, 0, none⟩ = some c0 ∧ w.cell? ⟨N, 1, none⟩ = some c1) ∧ (∀ j, w.frozen? ⟨N, j, none⟩ = false) ∧ N < w.heap.size :=
  ⟨⟨h.cell 0 rfl, h.cell 1 rfl⟩, fun j => Lib.frozen_of_heap h _, h.lt⟩

theorem At.f3 {w : World} {N : Nat} {c0 c1 c2 : Value} {T : TypeId} (h : At w N [c0, c1, c2] T) : (w.cell? ⟨N, 0, none⟩ = some c0 ∧ w.cell? ⟨N, 1, none⟩ = some c1 ∧ w.cell? ⟨N, 2, none⟩ = some c2) ∧ (∀ j, w.frozen? ⟨N, j, none⟩ = false) ∧ N < w.heap.size :=
  ⟨⟨h.cell 0 rfl, h.cell 1 rfl, h.cell 2 rfl⟩, fun j => Lib.frozen_of_heap h _, h.lt⟩

theorem At.f4 {w : World} {N : Nat} {c0 c1 c2 c3 : Value} {T : TypeId} (h : At w N [c0, c1, c2, c3] T) : (w.cell? ⟨N, 0, none⟩ = some c0 ∧ w.cell? ⟨N, 1, none⟩ = some c1 ∧ w.cell? ⟨N, 2, none⟩ = some c2 ∧ w.cell? ⟨N, 3, none⟩ = some c3) ∧ (∀ j, w.frozen? ⟨N, j, none⟩ = false) ∧ N < w.heap.size :=
  ⟨⟨h.cell 0 rfl, h.cell 1 rfl, h.cell 2 rfl, h.cell 3 rfl⟩, fun j => Lib.frozen_of_heap h _, h.lt⟩

theorem At.f5 {w : World} {N : Nat} {c0 c1 c2 c3 c4 : Value} {T : TypeId} (h : At w N [c0, c1, c2, c3, c4] T) : (w.cell? ⟨N, 0, none⟩ = some c0 ∧ w.cell? ⟨N, 1, none⟩ = some c1 ∧ w.cell? ⟨N, 2, none⟩ = some c2 ∧ w.cell? ⟨N, 3, none⟩ = some c3 ∧ w.cell? ⟨N, 4, none⟩ = some c4) ∧ (∀ j, w.frozen? ⟨N, j, none⟩ = false) ∧ N < w.heap.size :=
  ⟨⟨h.cell 0 rfl, h.cell 1 rfl, h.cell 2 rfl, h.cell 3 rfl, h.cell 4 rfl⟩, fun j => Lib.frozen_of_heap h _, h.lt⟩

theorem At.f8 {w : World} {N : Nat} {c0 c1 c2 c3 c4 c5 c6 c7 : Value} {T : TypeId} (h : At w N [c0, c1, c2, c3, c4, c5, c6, c7] T) : (w.cell? ⟨N, 0, none⟩ = some c0 ∧ w.cell? ⟨N, 1, none⟩ = some c1 ∧ w.cell? ⟨N, 2, none⟩ = some c2 ∧ w.cell? ⟨N, 3, none⟩ = some c3 ∧ w.cell? ⟨N, 4, none⟩ = some c4 ∧ w.cell? ⟨N, 5, none⟩ = some c5 ∧ w.cell? ⟨N, 6, none⟩ = some c6 ∧ w.cell? ⟨N, 7, none⟩ = some c7) ∧ (∀ j, w.frozen? ⟨N, j, none⟩ = false) ∧ N < w.heap.size :=
  ⟨⟨h.cell 0 rfl, h.cell 1 rfl, h.cell 2 rfl, h.cell 3 rfl, h.cell 4 rfl, h.cell 5 rfl, h.cell 6 rfl, h.cell 7 rfl⟩, fun j => Lib.frozen_of_heap h _, h.lt⟩

theorem At.f12 {w : World} {N : Nat} {c0 c1 c2 c3 c4 c5 c6 c7 c8 c9 c10 c11 : Value} {T : TypeId} (h : At w N [c0, c1, c2, c3, c4, c5, c6, c7, c8, c9, c10, c11] T) : (w.cell? ⟨N, 0, none⟩ = some c0 ∧ w.cell? ⟨N, 1, none⟩ = some c1 ∧ w.cell? ⟨N, 2, none⟩ = some c2 ∧ w.cell? ⟨N, 3, none⟩ = some c3 ∧ w.cell? ⟨N, 4, none⟩ = some c4 ∧ w.cell? ⟨N, 5, none⟩ = some c5 ∧ w.cell? ⟨N, 6, none⟩ = some c6 ∧ w.cell? ⟨N, 7, none⟩ = some c7 ∧ w.cell? ⟨N, 8, none⟩ = some c8 ∧ w.cell? ⟨N, 9, none⟩ = some c9 ∧ w.cell? ⟨N, 10, none⟩ = some c10 ∧ w.cell? ⟨N, 11, none⟩ = some c11) ∧ (∀ j, w.frozen? ⟨N, j, none⟩ = false) ∧ N < w.heap.size :=
  ⟨⟨h.cell 0 rfl, h.cell 1 rfl, h.cell 2 rfl, h.cell 3 rfl, h.cell 4 rfl, h.cell 5 rfl, h.cell 6 rfl, h.cell 7 rfl, h.cell 8 rfl, h.cell 9 rfl, h.cell 10 rfl, h.cell 11 rfl⟩, fun j => Lib.frozen_of_heap h _, h.lt⟩

theorem At.f13 {w : World} {N : Nat} {c0 c1 c2 c3 c4 c5 c6 c7 c8 c9 c10 c11 c12 : Value} {T : TypeId} (h : At w N [c0, c1, c2, c3, c4, c5, c6, c7, c8, c9, c10, c11, c12] T) : (w.cell? ⟨N, 0, none⟩ = some c0 ∧ w.cell? ⟨N, 1, none⟩ = some c1 ∧ w.cell? ⟨N, 2, none⟩ = some c2 ∧ w.cell? ⟨N, 3, none⟩ = some c3 ∧ w.cell? ⟨N, 4, none⟩ = some c4 ∧ w.cell? ⟨N, 5, none⟩ = some c5 ∧ w.cell? ⟨N, 6, none⟩ = some c6 ∧ w.cell? ⟨N, 7, none⟩ = some c7 ∧ w.cell? ⟨N, 8, none⟩ = some c8 ∧ w.cell? ⟨N, 9, none⟩ = some c9 ∧ w.cell? ⟨N, 10, none⟩ = some c10 ∧ w.cell? ⟨N, 11, none⟩ = some c11 ∧ w.cell? ⟨N, 12, none⟩ = some c12) ∧ (∀ j, w.frozen? ⟨N, j, none⟩ = false) ∧ N < w.heap.size :=
  ⟨⟨h.cell 0 rfl, h.cell 1 rfl, h.cell 2 rfl, h.cell 3 rfl, h.cell 4 rfl, h.cell 5 rfl, h.cell 6 rfl, h.cell 7 rfl, h.cell 8 rfl, h.cell 9 rfl, h.cell 10 rfl, h.cell 11 rfl, h.cell 12 rfl⟩, fun j => Lib.frozen_of_heap h _, h.lt⟩

theorem At.f16 {w : World} {N : Nat} {c0 c1 c2 c3 c4 c5 c6 c7 c8 c9 c10 c11 c12 c13 c14 c15 : Value} {T : TypeId} (h : At w N [c0, c1, c2, c3, c4, c5, c6, c7, c8, c9, c10, c11, c12, c13, c14, c15] T) : (w.cell? ⟨N, 0, none⟩ = some c0 ∧ w.cell? ⟨N, 1, none⟩ = some c1 ∧ w.cell? ⟨N, 2, none⟩ = some c2 ∧ w.cell? ⟨N, 3, none⟩ = some c3 ∧ w.cell? ⟨N, 4, none⟩ = some c4 ∧ w.cell? ⟨N, 5, none⟩ = some c5 ∧ w.cell? ⟨N, 6, none⟩ = some c6 ∧ w.cell? ⟨N, 7, none⟩ = some c7 ∧ w.cell? ⟨N, 8, none⟩ = some c8 ∧ w.cell? ⟨N, 9, none⟩ = some c9 ∧ w.cell? ⟨N, 10, none⟩ = some c10 ∧ w.cell? ⟨N, 11, none⟩ = some c11 ∧ w.cell? ⟨N, 12, none⟩ = some c12 ∧ w.cell? ⟨N, 13, none⟩ = some c13 ∧ w.cell? ⟨N, 14, none⟩ = some c14 ∧ w.cell? ⟨N, 15, none⟩ = some c15) ∧ (∀ j, w.frozen? ⟨N, j, none⟩ = false) ∧ N < w.heap.size :=
  ⟨⟨h.cell 0 rfl, h.cell 1 rfl, h.cell 2 rfl, h.cell 3 rfl, h.cell 4 rfl, h.cell 5 rfl, h.cell 6 rfl, h.cell 7 rfl, h.cell 8 rfl, h.cell 9 rfl, h.cell 10 rfl, h.cell 11 rfl, h.cell 12 rfl, h.cell 13 rfl, h.cell 14 rfl, h.cell 15 rfl⟩, fun j => Lib.frozen_of_heap h _, h.lt⟩

theorem At.s2 {w : World} {N : Nat} {c0 c1 : Value} {T : TypeId} (h : At w N [c0, c1] T) (d0 d1 : Value) : At ((w.setCell ⟨N, 0, none⟩ d0).setCell ⟨N, 1, none⟩ d1) N [d0, d1] T := by
  have h0 : At (w.setCell ⟨N, 0, none⟩ d0) N [d0, c1] T := h.set 0 d0
  exact h0.set 1 d1
theorem At.n2 {w : World} {N M : Nat} {cs : List Value} {T : TypeId} (h : At w M cs T) (hne : M ≠ N) (d0 d1 : Value) : At ((w.setCell ⟨N, 0, none⟩ d0).setCell ⟨N, 1, none⟩ d1) M cs T :=
  (h.set_ne hne _).set_ne hne _
theorem below_s2 {B : Nat} {W w : World} {N : Nat} (h : Below B W w) (hN : B ≤ N) (d0 d1 : Value) : Below B W ((w.setCell ⟨N, 0, none⟩ d0).setCell ⟨N, 1, none⟩ d1) :=
  (h.setCell (p := ⟨N, 0, none⟩) hN _).setCell (p := ⟨N, 1, none⟩) hN _
theorem rowq_s2 {w : World} {ok : Nat → Prop} {sz n cap N : Nat} {a : Option Addr} {cs : List Value} (h : RowQ w ok sz a n cap cs) (hne : ¬ ok N) (d0 d1 : Value) : RowQ ((w.setCell ⟨N, 0, none⟩ d0).setCell ⟨N, 1, none⟩ d1) ok sz a n cap cs :=
  rowq_set (rowq_set h hne) hne

theorem At.s3 {w : World} {N : Nat} {c0 c1 c2 : Value} {T : TypeId} (h : At w N [c0, c1, c2] T) (d0 d1 d2 : Value) : At (((w.setCell ⟨N, 0, none⟩ d0).setCell ⟨N, 1, none⟩ d1).setCell ⟨N, 2, none⟩ d2) N [d0, d1, d2] T := by
  have h0 : At (w.setCell ⟨N, 0, none⟩ d0) N [d0, c1, c2] T := h.set 0 d0
  have h1 : At ((w.setCell ⟨N, 0, none⟩ d0).setCell ⟨N, 1, none⟩ d1) N [d0, d1, c2] T := h0.set 1 d1
  exact h1.set 2 d2
theorem At.n3 {w : World} {N M : Nat} {cs : List Value} {T : TypeId} (h : At w M cs T) (hne : M ≠ N) (d0 d1 d2 : Value) : At (((w.setCell ⟨N, 0, none⟩ d0).setCell ⟨N, 1, none⟩ d1).setCell ⟨N, 2, none⟩ d2) M cs T :=
  ((h.set_ne hne _).set_ne hne _).set_ne hne _
theorem below_s3 {B : Nat} {W w : World} {N : Nat} (h : Below B W w) (hN : B ≤ N) (d0 d1 d2 : Value) : Below B W (((w.setCell ⟨N, 0, none⟩ d0).setCell ⟨N, 1, none⟩ d1).setCell ⟨N, 2, none⟩ d2) :=
  ((h.setCell (p := ⟨N, 0, none⟩) hN _).setCell (p := ⟨N, 1, none⟩) hN _).setCell (p := ⟨N, 2, none⟩) hN _
theorem rowq_s3 {w : World} {ok : Nat → Prop} {sz n cap N : Nat} {a : Option Addr} {cs : List Value} (h : RowQ w ok sz a n cap cs) (hne : ¬ ok N) (d0 d1 d2 : Value) : RowQ (((w.setCell ⟨N, 0, none⟩ d0).setCell ⟨N, 1, none⟩ d1).setCell ⟨N, 2, none⟩ d2) ok sz a n cap cs :=
  rowq_set (rowq_set (rowq_set h hne) hne) hne

theorem At.s8 {w : World} {N : Nat} {c0 c1 c2 c3 c4 c5 c6 c7 : Value} {T : TypeId} (h : At w N [c0, c1, c2, c3, c4, c5, c6, c7] T) (d0 d1 d2 d3 d4 d5 d6 d7 : Value) : At ((((((((w.setCell ⟨N, 0, none⟩ d0).setCell ⟨N, 1, none⟩ d1).setCell ⟨N, 2, none⟩ d2).setCell ⟨N, 3, none⟩ d3).setCell ⟨N, 4, none⟩ d4).setCell ⟨N, 5, none⟩ d5).setCell ⟨N, 6, none⟩ d6).setCell ⟨N, 7, none⟩ d7) N [d0, d1, d2, d3, d4, d5, d6, d7] T := by
  have h0 : At (w.setCell ⟨N, 0, none⟩ d0) N [d0, c1, c2, c3, c4, c5, c6, c7] T := h.set 0 d0
  have h1 : At ((w.setCell ⟨N, 0, none⟩ d0).setCell ⟨N, 1, none⟩ d1) N [d0, d1, c2, c3, c4, c5, c6, c7] T := h0.set 1 d1
  have h2 : At (((w.setCell ⟨N, 0, none⟩ d0).setCell ⟨N, 1, none⟩ d1).setCell ⟨N, 2, none⟩ d2) N [d0, d1, d2, c3, c4, c5, c6, c7] T := h1.set 2 d2
  have h3 : At ((((w.setCell ⟨N, 0, none⟩ d0).setCell ⟨N, 1, none⟩ d1).setCell ⟨N, 2, none⟩ d2).setCell ⟨N, 3, none⟩ d3) N [d0, d1, d2, d3, c4, c5, c6, c7] T := h2.set 3 d3
  have h4 : At (((((w.setCell ⟨N, 0, none⟩ d0).setCell ⟨N, 1, none⟩ d1).setCell ⟨N, 2, none⟩ d2).setCell ⟨N, 3, none⟩ d3).setCell ⟨N, 4, none⟩ d4) N [d0, d1, d2, d3, d4, c5, c6, c7] T := h3.set 4 d4
  have h5 : At ((((((w.setCell ⟨N, 0, none⟩ d0).setCell ⟨N, 1, none⟩ d1).setCell ⟨N, 2, none⟩ d2).setCell ⟨N, 3, none⟩ d3).setCell ⟨N, 4, none⟩ d4).setCell ⟨N, 5, none⟩ d5) N [d0, d1, d2, d3, d4, d5, c6, c7] T := h4.set 5 d5
  have h6 : At (((((((w.setCell ⟨N, 0, none⟩ d0).setCell ⟨N, 1, none⟩ d1).setCell ⟨N, 2, none⟩ d2).setCell ⟨N, 3, none⟩ d3).setCell ⟨N, 4, none⟩ d4).setCell ⟨N, 5, none⟩ d5).setCell ⟨N, 6, none⟩ d6) N [d0, d1, d2, d3, d4, d5, d6, c7] T := h5.set 6 d6
  exact h6.set 7 d7
theorem At.n8 {w : World} {N M : Nat} {cs : List Value} {T : TypeId} (h : At w M cs T) (hne : M ≠ N) (d0 d1 d2 d3 d4 d5 d6 d7 : Value) : At ((((((((w.setCell ⟨N, 0, none⟩ d0).setCell ⟨N, 1, none⟩ d1).setCell ⟨N, 2, none⟩ d2).setCell ⟨N, 3, none⟩ d3).setCell ⟨N, 4, none⟩ d4).setCell ⟨N, 5, none⟩ d5).setCell ⟨N, 6, none⟩ d6).setCell ⟨N, 7, none⟩ d7) M cs T :=
  (((((((h.set_ne hne _).set_ne hne _).set_ne hne _).set_ne hne _).set_ne hne _).set_ne hne _).set_ne hne _).set_ne hne _
theorem below_s8 {B : Nat} {W w : World} {N : Nat} (h : Below B W w) (hN : B ≤ N) (d0 d1 d2 d3 d4 d5 d6 d7 : Value) : Below B W ((((((((w.setCell ⟨N, 0, none⟩ d0).setCell ⟨N, 1, none⟩ d1).setCell ⟨N, 2, none⟩ d2).setCell ⟨N, 3, none⟩ d3).setCell ⟨N, 4, none⟩ d4).setCell ⟨N, 5, none⟩ d5).setCell ⟨N, 6, none⟩ d6).setCell ⟨N, 7, none⟩ d7) :=
  (((((((h.setCell (p := ⟨N, 0, none⟩) hN _).setCell (p := ⟨N, 1, none⟩) hN _).setCell (p := ⟨N, 2, none⟩) hN _).setCell (p := ⟨N, 3, none⟩) hN _).setCell (p := ⟨N, 4, none⟩) hN _).setCell (p := ⟨N, 5, none⟩) hN _).setCell (p := ⟨N, 6, none⟩) hN _).setCell (p := ⟨N, 7, none⟩) hN _
theorem rowq_s8 {w : World} {ok : Nat → Prop} {sz n cap N : Nat} {a : Option Addr} {cs : List Value} (h : RowQ w ok sz a n cap cs) (hne : ¬ ok N) (d0 d1 d2 d3 d4 d5 d6 d7 : Value) : RowQ ((((((((w.setCell ⟨N, 0, none⟩ d0).setCell ⟨N, 1, none⟩ d1).setCell ⟨N, 2, none⟩ d2).setCell ⟨N, 3, none⟩ d3).setCell ⟨N, 4, none⟩ d4).setCell ⟨N, 5, none⟩ d5).setCell ⟨N, 6, none⟩ d6).setCell ⟨N, 7, none⟩ d7) ok sz a n cap cs :=
  rowq_set (rowq_set (rowq_set (rowq_set (rowq_set (rowq_set (rowq_set (rowq_set h hne) hne) hne) hne) hne) hne) hne) hne


theorem str_eqb (a b : List UInt8) : ((⟨a.toArray⟩ : ByteArray).toList == (⟨b.toArray⟩ : ByteArray).toList) = decide (a = b) := by
  by_cases h : a = b
  · subst h; simp
  · rw [str_ne h]; simp [h]
theorem beq_dec (a b : List UInt8) : (a == b) = decide (a = b) := by by_cases h : a = b <;> simp [h]
theorem one_below (W : World) (o : Obj) : Below W.heap.size W (W.alloc o) := (Below.refl _ _).alloc (Nat.le_refl _) o

/-! ### a property looked up -/
set_option maxRecDepth 100000 in
theorem pget1_c (K V k : List UInt8) (N : Nat) (W : World) (hN : W.cell? ⟨N, 0, none⟩ = some (strV k)) :
    Calls Try.prog 84 #[.agg #[strV K, strV V], .pointer (some ⟨N, 0, none⟩)] W fun e w' => e = .returned (.bool (decide (K = k))) ∧ Below W.heap.size W w' := by
  have hlt := World.block_lt_of_cell? W _ hN
  have Hb := Lib.hid (one_below W (Obj.cells #[strV K, strV V] 89))
  go_enter Try.func84, Try.ntmps84
  go_wp2_with fail
  go_ret
  exact ⟨ret_bool (beq_dec _ _), Hb.out⟩
theorem pget1_ent : ∀ args w, (callFunc 84 args).run Try.prog w = .ok (.enter 84 args) w := by intro args w; kernel_rfl

theorem getP_some {ps : List PropD} {k : List UInt8} {j : Nat} (hj : j < ps.length) (h : ps[j].1 = k) (hb : ∀ i (hi : i < j), (ps[i]'(by omega)).1 ≠ k) : getP ps k = some ps[j].2 := by
  unfold getP
  rw [find_idx (q := fun p => decide (p.1 = k)) hj (by simpa using h) (fun i hi => by simpa using hb i hi)]
  rfl
theorem getP_none {ps : List PropD} {k : List UInt8} (hb : ∀ i (hi : i < ps.length), ps[i].1 ≠ k) : getP ps k = none := by
  unfold getP
  rw [find_none (fun i hi => by simpa using hb i hi)]
  rfl

/-- What a look-up answers. -/
def GetPP (W : World) (ps : List PropD) (k : List UInt8) (e : Ending) (w' : World) : Prop := e = .returned (.tuple #[strV ((getP ps k).getD []), .bool (getP ps k).isSome]) ∧ Below W.heap.size W w'
set_option maxRecDepth 100000 in
set_option maxHeartbeats 1000000 in
theorem pget_c (ps : List PropD) (a : Option Addr) (cap : Nat) (k : List UInt8) (W : World) (hr : RowA W W.heap.size 2 a ps.length cap (propCells ps)) (hn : ps.length ≤ 100000000) :
    Calls Try.prog 54 #[.slice a ps.length cap, strV k] W (GetPP W ps k) := by
  have hb0 := one_below W (Obj.cells #[strV k] 9)
  have hk0 := At.fresh W [strV k] 9
  have hr0 := hr.keep hb0 hb0.size
  have HI := Lib.hid (idx_prop ps.length a cap 84 #[.pointer (some ⟨W.heap.size, 0, none⟩)] (fun j => decide ((ps.getD j ([], [])).1 = k)) (W.alloc (Obj.cells #[strV k] 9)) hn pget1_ent (fun j W' hj hb => by
    obtain ⟨b, off, ha, -, h0, h1⟩ := (hr0.keep hb hb.size).prop_at j hj
    refine ⟨b, off, _, _, ha, h0, h1, ?_⟩
    have hg : ps.getD j ([], []) = ps[j] := by simp [List.getD, List.getElem?_eq_getElem hj]
    rw [hg]
    exact pget1_c ps[j].1 ps[j].2 k W.heap.size W' ((hk0.kept hb).cell 0 rfl)))
  have Hr := Lib.hid hr0; have Hb0 := Lib.hid hb0
  have hgd : ∀ j (hj : j < ps.length), ps.getD j ([], []) = ps[j] := fun j hj => by simp [List.getD, List.getElem?_eq_getElem hj]
  rcases idxP_cases (fun j => decide ((ps.getD j ([], [])).1 = k)) ps.length with ⟨j, hj, hp, hmin, he⟩ | ⟨hall, he⟩
  · rw [he] at HI
    have HG := Lib.hid (getP_some (ps := ps) (k := k) hj (by have h := of_decide_eq_true hp; rw [hgd j hj] at h; exact h) (fun i hi => by have h := of_decide_eq_false (hmin i hi); rw [hgd i (by omega)] at h; exact h))
    have hji : (j : Int) < ps.length := by omega
    clear he hmin hp hr hr0 hb0 hk0
    go_enter Try.func54, Try.ntmps54
    go_wp2_with fail
    refine HI.out.mono ?_
    rintro e w1 ⟨rfl, hbel⟩
    obtain ⟨b, off, rfl, -, h0, h1⟩ := (Hr.out.keep hbel hbel.size).prop_at j hj
    have Hb1 := Lib.hid (Hb0.out.trans (hbel.mono Hb0.out.size))
    generalize ps[j] = q at h0 h1 HG
    clear hbel HI
    go_wp2_with fail
    go_ret2
    unfold GetPP
    rw [HG.out]
    exact ⟨rfl, Hb1.out⟩
  · rw [he] at HI
    have HG := Lib.hid (getP_none (ps := ps) (k := k) (fun i hi => by have h := of_decide_eq_false (hall i hi); rw [hgd i hi] at h; exact h))
    clear he hall hr hr0 hb0 hk0
    go_enter Try.func54, Try.ntmps54
    go_wp2_with fail
    refine HI.out.mono ?_
    rintro e w1 ⟨rfl, hbel⟩
    have Hb1 := Lib.hid (Hb0.out.trans (hbel.mono Hb0.out.size))
    clear hbel HI
    go_wp2_with fail
    go_ret2
    unfold GetPP
    rw [HG.out]
    exact ⟨rfl, Hb1.out⟩

end Go.Proofs.Ytiinmgccjlmoaaa
