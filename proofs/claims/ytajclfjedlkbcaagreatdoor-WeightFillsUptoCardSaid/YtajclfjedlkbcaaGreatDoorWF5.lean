/- Parts of the proof, one behind the other: RHC, RMB, RMC, RMD, RME, RHD, RHE. -/
import Derived.Test.YtajclfjedlkbcaaGreatDoorWF4
import Derived.Test.YtajclfjedlkbcaaGreatDoorWF3
/- Boxes of any size; walks: prop.Get, node.Type, and the reference's. -/
namespace Go.Proofs.YtajclfjedlkbcaaGreatDoor
open Go.RowKit Go.Redl
set_option linter.unusedVariables false

/-- A box: its cells. -/
def At (w : World) (N : Nat) (cs : List Value) (T : TypeId) : Prop := w.heap[N]? = some (.cells cs.toArray T (0, 0))
theorem At.fresh (W : World) (cs : List Value) (T : TypeId) : At (W.alloc (.cells cs.toArray T)) W.heap.size cs T := heap_alloc_new W _
theorem At.lt {w : World} {N : Nat} {cs : List Value} {T : TypeId} (h : At w N cs T) : N < w.heap.size := (Array.getElem?_eq_some_iff.1 h).1
theorem At.keep {w w' : World} {N : Nat} {cs : List Value} {T : TypeId} (h : At w N cs T) (hb : Below (N + 1) w w') : At w' N cs T := by
  unfold At; rw [hb.block N (by omega)]; exact h
theorem At.kept {w w' : World} {N : Nat} {cs : List Value} {T : TypeId} (h : At w N cs T) (hb : Below w.heap.size w w') : At w' N cs T := by
  unfold At; rw [hb.block N h.lt]; exact h
theorem At.alloc {w : World} {N : Nat} {cs : List Value} {T : TypeId} (h : At w N cs T) (o : Obj) : At (w.alloc o) N cs T := by
  unfold At; rw [Lib.alloc_old _ _ _ h.lt]; exact h
theorem At.cell {w : World} {N : Nat} {cs : List Value} {T : TypeId} (h : At w N cs T) (j : Nat) {v : Value} (hj : cs[j]? = some v) : w.cell? ⟨N, j, none⟩ = some v := by
  rw [cell_of_row _ _ _ _ _ _ h]; simpa using hj
theorem At.set_ne {w : World} {N b o : Nat} {cs : List Value} {T : TypeId} (h : At w N cs T) (hne : N ≠ b) (u : Value) : At (w.setCell ⟨b, o, none⟩ u) N cs T := by
  unfold At; rw [Below.heap_setCell _ _ _ _ hne]; exact h
theorem At.set {w : World} {N : Nat} {cs : List Value} {T : TypeId} (h : At w N cs T) (j : Nat) (u : Value) : At (w.setCell ⟨N, j, none⟩ u) N (cs.set j u) T := by
  have := Lib.heap_setCell_same (i := j) h u
  simpa [At] using this
theorem At.grown {w w' : World} {N : Nat} {cs : List Value} {T : TypeId} {r : Option Nat} (h : At w N cs T) (hg : w.grownBy w' r) (hr : r ≠ some N) : At w' N cs T := by
  unfold At; rw [hg.block N h.lt (fun e => hr e.symm)]; exact h
theorem At.f1 {w : World} {N : Nat} {c0 : Value} {T : TypeId} (h : At w N [c0] T) : (w.cell? ⟨N, 0, none⟩ = some c0) ∧ (∀ j, w.frozen? ⟨N, j, none⟩ = false) ∧ N < w.heap.size :=
  ⟨h.cell 0 rfl, fun j => Lib.frozen_of_heap h _, h.lt⟩

theorem At.f2 {w : World} {N : Nat} {c0 c1 : Value} {T : TypeId} (h : At w N [c0, c1] T) : (w.cell? ⟨N, 0, none⟩ = some c0 ∧ w.cell? ⟨N, 1, none⟩ = some c1) ∧ (∀ j, w.frozen? ⟨N, j, none⟩ = false) ∧ N < w.heap.size :=
  ⟨⟨h.cell 0 rfl, h.cell 1 rfl⟩, fun j => Lib.frozen_of_heap h _, h.lt⟩

theorem At.f3 {w : World} {N : Nat} {c0 c1 c2 : Value} {T : TypeId} (h : At w N [c0, c1, c2] T) : (w.cell? ⟨N, 0, none⟩ = some c0 ∧ w.cell? ⟨N, 1, none⟩ = some c1 ∧ w.cell? ⟨N, 2, none⟩ = some c2) ∧ (∀ j, w.frozen? ⟨N, j, none⟩ = false) ∧ N < w.heap.size :=
  ⟨⟨h.cell 0 rfl, h.cell 1 rfl, h.cell 2 rfl⟩, fun j => Lib.frozen_of_heap h _, h.lt⟩

theorem At.f4 {w : World} {N : Nat} {c0 c1 c2 c3 : Value} {T : TypeId} (h : At w N [c0, c1, c2, c3] T) : (w.cell? ⟨N, 0, none⟩ = some c0 ∧ w.cell? ⟨N, 1, none⟩ = some c1 ∧ w.cell? ⟨N, 2, none⟩ = some c2 ∧ w.cell? ⟨N, 3, none⟩ = some c3) ∧ (∀ j, w.frozen? ⟨N, j, none⟩ = false) ∧ N < w.heap.size :=
  ⟨⟨h.cell 0 rfl, h.cell 1 rfl, h.cell 2 rfl, h.cell 3 rfl⟩, fun j => Lib.frozen_of_heap h _, h.lt⟩

theorem At.f5 {w : World} {N : Nat} {c0 c1 c2 c3 c4 : Value} {T : TypeId} (h : At w N [c0, c1, c2, c3, c4] T) : (w.cell? ⟨N, 0, none⟩ = some c0 ∧ w.cell? ⟨N, 1, none⟩ = some c1 ∧ w.cell? ⟨N, 2, none⟩ = some c2 ∧ w.cell? ⟨N, 3, none⟩ = some c3 ∧ w.cell? ⟨N, 4, none⟩ = some c4) ∧ (∀ j, w.frozen? ⟨N, j, none⟩ = false) ∧ N < w.heap.size :=
  ⟨⟨h.cell 0 rfl, h.cell 1 rfl, h.cell 2 rfl, h.cell 3 rfl, h.cell 4 rfl⟩, fun j => Lib.frozen_of_heap h _, h.lt⟩

theorem At.f8 {w : World} {N : Nat} {c0 c1 c2 c3 c4 c5 c6 c7 : Value} {T : TypeId} (h : At w N [c0, c1, c2, c3, c4, c5, c6, c7] T) : (w.cell? ⟨N, 0, none⟩ = some c0 ∧ w.cell? ⟨N, 1, none⟩ = some c1 ∧ w.cell? ⟨N, 2, none⟩ = some c2 ∧ w.cell? ⟨N, 3, none⟩ = some c3 ∧ w.cell? ⟨N, 4, none⟩ = some c4 ∧ w.cell? ⟨N, 5, none⟩ = some c5 ∧ w.cell? ⟨N, 6, none⟩ = some c6 ∧ w.cell? ⟨N, 7, none⟩ = some c7) ∧ (∀ j, w.frozen? ⟨N, j, none⟩ = false) ∧ N < w.heap.size :=
  ⟨⟨h.cell 0 rfl, h.cell 1 rfl, h.cell 2 rfl, h.cell 3 rfl, h.cell 4 rfl, h.cell 5 rfl, h.cell 6 rfl, h.cell 7 rfl⟩, fun j => Lib.frozen_of_heap h _, h.lt⟩

theorem At.f12 {w : World} {N : Nat} {c0 c1 c2 c3 c4 c5 c6 c7 c8 c9 c10 c11 : Value} {T : TypeId} (h : At w N [c0, c1, c2, c3, c4, c5, c6, c7, c8, c9, c10, c11] T) : (w.cell? ⟨N, 0, none⟩ = some c0 ∧ w.cell? ⟨N, 1, none⟩ = some c1 ∧ w.cell? ⟨N, 2, none⟩ = some c2 ∧ w.cell? ⟨N, 3, none⟩ = some c3 ∧ w.cell? ⟨N, 4, none⟩ = some c4 ∧ w.cell? ⟨N, 5, none⟩ = some c5 ∧ w.cell? ⟨N, 6, none⟩ = some c6 ∧ w.cell? ⟨N, 7, none⟩ = some c7 ∧ w.cell? ⟨N, 8, none⟩ = some c8 ∧ w.cell? ⟨N, 9, none⟩ = some c9 ∧ w.cell? ⟨N, 10, none⟩ = some c10 ∧ w.cell? ⟨N, 11, none⟩ = some c11) ∧ (∀ j, w.frozen? ⟨N, j, none⟩ = false) ∧ N < w.heap.size :=
  ⟨⟨h.cell 0 rfl, h.cell 1 rfl, h.cell 2 rfl, h.cell 3 rfl, h.cell 4 rfl, h.cell 5 rfl, h.cell 6 rfl, h.cell 7 rfl, h.cell 8 rfl, h.cell 9 rfl, h.cell 10 rfl, h.cell 11 rfl⟩, fun j => Lib.frozen_of_heap h _, h.lt⟩

theorem At.f13 {w : World} {N : Nat} {c0 c1 c2 c3 c4 c5 c6 c7 c8 c9 c10 c11 c12 : Value} {T : TypeId} (h : At w N [c0, c1, c2, c3, c4, c5, c6, c7, c8, c9, c10, c11, c12] T) : (w.cell? ⟨N, 0, none⟩ = some c0 ∧ w.cell? ⟨N, 1, none⟩ = some c1 ∧ w.cell? ⟨N, 2, none⟩ = some c2 ∧ w.cell? ⟨N, 3, none⟩ = some c3 ∧ w.cell? ⟨N, 4, none⟩ = some c4 ∧ w.cell? ⟨N, 5, none⟩ = some c5 ∧ w.cell? ⟨N, 6, none⟩ = some c6 ∧ w.cell? ⟨N, 7, none⟩ = some c7 ∧ w.cell? ⟨N, 8, none⟩ = some c8 ∧ w.cell? ⟨N, 9, none⟩ = some c9 ∧ w.cell? ⟨N, 10, none⟩ = some c10 ∧ w.cell? ⟨N, 11, none⟩ = some c11 ∧ w.cell? ⟨N, 12, none⟩ = some c12) ∧ (∀ j, w.frozen? ⟨N, j, none⟩ = false) ∧ N < w.heap.size :=
  ⟨⟨h.cell 0 rfl, h.cell 1 rfl, h.cell 2 rfl, h.cell 3 rfl, h.cell 4 rfl, h.cell 5 rfl, h.cell 6 rfl, h.cell 7 rfl, h.cell 8 rfl, h.cell 9 rfl, h.cell 10 rfl, h.cell 11 rfl, h.cell 12 rfl⟩, fun j => Lib.frozen_of_heap h _, h.lt⟩

theorem At.f16 {w : World} {N : Nat} {c0 c1 c2 c3 c4 c5 c6 c7 c8 c9 c10 c11 c12 c13 c14 c15 : Value} {T : TypeId} (h : At w N [c0, c1, c2, c3, c4, c5, c6, c7, c8, c9, c10, c11, c12, c13, c14, c15] T) : (w.cell? ⟨N, 0, none⟩ = some c0 ∧ w.cell? ⟨N, 1, none⟩ = some c1 ∧ w.cell? ⟨N, 2, none⟩ = some c2 ∧ w.cell? ⟨N, 3, none⟩ = some c3 ∧ w.cell? ⟨N, 4, none⟩ = some c4 ∧ w.cell? ⟨N, 5, none⟩ = some c5 ∧ w.cell? ⟨N, 6, none⟩ = some c6 ∧ w.cell? ⟨N, 7, none⟩ = some c7 ∧ w.cell? ⟨N, 8, none⟩ = some c8 ∧ w.cell? ⟨N, 9, none⟩ = some c9 ∧ w.cell? ⟨N, 10, none⟩ = some c10 ∧ w.cell? ⟨N, 11, none⟩ = some c11 ∧ w.cell? ⟨N, 12, none⟩ = some c12 ∧ w.cell? ⟨N, 13, none⟩ = some c13 ∧ w.cell? ⟨N, 14, none⟩ = some c14 ∧ w.cell? ⟨N, 15, none⟩ = some c15) ∧ (∀ j, w.frozen? ⟨N, j, none⟩ = false) ∧ N < w.heap.size :=
  ⟨⟨h.cell 0 rfl, h.cell 1 rfl, h.cell 2 rfl, h.cell 3 rfl, h.cell 4 rfl, h.cell 5 rfl, h.cell 6 rfl, h.cell 7 rfl, h.cell 8 rfl, h.cell 9 rfl, h.cell 10 rfl, h.cell 11 rfl, h.cell 12 rfl, h.cell 13 rfl, h.cell 14 rfl, h.cell 15 rfl⟩, fun j => Lib.frozen_of_heap h _, h.lt⟩

theorem At.s2 {w : World} {N : Nat} {c0 c1 : Value} {T : TypeId} (h : At w N [c0, c1] T) (d0 d1 : Value) : At ((w.setCell ⟨N, 0, none⟩ d0).setCell ⟨N, 1, none⟩ d1) N [d0, d1] T := by
  have h0 : At (w.setCell ⟨N, 0, none⟩ d0) N [d0, c1] T := h.set 0 d0
  exact h0.set 1 d1
theorem At.n2 {w : World} {N M : Nat} {cs : List Value} {T : TypeId} (h : At w M cs T) (hne : M ≠ N) (d0 d1 : Value) : At ((w.setCell ⟨N, 0, none⟩ d0).setCell ⟨N, 1, none⟩ d1) M cs T :=
  (h.set_ne hne _).set_ne hne _
theorem below_s2 {B : Nat} {W w : World} {N : Nat} (h : Below B W w) (hN : B ≤ N) (d0 d1 : Value) : Below B W ((w.setCell ⟨N, 0, none⟩ d0).setCell ⟨N, 1, none⟩ d1) :=
  (h.setCell (p := ⟨N, 0, none⟩) hN _).setCell (p := ⟨N, 1, none⟩) hN _
theorem rowq_s2 {w : World} {ok : Nat → Prop} {sz n cap N : Nat} {a : Option Addr} {cs : List Value} (h : RowQ w ok sz a n cap cs) (hne : ¬ ok N) (d0 d1 : Value) : RowQ ((w.setCell ⟨N, 0, none⟩ d0).setCell ⟨N, 1, none⟩ d1) ok sz a n cap cs :=
  rowq_set (rowq_set h hne) hne

theorem At.s3 {w : World} {N : Nat} {c0 c1 c2 : Value} {T : TypeId} (h : At w N [c0, c1, c2] T) (d0 d1 d2 : Value) : At (((w.setCell ⟨N, 0, none⟩ d0).setCell ⟨N, 1, none⟩ d1).setCell ⟨N, 2, none⟩ d2) N [d0, d1, d2] T := by
  have h0 : At (w.setCell ⟨N, 0, none⟩ d0) N [d0, c1, c2] T := h.set 0 d0
  have h1 : At ((w.setCell ⟨N, 0, none⟩ d0).setCell ⟨N, 1, none⟩ d1) N [d0, d1, c2] T := h0.set 1 d1
  exact h1.set 2 d2
theorem At.n3 {w : World} {N M : Nat} {cs : List Value} {T : TypeId} (h : At w M cs T) (hne : M ≠ N) (d0 d1 d2 : Value) : At (((w.setCell ⟨N, 0, none⟩ d0).setCell ⟨N, 1, none⟩ d1).setCell ⟨N, 2, none⟩ d2) M cs T :=
  ((h.set_ne hne _).set_ne hne _).set_ne hne _
theorem below_s3 {B : Nat} {W w : World} {N : Nat} (h : Below B W w) (hN : B ≤ N) (d0 d1 d2 : Value) : Below B W (((w.setCell ⟨N, 0, none⟩ d0).setCell ⟨N, 1, none⟩ d1).setCell ⟨N, 2, none⟩ d2) :=
  ((h.setCell (p := ⟨N, 0, none⟩) hN _).setCell (p := ⟨N, 1, none⟩) hN _).setCell (p := ⟨N, 2, none⟩) hN _
theorem rowq_s3 {w : World} {ok : Nat → Prop} {sz n cap N : Nat} {a : Option Addr} {cs : List Value} (h : RowQ w ok sz a n cap cs) (hne : ¬ ok N) (d0 d1 d2 : Value) : RowQ (((w.setCell ⟨N, 0, none⟩ d0).setCell ⟨N, 1, none⟩ d1).setCell ⟨N, 2, none⟩ d2) ok sz a n cap cs :=
  rowq_set (rowq_set (rowq_set h hne) hne) hne

theorem At.s8 {w : World} {N : Nat} {c0 c1 c2 c3 c4 c5 c6 c7 : Value} {T : TypeId} (h : At w N [c0, c1, c2, c3, c4, c5, c6, c7] T) (d0 d1 d2 d3 d4 d5 d6 d7 : Value) : At ((((((((w.setCell ⟨N, 0, none⟩ d0).setCell ⟨N, 1, none⟩ d1).setCell ⟨N, 2, none⟩ d2).setCell ⟨N, 3, none⟩ d3).setCell ⟨N, 4, none⟩ d4).setCell ⟨N, 5, none⟩ d5).setCell ⟨N, 6, none⟩ d6).setCell ⟨N, 7, none⟩ d7) N [d0, d1, d2, d3, d4, d5, d6, d7] T := by
  have h0 : At (w.setCell ⟨N, 0, none⟩ d0) N [d0, c1, c2, c3, c4, c5, c6, c7] T := h.set 0 d0
  have h1 : At ((w.setCell ⟨N, 0, none⟩ d0).setCell ⟨N, 1, none⟩ d1) N [d0, d1, c2, c3, c4, c5, c6, c7] T := h0.set 1 d1
  have h2 : At (((w.setCell ⟨N, 0, none⟩ d0).setCell ⟨N, 1, none⟩ d1).setCell ⟨N, 2, none⟩ d2) N [d0, d1, d2, c3, c4, c5, c6, c7] T := h1.set 2 d2
  have h3 : At ((((w.setCell ⟨N, 0, none⟩ d0).setCell ⟨N, 1, none⟩ d1).setCell ⟨N, 2, none⟩ d2).setCell ⟨N, 3, none⟩ d3) N [d0, d1, d2, d3, c4, c5, c6, c7] T := h2.set 3 d3
  have h4 : At (((((w.setCell ⟨N, 0, none⟩ d0).setCell ⟨N, 1, none⟩ d1).setCell ⟨N, 2, none⟩ d2).setCell ⟨N, 3, none⟩ d3).setCell ⟨N, 4, none⟩ d4) N [d0, d1, d2, d3, d4, c5, c6, c7] T := h3.set 4 d4
  have h5 : At ((((((w.setCell ⟨N, 0, none⟩ d0).setCell ⟨N, 1, none⟩ d1).setCell ⟨N, 2, none⟩ d2).setCell ⟨N, 3, none⟩ d3).setCell ⟨N, 4, none⟩ d4).setCell ⟨N, 5, none⟩ d5) N [d0, d1, d2, d3, d4, d5, c6, c7] T := h4.set 5 d5
  have h6 : At (((((((w.setCell ⟨N, 0, none⟩ d0).setCell ⟨N, 1, none⟩ d1).setCell ⟨N, 2, none⟩ d2).setCell ⟨N, 3, none⟩ d3).setCell ⟨N, 4, none⟩ d4).setCell ⟨N, 5, none⟩ d5).setCell ⟨N, 6, none⟩ d6) N [d0, d1, d2, d3, d4, d5, d6, c7] T := h5.set 6 d6
  exact h6.set 7 d7
theorem At.n8 {w : World} {N M : Nat} {cs : List Value} {T : TypeId} (h : At w M cs T) (hne : M ≠ N) (d0 d1 d2 d3 d4 d5 d6 d7 : Value) : At ((((((((w.setCell ⟨N, 0, none⟩ d0).setCell ⟨N, 1, none⟩ d1).setCell ⟨N, 2, none⟩ d2).setCell ⟨N, 3, none⟩ d3).setCell ⟨N, 4, none⟩ d4).setCell ⟨N, 5, none⟩ d5).setCell ⟨N, 6, none⟩ d6).setCell ⟨N, 7, none⟩ d7) M cs T :=
  (((((((h.set_ne hne _).set_ne hne _).set_ne hne _).set_ne hne _).set_ne hne _).set_ne hne _).set_ne hne _).set_ne hne _
theorem below_s8 {B : Nat} {W w : World} {N : Nat} (h : Below B W w) (hN : B ≤ N) (d0 d1 d2 d3 d4 d5 d6 d7 : Value) : Below B W ((((((((w.setCell ⟨N, 0, none⟩ d0).setCell ⟨N, 1, none⟩ d1).setCell ⟨N, 2, none⟩ d2).setCell ⟨N, 3, none⟩ d3).setCell ⟨N, 4, none⟩ d4).setCell ⟨N, 5, none⟩ d5).setCell ⟨N, 6, none⟩ d6).setCell ⟨N, 7, none⟩ d7) :=
  (((((((h.setCell (p := ⟨N, 0, none⟩) hN _).setCell (p := ⟨N, 1, none⟩) hN _).setCell (p := ⟨N, 2, none⟩) hN _).setCell (p := ⟨N, 3, none⟩) hN _).setCell (p := ⟨N, 4, none⟩) hN _).setCell (p := ⟨N, 5, none⟩) hN _).setCell (p := ⟨N, 6, none⟩) hN _).setCell (p := ⟨N, 7, none⟩) hN _
theorem rowq_s8 {w : World} {ok : Nat → Prop} {sz n cap N : Nat} {a : Option Addr} {cs : List Value} (h : RowQ w ok sz a n cap cs) (hne : ¬ ok N) (d0 d1 d2 d3 d4 d5 d6 d7 : Value) : RowQ ((((((((w.setCell ⟨N, 0, none⟩ d0).setCell ⟨N, 1, none⟩ d1).setCell ⟨N, 2, none⟩ d2).setCell ⟨N, 3, none⟩ d3).setCell ⟨N, 4, none⟩ d4).setCell ⟨N, 5, none⟩ d5).setCell ⟨N, 6, none⟩ d6).setCell ⟨N, 7, none⟩ d7) ok sz a n cap cs :=
  rowq_set (rowq_set (rowq_set (rowq_set (rowq_set (rowq_set (rowq_set (rowq_set h hne) hne) hne) hne) hne) hne) hne) hne


theorem str_eqb (a b : List UInt8) : ((⟨a.toArray⟩ : ByteArray).toList == (⟨b.toArray⟩ : ByteArray).toList) = decide (a = b) := by
  by_cases h : a = b
  · subst h; simp
  · rw [str_ne h]; simp [h]
theorem beq_dec (a b : List UInt8) : (a == b) = decide (a = b) := by by_cases h : a = b <;> simp [h]
theorem one_below (W : World) (o : Obj) : Below W.heap.size W (W.alloc o) := (Below.refl _ _).alloc (Nat.le_refl _) o

/-! ### a property looked up -/
theorem getP_some {ps : List PropD} {k : List UInt8} {j : Nat} (hj : j < ps.length) (h : ps[j].1 = k) (hb : ∀ i (hi : i < j), (ps[i]'(by omega)).1 ≠ k) : getP ps k = some ps[j].2 := by
  unfold getP
  rw [find_idx (q := fun p => decide (p.1 = k)) hj (by simpa using h) (fun i hi => by simpa using hb i hi)]
  rfl
theorem getP_none {ps : List PropD} {k : List UInt8} (hb : ∀ i (hi : i < ps.length), ps[i].1 ≠ k) : getP ps k = none := by
  unfold getP
  rw [find_none (fun i hi => by simpa using hb i hi)]
  rfl

/-- What a look-up answers. -/
def GetPP (W : World) (ps : List PropD) (k : List UInt8) (e : Ending) (w' : World) : Prop := e = .returned (.tuple #[strV ((getP ps k).getD []), .bool (getP ps k).isSome]) ∧ Below W.heap.size W w'
end Go.Proofs.YtajclfjedlkbcaaGreatDoor
/- Walks: table's name, acts. -/
namespace Go.Proofs.YtajclfjedlkbcaaGreatDoor
open Go.RowKit Go.Redl
set_option linter.unusedVariables false
set_option linter.unusedSimpArgs false

theorem name_ent : ∀ args w, (callFunc 95 args).run Tryz.prog w = .ok (.enter 95 args) w := by intro args w; kernel_rfl
set_option maxRecDepth 100000 in
set_option maxHeartbeats 1000000 in
theorem name_c (s : List UInt8) (w : World) (hn : s.length ≤ 1000000000) :
    Calls Tryz.prog 95 #[.string ⟨s.toArray⟩] w fun e w' => e = .returned (.bool (nameB s)) ∧ Below w.heap.size w w' := by
  have Hk : Hid (nameB s = (decide (s ≠ []) && (decide (s.length ≤ 32) && s.all valcB))) := rfl
  obtain ⟨hT, hF⟩ := trim_c s valSet valcB val_set (by decide) (by decide +kernel) w hn
  have HT := Lib.hid hT; have HF := Lib.hid hF
  clear hT hF
  cases s with
  | nil =>
    go_enter Tryz.func95, Tryz.ntmps95
    go_wp2_with fail
    go_ret
    exact ⟨ret_bool (by rw [Hk.out]; rfl), Below.refl _ _⟩
  | cons c r =>
    have hsz : (⟨(c :: r).toArray⟩ : ByteArray).size = r.length + 1 := rfl
    have hne : ((⟨(c :: r).toArray⟩ : ByteArray).toList.isEmpty) = false := by rw [ByteArray.toList_mk]; rfl
    have hne2 : (!(⟨(c :: r).toArray⟩ : ByteArray).toList.isEmpty) = true := by rw [ByteArray.toList_mk]; rfl
    obtain ⟨S, hS⟩ : ∃ S, S = (⟨(c :: r).toArray⟩ : ByteArray) := ⟨_, rfl⟩
    rw [← hS] at hsz hne hne2 HT HF ⊢
    by_cases h32 : 32 < r.length + 1
    · have Hz : Hid (nameB (c :: r) = false) := by
        show nameB _ = false
        rw [Hk.out, decide_eq_false (show ¬ (c :: r).length ≤ 32 by simp only [List.length_cons]; omega)]; simp
      clear hS HT HF
      go_enter Tryz.func95, Tryz.ntmps95
      go_wp2_with fail
      go_ret
      exact ⟨ret_bool Hz.out.symm, Below.refl _ _⟩
    · have Hk2 : Hid (nameB (c :: r) = (c :: r).all valcB) := by
        show nameB _ = _
        rw [Hk.out, decide_eq_true (show (c :: r).length ≤ 32 by simp only [List.length_cons]; omega)]; simp
      cases hall : (c :: r).all valcB with
      | true =>
        have HC := Lib.hid (HT.out hall)
        rw [hall] at Hk2
        clear hS HT HF hall
        go_enter Tryz.func95, Tryz.ntmps95
        go_wp2_with fail
        refine HC.out.mono ?_
        rintro e w1 ⟨rfl, hb⟩
        have Hb := Lib.hid hb
        clear hb
        go_wp2_with fail
        go_ret
        exact ⟨ret_bool Hk2.out.symm, Hb.out⟩
      | false =>
        obtain ⟨y, ys, hC⟩ := HF.out hall
        have HC := Lib.hid hC
        rw [hall] at Hk2
        have hn2 : ((⟨(y :: ys).toArray⟩ : ByteArray).toList.isEmpty) = false := by rw [ByteArray.toList_mk]; rfl
        clear hS HT HF hall hC
        go_enter Tryz.func95, Tryz.ntmps95
        go_wp2_with fail
        refine HC.out.mono ?_
        rintro e w1 ⟨rfl, hb⟩
        have Hb := Lib.hid hb
        clear hb
        go_wp2_with fail
        go_ret
        exact ⟨ret_bool Hk2.out.symm, Hb.out⟩

theorem acts_ent : ∀ args w, (callFunc 97 args).run Tryz.prog w = .ok (.enter 97 args) w := by intro args w; kernel_rfl
set_option maxRecDepth 100000 in
set_option maxHeartbeats 1000000 in
theorem acts_c (x : Int) (t : List UInt8) (lift : Bool) (w : World) (hn : t.length ≤ 1000000000) :
    Calls Tryz.prog 97 #[.agg #[.int .i64 x, strV t], .bool lift] w fun e w' => e = .returned (.bool (actB lift (x, t))) ∧ Below w.heap.size w w' := by
  obtain ⟨R, hR⟩ : ∃ R, R = actB lift (x, t) := ⟨_, rfl⟩
  have Hr := Lib.hid (show R = if x = 4 then nameB t else if x = 3 then lift && decide (t = []) else if x = 1 ∨ x = 2 then decide (t = []) else false from hR)
  rw [← hR]
  obtain ⟨w0, hw0⟩ : ∃ w0, w0 = w.alloc (Obj.cells #[.int .i64 x, strV t] 24) := ⟨_, rfl⟩
  have hb0 : Below w.heap.size w w0 := by rw [hw0]; exact one_below _ _
  have hA : At w0 w.heap.size [.int .i64 x, strV t] 24 := by rw [hw0]; exact At.fresh w _ _
  obtain ⟨⟨x0, x1⟩, -, xl⟩ := hA.f2
  have HN := Lib.hid (name_c t w0 hn)
  have heq := str_eqb t []
  have Hb0 := Lib.hid hb0; have Hw0 := Lib.hid hw0
  clear hR hb0 hw0 hA
  by_cases h4 : x = 4
  · subst h4
    have Hr2 := Lib.hid (show R = nameB t from Hr.out)
    go_enter Tryz.func97, Tryz.ntmps97
    go_upto_region 1 with fail
    rw [← Hw0.out]
    clear Hw0
    go_wp2_with fail
    refine HN.out.mono ?_
    rintro e w1 ⟨rfl, hbel⟩
    have Hb1 := Lib.hid (Hb0.out.trans (hbel.mono Hb0.out.size))
    clear hbel HN x0 x1 xl
    go_wp2_with fail
    go_ret
    exact ⟨ret_bool Hr2.out.symm, Hb1.out⟩
  · have h4b : (x == 4) = false := beq_eq_false_iff_ne.2 h4
    by_cases h3 : x = 3
    · subst h3
      cases lift with
      | false =>
        have Hr2 := Lib.hid (show R = false from Hr.out)
        go_enter Tryz.func97, Tryz.ntmps97
        go_upto_region 1 with fail
        rw [← Hw0.out]
        clear Hw0
        go_wp2_with fail
        go_ret
        exact ⟨ret_bool Hr2.out.symm, Hb0.out⟩
      | true =>
        have Hr2 := Lib.hid (show R = decide (t = []) from by rw [Hr.out]; simp)
        go_enter Tryz.func97, Tryz.ntmps97
        go_upto_region 1 with fail
        rw [← Hw0.out]
        clear Hw0
        go_wp2_with fail
        go_ret
        exact ⟨ret_bool (by rw [Hr2.out]; cases t <;> simp), Hb0.out⟩
    · have h3b : (x == 3) = false := beq_eq_false_iff_ne.2 h3
      by_cases h12 : x = 1 ∨ x = 2
      · have Hr2 := Lib.hid (show R = decide (t = []) from by rw [Hr.out, if_neg h4, if_neg h3, if_pos h12])
        rcases h12 with rfl | rfl
        · go_enter Tryz.func97, Tryz.ntmps97
          go_upto_region 1 with fail
          rw [← Hw0.out]
          clear Hw0
          go_wp2_with fail
          go_ret
          exact ⟨ret_bool (by rw [Hr2.out]; cases t <;> simp), Hb0.out⟩
        · go_enter Tryz.func97, Tryz.ntmps97
          go_upto_region 1 with fail
          rw [← Hw0.out]
          clear Hw0
          go_wp2_with fail
          go_ret
          exact ⟨ret_bool (by rw [Hr2.out]; cases t <;> simp), Hb0.out⟩
      · have h1b : (x == 1) = false := beq_eq_false_iff_ne.2 fun h => h12 (.inl h)
        have h2b : (x == 2) = false := beq_eq_false_iff_ne.2 fun h => h12 (.inr h)
        have Hr2 := Lib.hid (show R = false from by rw [Hr.out, if_neg h4, if_neg h3, if_neg h12])
        go_enter Tryz.func97, Tryz.ntmps97
        go_upto_region 1 with fail
        rw [← Hw0.out]
        clear Hw0
        go_wp2_with fail
        go_ret
        exact ⟨ret_bool Hr2.out.symm, Hb0.out⟩

end Go.Proofs.YtajclfjedlkbcaaGreatDoor
/- Walk: table's rising. -/
namespace Go.Proofs.YtajclfjedlkbcaaGreatDoor
open Go.RowKit Go.Redl
set_option linter.unusedVariables false
set_option linter.unusedSimpArgs false

/-- A row of texts: the k-th. -/
theorem text_at {w : World} {B : Nat} {a : Option Addr} {n c : Nat} {l : List (List UInt8)} (h : RowA w B 1 a n c (l.map strV)) (k : Nat) (hk : k < l.length) :
    ∃ b off, a = some ⟨b, off, none⟩ ∧ b < B ∧ w.cell? ⟨b, off + k, none⟩ = some (strV l[k]) := by
  obtain ⟨b, off, ha, hb, hc⟩ := h.some_ (by intro e; simp at e; subst e; simp at hk)
  exact ⟨b, off, ha, hb, hc k _ (by simp [List.getElem?_eq_getElem hk])⟩
/-- The one ahead of the k-th. -/
def aheadL (l : List (List UInt8)) : Nat → Option (List UInt8)
  | 0 => none
  | k + 1 => l[k]?
theorem rise_step {l : List (List UInt8)} {k : Nat} (hk : k < l.length) : riseGo (aheadL l k) (l.drop k) = (nameB l[k] && ((match aheadL l k with | none => true | some p => !leB l[k] p) && riseGo (aheadL l (k + 1)) (l.drop (k + 1)))) := by
  rw [List.drop_eq_getElem_cons hk, show aheadL l (k + 1) = some l[k] by show l[k]? = _; exact List.getElem?_eq_getElem hk]
  cases aheadL l k with
  | none => simp [riseGo]
  | some p => simp [riseGo]
theorem rising_ent : ∀ args w, (callFunc 48 args).run Tryz.prog w = .ok (.enter 48 args) w := by intro args w; kernel_rfl
set_option maxRecDepth 100000 in
set_option maxHeartbeats 2000000 in
theorem rising_c (l : List (List UInt8)) (a : Option Addr) (cap : Nat) (W : World) (hr : RowA W W.heap.size 1 a l.length cap (l.map strV)) (hn : l.length ≤ 100000000) (hb : ∀ t ∈ l, t.length ≤ 1000000000) :
    Calls Tryz.prog 48 #[.slice a l.length cap] W fun e w' => e = .returned (.bool (riseB l)) ∧ Below W.heap.size W w' := by
  obtain ⟨R, hR⟩ : ∃ R, R = riseB l := ⟨_, rfl⟩
  have HR := Lib.hid (show (riseGo (aheadL l 0) (l.drop 0) && decide (l.length ≤ 32)) = R from hR.symm)
  rw [← hR]
  have Hr := Lib.hid hr; have HB := Lib.hid hb
  clear hR hr hb
  go_enter Tryz.func48, Tryz.ntmps48
  go_wp2_with fail
  go_loopg [7] l.length (fun g i wr => ∃ k : Nat, i = .int .i64 k ∧ k + g = l.length ∧ Hid ((riseGo (aheadL l k) (l.drop k) && decide (l.length ≤ 32)) = R) ∧ Below W.heap.size W wr)
  case atStart => exact ⟨0, rfl, by omega, HR, Below.refl _ _⟩
  case round =>
    obtain ⟨k, rfl, hg, hst, hbr⟩ := hrel
    have Hbr := Lib.hid hbr
    by_cases hlt : k < l.length
    · have hlti : (k : Int) < l.length := by omega
      have hrr := Hr.out.keep hbr hbr.size
      obtain ⟨b, off, rfl, hlb, hc⟩ := text_at hrr k hlt
      have HN := Lib.hid (name_c l[k] wr (HB.out _ (List.getElem_mem hlt)))
      have Hst := Lib.hid ((congrArg (· && decide (l.length ≤ 32)) (rise_step hlt)).symm.trans hst.out)
      cases k with
      | zero =>
        have Hst2 := Lib.hid (show (nameB l[0] && (true && riseGo (aheadL l 1) (l.drop 1)) && decide (l.length ≤ 32)) = R from Hst.out)
        rw [Nat.add_zero] at hc
        generalize l[0] = t at hc HN Hst2
        clear hrr hbr hst Hst
        cases hnm : nameB t with
        | false =>
          have Hz := Lib.hid (show false = R by have h := Hst2.out; rw [hnm] at h; exact h)
          rw [hnm] at HN
          clear hnm Hst2
          go_wp2_with fail
          refine HN.out.mono ?_
          rintro e w1 ⟨rfl, hbel⟩
          have Hb1 := Lib.hid (Hbr.out.trans (hbel.mono Hbr.out.size))
          clear hbel HN hc
          go_wp2_with fail
          go_ret
          exact ⟨ret_bool Hz.out, Hb1.out⟩
        | true =>
          have HN2 := Lib.hid (show (riseGo (aheadL l 1) (l.drop 1) && decide (l.length ≤ 32)) = R by have h := Hst2.out; rw [hnm] at h; simpa using h)
          rw [hnm] at HN
          clear hnm Hst2
          go_wp2_with fail
          refine HN.out.mono ?_
          rintro e w1 ⟨rfl, hbel⟩
          have Hb1 := Lib.hid (Hbr.out.trans (hbel.mono Hbr.out.size))
          clear hbel HN hc
          go_wp2_with fail
          go_roundg (l.length - 1)
          case measure => omega
          case rel => exact ⟨1, by go_num, by omega, HN2, Hb1.out⟩
      | succ m =>
        have hml : m < l.length := by omega
        have hmi : (m : Int) < l.length := by omega
        have hpos : (0 : Int) < ((m + 1 : Nat) : Int) := by omega
        have hsub : IntKind.i64.wrap (((m + 1 : Nat) : Int) - 1) = (m : Int) := (IntWalk.i64_in _ (by omega)).trans (by omega)
        obtain ⟨b', off', e1, -, hc2⟩ := text_at hrr m hml
        injection e1 with e1; injection e1 with e1 e2; subst e1; subst e2
        have Hst2 := Lib.hid (show (nameB l[m + 1] && (!leB l[m + 1] l[m] && riseGo (aheadL l (m + 2)) (l.drop (m + 2))) && decide (l.length ≤ 32)) = R by
          have h := Hst.out
          rw [show aheadL l (m + 1) = some l[m] by show l[m]? = _; exact List.getElem?_eq_getElem hml] at h
          exact h)
        have Hlb := Lib.hid hlb
        generalize l[m + 1] = t at hc HN Hst2
        generalize l[m] = p at hc2 Hst2
        have Hle : Hid (leB t p = (Op.bytesLess t p || t == p)) := rfl
        clear hrr hbr hst Hst hlb
        cases hnm : nameB t with
        | false =>
          have Hz := Lib.hid (show false = R by have h := Hst2.out; rw [hnm] at h; exact h)
          rw [hnm] at HN
          clear hnm Hst2
          go_wp2_with fail
          refine HN.out.mono ?_
          rintro e w1 ⟨rfl, hbel⟩
          have Hb1 := Lib.hid (Hbr.out.trans (hbel.mono Hbr.out.size))
          have d2 := (hbel.cell (by exact Hlb.out)).trans hc2
          clear hbel HN hc hc2
          go_wp2_with fail
          go_ret
          exact ⟨ret_bool Hz.out, Hb1.out⟩
        | true =>
          have Hst3 := Lib.hid (show (!leB t p && riseGo (aheadL l (m + 2)) (l.drop (m + 2)) && decide (l.length ≤ 32)) = R by have h := Hst2.out; rw [hnm] at h; simpa using h)
          rw [hnm] at HN
          clear hnm Hst2
          cases hx : Op.bytesLess t p
          · cases hy : (t == p)
            · have HN2 := Lib.hid (show (riseGo (aheadL l (m + 1 + 1)) (l.drop (m + 1 + 1)) && decide (l.length ≤ 32)) = R by have h := Hst3.out; rw [show leB t p = false by rw [Hle.out, hx, hy]; rfl] at h; simpa using h)
              clear Hst3
              go_wp2_with fail
              refine HN.out.mono ?_
              rintro e w1 ⟨rfl, hbel⟩
              have Hb1 := Lib.hid (Hbr.out.trans (hbel.mono Hbr.out.size))
              have d2 := (hbel.cell (by exact Hlb.out)).trans hc2
              clear hbel HN hc hc2
              go_wp2_with fail
              go_roundg (l.length - (m + 1 + 1))
              case measure => omega
              case rel => exact ⟨m + 1 + 1, by go_num, by omega, HN2, Hb1.out⟩
            · have Hz := Lib.hid (show false = R by have h := Hst3.out; rw [show leB t p = true by rw [Hle.out, hx, hy]; rfl] at h; simpa using h)
              clear Hst3
              go_wp2_with fail
              refine HN.out.mono ?_
              rintro e w1 ⟨rfl, hbel⟩
              have Hb1 := Lib.hid (Hbr.out.trans (hbel.mono Hbr.out.size))
              have d2 := (hbel.cell (by exact Hlb.out)).trans hc2
              clear hbel HN hc hc2
              go_wp2_with fail
              go_ret
              exact ⟨ret_bool Hz.out, Hb1.out⟩
          · have Hz := Lib.hid (show false = R by have h := Hst3.out; rw [show leB t p = true by rw [Hle.out, hx]; rfl] at h; simpa using h)
            clear Hst3
            go_wp2_with fail
            refine HN.out.mono ?_
            rintro e w1 ⟨rfl, hbel⟩
            have Hb1 := Lib.hid (Hbr.out.trans (hbel.mono Hbr.out.size))
            have d2 := (hbel.cell (by exact Hlb.out)).trans hc2
            clear hbel HN hc hc2
            go_wp2_with fail
            go_ret
            exact ⟨ret_bool Hz.out, Hb1.out⟩
    · obtain rfl : k = l.length := by omega
      have Hfin := Lib.hid (show decide (l.length ≤ 32) = R by have h := hst.out; rw [List.drop_length] at h; cases aheadL l l.length <;> simpa [riseGo] using h)
      clear hst hbr
      by_cases h32 : l.length ≤ 32
      · have h32i : (l.length : Int) ≤ 32 := by omega
        have Hz := Lib.hid ((decide_eq_true h32).symm.trans Hfin.out)
        clear h32
        go_wp2_with fail
        go_ret
        exact ⟨ret_bool Hz.out, Hbr.out⟩
      · have h32i : ¬ (l.length : Int) ≤ 32 := by omega
        have Hz := Lib.hid ((decide_eq_false h32).symm.trans Hfin.out)
        clear h32
        go_wp2_with fail
        go_ret
        exact ⟨ret_bool (by rw [← Hz.out]), Hbr.out⟩

end Go.Proofs.YtajclfjedlkbcaaGreatDoor
/- Walks: table's small closures (a rule's type, a pair's type). -/
namespace Go.Proofs.YtajclfjedlkbcaaGreatDoor
open Go.RowKit Go.Redl
set_option linter.unusedVariables false
set_option linter.unusedSimpArgs false

theorem pairtype_ent : ∀ args w, (callFunc 99 args).run Tryz.prog w = .ok (.enter 99 args) w := by intro args w; kernel_rfl
set_option maxRecDepth 100000 in
theorem pairtype_c (x0 : List UInt8) (v1 v2 : Value) (W : World) : Calls Tryz.prog 99 #[.agg #[strV x0, v1, v2]] W fun e w' => e = .returned (strV x0) ∧ Below W.heap.size W w' := by
  have Hb := Lib.hid (one_below W (Obj.cells #[strV x0, v1, v2] 70))
  go_enter Tryz.func99, Tryz.ntmps99
  go_wp2_with fail
  go_ret
  exact ⟨rfl, Hb.out⟩
theorem ruletype_ent : ∀ args w, (callFunc 50 args).run Tryz.prog w = .ok (.enter 50 args) w := by intro args w; kernel_rfl
set_option maxRecDepth 100000 in
theorem ruletype_c (x0 : List UInt8) (v1 v2 v3 v4 v5 v6 v7 : Value) (W : World) : Calls Tryz.prog 50 #[.agg #[strV x0, v1, v2, v3, v4, v5, v6, v7]] W fun e w' => e = .returned (strV x0) ∧ Below W.heap.size W w' := by
  have Hb := Lib.hid (one_below W (Obj.cells #[strV x0, v1, v2, v3, v4, v5, v6, v7] 27))
  go_enter Tryz.func50, Tryz.ntmps50
  go_wp2_with fail
  go_ret
  exact ⟨rfl, Hb.out⟩

end Go.Proofs.YtajclfjedlkbcaaGreatDoor
/- Walk: table's types at a rule's pairs. -/
namespace Go.Proofs.YtajclfjedlkbcaaGreatDoor
open Go.RowKit Go.Redl
set_option linter.unusedVariables false
set_option linter.unusedSimpArgs false

theorem info_strT : (Tryz.prog.info? 9).map (fun i => (i.zero, i.size, i.bytes)) = some (some (.string ⟨#[]⟩), 1, 16) := by kernel_rfl
theorem made_strs (n : Nat) : madeCells (#[.string ⟨#[]⟩] : Array Value) (n * 1) = (List.replicate n (strV [])).toArray := by
  apply Array.ext'
  unfold madeCells
  simp only [Array.toList_map, Array.toList_range, Nat.mul_one]
  apply List.ext_getElem
  · simp
  · intro i h1 h2
    simp [Nat.mod_one]
theorem make_strs (n : Nat) (hn : n ≤ 100000000) (w : World) :
    (Instr.makeSlice 91 (.int .i64 (n : Int)) (.int .i64 (n : Int))).run Tryz.prog w = .ok (.slice (some ⟨w.heap.size, 0, none⟩) n n) (w.alloc (.cells (List.replicate n (strV [])).toArray 9)) := by
  obtain ⟨i, hi, hz, hs, hb⟩ : ∃ i, Tryz.prog.info? 9 = some i ∧ i.zero = some (.string ⟨#[]⟩) ∧ i.size = 1 ∧ i.bytes = 16 := by
    obtain ⟨i, hi, hzz⟩ := Option.map_eq_some_iff.1 info_strT
    simp only [Prod.mk.injEq] at hzz
    exact ⟨i, hi, hzz⟩
  have hr := run_make (P := Tryz.prog) w 91 9 i _ Tryz.underlying91 hi hz .i64 .i64 n n (by omega) (Int.le_refl _) (by rw [hb]; omega) (by omega)
  simp only [Int.toNat_natCast, hs, Value.cells] at hr
  rw [hr, made_strs]

theorem typesP_ent : ∀ args w, (callFunc 98 args).run Tryz.prog w = .ok (.enter 98 args) w := by intro args w; kernel_rfl
abbrev pairNames (l : List PairD) : List Value := l.map fun p => strV p.1
set_option maxRecDepth 100000 in
set_option maxHeartbeats 1000000 in
theorem typesP_c (l : List PairD) (a : Option Addr) (cap : Nat) (W : World) (hr : RowA W W.heap.size 3 a l.length cap (pairCells l)) (hn : l.length ≤ 100000000) :
    Calls Tryz.prog 98 #[.slice a l.length cap, .func (.func 99) #[] #[]] W fun e w' => e = .returned (.slice (some ⟨W.heap.size, 0, none⟩) l.length l.length) ∧ At w' W.heap.size (pairNames l) 9 ∧ Below W.heap.size W w' := by
  obtain ⟨w0, hw0⟩ : ∃ w0, w0 = W.alloc (.cells (List.replicate l.length (strV [])).toArray 9) := ⟨_, rfl⟩
  have hb0 : Below W.heap.size W w0 := by rw [hw0]; exact one_below _ _
  have hA : At w0 W.heap.size (List.replicate l.length (strV [])) 9 := by rw [hw0]; exact At.fresh W _ _
  have hMk := make_strs l.length hn W
  rw [← hw0] at hMk
  have Hr := Lib.hid (fun (w' : World) (hb : Below W.heap.size W w') => hr.keep hb hb.size)
  have HA := Lib.hid hA; have Hb0 := Lib.hid hb0
  have HE := pairtype_ent
  clear hr hA hb0 hw0
  go_enter Tryz.func98, Tryz.ntmps98
  go_wp2_with fail
  go_loopg [13] l.length (fun g i wr => ∃ k : Nat, i = .int .i64 k ∧ k + g = l.length ∧ Hid (At wr W.heap.size (pairNames (l.take k) ++ List.replicate (l.length - k) (strV [])) 9) ∧ Hid (Below W.heap.size W wr))
  case atStart => exact ⟨0, rfl, by omega, (show At w0 W.heap.size (pairNames (l.take 0) ++ List.replicate (l.length - 0) (strV [])) 9 by simpa using HA.out), Hb0⟩
  case round =>
    obtain ⟨k, rfl, hg, hat, hbr⟩ := hrel
    by_cases hlt : k < l.length
    · have hlti : (k : Int) < l.length := by omega
      obtain ⟨b, off, rfl, hlb, p0, p1, p2⟩ := (Hr.out wr hbr.out).pair_at k hlt
      have Hst := Lib.hid (show l.take (k + 1) = l.take k ++ [l[k]] from List.take_succ_eq_append_getElem hlt)
      generalize l[k] = q at p0 p1 p2 Hst
      obtain ⟨q0, q1, q2⟩ := q
      simp only at p0 p1 p2
      have HC := Lib.hid (fun (w1 : World) => pairtype_c q0 (.int .i64 q1) (strV q2) w1)
      clear hlb
      go_wp2_with fail
      refine (HC.out _).mono ?_
      rintro e w2 ⟨rfl, hbel⟩
      have hb2 : Below wr.heap.size wr w2 := (one_below wr (Obj.cells #[strV q0, .int .i64 q1, strV q2] 70)).trans (hbel.mono (one_below wr _).size)
      have hA2 := hat.out.kept hb2
      have Hb2 := Lib.hid (hbr.out.trans (hb2.mono hbr.out.size))
      have cf : w2.frozen? ⟨W.heap.size, k, none⟩ = false := Lib.frozen_of_heap hA2 _
      have cc : w2.cell? ⟨W.heap.size, k, none⟩ = some (strV []) := hA2.cell k (by
        have hkl : (pairNames (l.take k)).length = k := by simp; omega
        rw [List.getElem?_append_right (by omega), List.getElem?_replicate, if_pos (by omega)])
      have HA2 := Lib.hid hA2
      clear hbel hb2 hA2 HC p0 p1 p2
      go_wp2_with fail
      go_roundg (l.length - (k + 1))
      case measure => omega
      case rel =>
        refine ⟨k + 1, by go_num, by omega, ?_, (show Below _ _ _ from Hb2.out.setCell (p := ⟨W.heap.size, k, none⟩) (Nat.le_refl _) _)⟩
        show At _ W.heap.size (pairNames (l.take (k + 1)) ++ List.replicate (l.length - (k + 1)) (strV [])) 9
        have h := HA2.out.set k (strV q0)
        rw [List.set_append_right _ _ (by simp; omega)] at h
        rw [Hst.out]
        have e : l.length - k = (l.length - (k + 1)) + 1 := by omega
        rw [e, List.replicate_succ] at h
        simpa [Nat.min_eq_left (Nat.le_of_lt hlt)] using h
    · obtain rfl : k = l.length := by omega
      have Hfin := Lib.hid (show At wr W.heap.size (pairNames l) 9 by have h := hat.out; rw [List.take_length, Nat.sub_self] at h; simpa using h)
      have hnl : ¬ (l.length : Int) < l.length := by omega
      clear hat
      go_wp2_with fail
      go_ret
      exact ⟨rfl, Hfin.out, hbr.out⟩

end Go.Proofs.YtajclfjedlkbcaaGreatDoor
/- Walks: node.Type, table's typed, ActOf, RuleOf. -/
namespace Go.Proofs.YtajclfjedlkbcaaGreatDoor
open Go.RowKit Go.Redl
set_option linter.unusedVariables false

theorem At.second (W : World) (o : Obj) (cs : List Value) (T : TypeId) : At ((W.alloc o).alloc (.cells cs.toArray T)) (W.heap.size + 1) cs T := by
  have h := At.fresh (W.alloc o) cs T
  rwa [show (W.alloc o).heap.size = W.heap.size + 1 by simp] at h
theorem At.third (W : World) (o o' : Obj) (cs : List Value) (T : TypeId) : At (((W.alloc o).alloc o').alloc (.cells cs.toArray T)) (W.heap.size + 1 + 1) cs T := by
  have h := At.second (W.alloc o) o' cs T
  rwa [show (W.alloc o).heap.size = W.heap.size + 1 by simp] at h
theorem At.fourth (W : World) (o o' o'' : Obj) (cs : List Value) (T : TypeId) : At ((((W.alloc o).alloc o').alloc o'').alloc (.cells cs.toArray T)) (W.heap.size + 1 + 1 + 1) cs T := by
  have h := At.third (W.alloc o) o' o'' cs T
  rwa [show (W.alloc o).heap.size = W.heap.size + 1 by simp] at h
theorem two_below (W : World) (o o' : Obj) : Below W.heap.size W ((W.alloc o).alloc o') := ((Below.refl _ _).alloc (Nat.le_refl _) o).alloc (by simp) o'
theorem three_below (W : World) (o o' o'' : Obj) : Below W.heap.size W (((W.alloc o).alloc o').alloc o'') := (two_below W o o').alloc (by simp; omega) o''
theorem four_below (W : World) (o o' o'' o3 : Obj) : Below W.heap.size W ((((W.alloc o).alloc o').alloc o'').alloc o3) := (three_below W o o' o'').alloc (by simp; omega) o3

theorem actIn_some {r : RuleD} {k : List UInt8} {j : Nat} (hj : j < r.kids.length) (h : r.kids[j].1 = k) (hb : ∀ i (hi : i < j), (r.kids[i]'(by omega)).1 ≠ k) : actIn r k = r.kids[j].2 := by
  unfold actIn
  rw [find_idx (q := fun p => decide (p.1 = k)) hj (by simpa using h) (fun i hi => by simpa using hb i hi)]
  rfl
theorem actIn_none {r : RuleD} {k : List UInt8} (hb : ∀ i (hi : i < r.kids.length), r.kids[i].1 ≠ k) : actIn r k = r.other := by
  unfold actIn
  rw [find_none (fun i hi => by simpa using hb i hi)]
  rfl
set_option maxRecDepth 100000 in
theorem typed1_c (K : List UInt8) (d : Int) (t k : List UInt8) (N : Nat) (W : World) (hN : W.cell? ⟨N, 0, none⟩ = some (strV k)) :
    Calls Tryz.prog 123 #[.agg #[strV K, .int .i64 d, strV t], .pointer (some ⟨N, 0, none⟩)] W fun e w' => e = .returned (.bool (decide (K = k))) ∧ Below W.heap.size W w' := by
  have hlt := World.block_lt_of_cell? W _ hN
  have Hb := Lib.hid (one_below W (Obj.cells #[strV K, .int .i64 d, strV t] 70))
  go_enter Tryz.func123, Tryz.ntmps123
  go_wp2_with fail
  go_ret
  exact ⟨ret_bool (beq_dec _ _), Hb.out⟩
theorem typed1_ent : ∀ args w, (callFunc 123 args).run Tryz.prog w = .ok (.enter 123 args) w := by intro args w; kernel_rfl
theorem typed_ent : ∀ args w, (callFunc 101 args).run Tryz.prog w = .ok (.enter 101 args) w := by intro args w; kernel_rfl

abbrev ActP (W : World) (a : ActD) (e : Ending) (w' : World) : Prop := e = .returned (.agg #[.int .i64 a.1, strV a.2]) ∧ Below W.heap.size W w'
set_option maxRecDepth 100000 in
set_option maxHeartbeats 1000000 in
theorem typed_c (r : RuleD) (a : Option Addr) (c : Nat) (k : List UInt8) (W : World) (hr : RowA W W.heap.size 3 a r.kids.length c (pairCells r.kids)) (hn : r.kids.length ≤ 100000000) :
    Calls Tryz.prog 101 #[.agg (ruleCells r a c).toArray, strV k] W (ActP W (actIn r k)) := by
  have hs1 := fun (j : Nat) (hj : j < r.kids.length) h hb => actIn_some (r := r) (k := k) (j := j) hj h hb
  have hs2 := fun hb => actIn_none (r := r) (k := k) hb
  obtain ⟨R, hR⟩ : ∃ R, R = actIn r k := ⟨_, rfl⟩
  rw [← hR]
  rw [← hR] at hs1 hs2
  obtain ⟨ty, ⟨td, tt⟩, ⟨od, ot⟩, kids, fill, ft⟩ := r
  simp only at hr hn hs1 hs2
  have hcells : (ruleCells ⟨ty, (td, tt), (od, ot), kids, fill, ft⟩ a c).toArray = #[strV ty, .int .i64 td, strV tt, .int .i64 od, strV ot, .slice a kids.length c, .int .i64 fill, strV ft] := rfl
  rw [hcells]
  obtain ⟨w0, hw0⟩ : ∃ w0, w0 = (((W.alloc (Obj.cells #[strV ty, .int .i64 td, strV tt, .int .i64 od, strV ot, .slice a kids.length c, .int .i64 fill, strV ft] 27)).alloc (Obj.cells #[strV k] 9)).alloc (Obj.cells #[.int .i64 0, strV []] 24)) := ⟨_, rfl⟩
  have hb0 : Below W.heap.size W w0 := by rw [hw0]; exact three_below _ _ _ _
  have hA : At w0 W.heap.size [strV ty, .int .i64 td, strV tt, .int .i64 od, strV ot, .slice a kids.length c, .int .i64 fill, strV ft] 27 := by rw [hw0]; exact ((At.fresh W _ _).alloc _).alloc _
  have hK : At w0 (W.heap.size + 1) [strV k] 9 := by rw [hw0]; exact (At.second W _ _ _).alloc _
  have hX : At w0 (W.heap.size + 1 + 1) [.int .i64 0, strV []] 24 := by rw [hw0]; exact At.third W _ _ _ _
  have hr0 := hr.keep hb0 hb0.size
  have hgd : ∀ j (hj : j < kids.length), kids.getD j ([], 0, []) = kids[j] := fun j hj => by simp [List.getD, List.getElem?_eq_getElem hj]
  have HI := Lib.hid (idx_pair kids.length a c 123 #[.pointer (some ⟨W.heap.size + 1, 0, none⟩)] (fun j => decide ((kids.getD j ([], 0, [])).1 = k)) w0 hn typed1_ent (fun j W' hj hb => by
    obtain ⟨b, off, ha, -, h0, h1, h2⟩ := (hr0.keep hb hb.size).pair_at j hj
    refine ⟨b, off, _, _, _, ha, h0, h1, h2, ?_⟩
    rw [hgd j hj]
    exact typed1_c kids[j].1 kids[j].2.1 kids[j].2.2 k _ W' ((hK.kept hb).cell 0 rfl)))
  have Hr := Lib.hid hr0; have Hb0 := Lib.hid hb0; have HA := Lib.hid hA; have HX := Lib.hid hX
  obtain ⟨⟨x0, x1, x2, x3, x4, x5, x6, x7⟩, -, xl⟩ := hA.f8
  have Hw0 := Lib.hid hw0
  have hcl : W.heap.size ≤ W.heap.size + 1 + 1 := by omega
  rcases idxP_cases (fun j => decide ((kids.getD j ([], 0, [])).1 = k)) kids.length with ⟨j, hj, hp, hmin, he⟩ | ⟨hall, he⟩
  · rw [he] at HI
    have HG := Lib.hid (hs1 j hj (by have h := of_decide_eq_true hp; rw [hgd j hj] at h; exact h) (fun i hi => by have h := of_decide_eq_false (hmin i hi); rw [hgd i (by omega)] at h; exact h))
    have hji : (j : Int) < kids.length := by omega
    clear he hmin hp hr hr0 hb0 hK hA hX hs1 hs2 hR hcells hw0
    go_enter Tryz.func101, Tryz.ntmps101
    go_upto_region 1 with fail
    rw [← Hw0.out]
    clear Hw0
    go_wp2_with fail
    refine HI.out.mono ?_
    rintro e w1 ⟨rfl, hbel⟩
    obtain ⟨b, off, rfl, -, h0, h1, h2⟩ := (Hr.out.keep hbel hbel.size).pair_at j hj
    have Hb1 := Lib.hid (Hb0.out.trans (hbel.mono Hb0.out.size))
    obtain ⟨⟨y0, y1, y2, y3, y4, y5, y6, y7⟩, -, yl⟩ := (HA.out.kept hbel).f8
    obtain ⟨⟨z0, z1⟩, zf, zl⟩ := (HX.out.kept hbel).f2
    generalize kids[j] = q at h0 h1 h2 HG
    obtain ⟨q0, q1, q2⟩ := q
    clear hbel HI x0 x1 x2 x3 x4 x5 x6 x7
    go_wp2_with fail
    refine bodyPost_ret (v := .agg #[.int .i64 q1, strV q2]) (by simp [results, Tryz.results101, go_sem, z0, z1]) rfl ?_
    rw [HG.out]
    exact ⟨rfl, below_s2 Hb1.out hcl _ _⟩
  · rw [he] at HI
    have HG := Lib.hid (hs2 (fun i hi => by have h := of_decide_eq_false (hall i hi); rw [hgd i hi] at h; exact h))
    clear he hall hr hr0 hb0 hK hA hX hs1 hs2 hR hcells hw0
    go_enter Tryz.func101, Tryz.ntmps101
    go_upto_region 1 with fail
    rw [← Hw0.out]
    clear Hw0
    go_wp2_with fail
    refine HI.out.mono ?_
    rintro e w1 ⟨rfl, hbel⟩
    have Hb1 := Lib.hid (Hb0.out.trans (hbel.mono Hb0.out.size))
    obtain ⟨⟨y0, y1, y2, y3, y4, y5, y6, y7⟩, -, yl⟩ := (HA.out.kept hbel).f8
    obtain ⟨⟨z0, z1⟩, zf, zl⟩ := (HX.out.kept hbel).f2
    clear hbel HI x0 x1 x2 x3 x4 x5 x6 x7
    go_wp2_with fail
    refine bodyPost_ret (v := .agg #[.int .i64 od, strV ot]) (by simp [results, Tryz.results101, go_sem, z0, z1]) rfl ?_
    rw [HG.out]
    exact ⟨rfl, below_s2 Hb1.out hcl _ _⟩

end Go.Proofs.YtajclfjedlkbcaaGreatDoor
/- Walks: table.RuleOf. -/
namespace Go.Proofs.YtajclfjedlkbcaaGreatDoor
open Go.RowKit Go.Redl
set_option linter.unusedVariables false

theorem info_pair : (Tryz.prog.info? 70).map (fun i => (i.zero, i.size, i.bytes)) = some (some (.agg #[.string ⟨#[]⟩, .int .i64 0, .string ⟨#[]⟩]), 3, 40) := by kernel_rfl
set_option maxRecDepth 100000 in
set_option maxHeartbeats 400000 in
theorem clone_pair (B n : Nat) (a : Option Addr) (cap : Nat) (cs : List Value) (w : World) (hr : RowA w B 3 a n cap cs) (hB : B ≤ w.heap.size) (hn : n ≤ 100000000) :
    Calls Tryz.prog 103 #[.slice a n cap] w (MadeRow w 70 3 n cs) := by
  have hel := fun (w : World) => Lib.run_eql_slice_nil w (P := Tryz.prog) 25 70 a n cap 0 0 Tryz.underlying25
  cases ha : a with
  | none =>
    subst ha
    obtain rfl := hr.nil rfl
    obtain rfl : n = 0 := by have := hr.le; omega
    have hcs : cs = [] := List.eq_nil_of_length_eq_zero (by simpa using hr.len)
    subst hcs
    go_enter Tryz.func103, Tryz.ntmps103
    go_wp2_with fail
    go_ret
    exact ⟨_, rfl, World.ownsRow_nil _ _ _ _, Below.refl _ _⟩
  | some ad =>
    subst ha
    go_enter Tryz.func103, Tryz.ntmps103
    go_wp2_with (at_builtin; refine wpList_app rfl _ _ 25 rfl w.heap.size 70 (.agg #[.string ⟨#[]⟩, .int .i64 0, .string ⟨#[]⟩]) 3 40 Tryz.underlying25 info_pair rfl (by decide) _ 0 [] rfl ?hown _ n cap B cs rfl ?hr ?h63 ?hb ?hbase ?_)
    case hown => exact World.ownsRow_lit w #[] 0 (Nat.le_refl _) (Nat.zero_le _) rfl
    case hr => exact hr.keep ((Below.refl _ _).alloc hB _) (Nat.le_refl _)
    case h63 => unfold maxLen; omega
    case hb => omega
    case hbase => simp
    intro v' w1 hown hgrow
    have Ho := Lib.hid hown; have Hg := Lib.hid hgrow; clear hown hgrow hel hr
    go_wp2_with fail
    go_ret
    refine ⟨v', rfl, by simpa using Ho.out, ((Below.refl _ _).alloc (Nat.le_refl _) _).grown Hg.out (by simp) ?_⟩
    simp [Value.ownBlock]


/-- A schema's sixteen cells. -/
theorem _root_.Go.Redl.SchemaV.open {w : World} {B : Nat} {s : SchemaD} {v : Value} (h : SchemaV w B s v) :
    ∃ a c css ea ec o0 o1 o2 o3 o4 o5, v = .agg #[.slice a s.rules.length c, strV s.els.type, .int .i64 s.els.text.1, strV s.els.text.2, .int .i64 s.els.other.1, strV s.els.other.2, .slice ea s.els.kids.length ec, .int .i64 s.els.fill, strV s.els.fillT, .int .i64 o0, .int .i64 o1, .int .i64 o2, .int .i64 o3, .int .i64 o4, .int .i64 o5, .int .i64 s.cap] ∧
      RowA w B 8 a s.rules.length c css ∧ RulesC w B s.rules css ∧ RowA w B 3 ea s.els.kids.length ec (pairCells s.els.kids) ∧ s.order = [o0, o1, o2, o3, o4, o5] := by
  obtain ⟨cs, rfl, a, c, css, es, rfl, h1, h2, ⟨ea, ec, rfl, h3⟩, h4⟩ := h
  match ho : s.order, h4 with
  | [o0, o1, o2, o3, o4, o5], _ => exact ⟨a, c, css, ea, ec, o0, o1, o2, o3, o4, o5, rfl, h1, h2, h3, rfl⟩
/-- The k-th rule of a row: its eight cells one by one. -/
theorem rule8 {w : World} {B n cap : Nat} {a : Option Addr} {rs : List RuleD} {css : List Value} (h : RowA w B 8 a n cap css) (hr : RulesC w B rs css) (k : Nat) (hk : k < rs.length) :
    ∃ b off ra rc, a = some ⟨b, off, none⟩ ∧ b < B ∧ RowA w B 3 ra rs[k].kids.length rc (pairCells rs[k].kids) ∧ w.cell? ⟨b, off + k * 8, none⟩ = some (strV rs[k].type) ∧ w.cell? ⟨b, off + k * 8 + 1, none⟩ = some (.int .i64 rs[k].text.1) ∧
      w.cell? ⟨b, off + k * 8 + 2, none⟩ = some (strV rs[k].text.2) ∧ w.cell? ⟨b, off + k * 8 + 3, none⟩ = some (.int .i64 rs[k].other.1) ∧ w.cell? ⟨b, off + k * 8 + 4, none⟩ = some (strV rs[k].other.2) ∧ w.cell? ⟨b, off + k * 8 + 5, none⟩ = some (.slice ra rs[k].kids.length rc) ∧
      w.cell? ⟨b, off + k * 8 + 6, none⟩ = some (.int .i64 rs[k].fill) ∧ w.cell? ⟨b, off + k * 8 + 7, none⟩ = some (strV rs[k].fillT) := by
  obtain ⟨b, off, ra, rc, h1, h2, h3, h4⟩ := h.rule_at hr k hk
  exact ⟨b, off, ra, rc, h1, h2, h3, h4 0 _ rfl, h4 1 _ rfl, h4 2 _ rfl, h4 3 _ rfl, h4 4 _ rfl, h4 5 _ rfl, h4 6 _ rfl, h4 7 _ rfl⟩
theorem ruleOf_some {s : SchemaD} {k : List UInt8} {j : Nat} (hj : j < s.rules.length) (h : s.rules[j].type = k) (hb : ∀ i (hi : i < j), (s.rules[i]'(by omega)).type ≠ k) : ruleOf s k = s.rules[j] := by
  unfold ruleOf
  rw [find_idx (q := fun r => decide (r.type = k)) hj (by simpa using h) (fun i hi => by simpa using hb i hi)]
  rfl
theorem ruleOf_none {s : SchemaD} {k : List UInt8} (hb : ∀ i (hi : i < s.rules.length), s.rules[i].type ≠ k) : ruleOf s k = s.els := by
  unfold ruleOf
  rw [find_none (fun i hi => by simpa using hb i hi)]
  rfl
theorem ruleOf_cases (s : SchemaD) (k : List UInt8) : ruleOf s k ∈ s.rules ∨ ruleOf s k = s.els := by
  unfold ruleOf
  cases h : s.rules.find? (fun r => decide (r.type = k)) with
  | none => exact .inr rfl
  | some r => exact .inl (List.mem_of_find?_eq_some h)
theorem ruleOf_wt (s : SchemaD) (k : List UInt8) : (ruleOf s k).wt ≤ s.wt := by
  unfold SchemaD.wt
  rcases ruleOf_cases s k with h | h
  · have := rulesWt_mem h; omega
  · rw [h]; omega
theorem kids_wt (r : RuleD) : 3 * r.kids.length ≤ r.wt := by
  have := pairsWt_len r.kids
  unfold RuleD.wt; omega

set_option maxRecDepth 100000 in
theorem ruleOf1_c (ty : List UInt8) (td : Int) (tt : List UInt8) (od : Int) (ot : List UInt8) (sl : Option Addr) (sn sc : Nat) (fl : Int) (ft k : List UInt8) (N : Nat) (W : World) (hN : W.cell? ⟨N, 0, none⟩ = some (strV k)) :
    Calls Tryz.prog 102 #[.agg #[strV ty, .int .i64 td, strV tt, .int .i64 od, strV ot, .slice sl sn sc, .int .i64 fl, strV ft], .pointer (some ⟨N, 0, none⟩)] W fun e w' => e = .returned (.bool (decide (ty = k))) ∧ Below W.heap.size W w' := by
  have hlt := World.block_lt_of_cell? W _ hN
  have Hb := Lib.hid (one_below W (Obj.cells #[strV ty, .int .i64 td, strV tt, .int .i64 od, strV ot, .slice sl sn sc, .int .i64 fl, strV ft] 27))
  go_enter Tryz.func102, Tryz.ntmps102
  go_wp2_with fail
  go_ret
  exact ⟨ret_bool (beq_dec _ _), Hb.out⟩
theorem ruleOf1_ent : ∀ args w, (callFunc 102 args).run Tryz.prog w = .ok (.enter 102 args) w := by intro args w; kernel_rfl

/-- A rule handed back. -/
abbrev RuleP (W : World) (r : RuleD) (e : Ending) (w' : World) : Prop :=
  ∃ a c, e = .returned (.agg #[strV r.type, .int .i64 r.text.1, strV r.text.2, .int .i64 r.other.1, strV r.other.2, .slice a r.kids.length c, .int .i64 r.fill, strV r.fillT]) ∧ RowQ w' (fun b => W.heap.size ≤ b) 3 a r.kids.length c (pairCells r.kids) ∧ Below W.heap.size W w'

set_option maxRecDepth 100000 in
set_option maxHeartbeats 4000000 in
theorem ruleOf_c (s : SchemaD) (v : Value) (k : List UInt8) (W : World) (hw : s.wt ≤ 100000000) (hv : SchemaV W W.heap.size s v) :
    Calls Tryz.prog 57 #[v, strV k] W (RuleP W (ruleOf s k)) := by
  have hs1 := fun (j : Nat) (hj : j < s.rules.length) h hb => ruleOf_some (s := s) (k := k) (j := j) hj h hb
  have hs2 := fun hb => ruleOf_none (s := s) (k := k) hb
  have hRw : (ruleOf s k).kids.length ≤ 100000000 := by have := kids_wt (ruleOf s k); have := ruleOf_wt s k; omega
  obtain ⟨R, hR⟩ : ∃ R, R = ruleOf s k := ⟨_, rfl⟩
  rw [← hR] at hs1 hs2 hRw ⊢
  have hrl : s.rules.length ≤ 100000000 := by have := rulesWt_len s.rules; unfold SchemaD.wt at hw; omega
  obtain ⟨a, c, css, ea, ec, o0, o1, o2, o3, o4, o5, rfl, h1, h2, h3, -⟩ := hv.open
  obtain ⟨rs, ⟨ty, ⟨td, tt⟩, ⟨od, ot⟩, kids, fill, ft⟩, order, scap⟩ := s
  simp only at hs1 hs2 hrl h1 h2 h3 ⊢
  obtain ⟨w0, hw0⟩ : ∃ w0, w0 = ((((W.alloc (Obj.cells #[.slice a rs.length c, strV ty, .int .i64 td, strV tt, .int .i64 od, strV ot, .slice ea kids.length ec, .int .i64 fill, strV ft, .int .i64 o0, .int .i64 o1, .int .i64 o2, .int .i64 o3, .int .i64 o4, .int .i64 o5, .int .i64 scap] 30)).alloc (Obj.cells #[strV k] 9)).alloc (Obj.cells #[strV [], .int .i64 0, strV [], .int .i64 0, strV [], .slice none 0 0, .int .i64 0, strV []] 27)).alloc (Obj.cells #[strV ty, .int .i64 td, strV tt, .int .i64 od, strV ot, .slice ea kids.length ec, .int .i64 fill, strV ft] 27)) := ⟨_, rfl⟩
  have hb0 : Below W.heap.size W w0 := by rw [hw0]; exact four_below _ _ _ _ _
  have hA : At w0 W.heap.size [.slice a rs.length c, strV ty, .int .i64 td, strV tt, .int .i64 od, strV ot, .slice ea kids.length ec, .int .i64 fill, strV ft, .int .i64 o0, .int .i64 o1, .int .i64 o2, .int .i64 o3, .int .i64 o4, .int .i64 o5, .int .i64 scap] 30 := by rw [hw0]; exact (((At.fresh W _ _).alloc _).alloc _).alloc _
  have hK : At w0 (W.heap.size + 1) [strV k] 9 := by rw [hw0]; exact ((At.second W _ _ _).alloc _).alloc _
  have hX : At w0 (W.heap.size + 1 + 1) [strV [], .int .i64 0, strV [], .int .i64 0, strV [], .slice none 0 0, .int .i64 0, strV []] 27 := by rw [hw0]; exact (At.third W _ _ _ _).alloc _
  have hY : At w0 (W.heap.size + 1 + 1 + 1) [strV ty, .int .i64 td, strV tt, .int .i64 od, strV ot, .slice ea kids.length ec, .int .i64 fill, strV ft] 27 := by rw [hw0]; exact At.fourth W _ _ _ _ _
  have hr0 := h1.keep hb0 hb0.size; have hc0 := RulesC.keep hb0 hb0.size h2
  have hgd : ∀ j (hj : j < rs.length), (rs.map (·.type)).getD j [] = rs[j].type := fun j hj => by simp [List.getD, List.getElem?_eq_getElem hj]
  have HI := Lib.hid (idx_rule rs.length a c 102 #[.pointer (some ⟨W.heap.size + 1, 0, none⟩)] (fun j => decide ((rs.map (·.type)).getD j [] = k)) w0 hrl ruleOf1_ent (fun j W' hj hb => by
    obtain ⟨b, off, ra, rc, ha, -, -, g0, g1, g2, g3, g4, g5, g6, g7⟩ := rule8 (hr0.keep hb hb.size) (RulesC.keep hb hb.size hc0) j hj
    refine ⟨b, off, _, _, _, _, _, _, _, _, ha, g0, g1, g2, g3, g4, g5, g6, g7, ?_⟩
    rw [hgd j hj]
    exact ruleOf1_c _ _ _ _ _ _ _ _ _ _ _ _ W' ((hK.kept hb).cell 0 rfl)))
  have Hr := Lib.hid h1; have Hc := Lib.hid h2; have H3 := Lib.hid h3; have Hb0 := Lib.hid hb0; have HA := Lib.hid hA; have HX := Lib.hid hX; have HY := Lib.hid hY
  have Hs1 := Lib.hid hs1; have Hs2 := Lib.hid hs2; have Hgd := Lib.hid hgd
  have Hw0 := Lib.hid hw0
  obtain ⟨⟨x0, x1, x2, x3, x4, x5, x6, x7, x8, x9, x10, x11, x12, x13, x14, x15⟩, -, xl⟩ := hA.f16
  obtain ⟨⟨y0, y1, y2, y3, y4, y5, y6, y7⟩, yf, yl⟩ := hY.f8
  have hcl : W.heap.size ≤ W.heap.size + 1 + 1 := by omega
  have hcl2 : W.heap.size ≤ W.heap.size + 1 + 1 + 1 := by omega
  clear hv hs1 hs2 hR h1 h2 h3 hw0 hb0 hA hK hX hY hr0 hc0 hgd hw
  go_enter Tryz.func57, Tryz.ntmps57
  go_upto_region 2 with fail
  rw [← Hw0.out]
  clear Hw0
  go_wp2_with fail
  refine HI.out.mono ?_
  rintro e w1 ⟨rfl, hbel⟩
  have Hb1 := Lib.hid (Hb0.out.trans (hbel.mono Hb0.out.size))
  have HA1 := Lib.hid (HA.out.kept hbel); have HX1 := Lib.hid (HX.out.kept hbel); have HY1 := Lib.hid (HY.out.kept hbel)
  clear hbel HI x0 x1 x2 x3 x4 x5 x6 x7 x8 x9 x10 x11 x12 x13 x14 x15 y0 y1 y2 y3 y4 y5 y6 y7 yf HA HX HY
  obtain ⟨⟨x0, x1, x2, x3, x4, x5, x6, x7, x8, x9, x10, x11, x12, x13, x14, x15⟩, -, xl⟩ := HA1.out.f16
  obtain ⟨⟨y0, y1, y2, y3, y4, y5, y6, y7⟩, yf, yl⟩ := HY1.out.f8
  obtain ⟨z, hz⟩ : ∃ z, z = idxP (fun j => decide ((rs.map (·.type)).getD j [] = k)) rs.length := ⟨_, rfl⟩
  rw [← hz]
  have Hz := Lib.hid hz
  clear hz
  go_upto_if 14 with fail
  go_cut [] (fun wx => ∃ ra rc, At wx (W.heap.size + 1 + 1 + 1) [strV R.type, .int .i64 R.text.1, strV R.text.2, .int .i64 R.other.1, strV R.other.2, .slice ra R.kids.length rc, .int .i64 R.fill, strV R.fillT] 27 ∧
    At wx (W.heap.size + 1 + 1) [strV [], .int .i64 0, strV [], .int .i64 0, strV [], .slice none 0 0, .int .i64 0, strV []] 27 ∧ RowA wx W.heap.size 3 ra R.kids.length rc (pairCells R.kids) ∧ Below W.heap.size W wx)
  case first =>
    rcases idxP_cases (fun j => decide ((rs.map (·.type)).getD j [] = k)) rs.length with ⟨j, hj, hp, hmin, he⟩ | ⟨hall, he⟩
    · have hze : z = (j : Int) := Hz.out.trans he
      subst hze
      have HG := Lib.hid (Hs1.out j hj (by have h := of_decide_eq_true hp; rw [Hgd.out j hj] at h; exact h) (fun i hi => by have h := of_decide_eq_false (hmin i hi); rw [Hgd.out i (by omega)] at h; exact h))
      have hji : (j : Int) < rs.length := by omega
      obtain ⟨b, off, ra, rc, rfl, -, hrr, g0, g1, g2, g3, g4, g5, g6, g7⟩ := rule8 (Hr.out.keep Hb1.out (Nat.le_refl _)) (RulesC.keep Hb1.out (Nat.le_refl _) Hc.out) j hj
      have Hrr := Lib.hid hrr
      generalize rs[j] = q at g0 g1 g2 g3 g4 g5 g6 g7 HG Hrr
      clear he hmin hp hrr Hz
      go_wp2_with fail
      go_meet
      case rel =>
        rw [HG.out]
        exact ⟨ra, rc, HY1.out.s8 _ _ _ _ _ _ _ _, HX1.out.n8 (by omega) _ _ _ _ _ _ _ _, Hrr.out.keep (below_s8 (Below.refl _ _) hcl2 _ _ _ _ _ _ _ _) (Nat.le_refl _), below_s8 Hb1.out hcl2 _ _ _ _ _ _ _ _⟩
    · have hze : z = -1 := Hz.out.trans he
      subst hze
      have HG := Lib.hid (Hs2.out (fun i hi => by have h := of_decide_eq_false (hall i hi); rw [Hgd.out i hi] at h; exact h))
      clear he hall Hz
      go_wp2_with fail
      go_meet
      case rel =>
        rw [HG.out]
        exact ⟨ea, ec, HY1.out, HX1.out, H3.out.keep Hb1.out (Nat.le_refl _), Hb1.out⟩
  case rest =>
    obtain ⟨ra, rc, hy, hx, hrr, hb⟩ := hcut
    have HY2 := Lib.hid hy; have HX2 := Lib.hid hx; have Hb2 := Lib.hid hb
    have hlt2 := hy.lt
    have HC := Lib.hid (clone_pair W.heap.size R.kids.length ra rc (pairCells R.kids) wc hrr hb.size hRw)
    clear x0 x1 x2 x3 x4 x5 x6 x7 x8 x9 x10 x11 x12 x13 x14 x15 y0 y1 y2 y3 y4 y5 y6 y7 yf hy hx hrr hb HA1 HX1 HY1 Hs1 Hs2 Hz Hgd
    obtain ⟨⟨y0, y1, y2, y3, y4, y5, y6, y7⟩, yf, yl⟩ := HY2.out.f8
    go_wp2_with fail
    refine HC.out.mono ?_
    rintro e w2 ⟨v2, rfl, hown, hbel⟩
    obtain ⟨ka, kc, rfl, hq⟩ := rowq_own hown (pairCells_one _)
    have Hq := Lib.hid hq
    have Hb3 := Lib.hid (Hb2.out.trans (hbel.mono Hb2.out.size))
    have HY3 := Lib.hid (HY2.out.kept hbel); have HX3 := Lib.hid (HX2.out.kept hbel)
    clear hbel hown hq HC y0 y1 y2 y3 y4 y5 y6 y7 yf HY2 HX2
    obtain ⟨⟨y0, y1, y2, y3, y4, y5, y6, y7⟩, yf, yl⟩ := HY3.out.f8
    obtain ⟨⟨z0, z1, z2, z3, z4, z5, z6, z7⟩, zf, zl⟩ := HX3.out.f8
    go_wp2_with fail
    refine bodyPost_ret (v := .agg #[strV R.type, .int .i64 R.text.1, strV R.text.2, .int .i64 R.other.1, strV R.other.2, .slice ka R.kids.length kc, .int .i64 R.fill, strV R.fillT]) (by simp [results, Tryz.results57, go_sem, z0, z1, z2, z3, z4, z5, z6, z7]) rfl ?_
    have hn3 : ¬ (wc.heap.size ≤ W.heap.size + 1 + 1 + 1) := by omega
    have hn2 : ¬ (wc.heap.size ≤ W.heap.size + 1 + 1) := by omega
    exact ⟨ka, kc, rfl, (rowq_s8 (rowq_set Hq.out hn3) hn2 _ _ _ _ _ _ _ _).keep (Nat.le_refl _) (fun _ _ _ => rfl) (fun b hb _ => Nat.le_trans Hb2.out.size hb), below_s8 (Hb3.out.setCell (p := ⟨W.heap.size + 1 + 1 + 1, 5, none⟩) hcl2 _) hcl _ _ _ _ _ _ _ _⟩

end Go.Proofs.YtajclfjedlkbcaaGreatDoor
