/- Parts of the proof, one behind the other: RSA, RHC, RKA, RTD, RTE. -/
import Derived.Test.YtbommcakcmhalaaGreatDoorLM4
import Derived.Test.YtbommcakcmhalaaGreatDoorLM1
import Derived.Test.YtbommcakcmhalaaGreatDoorLM3
import Derived.Laws.IdiomCopy
import Derived.Lib.AppendZerosOnto
import Derived.Lib.Overlaps
import Derived.Laws.Externs
/- Walks: are properties the same. -/
set_option linter.unusedVariables false
set_option linter.unusedSimpArgs false
set_option maxHeartbeats 4000000
set_option maxRecDepth 100000
namespace Go.Proofs.YtbommcakcmhalaaGreatDoor
open Go.RowKit Go.Redl
theorem str_ne {a b : List UInt8} (h : a ≠ b) : ((⟨a.toArray⟩ : ByteArray).toList == (⟨b.toArray⟩ : ByteArray).toList) = false := by
 rw [ByteArray.toList_mk, ByteArray.toList_mk]
 simpa using h
theorem equal_prop (a a' : Option Addr) (cap cap' B : Nat) (xs ys : List PropD) (w : World) (hr : RowA w B 2 a xs.length cap (propCells xs)) (hr' : RowA w B 2 a' ys.length cap' (propCells ys)) :
 Calls Tryz.prog 161 #[.slice a xs.length cap, .slice a' ys.length cap'] w fun e w' => e = .returned (.bool (decide (xs = ys))) /\ Drawn w w' := by
 have hm : xs.length <= 9223372036854775807 := by have h1 := hr.le; have h2 := hr.max; unfold maxLen at h2; omega
 have hm' : ys.length <= 9223372036854775807 := by have h1 := hr'.le; have h2 := hr'.max; unfold maxLen at h2; omega
 by_cases hl : xs.length = ys.length
 . go_enter Tryz.func161, Tryz.ntmps161
   have hle : ys.length <= xs.length := by omega
   have hle' : xs.length <= ys.length := by omega
   have hne : (((xs.length : Nat) : Int) != (ys.length : Int)) = false := by simp [hl]
   have Hl := Lib.hid hl; clear hl
   go_wp2_with fail
   go_loopw [13] (fun i wr => ∃ k : Nat, k <= xs.length /\ i = .int .i64 k /\ SameTo xs ys k /\ Drawn w wr) (fun i _ => xs.length - (intOf i).toNat)
   case atStart => exact ⟨0, Nat.zero_le _, rfl, sameTo_zero _ _, ⟨0, rfl⟩⟩
   case round =>
    obtain ⟨k, hk, rfl, hp, q, rfl⟩ := hrel
    have Hp := Lib.hid hp; clear hp
    by_cases hlt : k < xs.length
    . obtain ⟨b, off, rfl, hb, hc0, hc1⟩ := hr.prop_at k hlt
      obtain ⟨b', off', rfl, hb', hc0', hc1'⟩ := hr'.prop_at k (by omega)
      have hlt' : k < ys.length := by omega
      have Hx : Hid (xs[k] = (xs[k].1, xs[k].2)) := rfl
      have Hy : Hid (ys[k] = (ys[k].1, ys[k].2)) := rfl
      generalize hX1 : xs[k].1 = x1 at hc0 Hx
      generalize hX2 : xs[k].2 = x2 at hc1 Hx
      generalize hY1 : ys[k].1 = y1 at hc0' Hy
      generalize hY2 : ys[k].2 = y2 at hc1' Hy
      clear hX1 hX2 hY1 hY2
      go_wp2_with fail
      by_cases he : x1 = y1
      . subst he
        by_cases he : x2 = y2
        . subst he
          have He : Hid (xs[k] = ys[k]) := Hx.out.trans Hy.out.symm
          go_quiet (fail)
          go_wp2_with fail
          go_roundw
          case rel => exact ⟨k + 1, by omega, by go_num, sameTo_succ Hp.out hlt hlt' He.out, by first | exact drawn_one _ _ | exact drawn_two _ _ _⟩
          case measure => simp [intOf]; omega
        . have He : Hid (xs[k] ≠ ys[k]) := by
           show xs[k] ≠ ys[k]
           rw [Hx.out, Hy.out]
           intro e
           exact he (Prod.mk.inj e).2
          have h2 := str_ne he
          generalize (⟨x2.toArray⟩ : ByteArray) = X2 at h2 hc1
          generalize (⟨y2.toArray⟩ : ByteArray) = Y2 at h2 hc1'
          clear he Hx Hy
          go_quiet (fail)
          go_wp2_with fail
          go_ret
          exact ⟨ret_bool (by simp [same_not hlt hlt' He.out]), drawn_two _ _ _⟩
      . have He : Hid (xs[k] ≠ ys[k]) := by
         show xs[k] ≠ ys[k]
         rw [Hx.out, Hy.out]
         intro e
         exact he (Prod.mk.inj e).1
        have h2 := str_ne he
        generalize (⟨x1.toArray⟩ : ByteArray) = X1 at h2 hc0
        generalize (⟨y1.toArray⟩ : ByteArray) = Y1 at h2 hc0'
        clear he Hx Hy
        go_quiet (fail)
        go_wp2_with fail
        go_ret
        exact ⟨ret_bool (by simp [same_not hlt hlt' He.out]), drawn_two _ _ _⟩
    . go_wp2_with fail
      go_ret
      obtain rfl : k = xs.length := by omega
      exact ⟨ret_bool (by simp [sameTo_all Hp.out Hl.out]), drawn_one _ _⟩
 . have hne : (((xs.length : Nat) : Int) != (ys.length : Int)) = true := by simp; omega
   have Hl := Lib.hid hl; clear hl
   go_enter Tryz.func161, Tryz.ntmps161
   go_wp2_with fail
   go_ret
   exact ⟨ret_bool (by simp [show xs ≠ ys from fun h => Hl.out (by rw [h])]), drawn_zero _⟩
end Go.Proofs.YtbommcakcmhalaaGreatDoor
/- Boxes of any size; walks: prop.Get, node.Type, and the reference's. -/
namespace Go.Proofs.YtbommcakcmhalaaGreatDoor
open Go.RowKit Go.Redl
/-- A box: its cells. -/
def At (w : World) (N : Nat) (cs : List Value) (T : TypeId) : Prop := w.heap[N]? = some (.cells cs.toArray T (0, 0))
theorem At.fresh (W : World) (cs : List Value) (T : TypeId) : At (W.alloc (.cells cs.toArray T)) W.heap.size cs T := heap_alloc_new W _
theorem At.lt {w : World} {N : Nat} {cs : List Value} {T : TypeId} (h : At w N cs T) : N < w.heap.size := (Array.getElem?_eq_some_iff.1 h).1
theorem At.keep {w w' : World} {N : Nat} {cs : List Value} {T : TypeId} (h : At w N cs T) (hb : Below (N + 1) w w') : At w' N cs T := by
 unfold At; rw [hb.block N (by omega)]; exact h
theorem At.kept {w w' : World} {N : Nat} {cs : List Value} {T : TypeId} (h : At w N cs T) (hb : Below w.heap.size w w') : At w' N cs T := by
 unfold At; rw [hb.block N h.lt]; exact h
theorem At.alloc {w : World} {N : Nat} {cs : List Value} {T : TypeId} (h : At w N cs T) (o : Obj) : At (w.alloc o) N cs T := by
 unfold At; rw [Lib.alloc_old _ _ _ h.lt]; exact h
theorem At.cell {w : World} {N : Nat} {cs : List Value} {T : TypeId} (h : At w N cs T) (j : Nat) {v : Value} (hj : cs[j]? = some v) : w.cell? ⟨N, j, none⟩ = some v := by
 rw [cell_of_row _ _ _ _ _ _ h]; simpa using hj
theorem At.set_ne {w : World} {N b o : Nat} {cs : List Value} {T : TypeId} (h : At w N cs T) (hne : N ≠ b) (u : Value) : At (w.setCell ⟨b, o, none⟩ u) N cs T := by
 unfold At; rw [Below.heap_setCell _ _ _ _ hne]; exact h
theorem At.set {w : World} {N : Nat} {cs : List Value} {T : TypeId} (h : At w N cs T) (j : Nat) (u : Value) : At (w.setCell ⟨N, j, none⟩ u) N (cs.set j u) T := by
 have := Lib.heap_setCell_same (i := j) h u
 simpa [At] using this
theorem At.grown {w w' : World} {N : Nat} {cs : List Value} {T : TypeId} {r : Option Nat} (h : At w N cs T) (hg : w.grownBy w' r) (hr : r ≠ some N) : At w' N cs T := by
 unfold At; rw [hg.block N h.lt (fun e => hr e.symm)]; exact h
theorem At.f1 {w : World} {N : Nat} {c0 : Value} {T : TypeId} (h : At w N [c0] T) : (w.cell? ⟨N, 0, none⟩ = some c0) /\ (∀ j, w.frozen? ⟨N, j, none⟩ = false) /\ N < w.heap.size :=
 ⟨h.cell 0 rfl, fun j => Lib.frozen_of_heap h _, h.lt⟩
theorem At.f2 {w : World} {N : Nat} {c0 c1 : Value} {T : TypeId} (h : At w N [c0, c1] T) : (w.cell? ⟨N, 0, none⟩ = some c0 /\ w.cell? ⟨N, 1, none⟩ = some c1) /\ (∀ j, w.frozen? ⟨N, j, none⟩ = false) /\ N < w.heap.size :=
 ⟨⟨h.cell 0 rfl, h.cell 1 rfl⟩, fun j => Lib.frozen_of_heap h _, h.lt⟩
theorem At.f3 {w : World} {N : Nat} {c0 c1 c2 : Value} {T : TypeId} (h : At w N [c0, c1, c2] T) : (w.cell? ⟨N, 0, none⟩ = some c0 /\ w.cell? ⟨N, 1, none⟩ = some c1 /\ w.cell? ⟨N, 2, none⟩ = some c2) /\ (∀ j, w.frozen? ⟨N, j, none⟩ = false) /\ N < w.heap.size :=
 ⟨⟨h.cell 0 rfl, h.cell 1 rfl, h.cell 2 rfl⟩, fun j => Lib.frozen_of_heap h _, h.lt⟩
theorem At.f4 {w : World} {N : Nat} {c0 c1 c2 c3 : Value} {T : TypeId} (h : At w N [c0, c1, c2, c3] T) : (w.cell? ⟨N, 0, none⟩ = some c0 /\ w.cell? ⟨N, 1, none⟩ = some c1 /\ w.cell? ⟨N, 2, none⟩ = some c2 /\ w.cell? ⟨N, 3, none⟩ = some c3) /\ (∀ j, w.frozen? ⟨N, j, none⟩ = false) /\ N < w.heap.size :=
 ⟨⟨h.cell 0 rfl, h.cell 1 rfl, h.cell 2 rfl, h.cell 3 rfl⟩, fun j => Lib.frozen_of_heap h _, h.lt⟩
theorem At.f5 {w : World} {N : Nat} {c0 c1 c2 c3 c4 : Value} {T : TypeId} (h : At w N [c0, c1, c2, c3, c4] T) : (w.cell? ⟨N, 0, none⟩ = some c0 /\ w.cell? ⟨N, 1, none⟩ = some c1 /\ w.cell? ⟨N, 2, none⟩ = some c2 /\ w.cell? ⟨N, 3, none⟩ = some c3 /\ w.cell? ⟨N, 4, none⟩ = some c4) /\ (∀ j, w.frozen? ⟨N, j, none⟩ = false) /\ N < w.heap.size :=
 ⟨⟨h.cell 0 rfl, h.cell 1 rfl, h.cell 2 rfl, h.cell 3 rfl, h.cell 4 rfl⟩, fun j => Lib.frozen_of_heap h _, h.lt⟩
theorem At.f8 {w : World} {N : Nat} {c0 c1 c2 c3 c4 c5 c6 c7 : Value} {T : TypeId} (h : At w N [c0, c1, c2, c3, c4, c5, c6, c7] T) : (w.cell? ⟨N, 0, none⟩ = some c0 /\ w.cell? ⟨N, 1, none⟩ = some c1 /\ w.cell? ⟨N, 2, none⟩ = some c2 /\ w.cell? ⟨N, 3, none⟩ = some c3 /\ w.cell? ⟨N, 4, none⟩ = some c4 /\ w.cell? ⟨N, 5, none⟩ = some c5 /\ w.cell? ⟨N, 6, none⟩ = some c6 /\ w.cell? ⟨N, 7, none⟩ = some c7) /\ (∀ j, w.frozen? ⟨N, j, none⟩ = false) /\ N < w.heap.size :=
 ⟨⟨h.cell 0 rfl, h.cell 1 rfl, h.cell 2 rfl, h.cell 3 rfl, h.cell 4 rfl, h.cell 5 rfl, h.cell 6 rfl, h.cell 7 rfl⟩, fun j => Lib.frozen_of_heap h _, h.lt⟩
theorem At.f12 {w : World} {N : Nat} {c0 c1 c2 c3 c4 c5 c6 c7 c8 c9 c10 c11 : Value} {T : TypeId} (h : At w N [c0, c1, c2, c3, c4, c5, c6, c7, c8, c9, c10, c11] T) : (w.cell? ⟨N, 0, none⟩ = some c0 /\ w.cell? ⟨N, 1, none⟩ = some c1 /\ w.cell? ⟨N, 2, none⟩ = some c2 /\ w.cell? ⟨N, 3, none⟩ = some c3 /\ w.cell? ⟨N, 4, none⟩ = some c4 /\ w.cell? ⟨N, 5, none⟩ = some c5 /\ w.cell? ⟨N, 6, none⟩ = some c6 /\ w.cell? ⟨N, 7, none⟩ = some c7 /\ w.cell? ⟨N, 8, none⟩ = some c8 /\ w.cell? ⟨N, 9, none⟩ = some c9 /\ w.cell? ⟨N, 10, none⟩ = some c10 /\ w.cell? ⟨N, 11, none⟩ = some c11) /\ (∀ j, w.frozen? ⟨N, j, none⟩ = false) /\ N < w.heap.size :=
 ⟨⟨h.cell 0 rfl, h.cell 1 rfl, h.cell 2 rfl, h.cell 3 rfl, h.cell 4 rfl, h.cell 5 rfl, h.cell 6 rfl, h.cell 7 rfl, h.cell 8 rfl, h.cell 9 rfl, h.cell 10 rfl, h.cell 11 rfl⟩, fun j => Lib.frozen_of_heap h _, h.lt⟩
theorem At.f13 {w : World} {N : Nat} {c0 c1 c2 c3 c4 c5 c6 c7 c8 c9 c10 c11 c12 : Value} {T : TypeId} (h : At w N [c0, c1, c2, c3, c4, c5, c6, c7, c8, c9, c10, c11, c12] T) : (w.cell? ⟨N, 0, none⟩ = some c0 /\ w.cell? ⟨N, 1, none⟩ = some c1 /\ w.cell? ⟨N, 2, none⟩ = some c2 /\ w.cell? ⟨N, 3, none⟩ = some c3 /\ w.cell? ⟨N, 4, none⟩ = some c4 /\ w.cell? ⟨N, 5, none⟩ = some c5 /\ w.cell? ⟨N, 6, none⟩ = some c6 /\ w.cell? ⟨N, 7, none⟩ = some c7 /\ w.cell? ⟨N, 8, none⟩ = some c8 /\ w.cell? ⟨N, 9, none⟩ = some c9 /\ w.cell? ⟨N, 10, none⟩ = some c10 /\ w.cell? ⟨N, 11, none⟩ = some c11 /\ w.cell? ⟨N, 12, none⟩ = some c12) /\ (∀ j, w.frozen? ⟨N, j, none⟩ = false) /\ N < w.heap.size :=
 ⟨⟨h.cell 0 rfl, h.cell 1 rfl, h.cell 2 rfl, h.cell 3 rfl, h.cell 4 rfl, h.cell 5 rfl, h.cell 6 rfl, h.cell 7 rfl, h.cell 8 rfl, h.cell 9 rfl, h.cell 10 rfl, h.cell 11 rfl, h.cell 12 rfl⟩, fun j => Lib.frozen_of_heap h _, h.lt⟩
theorem At.f16 {w : World} {N : Nat} {c0 c1 c2 c3 c4 c5 c6 c7 c8 c9 c10 c11 c12 c13 c14 c15 : Value} {T : TypeId} (h : At w N [c0, c1, c2, c3, c4, c5, c6, c7, c8, c9, c10, c11, c12, c13, c14, c15] T) : (w.cell? ⟨N, 0, none⟩ = some c0 /\ w.cell? ⟨N, 1, none⟩ = some c1 /\ w.cell? ⟨N, 2, none⟩ = some c2 /\ w.cell? ⟨N, 3, none⟩ = some c3 /\ w.cell? ⟨N, 4, none⟩ = some c4 /\ w.cell? ⟨N, 5, none⟩ = some c5 /\ w.cell? ⟨N, 6, none⟩ = some c6 /\ w.cell? ⟨N, 7, none⟩ = some c7 /\ w.cell? ⟨N, 8, none⟩ = some c8 /\ w.cell? ⟨N, 9, none⟩ = some c9 /\ w.cell? ⟨N, 10, none⟩ = some c10 /\ w.cell? ⟨N, 11, none⟩ = some c11 /\ w.cell? ⟨N, 12, none⟩ = some c12 /\ w.cell? ⟨N, 13, none⟩ = some c13 /\ w.cell? ⟨N, 14, none⟩ = some c14 /\ w.cell? ⟨N, 15, none⟩ = some c15) /\ (∀ j, w.frozen? ⟨N, j, none⟩ = false) /\ N < w.heap.size :=
 ⟨⟨h.cell 0 rfl, h.cell 1 rfl, h.cell 2 rfl, h.cell 3 rfl, h.cell 4 rfl, h.cell 5 rfl, h.cell 6 rfl, h.cell 7 rfl, h.cell 8 rfl, h.cell 9 rfl, h.cell 10 rfl, h.cell 11 rfl, h.cell 12 rfl, h.cell 13 rfl, h.cell 14 rfl, h.cell 15 rfl⟩, fun j => Lib.frozen_of_heap h _, h.lt⟩
theorem At.s2 {w : World} {N : Nat} {c0 c1 : Value} {T : TypeId} (h : At w N [c0, c1] T) (d0 d1 : Value) : At ((w.setCell ⟨N, 0, none⟩ d0).setCell ⟨N, 1, none⟩ d1) N [d0, d1] T := by
 have h0 : At (w.setCell ⟨N, 0, none⟩ d0) N [d0, c1] T := h.set 0 d0
 exact h0.set 1 d1
theorem At.n2 {w : World} {N M : Nat} {cs : List Value} {T : TypeId} (h : At w M cs T) (hne : M ≠ N) (d0 d1 : Value) : At ((w.setCell ⟨N, 0, none⟩ d0).setCell ⟨N, 1, none⟩ d1) M cs T :=
 (h.set_ne hne _).set_ne hne _
theorem below_s2 {B : Nat} {W w : World} {N : Nat} (h : Below B W w) (hN : B <= N) (d0 d1 : Value) : Below B W ((w.setCell ⟨N, 0, none⟩ d0).setCell ⟨N, 1, none⟩ d1) :=
 (h.setCell (p := ⟨N, 0, none⟩) hN _).setCell (p := ⟨N, 1, none⟩) hN _
theorem At.s3 {w : World} {N : Nat} {c0 c1 c2 : Value} {T : TypeId} (h : At w N [c0, c1, c2] T) (d0 d1 d2 : Value) : At (((w.setCell ⟨N, 0, none⟩ d0).setCell ⟨N, 1, none⟩ d1).setCell ⟨N, 2, none⟩ d2) N [d0, d1, d2] T := by
 have h0 : At (w.setCell ⟨N, 0, none⟩ d0) N [d0, c1, c2] T := h.set 0 d0
 have h1 : At ((w.setCell ⟨N, 0, none⟩ d0).setCell ⟨N, 1, none⟩ d1) N [d0, d1, c2] T := h0.set 1 d1
 exact h1.set 2 d2
theorem At.n3 {w : World} {N M : Nat} {cs : List Value} {T : TypeId} (h : At w M cs T) (hne : M ≠ N) (d0 d1 d2 : Value) : At (((w.setCell ⟨N, 0, none⟩ d0).setCell ⟨N, 1, none⟩ d1).setCell ⟨N, 2, none⟩ d2) M cs T :=
 ((h.set_ne hne _).set_ne hne _).set_ne hne _
theorem below_s3 {B : Nat} {W w : World} {N : Nat} (h : Below B W w) (hN : B <= N) (d0 d1 d2 : Value) : Below B W (((w.setCell ⟨N, 0, none⟩ d0).setCell ⟨N, 1, none⟩ d1).setCell ⟨N, 2, none⟩ d2) :=
 ((h.setCell (p := ⟨N, 0, none⟩) hN _).setCell (p := ⟨N, 1, none⟩) hN _).setCell (p := ⟨N, 2, none⟩) hN _
theorem At.s8 {w : World} {N : Nat} {c0 c1 c2 c3 c4 c5 c6 c7 : Value} {T : TypeId} (h : At w N [c0, c1, c2, c3, c4, c5, c6, c7] T) (d0 d1 d2 d3 d4 d5 d6 d7 : Value) : At ((((((((w.setCell ⟨N, 0, none⟩ d0).setCell ⟨N, 1, none⟩ d1).setCell ⟨N, 2, none⟩ d2).setCell ⟨N, 3, none⟩ d3).setCell ⟨N, 4, none⟩ d4).setCell ⟨N, 5, none⟩ d5).setCell ⟨N, 6, none⟩ d6).setCell ⟨N, 7, none⟩ d7) N [d0, d1, d2, d3, d4, d5, d6, d7] T := by
 have h0 : At (w.setCell ⟨N, 0, none⟩ d0) N [d0, c1, c2, c3, c4, c5, c6, c7] T := h.set 0 d0
 have h1 : At ((w.setCell ⟨N, 0, none⟩ d0).setCell ⟨N, 1, none⟩ d1) N [d0, d1, c2, c3, c4, c5, c6, c7] T := h0.set 1 d1
 have h2 : At (((w.setCell ⟨N, 0, none⟩ d0).setCell ⟨N, 1, none⟩ d1).setCell ⟨N, 2, none⟩ d2) N [d0, d1, d2, c3, c4, c5, c6, c7] T := h1.set 2 d2
 have h3 : At ((((w.setCell ⟨N, 0, none⟩ d0).setCell ⟨N, 1, none⟩ d1).setCell ⟨N, 2, none⟩ d2).setCell ⟨N, 3, none⟩ d3) N [d0, d1, d2, d3, c4, c5, c6, c7] T := h2.set 3 d3
 have h4 : At (((((w.setCell ⟨N, 0, none⟩ d0).setCell ⟨N, 1, none⟩ d1).setCell ⟨N, 2, none⟩ d2).setCell ⟨N, 3, none⟩ d3).setCell ⟨N, 4, none⟩ d4) N [d0, d1, d2, d3, d4, c5, c6, c7] T := h3.set 4 d4
 have h5 : At ((((((w.setCell ⟨N, 0, none⟩ d0).setCell ⟨N, 1, none⟩ d1).setCell ⟨N, 2, none⟩ d2).setCell ⟨N, 3, none⟩ d3).setCell ⟨N, 4, none⟩ d4).setCell ⟨N, 5, none⟩ d5) N [d0, d1, d2, d3, d4, d5, c6, c7] T := h4.set 5 d5
 have h6 : At (((((((w.setCell ⟨N, 0, none⟩ d0).setCell ⟨N, 1, none⟩ d1).setCell ⟨N, 2, none⟩ d2).setCell ⟨N, 3, none⟩ d3).setCell ⟨N, 4, none⟩ d4).setCell ⟨N, 5, none⟩ d5).setCell ⟨N, 6, none⟩ d6) N [d0, d1, d2, d3, d4, d5, d6, c7] T := h5.set 6 d6
 exact h6.set 7 d7
theorem At.n8 {w : World} {N M : Nat} {cs : List Value} {T : TypeId} (h : At w M cs T) (hne : M ≠ N) (d0 d1 d2 d3 d4 d5 d6 d7 : Value) : At ((((((((w.setCell ⟨N, 0, none⟩ d0).setCell ⟨N, 1, none⟩ d1).setCell ⟨N, 2, none⟩ d2).setCell ⟨N, 3, none⟩ d3).setCell ⟨N, 4, none⟩ d4).setCell ⟨N, 5, none⟩ d5).setCell ⟨N, 6, none⟩ d6).setCell ⟨N, 7, none⟩ d7) M cs T :=
 (((((((h.set_ne hne _).set_ne hne _).set_ne hne _).set_ne hne _).set_ne hne _).set_ne hne _).set_ne hne _).set_ne hne _
theorem below_s8 {B : Nat} {W w : World} {N : Nat} (h : Below B W w) (hN : B <= N) (d0 d1 d2 d3 d4 d5 d6 d7 : Value) : Below B W ((((((((w.setCell ⟨N, 0, none⟩ d0).setCell ⟨N, 1, none⟩ d1).setCell ⟨N, 2, none⟩ d2).setCell ⟨N, 3, none⟩ d3).setCell ⟨N, 4, none⟩ d4).setCell ⟨N, 5, none⟩ d5).setCell ⟨N, 6, none⟩ d6).setCell ⟨N, 7, none⟩ d7) :=
 (((((((h.setCell (p := ⟨N, 0, none⟩) hN _).setCell (p := ⟨N, 1, none⟩) hN _).setCell (p := ⟨N, 2, none⟩) hN _).setCell (p := ⟨N, 3, none⟩) hN _).setCell (p := ⟨N, 4, none⟩) hN _).setCell (p := ⟨N, 5, none⟩) hN _).setCell (p := ⟨N, 6, none⟩) hN _).setCell (p := ⟨N, 7, none⟩) hN _
theorem rowq_s8 {w : World} {ok : Nat -> Prop} {sz n cap N : Nat} {a : Option Addr} {cs : List Value} (h : RowQ w ok sz a n cap cs) (hne : ¬ ok N) (d0 d1 d2 d3 d4 d5 d6 d7 : Value) : RowQ ((((((((w.setCell ⟨N, 0, none⟩ d0).setCell ⟨N, 1, none⟩ d1).setCell ⟨N, 2, none⟩ d2).setCell ⟨N, 3, none⟩ d3).setCell ⟨N, 4, none⟩ d4).setCell ⟨N, 5, none⟩ d5).setCell ⟨N, 6, none⟩ d6).setCell ⟨N, 7, none⟩ d7) ok sz a n cap cs :=
 rowq_set (rowq_set (rowq_set (rowq_set (rowq_set (rowq_set (rowq_set (rowq_set h hne) hne) hne) hne) hne) hne) hne) hne
theorem str_eqb (a b : List UInt8) : ((⟨a.toArray⟩ : ByteArray).toList == (⟨b.toArray⟩ : ByteArray).toList) = decide (a = b) := by
 by_cases h : a = b
 . subst h; simp
 . rw [str_ne h]; simp [h]
theorem beq_dec (a b : List UInt8) : (a == b) = decide (a = b) := by by_cases h : a = b <;> simp [h]
theorem one_below (W : World) (o : Obj) : Below W.heap.size W (W.alloc o) := (Below.refl _ _).alloc (Nat.le_refl _) o
theorem pget1_c (K V k : List UInt8) (N : Nat) (W : World) (hN : W.cell? ⟨N, 0, none⟩ = some (strV k)) :
 Calls Tryz.prog 177 #[.agg #[strV K, strV V], .pointer (some ⟨N, 0, none⟩)] W fun e w' => e = .returned (.bool (decide (K = k))) /\ Below W.heap.size W w' := by
 have hlt := World.block_lt_of_cell? W _ hN
 have Hb := Lib.hid (one_below W (Obj.cells #[strV K, strV V] 141))
 go_enter Tryz.func177, Tryz.ntmps177
 go_wp2_with fail
 go_ret
 exact ⟨ret_bool (beq_dec _ _), Hb.out⟩
theorem pget1_ent : ∀ args w, (callFunc 177 args).run Tryz.prog w = .ok (.enter 177 args) w := by intro args w; kernel_rfl
theorem getP_some {ps : List PropD} {k : List UInt8} {j : Nat} (hj : j < ps.length) (h : ps[j].1 = k) (hb : ∀ i (hi : i < j), (ps[i]'(by omega)).1 ≠ k) : getP ps k = some ps[j].2 := by
 unfold getP
 rw [find_idx (q := fun p => decide (p.1 = k)) hj (by simpa using h) (fun i hi => by simpa using hb i hi)]
 rfl
theorem getP_none {ps : List PropD} {k : List UInt8} (hb : ∀ i (hi : i < ps.length), ps[i].1 ≠ k) : getP ps k = none := by
 unfold getP
 rw [find_none (fun i hi => by simpa using hb i hi)]
 rfl
/-- What a look-up answers. -/
def GetPP (W : World) (ps : List PropD) (k : List UInt8) (e : Ending) (w' : World) : Prop := e = .returned (.tuple #[strV ((getP ps k).getD []), .bool (getP ps k).isSome]) /\ Below W.heap.size W w'
theorem pget_c (ps : List PropD) (a : Option Addr) (cap : Nat) (k : List UInt8) (W : World) (hr : RowA W W.heap.size 2 a ps.length cap (propCells ps)) (hn : ps.length <= 100000000) :
 Calls Tryz.prog 111 #[.slice a ps.length cap, strV k] W (GetPP W ps k) := by
 have hb0 := one_below W (Obj.cells #[strV k] 9)
 have hk0 := At.fresh W [strV k] 9
 have hr0 := hr.keep hb0 hb0.size
 have HI := Lib.hid (idx_prop ps.length a cap 177 #[.pointer (some ⟨W.heap.size, 0, none⟩)] (fun j => decide ((ps.getD j ([], [])).1 = k)) (W.alloc (Obj.cells #[strV k] 9)) hn pget1_ent (fun j W' hj hb => by
  obtain ⟨b, off, ha, -, h0, h1⟩ := (hr0.keep hb hb.size).prop_at j hj
  refine ⟨b, off, _, _, ha, h0, h1, ?_⟩
  have hg : ps.getD j ([], []) = ps[j] := by simp [List.getD, List.getElem?_eq_getElem hj]
  rw [hg]
  exact pget1_c ps[j].1 ps[j].2 k W.heap.size W' ((hk0.kept hb).cell 0 rfl)))
 have Hr := Lib.hid hr0; have Hb0 := Lib.hid hb0
 have hgd : ∀ j (hj : j < ps.length), ps.getD j ([], []) = ps[j] := fun j hj => by simp [List.getD, List.getElem?_eq_getElem hj]
 rcases idxP_cases (fun j => decide ((ps.getD j ([], [])).1 = k)) ps.length with ⟨j, hj, hp, hmin, he⟩ | ⟨hall, he⟩
 . rw [he] at HI
   have HG := Lib.hid (getP_some (ps := ps) (k := k) hj (by have h := of_decide_eq_true hp; rw [hgd j hj] at h; exact h) (fun i hi => by have h := of_decide_eq_false (hmin i hi); rw [hgd i (by omega)] at h; exact h))
   have hji : (j : Int) < ps.length := by omega
   clear he hmin hp hr hr0 hb0 hk0
   go_enter Tryz.func111, Tryz.ntmps111
   go_wp2_with fail
   refine HI.out.mono ?_
   rintro e w1 ⟨rfl, hbel⟩
   obtain ⟨b, off, rfl, -, h0, h1⟩ := (Hr.out.keep hbel hbel.size).prop_at j hj
   have Hb1 := Lib.hid (Hb0.out.trans (hbel.mono Hb0.out.size))
   generalize ps[j] = q at h0 h1 HG
   clear hbel HI
   go_wp2_with fail
   go_ret2
   unfold GetPP
   rw [HG.out]
   exact ⟨rfl, Hb1.out⟩
 . rw [he] at HI
   have HG := Lib.hid (getP_none (ps := ps) (k := k) (fun i hi => by have h := of_decide_eq_false (hall i hi); rw [hgd i hi] at h; exact h))
   clear he hall hr hr0 hb0 hk0
   go_enter Tryz.func111, Tryz.ntmps111
   go_wp2_with fail
   refine HI.out.mono ?_
   rintro e w1 ⟨rfl, hbel⟩
   have Hb1 := Lib.hid (Hb0.out.trans (hbel.mono Hb0.out.size))
   clear hbel HI
   go_wp2_with fail
   go_ret2
   unfold GetPP
   rw [HG.out]
   exact ⟨rfl, Hb1.out⟩
end Go.Proofs.YtbommcakcmhalaaGreatDoor
/- Plain words: rows of paths that may be rewritten in place. -/
namespace Go.Proofs.YtbommcakcmhalaaGreatDoor
open Go.RowKit Go.Redl
theorem grown_of_below {w w1 : World} {r : Option Nat} (h : Below w.heap.size w w1) : w.grownBy w1 r := ⟨h.os, h.tape, h.output, h.size, fun i hi _ => h.block i hi⟩
theorem _root_.Go.World.grownBy.then {w w1 w2 : World} {r : Option Nat} (h : w.grownBy w1 r) (k : Below w1.heap.size w1 w2) : w.grownBy w2 r := h.trans (grown_of_below k)
theorem _root_.Go.World.grownBy.set {w w1 : World} {b : Nat} (h : w.grownBy w1 (some b)) (o : Nat) (u : Value) : w.grownBy (w1.setCell ⟨b, o, none⟩ u) (some b) :=
 h.trans ⟨rfl, rfl, rfl, by simp [World.setCell], fun i _ hne => Below.heap_setCell w1 ⟨b, o, none⟩ u i (by intro e; exact hne (by rw [e]))⟩
theorem _root_.Go.World.grownBy.old {w w1 : World} {r : Option Nat} (h : w.grownBy w1 r) {M : Nat} (hM : M <= w.heap.size) (hr : ∀ k, r = some k -> M <= k) : Below M w w1 :=
 (Below.refl M w).grown h hM hr
theorem below_and {w0 w w1 : World} (h : Below w0.heap.size w0 w) (h1 : Below w.heap.size w w1) : Below w0.heap.size w0 w1 := h.trans (h1.mono h.size)
theorem rowq_imp {w : World} {ok ok' : Nat -> Prop} {sz n cap : Nat} {a : Option Addr} {cs : List Value} (h : RowQ w ok sz a n cap cs) (f : ∀ b, ok b -> ok' b) : RowQ w ok' sz a n cap cs := h.keep (Nat.le_refl _) (fun _ _ _ => rfl) (fun b hb _ => f b hb)
theorem rowq_since {w w' : World} {ok : Nat -> Prop} {sz n cap : Nat} {a : Option Addr} {cs : List Value} (h : RowQ w ok sz a n cap cs) (hb : Below w.heap.size w w') : RowQ w' ok sz a n cap cs := h.keep hb.size (fun b _ hlt => hb.block b hlt) (fun _ h _ => h)
/-- A path with where it lies. -/
abbrev PX := List Int × Option Addr × Nat
def pxV (x : PX) : Value := .slice x.2.1 x.1.length x.2.2
abbrev PxQ (w : World) (ok : Nat -> Prop) (x : PX) : Prop := PathQ w ok x.2.1 x.2.2 x.1
/-- A row of paths: it lies in no block ahead of M, what its paths lead to in none ahead of L, nor in the row's own. -/
structure RowX (w : World) (M L : Nat) (v : Value) (xs : List PX) : Prop where
 own : w.ownsRow M 36 1 v xs.length (xs.map pxV)
 all : ∀ x ∈ xs, PxQ w (fun b => L <= b /\ v.ownBlock ≠ some b) x
theorem RowX.nil (w : World) (M L : Nat) : RowX w M L (.slice none 0 0) [] := ⟨World.ownsRow_nil _ _ _ _, by simp⟩
/-- It is nil, or lies in a block. -/
theorem RowX.open {w : World} {M L : Nat} {v : Value} {xs : List PX} (h : RowX w M L v xs) :
 v = .slice none 0 0 /\ xs = [] ∨ ∃ b cap tl, v = .slice (some ⟨b, 0, none⟩) xs.length cap /\ M <= b /\ At w b (xs.map pxV ++ tl) 36 /\ xs.length + tl.length = cap /\ cap <= maxLen := by
 obtain ⟨hl, h2⟩ := h.own
 rcases h2 with ⟨rfl, h0⟩ | ⟨g, cap, cur, rfl, hb, hg, hnc, hcm, hcs, htake⟩
 . exact .inl ⟨rfl, List.eq_nil_of_length_eq_zero h0⟩
 . refine .inr ⟨g, cap, cur.toList.drop xs.length, rfl, hb, ?_, ?_, hcm⟩
   . rw [Nat.mul_one] at htake
     rw [<- htake, List.take_append_drop]
     simpa [At] using hg
   . simp; omega
theorem PxQ.grown {w w' : World} {b L : Nat} {x : PX} (h : PxQ w (fun k => L <= k /\ k ≠ b) x) (hg : w.grownBy w' (some b)) : PxQ w' (fun k => L <= k /\ k ≠ b) x :=
 RowQ.keep h hg.size (fun k hk hlt => hg.block k hlt (fun e => hk.2 (Option.some.inj e))) (fun _ h _ => h)
theorem RowX.below {w w' : World} {M L : Nat} {v : Value} {xs : List PX} (h : RowX w M L v xs) (hb : Below w.heap.size w w') : RowX w' M L v xs :=
 ⟨own_keep h.own hb, fun x hx => rowq_since (h.all x hx) hb⟩
theorem RowX.form {w : World} {M L : Nat} {v : Value} {xs : List PX} (h : RowX w M L v xs) : ∃ a c, v = .slice a xs.length c := by
 rcases h.open with ⟨rfl, rfl⟩ | ⟨b, cap, tl, rfl, -⟩
 . exact ⟨none, 0, rfl⟩
 . exact ⟨_, _, rfl⟩
theorem RowX.ge {w : World} {M L : Nat} {v : Value} {xs : List PX} (h : RowX w M L v xs) : ∀ k, v.ownBlock = some k -> M <= k := fun k hk => (h.own.lt k hk).1
/-- It may be said to lie further down. -/
theorem RowX.from {w : World} {M L M' L' : Nat} {v : Value} {xs : List PX} (h : RowX w M L v xs) (hM : M' <= M) (hL : L' <= L) : RowX w M' L' v xs := by
 refine ⟨?_, fun x hx => rowq_imp (h.all x hx) fun k hk => ⟨by omega, hk.2⟩⟩
 obtain ⟨hl, h2⟩ := h.own
 exact ⟨hl, h2.imp id fun ⟨g, cap, cur, hv, hb, hr⟩ => ⟨g, cap, cur, hv, by omega, hr⟩⟩
end Go.Proofs.YtbommcakcmhalaaGreatDoor
/- Plain words: copy, and cells put, in rows whose elements have several cells. -/
namespace Go.Proofs.YtbommcakcmhalaaGreatDoor
open Go.RowKit Go.Redl Go.Lib
theorem run_copy_k {P : Program} (w : World) (dT sT ty elem : TypeId) (k b o dLen dCap : Nat) (a : Addr) (sLen sCap : Nat) (cs : List Value)
 (hu : P.underlying dT = some (.slice elem)) (hs : (P.info? elem).map (·.size) = some k) (hn : cs.length = Nat.min sLen dLen * k)
 (hsrc : ∀ j v, cs[j]? = some v -> w.cell? (a.add j) = some v) (hc : ∀ j, j < cs.length -> (w.cell? ⟨b, o + j, none⟩).isSome = true) (hf : ∀ j, j < cs.length -> w.frozen? ⟨b, o + j, none⟩ = false) (h1 : ∀ v ∈ cs, v.oneCell' = true) :
 (Builtin.copy_ #[dT, sT] ty #[.slice (some ⟨b, o, none⟩) dLen dCap, .slice (some a) sLen sCap]).run P w = .ok (goInt (Nat.min sLen dLen)) (w.setCells b o cs) := by
 have hl := run_loadCells_list (P := P) w a cs hsrc
 have hst := run_storeCells_cells (P := P) b o cs 0 w (by simpa using hc) (by simpa using hf) h1
 cases hq : P.info? elem with
 | none => simp [hq] at hs
 | some i =>
   have hi : i.size = k := by simpa [hq] using hs
   simp [Builtin.copy_, run_underlying hu, Builtin.lenOf, Builtin.firstCells, sizeOf, typeInfo, hq, hi, <- hn, hl, hst]
theorem step_copy_k {P : Program} {ops : Array Oper} {o : Oper} {a : Act} {w : World} {K : Act -> World -> Prop} {Q : Exit -> Act -> World -> Prop} {E : Prop}
 (hg : o.guard = none) (d x : Operand) (dT sT : TypeId) (hop : o.op = Op.call { callee := Callee.builtin Builtin.copy, args := #[d, x], argTypes := #[dT, sT] })
 (v u : Value) (hd : a.eval d = v) (hx : a.eval x = u) {v' : Value} {w' : World} (hr : (Builtin.copy_ #[dT, sT] o.type #[v, u]).run P w = .ok v' w') (hK : K (a.put o.dst v') w') :
 if Region.wanted o (yielded ops a.tmps) = true then Oper.wp P o a w K Q else E := by
 have hw : Region.wanted o (yielded ops a.tmps) = true := by simp [Region.wanted, hg]
 rw [if_pos hw]
 unfold Oper.wp
 simp [execOp, hop, resolve, invoke, builtin, hd, hx, hr, Result.andThen]
 exact hK
theorem isSome_setCells (b : Nat) (vs : List Value) (o : Nat) (w : World) (h : ∀ j, j < vs.length -> (w.cell? ⟨b, o + j, none⟩).isSome = true) (k : Nat) (hk : (w.cell? ⟨b, k, none⟩).isSome = true) : ((w.setCells b o vs).cell? ⟨b, k, none⟩).isSome = true := by
 by_cases hin : o <= k /\ k < o + vs.length
 . have := World.cell?_setCells_in b vs o w h (k - o) (by omega)
   rw [show o + (k - o) = k by omega] at this
   rw [this]; rfl
 . rw [World.cell?_setCells_out b vs o w ⟨b, k, none⟩ (fun _ _ => by show k < o ∨ o + vs.length <= k; omega)]
   exact hk
/-- Cells put into a block of plain cells. -/
theorem heap_setCells (b : Nat) : ∀ (vs : List Value) (o : Nat) (w : World) (cur : Array Value) (e : TypeId) (f : Nat × Nat), w.heap[b]? = some (.cells cur e f) -> o + vs.length <= cur.size ->
 ∃ cur', (w.setCells b o vs).heap[b]? = some (.cells cur' e f) /\ cur'.size = cur.size /\ cur'.toList = cur.toList.take o ++ vs ++ cur.toList.drop (o + vs.length)
 | [], o, w, cur, e, f, h, hl => ⟨cur, h, rfl, by simp⟩
 | v :: vs, o, w, cur, e, f, h, hl => by
   simp only [List.length_cons] at hl
   have h1 : (w.setCell ⟨b, o, none⟩ v).heap[b]? = some (.cells (cur.setIfInBounds o v) e f) := by
    simp [World.setCell, Array.getElem?_modify, h]
   obtain ⟨cur', g1, g2, g3⟩ := heap_setCells b vs (o + 1) (w.setCell ⟨b, o, none⟩ v) (cur.setIfInBounds o v) e f h1 (by simp; omega)
   refine ⟨cur', g1, by rw [g2]; simp, ?_⟩
   have ho : o < cur.toList.length := by simp; omega
   rw [g3, Array.toList_setIfInBounds, List.take_succ_eq_append_getElem (by simpa using ho), List.getElem_set_self, List.take_set_of_le (Nat.le_refl _), List.drop_set_of_lt (by omega)]
   simp
   omega
theorem grown_setCells {b : Nat} : ∀ (vs : List Value) (o : Nat) (w : World), w.grownBy (w.setCells b o vs) (some b)
 | [], o, w => World.grownBy.refl _ _
 | v :: vs, o, w => ((World.grownBy.refl w (some b)).set o v).trans (grown_setCells vs (o + 1) _)
end Go.Proofs.YtbommcakcmhalaaGreatDoor
/- Walks: slices.Insert at rows of nodes. -/
namespace Go.Proofs.YtbommcakcmhalaaGreatDoor
open Go.RowKit Go.Redl Go.Lib
theorem rowq_box {w : World} {N : Nat} {cs : List Value} {T : TypeId} (h : At w N cs T) (n sz : Nat) (hl : cs.length = n * sz) (hn : n <= 100000000) (h1 : ∀ u ∈ cs, u.oneCell' = true) : RowA w w.heap.size sz (some ⟨N, 0, none⟩) n n cs :=
 ⟨hl, Nat.le_refl _, by unfold maxLen; omega, h1, (fun e => by cases e), fun _ => ⟨N, 0, rfl, h.lt, fun j u hj => by rw [Nat.zero_add]; exact h.cell j hj⟩⟩
theorem insn_ent : ∀ args w, (callFunc 189 args).run Tryz.prog w = .ok (.enter 189 args) w := by intro args w; kernel_rfl
/-- A row that a call makes out of an own one. -/
def InsP (W : World) (M : Nat) (v : Value) (n : Nat) (css : List Value) (e : Ending) (w' : World) : Prop :=
 ∃ v', e = .returned v' /\ w'.ownsRow M 35 4 v' n css /\ W.grownBy w' v.ownBlock /\ (v'.ownBlock = v.ownBlock ∨ ∀ k, v'.ownBlock = some k -> W.heap.size <= k)
/-- At the end. -/
theorem insn_end (M : Nat) (v : Value) (n : Nat) (css : List Value) (vb : Nat) (c : List Value) (w : World) (hown : w.ownsRow M 35 4 v n css) (hn : n <= 100000000) (hM : M <= w.heap.size) (hv : At w vb c 35) (hc : c.length = 4) (h1 : ∀ u ∈ c, u.oneCell' = true) :
 Calls Tryz.prog 189 #[v, .int .i64 n, .slice (some ⟨vb, 0, none⟩) 1 1] w (InsP w M v (n + 1) (css ++ c)) := by
 have hr : RowA w w.heap.size 4 (some ⟨vb, 0, none⟩) 1 1 c := rowq_box hv 1 4 (by rw [hc]) (by omega) h1
 have Hown := Lib.hid hown; have Hr := Lib.hid hr
 rcases hown.2 with ⟨rfl, rfl⟩ | ⟨g, cap, cur, rfl, hb, hg, hnc, hcm, hcs, htake⟩
 . clear hown hr
   go_enter Tryz.func189, Tryz.ntmps189
   go_wp2_with (at_builtin; refine wpList_app2 rfl _ _ 33 rfl M 35 _ 4 80 Tryz.underlying33 info_nodeC rfl (by decide) _ 0 css rfl Hown.out _ 1 1 w.heap.size c rfl Hr.out (by unfold maxLen; omega) (by omega) hM ?_; intro v' w' ho hgr hw; have Ho := Lib.hid (show w'.ownsRow M 35 4 v' (0 + 1) (css ++ c) /\ _ /\ _ from ⟨ho, hgr, hw⟩); clear ho hgr hw)
   go_ret
   exact ⟨_, rfl, Ho.out.1, Ho.out.2.1, Ho.out.2.2⟩
 . unfold maxLen at hcm
   clear hown hr hb hg hcs htake
   go_enter Tryz.func189, Tryz.ntmps189
   go_wp2_with (at_builtin; refine wpList_app2 rfl _ _ 33 rfl M 35 _ 4 80 Tryz.underlying33 info_nodeC rfl (by decide) _ n css rfl Hown.out _ 1 1 w.heap.size c rfl Hr.out (by unfold maxLen; omega) (by omega) hM ?_; intro v' w' ho hgr hw; have Ho := Lib.hid (show w'.ownsRow M 35 4 v' (n + 1) (css ++ c) /\ _ /\ _ from ⟨ho, hgr, hw⟩); clear ho hgr hw)
   all_goals go_ret
   all_goals exact ⟨_, rfl, Ho.out.1, Ho.out.2.1, Ho.out.2.2⟩
theorem size_node : (Tryz.prog.info? 35).map (·.size) = some 4 := by kernel_rfl
theorem shape_at {w : World} {N : Nat} {cs : List Value} {T : TypeId} (h : At w N cs T) : w.shape? N = some (T, cs.length) := by
 unfold At at h
 simp [World.shape?, h]
/-- The entry of the model for overlaps: two blocks. -/
theorem over_c (vb g off lb cb : Nat) (c : List Value) (cur : Array Value) (w : World) (hv : At w vb c 35) (hc : c.length = 4) (hg : w.heap[g]? = some (.cells cur 35 (0, 0))) (hcs : cur.size ≠ 0) (hne : vb ≠ g) :
 (callFunc 239 #[.slice (some ⟨vb, 0, none⟩) 1 1, .slice (some ⟨g, off, none⟩) lb cb]).run Tryz.prog w = .ok (.value (.bool false)) w := by
 rw [run_callFunc_extern Tryz.func239 (by kernel_rfl) (by kernel_rfl) (by kernel_rfl) (e := Extern.SlicesOverlaps.overlaps #[33, 33] #[4]) (by kernel_rfl),
  Lib.run_overlaps_apart w 33 4 35 Tryz.underlying33 4 (by intro w; kernel_rfl) ⟨vb, 0, none⟩ ⟨g, off, none⟩ 1 1 lb cb hne 35 35 4 cur.size (by rw [shape_at hv, hc]) (by simp [World.shape?, hg]) hcs (Lib.frozen_of_heap hv _) (Lib.frozen_of_heap hv _)]
 rfl
/-- Ahead of the end, there is room. -/
theorem insn_shift (M g n cap i : Nat) (cur : Array Value) (vb : Nat) (c : List Value) (w : World) (hM : M <= g) (hg : w.heap[g]? = some (.cells cur 35 (0, 0))) (hroom : n + 1 <= cap) (hcm : cap <= maxLen) (hcs : cur.size = cap * 4) (h1c : ∀ u ∈ cur.toList.take (n * 4), u.oneCell' = true)
 (hi : i < n) (hn : n <= 100000000) (hv : At w vb c 35) (hc : c.length = 4) (h1 : ∀ u ∈ c, u.oneCell' = true) (hne : vb ≠ g) :
 Calls Tryz.prog 189 #[.slice (some ⟨g, 0, none⟩) n cap, .int .i64 i, .slice (some ⟨vb, 0, none⟩) 1 1] w fun e w' => e = .returned (.slice (some ⟨g, 0, none⟩) (n + 1) cap) /\ w' = (w.drew.setCells g ((i + 1) * 4) ((cur.toList.take (n * 4)).drop (i * 4))).setCells g (i * 4) c := by
 unfold maxLen at hcm
 have hz2 : ¬ ((i : Int) = (n : Int)) := by omega
 have hov := fun lb cb => over_c vb g ((i + 1) * 4) lb cb c cur w hv hc hg (by omega) hne
 have hcell : ∀ j u, cur[j]? = some u -> w.cell? ⟨g, j, none⟩ = some u := fun j u hj => by rw [cell_of_row _ _ _ _ _ _ hg]; exact hj
 have hsome : ∀ j, j < cap * 4 -> (w.cell? ⟨g, j, none⟩).isSome = true := fun j hj => by rw [cell_of_row _ _ _ _ _ _ hg, Array.getElem?_eq_getElem (by omega)]; rfl
 have hfz : ∀ j, w.frozen? ⟨g, j, none⟩ = false := fun j => Lib.frozen_of_heap hg _
 obtain ⟨D, hD⟩ : ∃ D, D = (cur.toList.take (n * 4)).drop (i * 4) := ⟨_, rfl⟩
 have hdl : D.length = (n - i) * 4 := by rw [hD]; simp; omega
 have hDat : ∀ j u, D[j]? = some u -> cur[i * 4 + j]? = some u := fun j u hj => by
  rw [hD, List.getElem?_drop] at hj
  rw [List.getElem?_take] at hj
  split at hj
  . simpa using hj
  . cases hj
 have hD1 : ∀ u ∈ D, u.oneCell' = true := fun u hu => h1c u (by rw [hD] at hu; exact List.mem_of_mem_drop hu)
 rw [<- hD]
 have hcp1 : ∀ ty dc sc, (Builtin.copy_ #[33, 33] ty #[.slice (some ⟨g, (i + 1) * 4, none⟩) (n - i) dc, .slice (some ⟨g, i * 4, none⟩) (n + 1 - i) sc]).run Tryz.prog w.drew = .ok (goInt (Nat.min (n + 1 - i) (n - i))) (w.drew.setCells g ((i + 1) * 4) D) := fun ty dc sc =>
  run_copy_k w.drew _ _ ty 35 4 g ((i + 1) * 4) (n - i) dc ⟨g, i * 4, none⟩ (n + 1 - i) sc D Tryz.underlying33 size_node (by rw [hdl]; simp only [Nat.min_def]; split <;> omega)
   (fun j u hj => by rw [Addr.add_lit]; exact hcell _ _ (hDat j u hj)) (fun j hj => hsome _ (by rw [hdl] at hj; omega)) (fun j hj => hfz _) hD1
 obtain ⟨W1, hW1⟩ : ∃ W1, W1 = w.drew.setCells g ((i + 1) * 4) D := ⟨_, rfl⟩
 have hsp1 : ∀ k, k < cap * 4 -> (W1.cell? ⟨g, k, none⟩).isSome = true := fun k hk => by
  rw [hW1]
  exact isSome_setCells g D _ w.drew (fun j hj => hsome ((i + 1) * 4 + j) (by rw [hdl] at hj; omega)) _ (hsome k hk)
 have hcp2 : ∀ (W : World), (∀ x, W.cell? x = W1.cell? x) -> (∀ x, W.frozen? x = W1.frozen? x) -> ∀ ty dc, (Builtin.copy_ #[33, 33] ty #[.slice (some ⟨g, i * 4, none⟩) (n + 1 - i) dc, .slice (some ⟨vb, 0, none⟩) 1 1]).run Tryz.prog W = .ok (goInt (Nat.min 1 (n + 1 - i))) (W.setCells g (i * 4) c) := fun W hWc hWf ty dc =>
  run_copy_k W _ _ ty 35 4 g (i * 4) (n + 1 - i) dc ⟨vb, 0, none⟩ 1 1 c Tryz.underlying33 size_node (by rw [hc]; simp only [Nat.min_def]; split <;> omega)
   (fun j u hj => by
     rw [Addr.add_lit, hWc, hW1, World.cell?_setCells_out g _ _ _ _ (fun h _ => absurd h hne), Nat.zero_add]
     exact hv.cell j hj)
   (fun j hj => by rw [hWc]; exact hsp1 _ (by rw [hc] at hj; omega)) (fun j hj => by rw [hWf, hW1, World.frozen?_setCells]; exact hfz _) h1
 rw [<- hW1] at hcp1
 have hw1 : IntKind.i64.wrap ((i : Int) + 1) = (i : Int) + 1 := by rw [IntKind.wrap_i64]; omega
 have hw2 : IntKind.i64.wrap ((n : Int) + 1) = (n : Int) + 1 := by rw [IntKind.wrap_i64]; omega
 have hb1 : (0 : Int) <= (i : Int) + 1 := by omega
 have hin : i <= n := by omega
 have htn : ((i : Int) + 1).toNat = i + 1 := by omega
 have htn2 : ((n : Int) + 1).toNat = n + 1 := by omega
 have hb2 : ¬ (cap = i + 1) := by omega
 have hb3 : (i : Int) <= (n : Int) + 1 := by omega
 have hb4 : ¬ (cap = i) := by omega
 have Hcp1 := Lib.hid hcp1; have Hcp2 := Lib.hid hcp2; have HW1 := Lib.hid hW1; have Hov := Lib.hid hov
 clear hcell hsome hfz hdl hDat hD1 hsp1 hcp1 hcp2 hv hg hcs h1c h1 hD hW1 hM hov
 go_enter Tryz.func189, Tryz.ntmps189
 go_wp2_with (simp only [Hov.out])
 go_region_law
  (refine step_copy_k rfl _ _ 33 33 rfl (.slice (some ⟨g, (i + 1) * 4, none⟩) (n - i) (cap - (i + 1))) (.slice (some ⟨g, i * 4, none⟩) (n + 1 - i) (cap - i)) ?_ ?_ (Hcp1.out _ _ _) ?_
   . go_simp
   . go_simp)
 have hcp2 := fun ty dc => Hcp2.out W1 (fun _ => rfl) (fun _ => rfl) ty dc
 go_wp2_with fail
 go_ret
 first | exact ⟨rfl, rfl⟩ | exact ⟨rfl, by rw [HW1.out]⟩
/-- Ahead of the end, there is no room: a new row. -/
theorem insn_grow (g n cap i : Nat) (cur : Array Value) (vb : Nat) (c : List Value) (w : World) (hg : w.heap[g]? = some (.cells cur 35 (0, 0))) (hnc : n <= cap) (hroom : cap < n + 1) (hcs : cur.size = cap * 4) (h1c : ∀ u ∈ cur.toList.take (n * 4), u.oneCell' = true)
 (hi : i < n) (hn : n <= 100000000) (hv : At w vb c 35) (hc : c.length = 4) (h1 : ∀ u ∈ c, u.oneCell' = true) :
 Calls Tryz.prog 189 #[.slice (some ⟨g, 0, none⟩) n cap, .int .i64 i, .slice (some ⟨vb, 0, none⟩) 1 1] w fun e w' => ∃ G T, e = .returned (.slice (some ⟨w.heap.size, 0, none⟩) (n + 1) G) /\ n + 1 <= G /\ G <= maxLen /\ T.length = (G - i) * 4 /\
  w' = (((w.drew.alloc (.cells (cur.toList.take (i * 4) ++ T).toArray 35)).setCells w.heap.size (i * 4) c).drew).setCells w.heap.size ((i + 1) * 4) ((cur.toList.take (n * 4)).drop (i * 4)) := by
 obtain ⟨i0, hi0, hz0, hzs, hzb⟩ := info_parts info_nodeC
 have hz2 : ¬ ((i : Int) = (n : Int)) := by omega
 have hz3 : (cap : Int) < (n : Int) + 1 := by omega
 have hgw : g < w.heap.size := (Array.getElem?_eq_some_iff.1 hg).1
 have hvw : vb < w.heap.size := At.lt hv
 have hkk : (n : Int) + 1 - (i : Int) = ((n + 1 - i : Nat) : Int) := by omega
 have hik : i + (n + 1 - i) = n + 1 := by omega
 have hcell : ∀ j u, cur[j]? = some u -> w.cell? ⟨g, j, none⟩ = some u := fun j u hj => by rw [cell_of_row _ _ _ _ _ _ hg]; exact hj
 have hold : (Builtin.firstCells i0.size i (.slice (some ⟨g, 0, none⟩) i cap)).run Tryz.prog w.drew = .ok (cur.toList.take (i * 4)).toArray w.drew := by
  rw [hzs]
  exact run_firstCells_some w.drew 4 i ⟨g, 0, none⟩ i cap (cur.toList.take (i * 4)) (by rw [List.length_take, Array.length_toList]; omega) (fun j u hj => by
   rw [Addr.add_lit, Nat.zero_add]
   rw [List.getElem?_take] at hj
   split at hj
   . exact hcell j u (by simpa using hj)
   . cases hj)
 obtain ⟨Z, hZ⟩ : ∃ Z, Z = (Value.agg #[.bool false, .slice none 0 0, .slice none 0 0, .slice none 0 0]).cells := ⟨_, rfl⟩
 have hZ4 : Z.size = 4 := by rw [hZ]; rfl
 have hrz : ∀ ty, (Builtin.append_ #[33, 3] ty #[.slice (some ⟨g, 0, none⟩) i cap, .int .i64 ((n : Int) + 1 - (i : Int))]).run Tryz.prog w = .ok (.slice (some ⟨w.heap.size, 0, none⟩) (n + 1) (grownCap w (n + 1) cap 35))
  (w.drew.alloc (.cells ((cur.toList.take (i * 4)).toArray ++ Builtin.zeroCells Z (n + 1 - i) ++ Builtin.zeroCells Z (grownCap w (n + 1) cap 35 - (n + 1))) 35)) := fun ty => by
  have h := Lib.run_append_grow_zeros w 33 3 ty 35 i0 _ .i64 .i64 Tryz.underlying33 Tryz.underlying3 hi0 hz0 (some ⟨g, 0, none⟩) i cap (cur.toList.take (i * 4)) hold (n + 1 - i) (by omega) (by omega) (by omega) (by omega) (by rw [hzb]; omega) (by rw [hzb, hik]; exact growslice_fits (by omega) (by omega))
  rw [hik, <- hZ] at h
  rw [hkk]
  exact h
 obtain ⟨G, hG⟩ : ∃ G, G = grownCap w (n + 1) cap 35 := ⟨_, rfl⟩
 have hGn : n + 1 <= G := by rw [hG]; exact grownCap_ge w _ _ _
 have hG63 : G <= maxLen := by rw [hG]; exact grownCap_le_maxLen w (n + 1) cap 35 (by unfold maxLen; omega)
 rw [<- hG] at hrz
 obtain ⟨T, hT, hTl⟩ : ∃ T : List Value, (cur.toList.take (i * 4)).toArray ++ Builtin.zeroCells Z (n + 1 - i) ++ Builtin.zeroCells Z (G - (n + 1)) = (cur.toList.take (i * 4) ++ T).toArray /\ T.length = (G - i) * 4 := by
  refine ⟨(Builtin.zeroCells Z (n + 1 - i)).toList ++ (Builtin.zeroCells Z (G - (n + 1))).toList, ?_, ?_⟩
  . apply Array.toList_inj.1; simp
  . simp [Builtin.zeroCells, hZ4]; omega
 rw [hT] at hrz
 obtain ⟨ROW, hROW⟩ : ∃ ROW, ROW = (cur.toList.take (i * 4) ++ T).toArray := ⟨_, rfl⟩
 have hRl : ROW.size = G * 4 := by rw [hROW]; simp [hTl]; omega
 rw [<- hROW] at hrz
 obtain ⟨D, hD⟩ : ∃ D, D = (cur.toList.take (n * 4)).drop (i * 4) := ⟨_, rfl⟩
 have hdl : D.length = (n - i) * 4 := by rw [hD]; simp; omega
 have hDat : ∀ j u, D[j]? = some u -> cur[i * 4 + j]? = some u := fun j u hj => by
  rw [hD, List.getElem?_drop] at hj
  rw [List.getElem?_take] at hj
  split at hj
  . simpa using hj
  . cases hj
 have hD1 : ∀ u ∈ D, u.oneCell' = true := fun u hu => h1c u (by rw [hD] at hu; exact List.mem_of_mem_drop hu)
 obtain ⟨W1, hW1⟩ : ∃ W1, W1 = w.drew.alloc (.cells ROW 35) := ⟨_, rfl⟩
 have hN : ∀ j, j < G * 4 -> (W1.cell? ⟨w.heap.size, j, none⟩).isSome = true := fun j hj => by
  rw [hW1, World.cell?_alloc_at (w := w.drew) ROW _ w.heap.size j rfl, Array.getElem?_eq_getElem (by omega)]; rfl
 have hNf : ∀ j, W1.frozen? ⟨w.heap.size, j, none⟩ = false := fun j => by rw [hW1]; exact World.frozen?_alloc_at (w := w.drew) ROW _ w.heap.size j rfl
 have hOb : ∀ j v, w.cell? ⟨g, j, none⟩ = some v -> W1.cell? ⟨g, j, none⟩ = some v := fun j v h => by rw [hW1, World.cell?_alloc_past (w := w.drew) _ g j hgw]; exact h
 have hOv : ∀ j v, w.cell? ⟨vb, j, none⟩ = some v -> W1.cell? ⟨vb, j, none⟩ = some v := fun j v h => by rw [hW1, World.cell?_alloc_past (w := w.drew) _ vb j hvw]; exact h
 have hcpA : ∀ ty dc, (Builtin.copy_ #[33, 33] ty #[.slice (some ⟨w.heap.size, i * 4, none⟩) (n + 1 - i) dc, .slice (some ⟨vb, 0, none⟩) 1 1]).run Tryz.prog W1 = .ok (goInt (Nat.min 1 (n + 1 - i))) (W1.setCells w.heap.size (i * 4) c) := fun ty dc =>
  run_copy_k W1 _ _ ty 35 4 w.heap.size (i * 4) (n + 1 - i) dc ⟨vb, 0, none⟩ 1 1 c Tryz.underlying33 size_node (by rw [hc]; simp only [Nat.min_def]; split <;> omega)
   (fun j u hj => by rw [Addr.add_lit, Nat.zero_add]; exact hOv _ u (hv.cell j hj))
   (fun j hj => hN _ (by rw [hc] at hj; omega)) (fun j hj => hNf _) h1
 have hgi : ¬ (G = i) := by omega
 have hgim : ¬ (G = i + 1) := by omega
 have hci : ¬ (cap = i) := by omega
 have hbN : g ≠ w.heap.size := by omega
 obtain ⟨W2, hW2⟩ : ∃ W2, W2 = W1.setCells w.heap.size (i * 4) c := ⟨_, rfl⟩
 have hcpB : ∀ (W : World), (∀ x, W.cell? x = W2.cell? x) -> (∀ x, W.frozen? x = W2.frozen? x) -> ∀ ty dc sc, (Builtin.copy_ #[33, 33] ty #[.slice (some ⟨w.heap.size, (i + 1) * 4, none⟩) (n - i) dc, .slice (some ⟨g, i * 4, none⟩) (n - i) sc]).run Tryz.prog W = .ok (goInt (Nat.min (n - i) (n - i))) (W.setCells w.heap.size ((i + 1) * 4) D) := fun W hWc hWf ty dc sc =>
  run_copy_k W _ _ ty 35 4 w.heap.size ((i + 1) * 4) (n - i) dc ⟨g, i * 4, none⟩ (n - i) sc D Tryz.underlying33 size_node (by rw [hdl]; simp only [Nat.min_def]; split <;> omega)
   (fun j u hj => by
     rw [Addr.add_lit, hWc, hW2, World.cell?_setCells_out _ _ _ _ _ (fun h _ => absurd h hbN)]
     exact hOb _ u (hcell _ _ (hDat j u hj)))
   (fun j hj => by rw [hWc, hW2]; exact isSome_setCells _ c _ W1 (fun t ht => hN (i * 4 + t) (by rw [hc] at ht; omega)) _ (hN _ (by rw [hdl] at hj; omega)))
   (fun j hj => by rw [hWf, hW2, World.frozen?_setCells]; exact hNf _) hD1
 rw [<- hW1] at hrz
 rw [<- hW2] at hcpA
 have hw1 : IntKind.i64.wrap ((i : Int) + 1) = (i : Int) + 1 := by rw [IntKind.wrap_i64]; omega
 have hw2 : IntKind.i64.wrap ((n : Int) + 1) = (n : Int) + 1 := by rw [IntKind.wrap_i64]; omega
 have hw3 : IntKind.i64.wrap ((n : Int) + 1 - (i : Int)) = (n : Int) + 1 - (i : Int) := by rw [IntKind.wrap_i64]; omega
 have hb1 : (0 : Int) <= (i : Int) + 1 := by omega
 have hin : i <= n := by omega
 have htn : ((i : Int) + 1).toNat = i + 1 := by omega
 have hb3 : (i : Int) <= (n : Int) := by omega
 have hb5 : (i : Int) <= (n : Int) + 1 := by omega
 have Hrz := Lib.hid hrz; have HcpA := Lib.hid hcpA; have HcpB := Lib.hid hcpB; have HW1 := Lib.hid hW1; have HW2 := Lib.hid hW2; have HROW := Lib.hid hROW; have HG63 := Lib.hid hG63; have HTl := Lib.hid hTl
 unfold maxLen at hG63
 clear hkk hik hold hROW hG hRl hcell hrz hT hZ hZ4 hdl hDat hD1 hN hNf hOb hOv hcpA hcpB hW1 hW2 hTl hg hcs h1c hv h1 hz0 hzs hzb hi0
 rw [<- hD]
 have HD := Lib.hid hD
 clear hD
 go_enter Tryz.func189, Tryz.ntmps189
 have hcpA := HcpA.out
 go_wp2_with (at_builtin; refine Lib.wpList_append_run _ rfl _ _ _ _ rfl _ _ rfl rfl _ _ (Hrz.out _) ?_)
 go_region_law
  (refine step_copy_k rfl _ _ 33 33 rfl (.slice (some ⟨w.heap.size, (i + 1) * 4, none⟩) (n - i) (G - (i + 1))) (.slice (some ⟨g, i * 4, none⟩) (n - i) (cap - i)) ?_ ?_ (HcpB.out W2.drew (fun _ => rfl) (fun _ => rfl) _ _ _) ?_
   . go_simp
   . go_simp)
 go_wp2_with fail
 go_ret
 refine ⟨G, T, rfl, hGn, HG63.out, HTl.out, ?_⟩
 rw [HW2.out, HW1.out, HROW.out]
/-- A row in its own block, its cells told. -/
theorem own_of_block {w : World} {M g n cap : Nat} {cur : Array Value} {T : TypeId} {xs : List Value} (hM : M <= g) (hg : w.heap[g]? = some (.cells cur T (0, 0))) (hnc : n <= cap) (hcm : cap <= maxLen) (hcs : cur.size = cap * 4) (ht : cur.toList.take (n * 4) = xs) (hl : xs.length = n * 4) : w.ownsRow M T 4 (.slice (some ⟨g, 0, none⟩) n cap) n xs :=
 ⟨hl, .inr ⟨g, cap, cur, rfl, hM, hg, hnc, hcm, hcs, ht⟩⟩
theorem lay_shift {α : Type} (L c D R : List α) (a k : Nat) (hc : c.length = k) (ha : a + k <= L.length) : ((L.take (a + k) ++ D ++ R).take a ++ c ++ (L.take (a + k) ++ D ++ R).drop (a + k)).take (a + k + D.length) = L.take a ++ (c ++ D) := by
 have h1 : (L.take (a + k)).length = a + k := by simp; omega
 have h2 : (L.take (a + k) ++ D ++ R).take a = L.take a := by rw [List.append_assoc, List.take_append_of_le_length (by omega), List.take_take, Nat.min_eq_left (by omega)]
 have h3 : (L.take (a + k) ++ D ++ R).drop (a + k) = D ++ R := by rw [List.append_assoc, List.drop_left' h1]
 have h4 : (L.take a ++ (c ++ D)).length = a + k + D.length := by simp; omega
 rw [h2, h3, show L.take a ++ c ++ (D ++ R) = (L.take a ++ (c ++ D)) ++ R by simp, List.take_left' h4]
theorem lay_two {α : Type} (P T c D S S2 : List α) (a k : Nat) (hP : P.length = a) (hc : c.length = k) : ((((P ++ T).take a ++ c ++ S).take (a + k)) ++ D ++ S2).take (a + k + D.length) = P ++ (c ++ D) := by
 have h1 : (P ++ T).take a = P := List.take_left' hP
 have h2 : (P ++ c).length = a + k := by simp; omega
 have h4 : (P ++ (c ++ D)).length = a + k + D.length := by simp; omega
 rw [h1, List.take_left' h2, show P ++ c ++ D ++ S2 = (P ++ (c ++ D)) ++ S2 by simp, List.take_left' h4]
theorem grown_drew {w : World} {r : Option Nat} : w.grownBy w.drew r := grown_of_below (Below.refl _ _).drew
/-- slices.Insert of one node, at a row of a call's own. -/
theorem insn_c (M : Nat) (v : Value) (n i : Nat) (css : List Value) (vb : Nat) (c : List Value) (w : World) (hown : w.ownsRow M 35 4 v n css) (h1c : ∀ u ∈ css, u.oneCell' = true) (hi : i <= n) (hn : n <= 100000000) (hM : M <= w.heap.size)
 (hv : At w vb c 35) (hc : c.length = 4) (h1 : ∀ u ∈ c, u.oneCell' = true) (hne : v.ownBlock ≠ some vb) :
 Calls Tryz.prog 189 #[v, .int .i64 i, .slice (some ⟨vb, 0, none⟩) 1 1] w (InsP w M v (n + 1) (css.take (i * 4) ++ (c ++ css.drop (i * 4)))) := by
 have hcl := hown.1
 by_cases hin : i = n
 . subst hin
   rw [List.take_of_length_le (by omega), List.drop_eq_nil_of_le (by omega), List.append_nil]
   exact insn_end M v i css vb c w hown hn hM hv hc h1
 . have hlt : i < n := by omega
   rcases hown.2 with ⟨rfl, rfl⟩ | ⟨g, cap, cur, rfl, hb, hg, hnc, hcm, hcs, htake⟩
   . omega
   have hob : (Value.slice (some ⟨g, 0, none⟩) n cap).ownBlock = some g := rfl
   have hD : (css.drop (i * 4)).length = (n - i) * 4 := by rw [List.length_drop, hcl, <- Nat.sub_mul]
   have e1 : cur.toList.take (i * 4) = css.take (i * 4) := by rw [<- htake, List.take_take, Nat.min_eq_left (by omega)]
   by_cases hroom : n + 1 <= cap
   . refine (insn_shift M g n cap i cur vb c w hb hg hroom hcm hcs (by rw [htake]; exact h1c) hlt hn hv hc h1 (fun e => hne (by rw [e]; rfl))).mono ?_
     rintro e w' ⟨rfl, rfl⟩
     rw [htake]
     obtain ⟨c1, g1, g2, g3⟩ := heap_setCells g (css.drop (i * 4)) ((i + 1) * 4) w.drew cur _ _ (show w.drew.heap[g]? = _ from hg) (by rw [hD]; omega)
     obtain ⟨c2, k1, k2, k3⟩ := heap_setCells g c (i * 4) _ c1 _ _ g1 (by rw [hc]; omega)
     refine ⟨_, rfl, own_of_block hb k1 hroom hcm (by omega) ?_ ?_, (show w.grownBy ((w.drew.setCells g ((i + 1) * 4) (css.drop (i * 4))).setCells g (i * 4) c) (some g) from (grown_drew.trans (grown_setCells _ _ _)).trans (grown_setCells _ _ _)), .inl rfl⟩
     . rw [k3, g3, <- e1, hc]
       have h := lay_shift cur.toList c (css.drop (i * 4)) (cur.toList.drop ((i + 1) * 4 + (css.drop (i * 4)).length)) (i * 4) 4 hc (by rw [Array.length_toList]; omega)
       rw [hD] at h ⊢
       rw [show i * 4 + 4 + (n - i) * 4 = (n + 1) * 4 by omega, show i * 4 + 4 = (i + 1) * 4 by omega] at h
       rw [show i * 4 + 4 = (i + 1) * 4 by omega]
       exact h
     . simp only [List.length_append, hc, hD, List.length_take, hcl]; omega
   . refine (insn_grow g n cap i cur vb c w hg hnc (by omega) hcs (by rw [htake]; exact h1c) hlt hn hv hc h1).mono ?_
     rintro e w' ⟨G, T, rfl, hG, hGm, hT, rfl⟩
     rw [htake, e1]
     have htl : (css.take (i * 4)).length = i * 4 := by rw [List.length_take]; omega
     obtain ⟨c1, g1, g2, g3⟩ := heap_setCells w.heap.size c (i * 4) (w.drew.alloc (.cells (css.take (i * 4) ++ T).toArray 35)) (css.take (i * 4) ++ T).toArray _ _ (heap_alloc_new w.drew _) (by simp [htl, hT, hc]; omega)
     have hcz : c1.size = G * 4 := by rw [g2]; simp [htl, hT]; omega
     obtain ⟨c2, k1, k2, k3⟩ := heap_setCells w.heap.size (css.drop (i * 4)) ((i + 1) * 4) ((w.drew.alloc (.cells (css.take (i * 4) ++ T).toArray 35)).setCells w.heap.size (i * 4) c).drew c1 _ _ g1 (by rw [hD, hcz]; omega)
     refine ⟨_, rfl, own_of_block hM k1 hG hGm (by omega) ?_ ?_, ?_, .inr fun k hk => ?_⟩
     . rw [k3, g3, List.toList_toArray]
       have h := lay_two (css.take (i * 4)) T c (css.drop (i * 4)) ((css.take (i * 4) ++ T).drop (i * 4 + c.length)) (c1.toList.drop ((i + 1) * 4 + (css.drop (i * 4)).length)) (i * 4) 4 htl hc
       rw [g3, List.toList_toArray] at h
       rw [hD] at h ⊢
       rw [show i * 4 + 4 + (n - i) * 4 = (n + 1) * 4 by omega, show i * 4 + 4 = (i + 1) * 4 by omega] at h
       exact h
     . simp only [List.length_append, hc, hD, List.length_take, hcl]; omega
     . refine grown_of_below ?_
       have hb1 : Below w.heap.size w (w.drew.alloc (.cells (css.take (i * 4) ++ T).toArray 35)) := (Below.refl _ _).drew.alloc (Nat.le_refl _) _
       have hb2 := hb1.grown (grown_setCells c (i * 4) _) hb1.size (fun k e => by cases e; exact Nat.le_refl _)
       exact (hb2.drew).grown (grown_setCells _ _ _) hb2.size (fun k e => by cases e; exact Nat.le_refl _)
     . simp [Value.ownBlock] at hk; omega
end Go.Proofs.YtbommcakcmhalaaGreatDoor
