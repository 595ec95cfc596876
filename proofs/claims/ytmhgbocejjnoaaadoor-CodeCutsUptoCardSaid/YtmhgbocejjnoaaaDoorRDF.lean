/- Walks: code's Parse. -/
import Derived.Test.YtmhgbocejjnoaaaDoorRDE
namespace Go.Proofs.YtmhgbocejjnoaaaDoor
open Go.RowKit Go.Redl
set_option linter.unusedVariables false

/-- What Parse answers. -/
def parseL (s : List UInt8) : Rd NodeD :=
  match rdN (2 * s.length + 1) s 0 with
  | .bad p er => .bad p er
  | .ok n e => if e < s.length then .bad e 11 else .ok n e
def ParseR (W : World) (R : Rd NodeD) (e : Ending) (w' : World) : Prop :=
  match R with
  | .ok n _ => ∃ cs, e = .returned (.tuple #[.agg cs.toArray, .int .i64 0, .int .i64 0]) ∧ NodeQ w' (fun b => W.heap.size ≤ b) n cs ∧ Below W.heap.size W w'
  | .bad a er => e = .returned (.tuple #[.agg #[.bool false, .slice none 0 0, .slice none 0 0, .slice none 0 0], .int .i64 a, .int .i64 er]) ∧ er ≠ 0 ∧ Below W.heap.size W w'

/-- A node's box. -/
def NodeAt (w : World) (N : Nat) (c0 c1 c2 c3 : Value) : Prop := w.heap[N]? = some (.cells #[c0, c1, c2, c3] 26 (0, 0))
theorem NodeAt.facts {w : World} {N : Nat} {c0 c1 c2 c3 : Value} (h : NodeAt w N c0 c1 c2 c3) :
    w.cell? ⟨N, 0, none⟩ = some c0 ∧ w.cell? ⟨N, 1, none⟩ = some c1 ∧ w.cell? ⟨N, 2, none⟩ = some c2 ∧ w.cell? ⟨N, 3, none⟩ = some c3 ∧
      (w.frozen? ⟨N, 0, none⟩ = false ∧ w.frozen? ⟨N, 1, none⟩ = false ∧ w.frozen? ⟨N, 2, none⟩ = false ∧ w.frozen? ⟨N, 3, none⟩ = false) ∧ N < w.heap.size := by
  refine ⟨?_, ?_, ?_, ?_, ⟨?_, ?_, ?_, ?_⟩, (Array.getElem?_eq_some_iff.1 h).1⟩
  all_goals first
    | exact Lib.frozen_of_heap h _
    | (rw [Lib.cell_of_heap h]; rfl)
theorem NodeAt.fresh (W : World) (c0 c1 c2 c3 : Value) : NodeAt (W.alloc (.cells #[c0, c1, c2, c3] 26)) W.heap.size c0 c1 c2 c3 := heap_alloc_new W _
theorem NodeAt.keep {w w' : World} {N : Nat} {c0 c1 c2 c3 : Value} (h : NodeAt w N c0 c1 c2 c3) (hb : Below (N + 1) w w') : NodeAt w' N c0 c1 c2 c3 := by
  unfold NodeAt; rw [hb.block N (by omega)]; exact h
theorem NodeAt.alloc {w : World} {N : Nat} {c0 c1 c2 c3 : Value} (h : NodeAt w N c0 c1 c2 c3) (o : Obj) : NodeAt (w.alloc o) N c0 c1 c2 c3 := by
  unfold NodeAt; rw [Lib.alloc_old _ _ _ (Array.getElem?_eq_some_iff.1 h).1]; exact h
theorem NodeAt.drew {w : World} {N : Nat} {c0 c1 c2 c3 : Value} (h : NodeAt w N c0 c1 c2 c3) : NodeAt w.drew N c0 c1 c2 c3 := h
theorem NodeAt.all {w : World} {N : Nat} {c0 c1 c2 c3 : Value} (h : NodeAt w N c0 c1 c2 c3) (d0 d1 d2 d3 : Value) : NodeAt ((((w.setCell ⟨N, 0, none⟩ d0).setCell ⟨N, 1, none⟩ d1).setCell ⟨N, 2, none⟩ d2).setCell ⟨N, 3, none⟩ d3) N d0 d1 d2 d3 := by
  have h0 := Lib.heap_setCell_same (i := 0) h d0
  have h1 := Lib.heap_setCell_same (i := 1) h0 d1
  have h2 := Lib.heap_setCell_same (i := 2) h1 d2
  exact Lib.heap_setCell_same (i := 3) h2 d3

theorem NodeAt.set {w : World} {N b o : Nat} {c0 c1 c2 c3 u : Value} (h : NodeAt w N c0 c1 c2 c3) (hne : N ≠ b) : NodeAt (w.setCell ⟨b, o, none⟩ u) N c0 c1 c2 c3 := by
  unfold NodeAt; rw [Below.heap_setCell _ _ _ _ hne]; exact h
/-- An error's box. -/
def PairAt (w : World) (N : Nat) (x y : Value) : Prop := w.heap[N]? = some (.cells #[x, y] 71 (0, 0))
theorem PairAt.facts {w : World} {N : Nat} {x y : Value} (h : PairAt w N x y) : w.cell? ⟨N, 0, none⟩ = some x ∧ w.cell? ⟨N, 1, none⟩ = some y ∧ w.frozen? ⟨N, 0, none⟩ = false ∧ w.frozen? ⟨N, 1, none⟩ = false ∧ N < w.heap.size := by
  refine ⟨?_, ?_, Lib.frozen_of_heap h _, Lib.frozen_of_heap h _, (Array.getElem?_eq_some_iff.1 h).1⟩
  all_goals (rw [Lib.cell_of_heap h]; rfl)
theorem PairAt.both {w : World} {N : Nat} {x y : Value} (h : PairAt w N x y) (u v : Value) : PairAt ((w.setCell ⟨N, 0, none⟩ u).setCell ⟨N, 1, none⟩ v) N u v := by
  have h0 := Lib.heap_setCell_same (i := 0) h u
  exact Lib.heap_setCell_same (i := 1) h0 v

set_option maxRecDepth 100000 in
set_option maxHeartbeats 4000000 in
theorem parseT_c (s : List UInt8) (W : World) (hn : s.length ≤ 1000000) (hE : ErrsAt W) (hT : TabAt W) (hg : 3 < W.heap.size) :
    Calls Tryd.prog 13 #[.string ⟨s.toArray⟩] W (ParseR W (parseL s)) := by
  have hsz : (⟨s.toArray⟩ : ByteArray).size = s.length := rfl
  have hb0 : Below W.heap.size W (W.alloc (Obj.cells #[.bool false, .slice none 0 0, .slice none 0 0, .slice none 0 0] 26)) := (Below.refl _ _).alloc (Nat.le_refl _) _
  have HI := Lib.hid (read_c s hn (2 * s.length + 1) 0 _ (by omega) (by omega) (hE.keep hb0) (TabAt.keep hT hb0 hg) (Nat.lt_of_lt_of_le hg hb0.size))
  obtain ⟨R, hR⟩ : ∃ R, R = parseL s := ⟨_, rfl⟩
  have HR : Hid (R = match rdN (2 * s.length + 1) s 0 with
      | .bad p er => .bad p er
      | .ok n e => if e < s.length then .bad e 11 else .ok n e) := hR
  rw [← hR]
  obtain ⟨S, hS⟩ : ∃ S, S = (⟨s.toArray⟩ : ByteArray) := ⟨_, rfl⟩
  rw [← hS] at HI hsz ⊢
  clear hS hR hE hT hg hb0
  cases hrd : rdN (2 * s.length + 1) s 0 with
  | bad p er =>
    have HRb : Hid (R = .bad p er) := by show R = _; rw [HR.out, hrd]
    rw [hrd] at HI
    clear hrd HR
    go_enter Tryd.func13, Tryd.ntmps13
    go_wp2_with fail
    refine HI.out.mono ?_
    rintro e' w1 ⟨l, a1, n1, k1, a2, n2, k2, a3, n3, k3, z, rfl, her, hbel⟩
    have her0 : (er == 0) = false := by simpa using her
    have Her := Lib.hid her
    have hW := hbel.size
    have Hbel := Lib.hid (below_unbox (below_box hbel))
    have hnb := (NodeAt.fresh W (.bool false) (.slice none 0 0) (.slice none 0 0) (.slice none 0 0)).keep (below_box hbel)
    obtain ⟨x0, x1, x2, x3, ⟨f0, f1, f2, f3⟩, hW1⟩ := hnb.facts
    have hz := box2f (w := w1.alloc (Obj.cells #[.bool l, .slice a1 n1 k1, .slice a2 n2 k2, .slice a3 n3 k3] 26)) (c0 := .int .i64 p) (c1 := .int .i64 er) (T := 71) (Below.refl _ _)
    have hsz2 : (w1.alloc (Obj.cells #[.bool l, .slice a1 n1 k1, .slice a2 n2 k2, .slice a3 n3 k3] 26)).heap.size = w1.heap.size + 1 := by simp
    rw [hsz2] at hz
    have Hnb := Lib.hid ((hnb.alloc (Obj.cells #[.bool l, .slice a1 n1 k1, .slice a2 n2 k2, .slice a3 n3 k3] 26)).alloc (Obj.cells #[.int .i64 p, .int .i64 er] 71))
    have Hbel4 := Lib.hid ((Hbel.out.alloc (by omega) (Obj.cells #[.bool l, .slice a1 n1 k1, .slice a2 n2 k2, .slice a3 n3 k3] 26)).alloc (by rw [hsz2]; omega) (Obj.cells #[.int .i64 p, .int .i64 er] 71))
    have hz := Lib.hid hz
    clear hbel HI her hsz2 hnb
    go_upto_region 5 with fail
    clear x0 x1 x2 x3 f0 f1 f2 f3
    obtain ⟨w4, hw4⟩ : ∃ w4, w4 = (w1.alloc (Obj.cells #[.bool l, .slice a1 n1 k1, .slice a2 n2 k2, .slice a3 n3 k3] 26)).alloc (Obj.cells #[.int .i64 p, .int .i64 er] 71) := ⟨_, rfl⟩
    rw [← hw4] at hz Hnb Hbel4 ⊢
    obtain ⟨z0, z1, -, -⟩ := hz.out
    obtain ⟨x0, x1, x2, x3, ⟨f0, f1, f2, f3⟩, hW4⟩ := Hnb.out.facts
    clear hw4 hz
    go_cut [3, 4] (fun s3 s4 wx => s3 = .int .i64 p ∧ s4 = .int .i64 er ∧ NodeAt wx W.heap.size (.bool false) (.slice none 0 0) (.slice none 0 0) (.slice none 0 0) ∧ Below W.heap.size W wx)
    case first =>
      go_region
      all_goals
        go_wp2_with fail
        go_meet
        case rel =>
          refine ⟨rfl, rfl, ?_, ?_⟩
          · with_reducible exact (Hnb.out.all _ _ _ _).drew
          · with_reducible exact (below_all Hbel4.out (Nat.le_refl _) _ _ _ _).drew
    case rest =>
      obtain ⟨rfl, rfl, hnb, hbel⟩ := hcut
      clear x0 x1 x2 x3 f0 f1 f2 f3
      obtain ⟨x0, x1, x2, x3, -⟩ := hnb.facts
      have Hbel5 := Lib.hid hbel
      clear hbel hnb Hnb Hbel4 Hbel
      go_wp2_with fail
      refine bodyPost_ret (v := .tuple #[.agg #[.bool false, .slice none 0 0, .slice none 0 0, .slice none 0 0], .int .i64 p, .int .i64 er]) (by simp [results, Tryd.results13, go_sem, x0, x1, x2, x3]) rfl ?_
      rw [HRb.out]
      exact ⟨rfl, by have := Her.out; simpa using this, Hbel5.out⟩
  | ok n e =>
    have hpos := rdN_pos _ s 0 n e (by omega) hrd
    rw [hrd] at HI
    by_cases hlt : e < s.length
    · have HRb : Hid (R = .bad e 11) := by show R = _; rw [HR.out, hrd]; exact if_pos hlt
      have hlti : (e : Int) < s.length := by omega
      have HWr := fun W => Lib.hid (wrong_c (e : Int) W)
      clear hrd HR
      go_enter Tryd.func13, Tryd.ntmps13
      go_wp2_with fail
      refine HI.out.mono ?_
      rintro e' w1 ⟨cs, rfl, hnode, hbel⟩
      obtain ⟨l, a1, n1, k1, a2, n2, k2, a3, n3, k3, rfl⟩ := hnode.form
      have hW := hbel.size
      have Hbel := Lib.hid (below_unbox (below_box hbel))
      have hnb := (NodeAt.fresh W (.bool false) (.slice none 0 0) (.slice none 0 0) (.slice none 0 0)).keep (below_box hbel)
      have Hnb := Lib.hid ((hnb.alloc (Obj.cells #[.bool l, .slice a1 n1 k1, .slice a2 n2 k2, .slice a3 n3 k3] 26)).alloc (Obj.cells #[.int .i64 0, .int .i64 0] 71))
      obtain ⟨x0, x1, x2, x3, ⟨f0, f1, f2, f3⟩, hW1⟩ := hnb.facts
      clear hbel HI hnode hnb
      go_wp2_with fail
      refine (HWr _).out.mono ?_
      rintro e' w2 ⟨rfl, hbel2⟩
      clear x0 x1 x2 x3 f0 f1 f2 f3 HWr
      have hsz2 : (w1.alloc (Obj.cells #[.bool l, .slice a1 n1 k1, .slice a2 n2 k2, .slice a3 n3 k3] 26)).heap.size = w1.heap.size + 1 := by simp
      have hsz3 : ((w1.alloc (Obj.cells #[.bool l, .slice a1 n1 k1, .slice a2 n2 k2, .slice a3 n3 k3] 26)).alloc (Obj.cells #[.int .i64 0, .int .i64 0] 71)).heap.size = w1.heap.size + 2 := by simp
      rw [hsz3] at hbel2
      have hp : PairAt w2 (w1.heap.size + 1) (.int .i64 0) (.int .i64 0) := by
        unfold PairAt
        rw [hbel2.block _ (by omega), ← hsz2]
        exact heap_alloc_new _ _
      have hn2 := Hnb.out.keep (hbel2.mono (by omega))
      have Hbel3 := Lib.hid (((Hbel.out.alloc (by omega) (Obj.cells #[.bool l, .slice a1 n1 k1, .slice a2 n2 k2, .slice a3 n3 k3] 26)).alloc (by rw [hsz2]; omega) (Obj.cells #[.int .i64 0, .int .i64 0] 71)).trans (hbel2.mono (by omega)))
      have hs2 := hbel2.size
      rw [hsz3] at hs2
      obtain ⟨y0, y1, g0, g1, -⟩ := hp.facts
      have Hp := Lib.hid (hp.both (.int .i64 e) (.int .i64 11))
      have Hn := Lib.hid (NodeAt.set (b := w1.heap.size + 1) (o := 1) (u := .int .i64 11) (NodeAt.set (b := w1.heap.size + 1) (o := 0) (u := .int .i64 e) hn2 (by omega)) (by omega))
      clear hbel2 hsz2 hsz3 hp hn2 Hnb Hbel
      go_upto_region 5 with fail
      clear y0 y1 g0 g1
      obtain ⟨w4, hw4⟩ : ∃ w4, w4 = (w2.setCell ⟨w1.heap.size + 1, 0, none⟩ (.int .i64 e)).setCell ⟨w1.heap.size + 1, 1, none⟩ (.int .i64 11) := ⟨_, rfl⟩
      have Hbel4 := Lib.hid (below_both (N := w1.heap.size + 1) Hbel3.out (by omega) (.int .i64 e) (.int .i64 11))
      rw [← hw4] at Hp Hn Hbel4 ⊢
      obtain ⟨y0, y1, g0, g1, -⟩ := Hp.out.facts
      obtain ⟨x0, x1, x2, x3, ⟨f0, f1, f2, f3⟩, hW4⟩ := Hn.out.facts
      clear hw4
      go_cut [3, 4] (fun s3 s4 wx => s3 = .int .i64 e ∧ s4 = .int .i64 11 ∧ NodeAt wx W.heap.size (.bool false) (.slice none 0 0) (.slice none 0 0) (.slice none 0 0) ∧ Below W.heap.size W wx)
      case first =>
        go_region
        all_goals
          go_wp2_with fail
          go_meet
          case rel =>
            refine ⟨rfl, rfl, ?_, ?_⟩
            · with_reducible exact (Hn.out.all _ _ _ _).drew
            · with_reducible exact (below_all Hbel4.out (Nat.le_refl _) _ _ _ _).drew
      case rest =>
        obtain ⟨rfl, rfl, hnb, hbel⟩ := hcut
        clear x0 x1 x2 x3 f0 f1 f2 f3 y0 y1 g0 g1
        obtain ⟨x0, x1, x2, x3, -⟩ := hnb.facts
        have Hbel5 := Lib.hid hbel
        clear hbel hnb Hn Hp Hbel4 Hbel3
        go_wp2_with fail
        refine bodyPost_ret (v := .tuple #[.agg #[.bool false, .slice none 0 0, .slice none 0 0, .slice none 0 0], .int .i64 e, .int .i64 11]) (by simp [results, Tryd.results13, go_sem, x0, x1, x2, x3]) rfl ?_
        rw [HRb.out]
        exact ⟨rfl, by decide, Hbel5.out⟩
    · have HRb : Hid (R = .ok n e) := by show R = _; rw [HR.out, hrd]; exact if_neg hlt
      have hlti : decide ((e : Int) < s.length) = false := by simp; omega
      clear hrd HR
      go_enter Tryd.func13, Tryd.ntmps13
      go_wp2_with fail
      refine HI.out.mono ?_
      rintro e' w1 ⟨cs, rfl, hnode, hbel⟩
      obtain ⟨l, a1, n1, k1, a2, n2, k2, a3, n3, k3, rfl⟩ := hnode.form
      have hW := hbel.size
      have Hbel := Lib.hid (below_unbox (below_box hbel))
      have hnb := (NodeAt.fresh W (.bool false) (.slice none 0 0) (.slice none 0 0) (.slice none 0 0)).keep (below_box hbel)
      obtain ⟨x0, x1, x2, x3, ⟨f0, f1, f2, f3⟩, hW1⟩ := hnb.facts
      have Hnode := Lib.hid hnode
      clear hbel HI hnode hnb
      go_wp2_with fail
      refine bodyPost_ret (v := .tuple #[.agg #[.bool l, .slice a1 n1 k1, .slice a2 n2 k2, .slice a3 n3 k3], .int .i64 0, .int .i64 0]) (by simp [results, Tryd.results13, go_sem, x0, x1, x2, x3, hW1]) rfl ?_
      rw [HRb.out]
      have hne : ¬ ((W.alloc (Obj.cells #[.bool false, .slice none 0 0, .slice none 0 0, .slice none 0 0] 26)).heap.size ≤ W.heap.size) := by simp
      have hs4 := (below_all Hbel.out (Nat.le_refl W.heap.size) (.bool l) (.slice a1 n1 k1) (.slice a2 n2 k2) (.slice a3 n3 k3))
      have hq := nodeq_set (N := W.heap.size) (o := 3) (u := .slice a3 n3 k3) (nodeq_set (N := W.heap.size) (o := 2) (u := .slice a2 n2 k2) (nodeq_set (N := W.heap.size) (o := 1) (u := .slice a1 n1 k1) (nodeq_set (N := W.heap.size) (o := 0) (u := .bool l) Hnode.out hne) hne) hne) hne
      obtain ⟨w5, hw5⟩ : ∃ w5, w5 = (((w1.setCell ⟨W.heap.size, 0, none⟩ (.bool l)).setCell ⟨W.heap.size, 1, none⟩ (.slice a1 n1 k1)).setCell ⟨W.heap.size, 2, none⟩ (.slice a2 n2 k2)).setCell ⟨W.heap.size, 3, none⟩ (.slice a3 n3 k3) := ⟨_, rfl⟩
      rw [← hw5] at hs4 hq ⊢
      refine ⟨_, rfl, ?_, ?_⟩
      · have hb5 : Below w5.heap.size w5 ((w5.alloc (Obj.cells #[.bool l, .slice a1 n1 k1, .slice a2 n2 k2, .slice a3 n3 k3] 26)).alloc (Obj.cells #[.int .i64 0, .int .i64 0] 71)) := ((Below.refl _ _).alloc (Nat.le_refl _) _).alloc (by simp) _
        exact NodeQ.keep hb5.size (fun b _ hlt => hb5.block b hlt) (fun b hb _ => by simp at hb; omega) _ _ hq
      · have := hs4.size
        exact (hs4.alloc (by omega) _).alloc (by simp; omega) _

end Go.Proofs.YtmhgbocejjnoaaaDoor
