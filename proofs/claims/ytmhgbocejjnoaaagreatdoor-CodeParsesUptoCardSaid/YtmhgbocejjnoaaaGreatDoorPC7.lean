/- Parts of the proof, one behind the other: RDF, RPA. -/
import Derived.Test.YtmhgbocejjnoaaaGreatDoorPC6
/- Walks: code's Parse. -/
namespace Go.Proofs.YtmhgbocejjnoaaaGreatDoor
open Go.RowKit Go.Redl
set_option linter.unusedVariables false

/-- What Parse answers. -/
def parseL (s : List UInt8) : Rd NodeD :=
  match rdN (2 * s.length + 1) s 0 with
  | .bad p er => .bad p er
  | .ok n e => if e < s.length then .bad e 11 else .ok n e
def ParseR (W : World) (R : Rd NodeD) (e : Ending) (w' : World) : Prop :=
  match R with
  | .ok n _ => ∃ cs, e = .returned (.tuple #[.agg cs.toArray, .int .i64 0, .int .i64 0]) ∧ NodeQ w' (fun b => W.heap.size ≤ b) n cs ∧ Below W.heap.size W w'
  | .bad a er => e = .returned (.tuple #[.agg #[.bool false, .slice none 0 0, .slice none 0 0, .slice none 0 0], .int .i64 a, .int .i64 er]) ∧ er ≠ 0 ∧ Below W.heap.size W w'

/-- A node's box. -/
def NodeAt (w : World) (N : Nat) (c0 c1 c2 c3 : Value) : Prop := w.heap[N]? = some (.cells #[c0, c1, c2, c3] 27 (0, 0))
theorem NodeAt.facts {w : World} {N : Nat} {c0 c1 c2 c3 : Value} (h : NodeAt w N c0 c1 c2 c3) :
    w.cell? ⟨N, 0, none⟩ = some c0 ∧ w.cell? ⟨N, 1, none⟩ = some c1 ∧ w.cell? ⟨N, 2, none⟩ = some c2 ∧ w.cell? ⟨N, 3, none⟩ = some c3 ∧
      (w.frozen? ⟨N, 0, none⟩ = false ∧ w.frozen? ⟨N, 1, none⟩ = false ∧ w.frozen? ⟨N, 2, none⟩ = false ∧ w.frozen? ⟨N, 3, none⟩ = false) ∧ N < w.heap.size := by
  refine ⟨?_, ?_, ?_, ?_, ⟨?_, ?_, ?_, ?_⟩, (Array.getElem?_eq_some_iff.1 h).1⟩
  all_goals first
    | exact Lib.frozen_of_heap h _
    | (rw [Lib.cell_of_heap h]; rfl)
theorem NodeAt.fresh (W : World) (c0 c1 c2 c3 : Value) : NodeAt (W.alloc (.cells #[c0, c1, c2, c3] 27)) W.heap.size c0 c1 c2 c3 := heap_alloc_new W _
theorem NodeAt.keep {w w' : World} {N : Nat} {c0 c1 c2 c3 : Value} (h : NodeAt w N c0 c1 c2 c3) (hb : Below (N + 1) w w') : NodeAt w' N c0 c1 c2 c3 := by
  unfold NodeAt; rw [hb.block N (by omega)]; exact h
theorem NodeAt.alloc {w : World} {N : Nat} {c0 c1 c2 c3 : Value} (h : NodeAt w N c0 c1 c2 c3) (o : Obj) : NodeAt (w.alloc o) N c0 c1 c2 c3 := by
  unfold NodeAt; rw [Lib.alloc_old _ _ _ (Array.getElem?_eq_some_iff.1 h).1]; exact h
theorem NodeAt.drew {w : World} {N : Nat} {c0 c1 c2 c3 : Value} (h : NodeAt w N c0 c1 c2 c3) : NodeAt w.drew N c0 c1 c2 c3 := h
theorem NodeAt.all {w : World} {N : Nat} {c0 c1 c2 c3 : Value} (h : NodeAt w N c0 c1 c2 c3) (d0 d1 d2 d3 : Value) : NodeAt ((((w.setCell ⟨N, 0, none⟩ d0).setCell ⟨N, 1, none⟩ d1).setCell ⟨N, 2, none⟩ d2).setCell ⟨N, 3, none⟩ d3) N d0 d1 d2 d3 := by
  have h0 := Lib.heap_setCell_same (i := 0) h d0
  have h1 := Lib.heap_setCell_same (i := 1) h0 d1
  have h2 := Lib.heap_setCell_same (i := 2) h1 d2
  exact Lib.heap_setCell_same (i := 3) h2 d3

theorem NodeAt.set {w : World} {N b o : Nat} {c0 c1 c2 c3 u : Value} (h : NodeAt w N c0 c1 c2 c3) (hne : N ≠ b) : NodeAt (w.setCell ⟨b, o, none⟩ u) N c0 c1 c2 c3 := by
  unfold NodeAt; rw [Below.heap_setCell _ _ _ _ hne]; exact h
/-- An error's box. -/
def PairAt (w : World) (N : Nat) (x y : Value) : Prop := w.heap[N]? = some (.cells #[x, y] 43 (0, 0))
theorem PairAt.facts {w : World} {N : Nat} {x y : Value} (h : PairAt w N x y) : w.cell? ⟨N, 0, none⟩ = some x ∧ w.cell? ⟨N, 1, none⟩ = some y ∧ w.frozen? ⟨N, 0, none⟩ = false ∧ w.frozen? ⟨N, 1, none⟩ = false ∧ N < w.heap.size := by
  refine ⟨?_, ?_, Lib.frozen_of_heap h _, Lib.frozen_of_heap h _, (Array.getElem?_eq_some_iff.1 h).1⟩
  all_goals (rw [Lib.cell_of_heap h]; rfl)
theorem PairAt.both {w : World} {N : Nat} {x y : Value} (h : PairAt w N x y) (u v : Value) : PairAt ((w.setCell ⟨N, 0, none⟩ u).setCell ⟨N, 1, none⟩ v) N u v := by
  have h0 := Lib.heap_setCell_same (i := 0) h u
  exact Lib.heap_setCell_same (i := 1) h0 v

set_option maxRecDepth 100000 in
set_option maxHeartbeats 4000000 in
theorem parseT_c (s : List UInt8) (W : World) (hn : s.length ≤ 1000000) (hE : ErrsAt W) (hT : TabAt W) (hg : 7 < W.heap.size) :
    Calls Tryz.prog 7 #[.string ⟨s.toArray⟩] W (ParseR W (parseL s)) := by
  have hsz : (⟨s.toArray⟩ : ByteArray).size = s.length := rfl
  have hb0 : Below W.heap.size W (W.alloc (Obj.cells #[.bool false, .slice none 0 0, .slice none 0 0, .slice none 0 0] 27)) := (Below.refl _ _).alloc (Nat.le_refl _) _
  have HI := Lib.hid (read_c s hn (2 * s.length + 1) 0 _ (by omega) (by omega) (hE.keep hb0) (TabAt.keep hT hb0 hg) (Nat.lt_of_lt_of_le hg hb0.size))
  obtain ⟨R, hR⟩ : ∃ R, R = parseL s := ⟨_, rfl⟩
  have HR : Hid (R = match rdN (2 * s.length + 1) s 0 with
      | .bad p er => .bad p er
      | .ok n e => if e < s.length then .bad e 11 else .ok n e) := hR
  rw [← hR]
  obtain ⟨S, hS⟩ : ∃ S, S = (⟨s.toArray⟩ : ByteArray) := ⟨_, rfl⟩
  rw [← hS] at HI hsz ⊢
  clear hS hR hE hT hg hb0
  cases hrd : rdN (2 * s.length + 1) s 0 with
  | bad p er =>
    have HRb : Hid (R = .bad p er) := by show R = _; rw [HR.out, hrd]
    rw [hrd] at HI
    clear hrd HR
    go_enter Tryz.func7, Tryz.ntmps7
    go_wp2_with fail
    refine HI.out.mono ?_
    rintro e' w1 ⟨l, a1, n1, k1, a2, n2, k2, a3, n3, k3, z, rfl, her, hbel⟩
    have her0 : (er == 0) = false := by simpa using her
    have Her := Lib.hid her
    have hW := hbel.size
    have Hbel := Lib.hid (below_unbox (below_box hbel))
    have hnb := (NodeAt.fresh W (.bool false) (.slice none 0 0) (.slice none 0 0) (.slice none 0 0)).keep (below_box hbel)
    obtain ⟨x0, x1, x2, x3, ⟨f0, f1, f2, f3⟩, hW1⟩ := hnb.facts
    have hz := box2f (w := w1.alloc (Obj.cells #[.bool l, .slice a1 n1 k1, .slice a2 n2 k2, .slice a3 n3 k3] 27)) (c0 := .int .i64 p) (c1 := .int .i64 er) (T := 43) (Below.refl _ _)
    have hsz2 : (w1.alloc (Obj.cells #[.bool l, .slice a1 n1 k1, .slice a2 n2 k2, .slice a3 n3 k3] 27)).heap.size = w1.heap.size + 1 := by simp
    rw [hsz2] at hz
    have Hnb := Lib.hid ((hnb.alloc (Obj.cells #[.bool l, .slice a1 n1 k1, .slice a2 n2 k2, .slice a3 n3 k3] 27)).alloc (Obj.cells #[.int .i64 p, .int .i64 er] 43))
    have Hbel4 := Lib.hid ((Hbel.out.alloc (by omega) (Obj.cells #[.bool l, .slice a1 n1 k1, .slice a2 n2 k2, .slice a3 n3 k3] 27)).alloc (by rw [hsz2]; omega) (Obj.cells #[.int .i64 p, .int .i64 er] 43))
    have hz := Lib.hid hz
    clear hbel HI her hsz2 hnb
    go_upto_region 5 with fail
    clear x0 x1 x2 x3 f0 f1 f2 f3
    obtain ⟨w4, hw4⟩ : ∃ w4, w4 = (w1.alloc (Obj.cells #[.bool l, .slice a1 n1 k1, .slice a2 n2 k2, .slice a3 n3 k3] 27)).alloc (Obj.cells #[.int .i64 p, .int .i64 er] 43) := ⟨_, rfl⟩
    rw [← hw4] at hz Hnb Hbel4 ⊢
    obtain ⟨z0, z1, -, -⟩ := hz.out
    obtain ⟨x0, x1, x2, x3, ⟨f0, f1, f2, f3⟩, hW4⟩ := Hnb.out.facts
    clear hw4 hz
    go_cut [3, 4] (fun s3 s4 wx => s3 = .int .i64 p ∧ s4 = .int .i64 er ∧ NodeAt wx W.heap.size (.bool false) (.slice none 0 0) (.slice none 0 0) (.slice none 0 0) ∧ Below W.heap.size W wx)
    case first =>
      go_region
      all_goals
        go_wp2_with fail
        go_meet
        case rel =>
          refine ⟨rfl, rfl, ?_, ?_⟩
          · with_reducible exact (Hnb.out.all _ _ _ _).drew
          · with_reducible exact (below_all Hbel4.out (Nat.le_refl _) _ _ _ _).drew
    case rest =>
      obtain ⟨rfl, rfl, hnb, hbel⟩ := hcut
      clear x0 x1 x2 x3 f0 f1 f2 f3
      obtain ⟨x0, x1, x2, x3, -⟩ := hnb.facts
      have Hbel5 := Lib.hid hbel
      clear hbel hnb Hnb Hbel4 Hbel
      go_wp2_with fail
      refine bodyPost_ret (v := .tuple #[.agg #[.bool false, .slice none 0 0, .slice none 0 0, .slice none 0 0], .int .i64 p, .int .i64 er]) (by simp [results, Tryz.results7, go_sem, x0, x1, x2, x3]) rfl ?_
      rw [HRb.out]
      exact ⟨rfl, by have := Her.out; simpa using this, Hbel5.out⟩
  | ok n e =>
    have hpos := rdN_pos _ s 0 n e (by omega) hrd
    rw [hrd] at HI
    by_cases hlt : e < s.length
    · have HRb : Hid (R = .bad e 11) := by show R = _; rw [HR.out, hrd]; exact if_pos hlt
      have hlti : (e : Int) < s.length := by omega
      have HWr := fun W => Lib.hid (wrong_c (e : Int) W)
      clear hrd HR
      go_enter Tryz.func7, Tryz.ntmps7
      go_wp2_with fail
      refine HI.out.mono ?_
      rintro e' w1 ⟨cs, rfl, hnode, hbel⟩
      obtain ⟨l, a1, n1, k1, a2, n2, k2, a3, n3, k3, rfl⟩ := hnode.form
      have hW := hbel.size
      have Hbel := Lib.hid (below_unbox (below_box hbel))
      have hnb := (NodeAt.fresh W (.bool false) (.slice none 0 0) (.slice none 0 0) (.slice none 0 0)).keep (below_box hbel)
      have Hnb := Lib.hid ((hnb.alloc (Obj.cells #[.bool l, .slice a1 n1 k1, .slice a2 n2 k2, .slice a3 n3 k3] 27)).alloc (Obj.cells #[.int .i64 0, .int .i64 0] 43))
      obtain ⟨x0, x1, x2, x3, ⟨f0, f1, f2, f3⟩, hW1⟩ := hnb.facts
      clear hbel HI hnode hnb
      go_wp2_with fail
      refine (HWr _).out.mono ?_
      rintro e' w2 ⟨rfl, hbel2⟩
      clear x0 x1 x2 x3 f0 f1 f2 f3 HWr
      have hsz2 : (w1.alloc (Obj.cells #[.bool l, .slice a1 n1 k1, .slice a2 n2 k2, .slice a3 n3 k3] 27)).heap.size = w1.heap.size + 1 := by simp
      have hsz3 : ((w1.alloc (Obj.cells #[.bool l, .slice a1 n1 k1, .slice a2 n2 k2, .slice a3 n3 k3] 27)).alloc (Obj.cells #[.int .i64 0, .int .i64 0] 43)).heap.size = w1.heap.size + 2 := by simp
      rw [hsz3] at hbel2
      have hp : PairAt w2 (w1.heap.size + 1) (.int .i64 0) (.int .i64 0) := by
        unfold PairAt
        rw [hbel2.block _ (by omega), ← hsz2]
        exact heap_alloc_new _ _
      have hn2 := Hnb.out.keep (hbel2.mono (by omega))
      have Hbel3 := Lib.hid (((Hbel.out.alloc (by omega) (Obj.cells #[.bool l, .slice a1 n1 k1, .slice a2 n2 k2, .slice a3 n3 k3] 27)).alloc (by rw [hsz2]; omega) (Obj.cells #[.int .i64 0, .int .i64 0] 43)).trans (hbel2.mono (by omega)))
      have hs2 := hbel2.size
      rw [hsz3] at hs2
      obtain ⟨y0, y1, g0, g1, -⟩ := hp.facts
      have Hp := Lib.hid (hp.both (.int .i64 e) (.int .i64 11))
      have Hn := Lib.hid (NodeAt.set (b := w1.heap.size + 1) (o := 1) (u := .int .i64 11) (NodeAt.set (b := w1.heap.size + 1) (o := 0) (u := .int .i64 e) hn2 (by omega)) (by omega))
      clear hbel2 hsz2 hsz3 hp hn2 Hnb Hbel
      go_upto_region 5 with fail
      clear y0 y1 g0 g1
      obtain ⟨w4, hw4⟩ : ∃ w4, w4 = (w2.setCell ⟨w1.heap.size + 1, 0, none⟩ (.int .i64 e)).setCell ⟨w1.heap.size + 1, 1, none⟩ (.int .i64 11) := ⟨_, rfl⟩
      have Hbel4 := Lib.hid (below_both (N := w1.heap.size + 1) Hbel3.out (by omega) (.int .i64 e) (.int .i64 11))
      rw [← hw4] at Hp Hn Hbel4 ⊢
      obtain ⟨y0, y1, g0, g1, -⟩ := Hp.out.facts
      obtain ⟨x0, x1, x2, x3, ⟨f0, f1, f2, f3⟩, hW4⟩ := Hn.out.facts
      clear hw4
      go_cut [3, 4] (fun s3 s4 wx => s3 = .int .i64 e ∧ s4 = .int .i64 11 ∧ NodeAt wx W.heap.size (.bool false) (.slice none 0 0) (.slice none 0 0) (.slice none 0 0) ∧ Below W.heap.size W wx)
      case first =>
        go_region
        all_goals
          go_wp2_with fail
          go_meet
          case rel =>
            refine ⟨rfl, rfl, ?_, ?_⟩
            · with_reducible exact (Hn.out.all _ _ _ _).drew
            · with_reducible exact (below_all Hbel4.out (Nat.le_refl _) _ _ _ _).drew
      case rest =>
        obtain ⟨rfl, rfl, hnb, hbel⟩ := hcut
        clear x0 x1 x2 x3 f0 f1 f2 f3 y0 y1 g0 g1
        obtain ⟨x0, x1, x2, x3, -⟩ := hnb.facts
        have Hbel5 := Lib.hid hbel
        clear hbel hnb Hn Hp Hbel4 Hbel3
        go_wp2_with fail
        refine bodyPost_ret (v := .tuple #[.agg #[.bool false, .slice none 0 0, .slice none 0 0, .slice none 0 0], .int .i64 e, .int .i64 11]) (by simp [results, Tryz.results7, go_sem, x0, x1, x2, x3]) rfl ?_
        rw [HRb.out]
        exact ⟨rfl, by decide, Hbel5.out⟩
    · have HRb : Hid (R = .ok n e) := by show R = _; rw [HR.out, hrd]; exact if_neg hlt
      have hlti : decide ((e : Int) < s.length) = false := by simp; omega
      clear hrd HR
      go_enter Tryz.func7, Tryz.ntmps7
      go_wp2_with fail
      refine HI.out.mono ?_
      rintro e' w1 ⟨cs, rfl, hnode, hbel⟩
      obtain ⟨l, a1, n1, k1, a2, n2, k2, a3, n3, k3, rfl⟩ := hnode.form
      have hW := hbel.size
      have Hbel := Lib.hid (below_unbox (below_box hbel))
      have hnb := (NodeAt.fresh W (.bool false) (.slice none 0 0) (.slice none 0 0) (.slice none 0 0)).keep (below_box hbel)
      obtain ⟨x0, x1, x2, x3, ⟨f0, f1, f2, f3⟩, hW1⟩ := hnb.facts
      have Hnode := Lib.hid hnode
      clear hbel HI hnode hnb
      go_wp2_with fail
      refine bodyPost_ret (v := .tuple #[.agg #[.bool l, .slice a1 n1 k1, .slice a2 n2 k2, .slice a3 n3 k3], .int .i64 0, .int .i64 0]) (by simp [results, Tryz.results7, go_sem, x0, x1, x2, x3, hW1]) rfl ?_
      rw [HRb.out]
      have hne : ¬ ((W.alloc (Obj.cells #[.bool false, .slice none 0 0, .slice none 0 0, .slice none 0 0] 27)).heap.size ≤ W.heap.size) := by simp
      have hs4 := (below_all Hbel.out (Nat.le_refl W.heap.size) (.bool l) (.slice a1 n1 k1) (.slice a2 n2 k2) (.slice a3 n3 k3))
      have hq := nodeq_set (N := W.heap.size) (o := 3) (u := .slice a3 n3 k3) (nodeq_set (N := W.heap.size) (o := 2) (u := .slice a2 n2 k2) (nodeq_set (N := W.heap.size) (o := 1) (u := .slice a1 n1 k1) (nodeq_set (N := W.heap.size) (o := 0) (u := .bool l) Hnode.out hne) hne) hne) hne
      obtain ⟨w5, hw5⟩ : ∃ w5, w5 = (((w1.setCell ⟨W.heap.size, 0, none⟩ (.bool l)).setCell ⟨W.heap.size, 1, none⟩ (.slice a1 n1 k1)).setCell ⟨W.heap.size, 2, none⟩ (.slice a2 n2 k2)).setCell ⟨W.heap.size, 3, none⟩ (.slice a3 n3 k3) := ⟨_, rfl⟩
      rw [← hw5] at hs4 hq ⊢
      refine ⟨_, rfl, ?_, ?_⟩
      · have hb5 : Below w5.heap.size w5 ((w5.alloc (Obj.cells #[.bool l, .slice a1 n1 k1, .slice a2 n2 k2, .slice a3 n3 k3] 27)).alloc (Obj.cells #[.int .i64 0, .int .i64 0] 43)) := ((Below.refl _ _).alloc (Nat.le_refl _) _).alloc (by simp) _
        exact NodeQ.keep hb5.size (fun b _ hlt => hb5.block b hlt) (fun b hb _ => by simp at hb; omega) _ _ hq
      · have := hs4.size
        exact (hs4.alloc (by omega) _).alloc (by simp; omega) _

end Go.Proofs.YtmhgbocejjnoaaaGreatDoor
/- Walks: the reference reader's small methods: fail, next, take, letter. -/
namespace Go.Proofs.YtmhgbocejjnoaaaGreatDoor
open Go.RowKit Go.Redl
set_option linter.unusedVariables false

/-- The reader's box: its text, where it is, its error, that one's place. -/
def RdrAt (w : World) (N : Nat) (S : ByteArray) (a e p : Int) : Prop := w.heap[N]? = some (.cells #[.string S, .int .i64 a, .int .i64 e, .int .i64 p] 49 (0, 0))
theorem RdrAt.facts {w : World} {N : Nat} {S : ByteArray} {a e p : Int} (h : RdrAt w N S a e p) :
    w.cell? ⟨N, 0, none⟩ = some (.string S) ∧ w.cell? ⟨N, 1, none⟩ = some (.int .i64 a) ∧ w.cell? ⟨N, 2, none⟩ = some (.int .i64 e) ∧ w.cell? ⟨N, 3, none⟩ = some (.int .i64 p) ∧
      (w.frozen? ⟨N, 1, none⟩ = false ∧ w.frozen? ⟨N, 2, none⟩ = false ∧ w.frozen? ⟨N, 3, none⟩ = false) ∧ N < w.heap.size := by
  refine ⟨?_, ?_, ?_, ?_, ⟨?_, ?_, ?_⟩, (Array.getElem?_eq_some_iff.1 h).1⟩
  all_goals first
    | exact Lib.frozen_of_heap h _
    | (rw [Lib.cell_of_heap h]; rfl)
theorem RdrAt.setA {w : World} {N : Nat} {S : ByteArray} {a e p : Int} (h : RdrAt w N S a e p) (b : Int) : RdrAt (w.setCell ⟨N, 1, none⟩ (.int .i64 b)) N S b e p := Lib.heap_setCell_same (i := 1) h _
theorem RdrAt.setE {w : World} {N : Nat} {S : ByteArray} {a e p : Int} (h : RdrAt w N S a e p) (b : Int) : RdrAt (w.setCell ⟨N, 2, none⟩ (.int .i64 b)) N S a b p := Lib.heap_setCell_same (i := 2) h _
theorem RdrAt.setP {w : World} {N : Nat} {S : ByteArray} {a e p : Int} (h : RdrAt w N S a e p) (b : Int) : RdrAt (w.setCell ⟨N, 3, none⟩ (.int .i64 b)) N S a e b := Lib.heap_setCell_same (i := 3) h _
theorem RdrAt.drew {w : World} {N : Nat} {S : ByteArray} {a e p : Int} (h : RdrAt w N S a e p) (q : Nat) : RdrAt (w.drewN q) N S a e p := h
theorem RdrAt.below {w w' : World} {N : Nat} {S : ByteArray} {a e p : Int} (h : RdrAt w N S a e p) (hb : Below w.heap.size w w') : RdrAt w' N S a e p := by
  unfold RdrAt; rw [hb.block N (Array.getElem?_eq_some_iff.1 h).1]; exact h
theorem RdrAt.other {w w' : World} {N : Nat} {S : ByteArray} {a e p : Int} (h : RdrAt w N S a e p) {r : Option Nat} (hb : w.grownBy w' r) (hr : r ≠ some N) : RdrAt w' N S a e p := by
  unfold RdrAt; rw [hb.block N (Array.getElem?_eq_some_iff.1 h).1 (fun e => hr e.symm)]; exact h

/-- Nothing that was there is written but block N. -/
def Only (N : Nat) (w w' : World) : Prop := w.grownBy w' (some N)
theorem Only.refl (N : Nat) (w : World) : Only N w w := World.grownBy.refl w _
theorem Only.trans {N : Nat} {a b c : World} (h : Only N a b) (k : Only N b c) : Only N a c := grownBy_trans h k
theorem Only.below {N : Nat} {w w' : World} (h : Below w.heap.size w w') : Only N w w' := ⟨h.os, h.tape, h.output, h.size, fun i hi _ => h.block i hi⟩
theorem Only.set {N o : Nat} {a b : World} (h : Only N a b) (u : Value) : Only N a (b.setCell ⟨N, o, none⟩ u) := by
  refine grownBy_trans h ⟨rfl, rfl, rfl, by simp [World.setCell], fun i hi hne => Below.heap_setCell b ⟨N, o, none⟩ u i (fun e => hne (by rw [e]))⟩
theorem Only.drewN {N : Nat} {a b : World} (h : Only N a b) (q : Nat) : Only N a (b.drewN q) := h.trans (Only.below (below_drewN (Below.refl _ _) q))
theorem Only.then {N : Nat} {a b c : World} (h : Only N a b) (k : Below b.heap.size b c) : Only N a c := h.trans (Only.below k)
theorem Only.size {N : Nat} {w w' : World} (h : Only N w w') : w.heap.size ≤ w'.heap.size := World.grownBy.size h
theorem Only.to {N B : Nat} {w w' : World} (h : Only N w w') (hB : B ≤ N) (hw : B ≤ w.heap.size) : Below B w w' := ⟨h.os, h.tape, h.output, World.grownBy.size h, fun i hi => World.grownBy.block h i (by omega) (by simp; omega)⟩

/-- The byte that stands at a place; 0: the text ends. -/
def nextB (s : List UInt8) (a : Nat) : UInt8 := s.getD a 0
theorem next_in {s : List UInt8} {a : Nat} (h : a < s.length) : nextB s a = s[a] := by unfold nextB; exact getD_of_lt h
theorem next_out {s : List UInt8} {a : Nat} (h : s.length ≤ a) : nextB s a = 0 := by unfold nextB; simp [List.getD, List.getElem?_eq_none h]

set_option maxRecDepth 100000 in
set_option maxHeartbeats 400000 in
theorem fail_yes (N : Nat) (S : ByteArray) (a p0 er pl : Int) (W : World) (hR : RdrAt W N S a 0 p0) :
    Calls Tryz.prog 19 #[.pointer (some ⟨N, 0, none⟩), .int .i64 er, .int .i64 pl] W fun e w' => e = .returned (.tuple #[]) ∧ Only N W w' ∧ RdrAt w' N S a er pl := by
  have Hr := Lib.hid ((hR.setE er).setP pl)
  have Ho := Lib.hid (((Only.refl N W).set (o := 2) (.int .i64 er)).set (o := 3) (.int .i64 pl))
  obtain ⟨x0, x1, x2, x3, ⟨f1, f2, f3⟩, hN⟩ := hR.facts
  clear hR
  go_enter Tryz.func19, Tryz.ntmps19
  go_wp2_with fail
  go_end0
  exact ⟨rfl, Ho.out, Hr.out⟩
set_option maxRecDepth 100000 in
set_option maxHeartbeats 400000 in
theorem fail_no (N : Nat) (S : ByteArray) (a e0 p0 er pl : Int) (W : World) (hR : RdrAt W N S a e0 p0) (he : e0 ≠ 0) :
    Calls Tryz.prog 19 #[.pointer (some ⟨N, 0, none⟩), .int .i64 er, .int .i64 pl] W fun e w' => e = .returned (.tuple #[]) ∧ W = w' := by
  obtain ⟨x0, x1, x2, x3, ⟨f1, f2, f3⟩, hN⟩ := hR.facts
  have he : (e0 == 0) = false := by simpa using he
  clear hR
  go_enter Tryz.func19, Tryz.ntmps19
  go_wp2_with fail
  go_end0
  exact ⟨rfl, rfl⟩

theorem byte_at (s : List UInt8) (a : Nat) (x : UInt8) (hx : s[a]? = some x) : ∀ h, (⟨s.toArray⟩ : ByteArray)[a]'h = x := by
  intro h
  exact Option.some.inj ((List.getElem?_eq_getElem (l := s) h).symm.trans hx)
set_option maxRecDepth 100000 in
set_option maxHeartbeats 1000000 in
theorem next_c (N a : Nat) (s : List UInt8) (e p : Int) (W : World) (hR : RdrAt W N ⟨s.toArray⟩ a e p) (hn : s.length ≤ 1000000) (ha : a ≤ s.length) :
    Calls Tryz.prog 35 #[.pointer (some ⟨N, 0, none⟩)] W fun e' w' => e' = .returned (.int .u8 (nextB s a).toNat) ∧ Drawn W w' := by
  obtain ⟨x0, x1, x2, x3, -, hN⟩ := hR.facts
  clear hR
  have hsz : (⟨s.toArray⟩ : ByteArray).size = s.length := rfl
  by_cases hlt : a < s.length
  · have hg := byte_at s a _ (List.getElem?_eq_getElem hlt)
    have Hnx := Lib.hid (next_in hlt)
    generalize s[a] = c at hg Hnx
    generalize (⟨s.toArray⟩ : ByteArray) = S at x0 hsz hg
    have hlti : (a : Int) < s.length := by omega
    go_enter Tryz.func35, Tryz.ntmps35
    go_wp2_with fail
    go_quiet (fail)
    go_wp2_with fail
    go_quiet (fail)
    go_wp2_with fail
    go_ret
    exact ⟨ret_int (by rw [Hnx.out]), drawn_two _ _ _⟩
  · have Hnx := Lib.hid (next_out (Nat.le_of_not_lt hlt))
    generalize (⟨s.toArray⟩ : ByteArray) = S at x0 hsz
    go_enter Tryz.func35, Tryz.ntmps35
    go_wp2_with fail
    go_quiet (fail)
    go_wp2_with fail
    go_ret
    exact ⟨ret_int (by rw [Hnx.out]; rfl), drawn_one _ _⟩

set_option maxRecDepth 100000 in
set_option maxHeartbeats 1000000 in
theorem take_yes (N a : Nat) (s : List UInt8) (c : UInt8) (n : Int) (hc : (c.toNat : Int) = n) (e p : Int) (W : World) (hR : RdrAt W N ⟨s.toArray⟩ a e p) (hn : s.length ≤ 1000000) (hs : standsB s a c = true) :
    Calls Tryz.prog 38 #[.pointer (some ⟨N, 0, none⟩), .int .u8 n] W fun e' w' => e' = .returned (.tuple #[]) ∧ Only N W w' ∧ RdrAt w' N ⟨s.toArray⟩ ((a + 1 : Nat) : Int) e p := by
  have ha := stands_lt hs
  subst hc
  have Hr := fun q => Lib.hid ((hR.drew q).setA ((a + 1 : Nat) : Int))
  have Ho := fun q => Lib.hid (((Only.refl N W).drewN q).set (o := 1) (.int .i64 ((a + 1 : Nat) : Int)))
  obtain ⟨x0, x1, x2, x3, ⟨f1, f2, f3⟩, hN⟩ := hR.facts
  clear hR
  have hsz : (⟨s.toArray⟩ : ByteArray).size = s.length := rfl
  have hg := byte_at s a c (by simpa [standsB] using hs)
  have hne : ((a : Int) == (s.length : Int)) = false := by simp; omega
  clear hs
  have hlti : (a : Int) < s.length := by omega
  generalize (⟨s.toArray⟩ : ByteArray) = S at x0 hsz hg Hr ⊢
  go_enter Tryz.func38, Tryz.ntmps38
  go_wp2_with fail
  go_quiet (fail)
  go_wp2_with fail
  go_end0
  exact ⟨rfl, (Ho _).out, (Hr _).out⟩

theorem stands_ne {s : List UInt8} {a : Nat} {c : UInt8} (hs : standsB s a c = false) (ha : a < s.length) : ∃ x, s[a]? = some x ∧ x ≠ c := by
  refine ⟨s[a], List.getElem?_eq_getElem ha, fun e => ?_⟩
  unfold standsB at hs
  rw [List.getElem?_eq_getElem ha, e] at hs
  simp at hs
theorem u8_ne {x c : UInt8} (h : x ≠ c) : (((x.toNat : Nat) : Int) != ((c.toNat : Nat) : Int)) = true := by
  simp only [bne_iff_ne, ne_eq]
  intro e
  exact h (UInt8.toNat_inj.1 (by omega))
set_option maxRecDepth 100000 in
set_option maxHeartbeats 1000000 in
theorem take_fail (N a : Nat) (s : List UInt8) (c : UInt8) (n : Int) (hc : (c.toNat : Int) = n) (p : Int) (W : World) (hR : RdrAt W N ⟨s.toArray⟩ a 0 p) (hn : s.length ≤ 1000000) (ha : a ≤ s.length) (hs : standsB s a c = false) :
    Calls Tryz.prog 38 #[.pointer (some ⟨N, 0, none⟩), .int .u8 n] W fun e' w' => e' = .returned (.tuple #[]) ∧ Only N W w' ∧ RdrAt w' N ⟨s.toArray⟩ a 11 a := by
  subst hc
  have HF := fun q => Lib.hid (fail_yes N _ a p 11 a _ (hR.drew q))
  obtain ⟨x0, x1, x2, x3, ⟨f1, f2, f3⟩, hN⟩ := hR.facts
  clear hR
  have hsz : (⟨s.toArray⟩ : ByteArray).size = s.length := rfl
  rcases Nat.lt_or_ge a s.length with hlt | hge
  · obtain ⟨x, hx, hxc⟩ := stands_ne hs hlt
    have hg := byte_at s a x hx
    have hne := u8_ne hxc
    have hne0 : ((a : Int) == (s.length : Int)) = false := by simp; omega
    have hlti : (a : Int) < s.length := by omega
    clear hs hx hxc
    generalize (⟨s.toArray⟩ : ByteArray) = S at x0 hsz hg HF ⊢
    go_enter Tryz.func38, Tryz.ntmps38
    go_wp2_with fail
    go_quiet (fail)
    go_wp2_with fail
    refine (HF _).out.mono ?_
    rintro e w1 ⟨rfl, ho, hr⟩
    have Ho := Lib.hid (((Only.refl N W).drewN _).trans ho); have Hr := Lib.hid hr
    clear ho hr HF x0 x1 x2 x3
    go_wp2_with fail
    refine bodyPost_ret (results_none rfl _ _ _) rfl ?_
    exact ⟨rfl, Ho.out, Hr.out⟩
  · have hae : a = s.length := by omega
    have hne0 : ((a : Int) == (s.length : Int)) = true := by simp; omega
    clear hs hae
    generalize (⟨s.toArray⟩ : ByteArray) = S at x0 hsz HF ⊢
    go_enter Tryz.func38, Tryz.ntmps38
    go_wp2_with fail
    go_quiet (fail)
    go_wp2_with fail
    refine (HF _).out.mono ?_
    rintro e w1 ⟨rfl, ho, hr⟩
    have Ho := Lib.hid (((Only.refl N W).drewN _).trans ho); have Hr := Lib.hid hr
    clear ho hr HF x0 x1 x2 x3
    go_wp2_with fail
    refine bodyPost_ret (results_none rfl _ _ _) rfl ?_
    exact ⟨rfl, Ho.out, Hr.out⟩
/-- Behind an error: it may go on, the error stays. -/
theorem take_on (N a : Nat) (s : List UInt8) (c : UInt8) (n : Int) (hc : (c.toNat : Int) = n) (e0 p : Int) (he : e0 ≠ 0) (W : World) (hR : RdrAt W N ⟨s.toArray⟩ a e0 p) (hn : s.length ≤ 1000000) (ha : a ≤ s.length) :
    Calls Tryz.prog 38 #[.pointer (some ⟨N, 0, none⟩), .int .u8 n] W fun e' w' => e' = .returned (.tuple #[]) ∧ Only N W w' ∧ ∃ a' : Nat, a' ≤ s.length ∧ RdrAt w' N ⟨s.toArray⟩ a' e0 p := by
  cases hs : standsB s a c with
  | true => exact (take_yes N a s c n hc e0 p W hR hn hs).mono fun e w1 h => ⟨h.1, h.2.1, a + 1, stands_lt hs, h.2.2⟩
  | false =>
    subst hc
    have HF := fun q => Lib.hid (fail_no N _ a e0 p 11 a _ (hR.drew q) he)
    have Hr := fun q => Lib.hid (hR.drew q)
    obtain ⟨x0, x1, x2, x3, ⟨f1, f2, f3⟩, hN⟩ := hR.facts
    clear hR he
    have hsz : (⟨s.toArray⟩ : ByteArray).size = s.length := rfl
    rcases Nat.lt_or_ge a s.length with hlt | hge
    · obtain ⟨x, hx, hxc⟩ := stands_ne hs hlt
      have hg := byte_at s a x hx
      have hne := u8_ne hxc
      have hne0 : ((a : Int) == (s.length : Int)) = false := by simp; omega
      have hlti : (a : Int) < s.length := by omega
      clear hs hx hxc
      generalize (⟨s.toArray⟩ : ByteArray) = S at x0 hsz hg HF Hr ⊢
      go_enter Tryz.func38, Tryz.ntmps38
      go_wp2_with fail
      go_quiet (fail)
      go_wp2_with fail
      refine (HF _).out.mono ?_
      rintro e w1 ⟨rfl, rfl⟩
      clear HF
      go_wp2_with fail
      refine bodyPost_ret (results_none rfl _ _ _) rfl ?_
      exact ⟨rfl, (Only.refl N W).drewN _, a, ha, (Hr _).out⟩
    · have hae : a = s.length := by omega
      have hne0 : ((a : Int) == (s.length : Int)) = true := by simp; omega
      clear hs hae
      generalize (⟨s.toArray⟩ : ByteArray) = S at x0 hsz HF Hr ⊢
      go_enter Tryz.func38, Tryz.ntmps38
      go_wp2_with fail
      go_quiet (fail)
      go_wp2_with fail
      refine (HF _).out.mono ?_
      rintro e w1 ⟨rfl, rfl⟩
      clear HF
      go_wp2_with fail
      refine bodyPost_ret (results_none rfl _ _ _) rfl ?_
      exact ⟨rfl, (Only.refl N W).drewN _, a, ha, (Hr _).out⟩

set_option maxRecDepth 100000 in
set_option maxHeartbeats 400000 in
theorem letter_c (c : UInt8) (W : World) : Calls Tryz.prog 53 #[.int .u8 c.toNat] W fun e' w' => e' = .returned (.bool (lowB c)) ∧ W = w' := by
  have Hl : Hid (lowB c = decide (97 ≤ c.toNat ∧ c.toNat ≤ 122)) := rfl
  generalize lowB c = b at Hl ⊢
  generalize c.toNat = n at Hl ⊢
  by_cases h1 : 97 ≤ n
  · by_cases h2 : n ≤ 122
    · have Hb : Hid (b = true) := by show b = _; rw [Hl.out]; simp; omega
      have h3 : decide ((n : Int) ≤ 122) = true := by simp; omega
      go_enter Tryz.func53, Tryz.ntmps53
      go_wp2_with fail
      go_ret
      exact ⟨ret_bool (by rw [Hb.out]), rfl⟩
    · have Hb : Hid (b = false) := by show b = _; rw [Hl.out]; simp; omega
      have h3 : decide ((n : Int) ≤ 122) = false := by simp; omega
      go_enter Tryz.func53, Tryz.ntmps53
      go_wp2_with fail
      go_ret
      exact ⟨ret_bool (by rw [Hb.out]), rfl⟩
  · have Hb : Hid (b = false) := by show b = _; rw [Hl.out]; simp; omega
    have h3 : decide ((97 : Int) ≤ n) = false := by simp; omega
    go_enter Tryz.func53, Tryz.ntmps53
    go_wp2_with fail
    go_ret
    exact ⟨ret_bool (by rw [Hb.out]), rfl⟩

end Go.Proofs.YtmhgbocejjnoaaaGreatDoor
