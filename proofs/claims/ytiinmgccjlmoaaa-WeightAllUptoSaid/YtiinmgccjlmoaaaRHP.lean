/- Walks: the reference's Same at operations that are the same. -/
import Derived.Test.YtiinmgccjlmoaaaRHN
import Derived.Test.YtiinmgccjlmoaaaRHD
import Derived.Test.YtiinmgccjlmoaaaRSE
namespace Go.Proofs.Ytiinmgccjlmoaaa
open Go.RowKit Go.Redl
set_option linter.unusedVariables false

set_option maxHeartbeats 400000 in
theorem rpath_c (a a' : Option Addr) (cap cap' B : Nat) (xs ys : List Int) (w : World) (hr : RowA w B 1 a xs.length cap (xs.map (Value.int .i64))) (hr' : RowA w B 1 a' ys.length cap' (ys.map (Value.int .i64))) :
    Calls Try.prog 21 #[.slice a xs.length cap, .slice a' ys.length cap'] w fun e w' => e = .returned (.bool (decide (xs = ys))) ∧ Drawn w w' := by
  have hm : xs.length ≤ 9223372036854775807 := by have h1 := hr.le; have h2 := hr.max; unfold maxLen at h2; omega
  have hm' : ys.length ≤ 9223372036854775807 := by have h1 := hr'.le; have h2 := hr'.max; unfold maxLen at h2; omega
  by_cases hl : xs.length = ys.length
  · go_enter Try.func21, Try.ntmps21
    have hle : ys.length ≤ xs.length := by omega
    have hle' : xs.length ≤ ys.length := by omega
    have hne : (((xs.length : Nat) : Int) != (ys.length : Int)) = false := by simp [hl]
    have Hl := Lib.hid hl; clear hl
    go_wp2_with fail
    go_loopw [13] (fun i wr => ∃ k : Nat, k ≤ xs.length ∧ i = .int .i64 k ∧ SameTo xs ys k ∧ Drawn w wr) (fun i _ => xs.length - (intOf i).toNat)
    case atStart => exact ⟨0, Nat.zero_le _, rfl, sameTo_zero _ _, ⟨0, rfl⟩⟩
    case round =>
      obtain ⟨k, hk, rfl, hp, q, rfl⟩ := hrel
      have Hp := Lib.hid hp; clear hp
      by_cases hlt : k < xs.length
      · obtain ⟨b, off, rfl, hb, hcell⟩ := hr.int_at k hlt
        obtain ⟨b', off', rfl, hb', hcell'⟩ := hr'.int_at k (by omega)
        have hcell := hcell k hlt
        have hcell' := hcell' k (by omega)
        have hlt' : k < ys.length := by omega
        rw [getD_of_lt hlt] at hcell
        rw [getD_of_lt hlt'] at hcell'
        go_wp2_with fail
        by_cases he : xs[k] = ys[k]
        · have hne : (xs[k] != ys[k]) = false := by simp [he]
          have He := Lib.hid he; clear he
          go_quiet (fail)
          go_wp2_with fail
          go_roundw
          case rel => exact ⟨k + 1, by omega, by go_num, sameTo_succ Hp.out hlt hlt' He.out, by first | exact drawn_one _ _ | exact drawn_two _ _ _⟩
          case measure => simp [intOf]; omega
        · have hne : (xs[k] != ys[k]) = true := by simp [he]
          have He := Lib.hid he; clear he
          go_quiet (fail)
          go_wp2_with fail
          go_ret
          exact ⟨ret_bool (by simp [same_not hlt hlt' He.out]), drawn_two _ _ _⟩
      · go_wp2_with fail
        go_ret
        obtain rfl : k = xs.length := by omega
        exact ⟨ret_bool (by simp [sameTo_all Hp.out Hl.out]), drawn_one _ _⟩
  · have hne : (((xs.length : Nat) : Int) != (ys.length : Int)) = true := by simp; omega
    have Hl := Lib.hid hl; clear hl
    go_enter Try.func21, Try.ntmps21
    go_wp2_with fail
    go_ret
    exact ⟨ret_bool (by simp [show xs ≠ ys from fun h => Hl.out (by rw [h])]), drawn_zero _⟩


theorem At.f21 {w : World} {N : Nat} {c0 c1 c2 c3 c4 c5 c6 c7 c8 c9 c10 c11 c12 c13 c14 c15 c16 c17 c18 c19 c20 : Value} {T : TypeId} (h : At w N [c0, c1, c2, c3, c4, c5, c6, c7, c8, c9, c10, c11, c12, c13, c14, c15, c16, c17, c18, c19, c20] T) : (w.cell? ⟨N, 0, none⟩ = some c0 ∧ w.cell? ⟨N, 1, none⟩ = some c1 ∧ w.cell? ⟨N, 2, none⟩ = some c2 ∧ w.cell? ⟨N, 3, none⟩ = some c3 ∧ w.cell? ⟨N, 4, none⟩ = some c4 ∧ w.cell? ⟨N, 5, none⟩ = some c5 ∧ w.cell? ⟨N, 6, none⟩ = some c6 ∧ w.cell? ⟨N, 7, none⟩ = some c7 ∧ w.cell? ⟨N, 8, none⟩ = some c8 ∧ w.cell? ⟨N, 9, none⟩ = some c9 ∧ w.cell? ⟨N, 10, none⟩ = some c10 ∧ w.cell? ⟨N, 11, none⟩ = some c11 ∧ w.cell? ⟨N, 12, none⟩ = some c12 ∧ w.cell? ⟨N, 13, none⟩ = some c13 ∧ w.cell? ⟨N, 14, none⟩ = some c14 ∧ w.cell? ⟨N, 15, none⟩ = some c15 ∧ w.cell? ⟨N, 16, none⟩ = some c16 ∧ w.cell? ⟨N, 17, none⟩ = some c17 ∧ w.cell? ⟨N, 18, none⟩ = some c18 ∧ w.cell? ⟨N, 19, none⟩ = some c19 ∧ w.cell? ⟨N, 20, none⟩ = some c20) ∧ (∀ j, w.frozen? ⟨N, j, none⟩ = false) ∧ N < w.heap.size :=
  ⟨⟨h.cell 0 rfl, h.cell 1 rfl, h.cell 2 rfl, h.cell 3 rfl, h.cell 4 rfl, h.cell 5 rfl, h.cell 6 rfl, h.cell 7 rfl, h.cell 8 rfl, h.cell 9 rfl, h.cell 10 rfl, h.cell 11 rfl, h.cell 12 rfl, h.cell 13 rfl, h.cell 14 rfl, h.cell 15 rfl, h.cell 16 rfl, h.cell 17 rfl, h.cell 18 rfl, h.cell 19 rfl, h.cell 20 rfl⟩, fun j => Lib.frozen_of_heap h _, h.lt⟩


/-- Yes. -/
abbrev YesP (W : World) (e : Ending) (w' : World) : Prop := e = .returned (.bool true) ∧ Below W.heap.size W w'
theorem rpath_yes (p : List Int) (a a' : Option Addr) (c c' : Nat) (w : World) (h : RowA w w.heap.size 1 a p.length c (p.map (Value.int .i64))) (h' : RowA w w.heap.size 1 a' p.length c' (p.map (Value.int .i64))) :
    Calls Try.prog 21 #[.slice a p.length c, .slice a' p.length c'] w (YesP w) :=
  (rpath_c a a' c c' _ p p w h h').mono fun e w' hh => by obtain ⟨rfl, hd⟩ := hh; exact ⟨ret_bool (by simp), hd.below _⟩
set_option maxRecDepth 100000 in
theorem rpoint_yes (W : World) : Calls Try.prog 94 #[.agg #[.slice none 0 0, .int .i64 0], .agg #[.slice none 0 0, .int .i64 0]] W (YesP W) := by
  have Hb0 := Lib.hid (two_below W (Obj.cells #[.slice none 0 0, .int .i64 0] 56) (Obj.cells #[.slice none 0 0, .int .i64 0] 56))
  have H := Lib.hid (fun (w : World) => rpath_yes [] none none 0 0 w (RowA.empty _ _ _) (RowA.empty _ _ _))
  go_enter Try.func94, Try.ntmps94
  go_wp2_with fail
  refine (H.out _).mono ?_
  rintro e w1 ⟨rfl, hd⟩
  have Hb1 := Lib.hid (Hb0.out.trans (hd.mono Hb0.out.size))
  clear hd
  go_wp2_with fail
  go_ret
  exact ⟨rfl, Hb1.out⟩
set_option maxRecDepth 100000 in
theorem rsel_yes (W : World) : Calls Try.prog 70 #[.agg #[.bool false, .slice none 0 0, .int .i64 0, .slice none 0 0, .int .i64 0], .agg #[.bool false, .slice none 0 0, .int .i64 0, .slice none 0 0, .int .i64 0]] W (YesP W) := by
  have hb0 := two_below W (Obj.cells #[.bool false, .slice none 0 0, .int .i64 0, .slice none 0 0, .int .i64 0] 60) (Obj.cells #[.bool false, .slice none 0 0, .int .i64 0, .slice none 0 0, .int .i64 0] 60)
  have hA := (At.fresh W [.bool false, .slice none 0 0, .int .i64 0, .slice none 0 0, .int .i64 0] 60).alloc (Obj.cells #[.bool false, .slice none 0 0, .int .i64 0, .slice none 0 0, .int .i64 0] 60)
  have hB := At.second W (Obj.cells #[.bool false, .slice none 0 0, .int .i64 0, .slice none 0 0, .int .i64 0] 60) [.bool false, .slice none 0 0, .int .i64 0, .slice none 0 0, .int .i64 0] 60
  have Hb0 := Lib.hid hb0; have HA := Lib.hid hA; have HB := Lib.hid hB
  have H := Lib.hid rpoint_yes
  clear hb0 hA hB
  go_enter Try.func70, Try.ntmps70
  go_wp2_with fail
  refine (H.out _).mono ?_
  rintro e w1 ⟨rfl, hd⟩
  have Hb1 := Lib.hid (Hb0.out.trans (hd.mono Hb0.out.size))
  obtain ⟨⟨x0, x1, x2, x3, x4⟩, -, xl⟩ := (HA.out.kept hd).f5
  obtain ⟨⟨y0, y1, y2, y3, y4⟩, -, yl⟩ := (HB.out.kept hd).f5
  clear hd
  go_wp2_with fail
  refine (H.out _).mono ?_
  rintro e w2 ⟨rfl, hd⟩
  have Hb2 := Lib.hid (Hb1.out.trans (hd.mono Hb1.out.size))
  clear hd x0 x1 x2 x3 x4 xl y0 y1 y2 y3 y4 yl
  go_wp2_with fail
  go_ret
  exact ⟨rfl, Hb2.out⟩
set_option maxRecDepth 100000 in
set_option maxHeartbeats 4000000 in
theorem rsameop_yes (o : OpD) (pa : Option Addr) (pc : Nat) (ta : Option Addr) (tc : Nat) (n0 n1 n2 n3 : Value) (oa : Option Addr) (oc : Nat) (pa' : Option Addr) (pc' : Nat) (ta' : Option Addr) (tc' : Nat) (n0' n1' n2' n3' : Value) (oa' : Option Addr) (oc' : Nat) (W : World)
    (h1 : PathQ W (fun _ => True) pa pc o.path) (h2 : PathQ W (fun _ => True) ta tc o.dest) (h3 : NodeQ W (fun _ => True) o.node [n0, n1, n2, n3]) (h4 : RowQ W (fun _ => True) 2 oa o.old.length oc (propCells o.old))
    (h1' : PathQ W (fun _ => True) pa' pc' o.path) (h2' : PathQ W (fun _ => True) ta' tc' o.dest) (h3' : NodeQ W (fun _ => True) o.node [n0', n1', n2', n3']) (h4' : RowQ W (fun _ => True) 2 oa' o.old.length oc' (propCells o.old)) :
    Calls Try.prog 38 #[.agg (opCells o pa pc ta tc n0 n1 n2 n3 oa oc).toArray, .agg (opCells o pa' pc' ta' tc' n0' n1' n2' n3' oa' oc').toArray] W (YesP W) := by
  show Calls Try.prog 38 #[.agg #[.int .i64 o.kind, .slice pa o.path.length pc, .slice ta o.dest.length tc, .int .i64 o.pos, n0, n1, n2, n3, .slice oa o.old.length oc, .slice none 0 0, .slice none 0 0, .bool false, .slice none 0 0, .int .i64 0, .slice none 0 0, .int .i64 0, .bool false, .slice none 0 0, .int .i64 0, .slice none 0 0, .int .i64 0], .agg #[.int .i64 o.kind, .slice pa' o.path.length pc', .slice ta' o.dest.length tc', .int .i64 o.pos, n0', n1', n2', n3', .slice oa' o.old.length oc', .slice none 0 0, .slice none 0 0, .bool false, .slice none 0 0, .int .i64 0, .slice none 0 0, .int .i64 0, .bool false, .slice none 0 0, .int .i64 0, .slice none 0 0, .int .i64 0]] W (YesP W)
  have HP := Lib.hid (fun (w1 : World) (hb : Below W.heap.size W w1) => rpath_yes o.path pa pa' pc pc' w1 (h1.row.keep hb hb.size) (h1'.row.keep hb hb.size))
  have HT := Lib.hid (fun (w1 : World) (hb : Below W.heap.size W w1) => rpath_yes o.dest ta ta' tc tc' w1 (h2.row.keep hb hb.size) (h2'.row.keep hb hb.size))
  have HN := Lib.hid (fun (w1 : World) (hb : Below W.heap.size W w1) => (show Calls Try.prog 67 #[.agg #[n0, n1, n2, n3], .agg #[n0', n1', n2', n3']] w1 (YesP w1) from (rsame4_c _ o.node o.node _ _ w1 (Nat.le_refl _) ⟨_, rfl, NodeC.keep hb hb.size _ _ (NodeQ.node _ _ h3)⟩ ⟨_, rfl, NodeC.keep hb hb.size _ _ (NodeQ.node _ _ h3')⟩).mono fun e w' hh => ⟨by rw [hh.1, sameN_self], hh.2⟩))
  have HO := Lib.hid (fun (w1 : World) (hb : Below W.heap.size W w1) => (show Calls Try.prog 68 #[.slice oa o.old.length oc, .slice oa' o.old.length oc'] w1 (YesP w1) from (rsamep_c oa oa' oc oc' _ o.old o.old w1 (h4.row.keep hb hb.size) (h4'.row.keep hb hb.size)).mono fun e w' hh => ⟨by rw [hh.1]; simp, hh.2.below _⟩))
  have HE := Lib.hid (fun (w1 : World) (hb : Below W.heap.size W w1) => (show Calls Try.prog 68 #[.slice none 0 0, .slice none 0 0] w1 (YesP w1) from (rsamep_c none none 0 0 w1.heap.size [] [] w1 (RowA.empty _ _ _) (RowA.empty _ _ _)).mono fun e w' hh => ⟨by rw [hh.1]; simp, hh.2.below _⟩))
  have HX := Lib.hid (fun (w1 : World) (hb : Below W.heap.size W w1) => (show Calls Try.prog 69 #[.slice none 0 0, .slice none 0 0] w1 (YesP w1) from (rsame_c _ _ w1.heap.size [] [] w1 ⟨⟨none, 0, rfl, RowA.empty _ _ _⟩, by simp⟩ ⟨⟨none, 0, rfl, RowA.empty _ _ _⟩, by simp⟩).mono fun e w' hh => ⟨by rw [hh.1]; simp, hh.2.below _⟩))
  have HS := Lib.hid (fun (w1 : World) (hb : Below W.heap.size W w1) => rsel_yes w1)
  have hb0 := two_below W (Obj.cells #[.int .i64 o.kind, .slice pa o.path.length pc, .slice ta o.dest.length tc, .int .i64 o.pos, n0, n1, n2, n3, .slice oa o.old.length oc, .slice none 0 0, .slice none 0 0, .bool false, .slice none 0 0, .int .i64 0, .slice none 0 0, .int .i64 0, .bool false, .slice none 0 0, .int .i64 0, .slice none 0 0, .int .i64 0] 62) (Obj.cells #[.int .i64 o.kind, .slice pa' o.path.length pc', .slice ta' o.dest.length tc', .int .i64 o.pos, n0', n1', n2', n3', .slice oa' o.old.length oc', .slice none 0 0, .slice none 0 0, .bool false, .slice none 0 0, .int .i64 0, .slice none 0 0, .int .i64 0, .bool false, .slice none 0 0, .int .i64 0, .slice none 0 0, .int .i64 0] 62)
  have hA := (At.fresh W [.int .i64 o.kind, .slice pa o.path.length pc, .slice ta o.dest.length tc, .int .i64 o.pos, n0, n1, n2, n3, .slice oa o.old.length oc, .slice none 0 0, .slice none 0 0, .bool false, .slice none 0 0, .int .i64 0, .slice none 0 0, .int .i64 0, .bool false, .slice none 0 0, .int .i64 0, .slice none 0 0, .int .i64 0] 62).alloc (Obj.cells #[.int .i64 o.kind, .slice pa' o.path.length pc', .slice ta' o.dest.length tc', .int .i64 o.pos, n0', n1', n2', n3', .slice oa' o.old.length oc', .slice none 0 0, .slice none 0 0, .bool false, .slice none 0 0, .int .i64 0, .slice none 0 0, .int .i64 0, .bool false, .slice none 0 0, .int .i64 0, .slice none 0 0, .int .i64 0] 62)
  have hB := At.second W (Obj.cells #[.int .i64 o.kind, .slice pa o.path.length pc, .slice ta o.dest.length tc, .int .i64 o.pos, n0, n1, n2, n3, .slice oa o.old.length oc, .slice none 0 0, .slice none 0 0, .bool false, .slice none 0 0, .int .i64 0, .slice none 0 0, .int .i64 0, .bool false, .slice none 0 0, .int .i64 0, .slice none 0 0, .int .i64 0] 62) [.int .i64 o.kind, .slice pa' o.path.length pc', .slice ta' o.dest.length tc', .int .i64 o.pos, n0', n1', n2', n3', .slice oa' o.old.length oc', .slice none 0 0, .slice none 0 0, .bool false, .slice none 0 0, .int .i64 0, .slice none 0 0, .int .i64 0, .bool false, .slice none 0 0, .int .i64 0, .slice none 0 0, .int .i64 0] 62
  have Hb0 := Lib.hid hb0; have HA := Lib.hid hA; have HB := Lib.hid hB
  obtain ⟨⟨x0, x1, x2, x3, x4, x5, x6, x7, x8, x9, x10, x11, x12, x13, x14, x15, x16, x17, x18, x19, x20⟩, -, xl⟩ := hA.f21
  obtain ⟨⟨y0, y1, y2, y3, y4, y5, y6, y7, y8, y9, y10, y11, y12, y13, y14, y15, y16, y17, y18, y19, y20⟩, -, yl⟩ := hB.f21
  clear hb0 hA hB h1 h2 h3 h4 h1' h2' h3' h4'
  go_enter Try.func38, Try.ntmps38
  go_wp2_with fail
  refine (HP.out _ Hb0.out).mono ?_
  rintro e w1 ⟨rfl, hbel⟩
  have Hb1 := Lib.hid (Hb0.out.trans (hbel.mono Hb0.out.size))
  have HA1 := Lib.hid (HA.out.kept hbel); have HB1 := Lib.hid (HB.out.kept hbel)
  clear hbel x0 x1 x2 x3 x4 x5 x6 x7 x8 x9 x10 x11 x12 x13 x14 x15 x16 x17 x18 x19 x20 y0 y1 y2 y3 y4 y5 y6 y7 y8 y9 y10 y11 y12 y13 y14 y15 y16 y17 y18 y19 y20 xl yl
  obtain ⟨⟨x0, x1, x2, x3, x4, x5, x6, x7, x8, x9, x10, x11, x12, x13, x14, x15, x16, x17, x18, x19, x20⟩, -, xl⟩ := HA1.out.f21
  obtain ⟨⟨y0, y1, y2, y3, y4, y5, y6, y7, y8, y9, y10, y11, y12, y13, y14, y15, y16, y17, y18, y19, y20⟩, -, yl⟩ := HB1.out.f21
  go_wp2_with fail
  refine (HT.out _ Hb1.out).mono ?_
  rintro e w2 ⟨rfl, hbel⟩
  have Hb2 := Lib.hid (Hb1.out.trans (hbel.mono Hb1.out.size))
  have HA2 := Lib.hid (HA1.out.kept hbel); have HB2 := Lib.hid (HB1.out.kept hbel)
  clear hbel x0 x1 x2 x3 x4 x5 x6 x7 x8 x9 x10 x11 x12 x13 x14 x15 x16 x17 x18 x19 x20 y0 y1 y2 y3 y4 y5 y6 y7 y8 y9 y10 y11 y12 y13 y14 y15 y16 y17 y18 y19 y20 xl yl
  obtain ⟨⟨x0, x1, x2, x3, x4, x5, x6, x7, x8, x9, x10, x11, x12, x13, x14, x15, x16, x17, x18, x19, x20⟩, -, xl⟩ := HA2.out.f21
  obtain ⟨⟨y0, y1, y2, y3, y4, y5, y6, y7, y8, y9, y10, y11, y12, y13, y14, y15, y16, y17, y18, y19, y20⟩, -, yl⟩ := HB2.out.f21
  go_wp2_with fail
  refine (HN.out _ Hb2.out).mono ?_
  rintro e w3 ⟨rfl, hbel⟩
  have Hb3 := Lib.hid (Hb2.out.trans (hbel.mono Hb2.out.size))
  have HA3 := Lib.hid (HA2.out.kept hbel); have HB3 := Lib.hid (HB2.out.kept hbel)
  clear hbel x0 x1 x2 x3 x4 x5 x6 x7 x8 x9 x10 x11 x12 x13 x14 x15 x16 x17 x18 x19 x20 y0 y1 y2 y3 y4 y5 y6 y7 y8 y9 y10 y11 y12 y13 y14 y15 y16 y17 y18 y19 y20 xl yl
  obtain ⟨⟨x0, x1, x2, x3, x4, x5, x6, x7, x8, x9, x10, x11, x12, x13, x14, x15, x16, x17, x18, x19, x20⟩, -, xl⟩ := HA3.out.f21
  obtain ⟨⟨y0, y1, y2, y3, y4, y5, y6, y7, y8, y9, y10, y11, y12, y13, y14, y15, y16, y17, y18, y19, y20⟩, -, yl⟩ := HB3.out.f21
  go_wp2_with fail
  refine (HO.out _ Hb3.out).mono ?_
  rintro e w4 ⟨rfl, hbel⟩
  have Hb4 := Lib.hid (Hb3.out.trans (hbel.mono Hb3.out.size))
  have HA4 := Lib.hid (HA3.out.kept hbel); have HB4 := Lib.hid (HB3.out.kept hbel)
  clear hbel x0 x1 x2 x3 x4 x5 x6 x7 x8 x9 x10 x11 x12 x13 x14 x15 x16 x17 x18 x19 x20 y0 y1 y2 y3 y4 y5 y6 y7 y8 y9 y10 y11 y12 y13 y14 y15 y16 y17 y18 y19 y20 xl yl
  obtain ⟨⟨x0, x1, x2, x3, x4, x5, x6, x7, x8, x9, x10, x11, x12, x13, x14, x15, x16, x17, x18, x19, x20⟩, -, xl⟩ := HA4.out.f21
  obtain ⟨⟨y0, y1, y2, y3, y4, y5, y6, y7, y8, y9, y10, y11, y12, y13, y14, y15, y16, y17, y18, y19, y20⟩, -, yl⟩ := HB4.out.f21
  go_wp2_with fail
  refine (HE.out _ Hb4.out).mono ?_
  rintro e w5 ⟨rfl, hbel⟩
  have Hb5 := Lib.hid (Hb4.out.trans (hbel.mono Hb4.out.size))
  have HA5 := Lib.hid (HA4.out.kept hbel); have HB5 := Lib.hid (HB4.out.kept hbel)
  clear hbel x0 x1 x2 x3 x4 x5 x6 x7 x8 x9 x10 x11 x12 x13 x14 x15 x16 x17 x18 x19 x20 y0 y1 y2 y3 y4 y5 y6 y7 y8 y9 y10 y11 y12 y13 y14 y15 y16 y17 y18 y19 y20 xl yl
  obtain ⟨⟨x0, x1, x2, x3, x4, x5, x6, x7, x8, x9, x10, x11, x12, x13, x14, x15, x16, x17, x18, x19, x20⟩, -, xl⟩ := HA5.out.f21
  obtain ⟨⟨y0, y1, y2, y3, y4, y5, y6, y7, y8, y9, y10, y11, y12, y13, y14, y15, y16, y17, y18, y19, y20⟩, -, yl⟩ := HB5.out.f21
  go_wp2_with fail
  refine (HX.out _ Hb5.out).mono ?_
  rintro e w6 ⟨rfl, hbel⟩
  have Hb6 := Lib.hid (Hb5.out.trans (hbel.mono Hb5.out.size))
  have HA6 := Lib.hid (HA5.out.kept hbel); have HB6 := Lib.hid (HB5.out.kept hbel)
  clear hbel x0 x1 x2 x3 x4 x5 x6 x7 x8 x9 x10 x11 x12 x13 x14 x15 x16 x17 x18 x19 x20 y0 y1 y2 y3 y4 y5 y6 y7 y8 y9 y10 y11 y12 y13 y14 y15 y16 y17 y18 y19 y20 xl yl
  obtain ⟨⟨x0, x1, x2, x3, x4, x5, x6, x7, x8, x9, x10, x11, x12, x13, x14, x15, x16, x17, x18, x19, x20⟩, -, xl⟩ := HA6.out.f21
  obtain ⟨⟨y0, y1, y2, y3, y4, y5, y6, y7, y8, y9, y10, y11, y12, y13, y14, y15, y16, y17, y18, y19, y20⟩, -, yl⟩ := HB6.out.f21
  go_wp2_with fail
  refine (HS.out _ Hb6.out).mono ?_
  rintro e w7 ⟨rfl, hbel⟩
  have Hb7 := Lib.hid (Hb6.out.trans (hbel.mono Hb6.out.size))
  have HA7 := Lib.hid (HA6.out.kept hbel); have HB7 := Lib.hid (HB6.out.kept hbel)
  clear hbel x0 x1 x2 x3 x4 x5 x6 x7 x8 x9 x10 x11 x12 x13 x14 x15 x16 x17 x18 x19 x20 y0 y1 y2 y3 y4 y5 y6 y7 y8 y9 y10 y11 y12 y13 y14 y15 y16 y17 y18 y19 y20 xl yl
  obtain ⟨⟨x0, x1, x2, x3, x4, x5, x6, x7, x8, x9, x10, x11, x12, x13, x14, x15, x16, x17, x18, x19, x20⟩, -, xl⟩ := HA7.out.f21
  obtain ⟨⟨y0, y1, y2, y3, y4, y5, y6, y7, y8, y9, y10, y11, y12, y13, y14, y15, y16, y17, y18, y19, y20⟩, -, yl⟩ := HB7.out.f21
  go_wp2_with fail
  refine (HS.out _ Hb7.out).mono ?_
  rintro e w8 ⟨rfl, hbel⟩
  have Hb8 := Lib.hid (Hb7.out.trans (hbel.mono Hb7.out.size))
  have HA8 := Lib.hid (HA7.out.kept hbel); have HB8 := Lib.hid (HB7.out.kept hbel)
  clear hbel x0 x1 x2 x3 x4 x5 x6 x7 x8 x9 x10 x11 x12 x13 x14 x15 x16 x17 x18 x19 x20 y0 y1 y2 y3 y4 y5 y6 y7 y8 y9 y10 y11 y12 y13 y14 y15 y16 y17 y18 y19 y20 xl yl
  obtain ⟨⟨x0, x1, x2, x3, x4, x5, x6, x7, x8, x9, x10, x11, x12, x13, x14, x15, x16, x17, x18, x19, x20⟩, -, xl⟩ := HA8.out.f21
  obtain ⟨⟨y0, y1, y2, y3, y4, y5, y6, y7, y8, y9, y10, y11, y12, y13, y14, y15, y16, y17, y18, y19, y20⟩, -, yl⟩ := HB8.out.f21
  go_wp2_with fail
  go_ret
  exact ⟨rfl, Hb8.out⟩

end Go.Proofs.Ytiinmgccjlmoaaa
