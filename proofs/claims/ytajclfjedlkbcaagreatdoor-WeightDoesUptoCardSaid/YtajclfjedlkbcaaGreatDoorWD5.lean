/- Parts of the proof, one behind the other: RHD, RSB, RSE, RHP, RKD, RKE, RKB. -/
import Derived.Test.YtajclfjedlkbcaaGreatDoorWD4
import Derived.Test.YtajclfjedlkbcaaGreatDoorWD2
import Derived.Deep.LoopGhost
import Derived.Deep.DeepCutAuto
import Derived.Deep.RegionLaw
import Derived.Lib.SliceRun
/- Walks: node.Type, table's typed, ActOf, RuleOf. -/
namespace Go.Proofs.YtajclfjedlkbcaaGreatDoor
open Go.RowKit Go.Redl
set_option linter.unusedVariables false

theorem At.second (W : World) (o : Obj) (cs : List Value) (T : TypeId) : At ((W.alloc o).alloc (.cells cs.toArray T)) (W.heap.size + 1) cs T := by
  have h := At.fresh (W.alloc o) cs T
  rwa [show (W.alloc o).heap.size = W.heap.size + 1 by simp] at h
theorem At.third (W : World) (o o' : Obj) (cs : List Value) (T : TypeId) : At (((W.alloc o).alloc o').alloc (.cells cs.toArray T)) (W.heap.size + 1 + 1) cs T := by
  have h := At.second (W.alloc o) o' cs T
  rwa [show (W.alloc o).heap.size = W.heap.size + 1 by simp] at h
theorem At.fourth (W : World) (o o' o'' : Obj) (cs : List Value) (T : TypeId) : At ((((W.alloc o).alloc o').alloc o'').alloc (.cells cs.toArray T)) (W.heap.size + 1 + 1 + 1) cs T := by
  have h := At.third (W.alloc o) o' o'' cs T
  rwa [show (W.alloc o).heap.size = W.heap.size + 1 by simp] at h
theorem two_below (W : World) (o o' : Obj) : Below W.heap.size W ((W.alloc o).alloc o') := ((Below.refl _ _).alloc (Nat.le_refl _) o).alloc (by simp) o'
theorem three_below (W : World) (o o' o'' : Obj) : Below W.heap.size W (((W.alloc o).alloc o').alloc o'') := (two_below W o o').alloc (by simp; omega) o''
theorem four_below (W : World) (o o' o'' o3 : Obj) : Below W.heap.size W ((((W.alloc o).alloc o').alloc o'').alloc o3) := (three_below W o o' o'').alloc (by simp; omega) o3

theorem actIn_some {r : RuleD} {k : List UInt8} {j : Nat} (hj : j < r.kids.length) (h : r.kids[j].1 = k) (hb : ∀ i (hi : i < j), (r.kids[i]'(by omega)).1 ≠ k) : actIn r k = r.kids[j].2 := by
  unfold actIn
  rw [find_idx (q := fun p => decide (p.1 = k)) hj (by simpa using h) (fun i hi => by simpa using hb i hi)]
  rfl
theorem actIn_none {r : RuleD} {k : List UInt8} (hb : ∀ i (hi : i < r.kids.length), r.kids[i].1 ≠ k) : actIn r k = r.other := by
  unfold actIn
  rw [find_none (fun i hi => by simpa using hb i hi)]
  rfl
set_option maxRecDepth 100000 in
theorem typed1_c (K : List UInt8) (d : Int) (t k : List UInt8) (N : Nat) (W : World) (hN : W.cell? ⟨N, 0, none⟩ = some (strV k)) :
    Calls Tryz.prog 123 #[.agg #[strV K, .int .i64 d, strV t], .pointer (some ⟨N, 0, none⟩)] W fun e w' => e = .returned (.bool (decide (K = k))) ∧ Below W.heap.size W w' := by
  have hlt := World.block_lt_of_cell? W _ hN
  have Hb := Lib.hid (one_below W (Obj.cells #[strV K, .int .i64 d, strV t] 70))
  go_enter Tryz.func123, Tryz.ntmps123
  go_wp2_with fail
  go_ret
  exact ⟨ret_bool (beq_dec _ _), Hb.out⟩
theorem typed1_ent : ∀ args w, (callFunc 123 args).run Tryz.prog w = .ok (.enter 123 args) w := by intro args w; kernel_rfl
theorem typed_ent : ∀ args w, (callFunc 101 args).run Tryz.prog w = .ok (.enter 101 args) w := by intro args w; kernel_rfl

abbrev ActP (W : World) (a : ActD) (e : Ending) (w' : World) : Prop := e = .returned (.agg #[.int .i64 a.1, strV a.2]) ∧ Below W.heap.size W w'
set_option maxRecDepth 100000 in
set_option maxHeartbeats 1000000 in
theorem typed_c (r : RuleD) (a : Option Addr) (c : Nat) (k : List UInt8) (W : World) (hr : RowA W W.heap.size 3 a r.kids.length c (pairCells r.kids)) (hn : r.kids.length ≤ 100000000) :
    Calls Tryz.prog 101 #[.agg (ruleCells r a c).toArray, strV k] W (ActP W (actIn r k)) := by
  have hs1 := fun (j : Nat) (hj : j < r.kids.length) h hb => actIn_some (r := r) (k := k) (j := j) hj h hb
  have hs2 := fun hb => actIn_none (r := r) (k := k) hb
  obtain ⟨R, hR⟩ : ∃ R, R = actIn r k := ⟨_, rfl⟩
  rw [← hR]
  rw [← hR] at hs1 hs2
  obtain ⟨ty, ⟨td, tt⟩, ⟨od, ot⟩, kids, fill, ft⟩ := r
  simp only at hr hn hs1 hs2
  have hcells : (ruleCells ⟨ty, (td, tt), (od, ot), kids, fill, ft⟩ a c).toArray = #[strV ty, .int .i64 td, strV tt, .int .i64 od, strV ot, .slice a kids.length c, .int .i64 fill, strV ft] := rfl
  rw [hcells]
  obtain ⟨w0, hw0⟩ : ∃ w0, w0 = (((W.alloc (Obj.cells #[strV ty, .int .i64 td, strV tt, .int .i64 od, strV ot, .slice a kids.length c, .int .i64 fill, strV ft] 27)).alloc (Obj.cells #[strV k] 9)).alloc (Obj.cells #[.int .i64 0, strV []] 24)) := ⟨_, rfl⟩
  have hb0 : Below W.heap.size W w0 := by rw [hw0]; exact three_below _ _ _ _
  have hA : At w0 W.heap.size [strV ty, .int .i64 td, strV tt, .int .i64 od, strV ot, .slice a kids.length c, .int .i64 fill, strV ft] 27 := by rw [hw0]; exact ((At.fresh W _ _).alloc _).alloc _
  have hK : At w0 (W.heap.size + 1) [strV k] 9 := by rw [hw0]; exact (At.second W _ _ _).alloc _
  have hX : At w0 (W.heap.size + 1 + 1) [.int .i64 0, strV []] 24 := by rw [hw0]; exact At.third W _ _ _ _
  have hr0 := hr.keep hb0 hb0.size
  have hgd : ∀ j (hj : j < kids.length), kids.getD j ([], 0, []) = kids[j] := fun j hj => by simp [List.getD, List.getElem?_eq_getElem hj]
  have HI := Lib.hid (idx_pair kids.length a c 123 #[.pointer (some ⟨W.heap.size + 1, 0, none⟩)] (fun j => decide ((kids.getD j ([], 0, [])).1 = k)) w0 hn typed1_ent (fun j W' hj hb => by
    obtain ⟨b, off, ha, -, h0, h1, h2⟩ := (hr0.keep hb hb.size).pair_at j hj
    refine ⟨b, off, _, _, _, ha, h0, h1, h2, ?_⟩
    rw [hgd j hj]
    exact typed1_c kids[j].1 kids[j].2.1 kids[j].2.2 k _ W' ((hK.kept hb).cell 0 rfl)))
  have Hr := Lib.hid hr0; have Hb0 := Lib.hid hb0; have HA := Lib.hid hA; have HX := Lib.hid hX
  obtain ⟨⟨x0, x1, x2, x3, x4, x5, x6, x7⟩, -, xl⟩ := hA.f8
  have Hw0 := Lib.hid hw0
  have hcl : W.heap.size ≤ W.heap.size + 1 + 1 := by omega
  rcases idxP_cases (fun j => decide ((kids.getD j ([], 0, [])).1 = k)) kids.length with ⟨j, hj, hp, hmin, he⟩ | ⟨hall, he⟩
  · rw [he] at HI
    have HG := Lib.hid (hs1 j hj (by have h := of_decide_eq_true hp; rw [hgd j hj] at h; exact h) (fun i hi => by have h := of_decide_eq_false (hmin i hi); rw [hgd i (by omega)] at h; exact h))
    have hji : (j : Int) < kids.length := by omega
    clear he hmin hp hr hr0 hb0 hK hA hX hs1 hs2 hR hcells hw0
    go_enter Tryz.func101, Tryz.ntmps101
    go_upto_region 1 with fail
    rw [← Hw0.out]
    clear Hw0
    go_wp2_with fail
    refine HI.out.mono ?_
    rintro e w1 ⟨rfl, hbel⟩
    obtain ⟨b, off, rfl, -, h0, h1, h2⟩ := (Hr.out.keep hbel hbel.size).pair_at j hj
    have Hb1 := Lib.hid (Hb0.out.trans (hbel.mono Hb0.out.size))
    obtain ⟨⟨y0, y1, y2, y3, y4, y5, y6, y7⟩, -, yl⟩ := (HA.out.kept hbel).f8
    obtain ⟨⟨z0, z1⟩, zf, zl⟩ := (HX.out.kept hbel).f2
    generalize kids[j] = q at h0 h1 h2 HG
    obtain ⟨q0, q1, q2⟩ := q
    clear hbel HI x0 x1 x2 x3 x4 x5 x6 x7
    go_wp2_with fail
    refine bodyPost_ret (v := .agg #[.int .i64 q1, strV q2]) (by simp [results, Tryz.results101, go_sem, z0, z1]) rfl ?_
    rw [HG.out]
    exact ⟨rfl, below_s2 Hb1.out hcl _ _⟩
  · rw [he] at HI
    have HG := Lib.hid (hs2 (fun i hi => by have h := of_decide_eq_false (hall i hi); rw [hgd i hi] at h; exact h))
    clear he hall hr hr0 hb0 hK hA hX hs1 hs2 hR hcells hw0
    go_enter Tryz.func101, Tryz.ntmps101
    go_upto_region 1 with fail
    rw [← Hw0.out]
    clear Hw0
    go_wp2_with fail
    refine HI.out.mono ?_
    rintro e w1 ⟨rfl, hbel⟩
    have Hb1 := Lib.hid (Hb0.out.trans (hbel.mono Hb0.out.size))
    obtain ⟨⟨y0, y1, y2, y3, y4, y5, y6, y7⟩, -, yl⟩ := (HA.out.kept hbel).f8
    obtain ⟨⟨z0, z1⟩, zf, zl⟩ := (HX.out.kept hbel).f2
    clear hbel HI x0 x1 x2 x3 x4 x5 x6 x7
    go_wp2_with fail
    refine bodyPost_ret (v := .agg #[.int .i64 od, strV ot]) (by simp [results, Tryz.results101, go_sem, z0, z1]) rfl ?_
    rw [HG.out]
    exact ⟨rfl, below_s2 Hb1.out hcl _ _⟩

end Go.Proofs.YtajclfjedlkbcaaGreatDoor
/- Walks: node.Same. -/
namespace Go.Proofs.YtajclfjedlkbcaaGreatDoor
open Go.RowKit Go.Redl
set_option linter.unusedVariables false

mutual
/-- Are two trees the same. -/
def sameN : NodeD → NodeD → Bool
  | .mk l ps t ks, .mk l' ps' t' ks' => l == l' && (decide (ps = ps') && (decide (t = t') && (decide (ks.length = ks'.length) && sameK ks ks')))
def sameK : List NodeD → List NodeD → Bool
  | [], _ => true
  | _ :: _, [] => true
  | k :: ks, k' :: ks' => sameN k k' && sameK ks ks'
end
mutual
theorem sameN_self : ∀ n : NodeD, sameN n n = true
  | .mk l ps t ks => by unfold sameN; simp [sameK_self ks]
theorem sameK_self : ∀ ks : List NodeD, sameK ks ks = true
  | [] => by unfold sameK; rfl
  | k :: ks => by unfold sameK; simp [sameN_self k, sameK_self ks]
end
mutual
theorem sameN_eq : ∀ n m : NodeD, sameN n m = true → n = m
  | .mk l ps t ks, .mk l' ps' t' ks', h => by
    unfold sameN at h
    simp only [Bool.and_eq_true, decide_eq_true_eq, beq_iff_eq] at h
    obtain ⟨h1, h2, h3, h4, h5⟩ := h
    subst h1; subst h2; subst h3
    rw [sameK_eq ks ks' h4 h5]
theorem sameK_eq : ∀ ks ks' : List NodeD, ks.length = ks'.length → sameK ks ks' = true → ks = ks'
  | [], [], _, _ => rfl
  | [], _ :: _, h, _ => by simp at h
  | _ :: _, [], h, _ => by simp at h
  | k :: ks, k' :: ks', h, h2 => by
    unfold sameK at h2
    simp only [Bool.and_eq_true] at h2
    rw [sameN_eq k k' h2.1, sameK_eq ks ks' (by simpa using h) h2.2]
end
theorem sameK_step {ks ks' : List NodeD} {k : Nat} (h : k < ks.length) (h' : k < ks'.length) : sameK (ks.drop k) (ks'.drop k) = (sameN ks[k] ks'[k] && sameK (ks.drop (k + 1)) (ks'.drop (k + 1))) := by
  conv => lhs; rw [List.drop_eq_getElem_cons h, List.drop_eq_getElem_cons h']
  simp only [sameK]
theorem sameK_end {ks ks' : List NodeD} {k : Nat} (h : ks.length ≤ k) : sameK (ks.drop k) (ks'.drop k) = true := by
  rw [List.drop_eq_nil_of_le h]; unfold sameK; rfl

theorem sameN_open (l l' : Bool) (ps ps' : List PropD) (t t' : List Int) (ks ks' : List NodeD) : sameN (.mk l ps t ks) (.mk l' ps' t' ks') = (l == l' && (decide (ps = ps') && (decide (t = t') && (decide (ks.length = ks'.length) && sameK ks ks')))) := by
  rw [sameN]
end Go.Proofs.YtajclfjedlkbcaaGreatDoor
/- Walks: the reference's Same at trees. -/
namespace Go.Proofs.YtajclfjedlkbcaaGreatDoor
open Go.RowKit Go.Redl
set_option linter.unusedVariables false

end Go.Proofs.YtajclfjedlkbcaaGreatDoor
/- Walks: the reference's Same at operations that are the same. -/
namespace Go.Proofs.YtajclfjedlkbcaaGreatDoor
open Go.RowKit Go.Redl
set_option linter.unusedVariables false

set_option maxHeartbeats 400000 in
theorem rpath_c (a a' : Option Addr) (cap cap' B : Nat) (xs ys : List Int) (w : World) (hr : RowA w B 1 a xs.length cap (xs.map (Value.int .i64))) (hr' : RowA w B 1 a' ys.length cap' (ys.map (Value.int .i64))) :
    Calls Tryz.prog 23 #[.slice a xs.length cap, .slice a' ys.length cap'] w fun e w' => e = .returned (.bool (decide (xs = ys))) ∧ Drawn w w' := by
  have hm : xs.length ≤ 9223372036854775807 := by have h1 := hr.le; have h2 := hr.max; unfold maxLen at h2; omega
  have hm' : ys.length ≤ 9223372036854775807 := by have h1 := hr'.le; have h2 := hr'.max; unfold maxLen at h2; omega
  by_cases hl : xs.length = ys.length
  · go_enter Tryz.func23, Tryz.ntmps23
    have hle : ys.length ≤ xs.length := by omega
    have hle' : xs.length ≤ ys.length := by omega
    have hne : (((xs.length : Nat) : Int) != (ys.length : Int)) = false := by simp [hl]
    have Hl := Lib.hid hl; clear hl
    go_wp2_with fail
    go_loopw [13] (fun i wr => ∃ k : Nat, k ≤ xs.length ∧ i = .int .i64 k ∧ SameTo xs ys k ∧ Drawn w wr) (fun i _ => xs.length - (intOf i).toNat)
    case atStart => exact ⟨0, Nat.zero_le _, rfl, sameTo_zero _ _, ⟨0, rfl⟩⟩
    case round =>
      obtain ⟨k, hk, rfl, hp, q, rfl⟩ := hrel
      have Hp := Lib.hid hp; clear hp
      by_cases hlt : k < xs.length
      · obtain ⟨b, off, rfl, hb, hcell⟩ := hr.int_at k hlt
        obtain ⟨b', off', rfl, hb', hcell'⟩ := hr'.int_at k (by omega)
        have hcell := hcell k hlt
        have hcell' := hcell' k (by omega)
        have hlt' : k < ys.length := by omega
        rw [getD_of_lt hlt] at hcell
        rw [getD_of_lt hlt'] at hcell'
        go_wp2_with fail
        by_cases he : xs[k] = ys[k]
        · have hne : (xs[k] != ys[k]) = false := by simp [he]
          have He := Lib.hid he; clear he
          go_quiet (fail)
          go_wp2_with fail
          go_roundw
          case rel => exact ⟨k + 1, by omega, by go_num, sameTo_succ Hp.out hlt hlt' He.out, by first | exact drawn_one _ _ | exact drawn_two _ _ _⟩
          case measure => simp [intOf]; omega
        · have hne : (xs[k] != ys[k]) = true := by simp [he]
          have He := Lib.hid he; clear he
          go_quiet (fail)
          go_wp2_with fail
          go_ret
          exact ⟨ret_bool (by simp [same_not hlt hlt' He.out]), drawn_two _ _ _⟩
      · go_wp2_with fail
        go_ret
        obtain rfl : k = xs.length := by omega
        exact ⟨ret_bool (by simp [sameTo_all Hp.out Hl.out]), drawn_one _ _⟩
  · have hne : (((xs.length : Nat) : Int) != (ys.length : Int)) = true := by simp; omega
    have Hl := Lib.hid hl; clear hl
    go_enter Tryz.func23, Tryz.ntmps23
    go_wp2_with fail
    go_ret
    exact ⟨ret_bool (by simp [show xs ≠ ys from fun h => Hl.out (by rw [h])]), drawn_zero _⟩


theorem At.f21 {w : World} {N : Nat} {c0 c1 c2 c3 c4 c5 c6 c7 c8 c9 c10 c11 c12 c13 c14 c15 c16 c17 c18 c19 c20 : Value} {T : TypeId} (h : At w N [c0, c1, c2, c3, c4, c5, c6, c7, c8, c9, c10, c11, c12, c13, c14, c15, c16, c17, c18, c19, c20] T) : (w.cell? ⟨N, 0, none⟩ = some c0 ∧ w.cell? ⟨N, 1, none⟩ = some c1 ∧ w.cell? ⟨N, 2, none⟩ = some c2 ∧ w.cell? ⟨N, 3, none⟩ = some c3 ∧ w.cell? ⟨N, 4, none⟩ = some c4 ∧ w.cell? ⟨N, 5, none⟩ = some c5 ∧ w.cell? ⟨N, 6, none⟩ = some c6 ∧ w.cell? ⟨N, 7, none⟩ = some c7 ∧ w.cell? ⟨N, 8, none⟩ = some c8 ∧ w.cell? ⟨N, 9, none⟩ = some c9 ∧ w.cell? ⟨N, 10, none⟩ = some c10 ∧ w.cell? ⟨N, 11, none⟩ = some c11 ∧ w.cell? ⟨N, 12, none⟩ = some c12 ∧ w.cell? ⟨N, 13, none⟩ = some c13 ∧ w.cell? ⟨N, 14, none⟩ = some c14 ∧ w.cell? ⟨N, 15, none⟩ = some c15 ∧ w.cell? ⟨N, 16, none⟩ = some c16 ∧ w.cell? ⟨N, 17, none⟩ = some c17 ∧ w.cell? ⟨N, 18, none⟩ = some c18 ∧ w.cell? ⟨N, 19, none⟩ = some c19 ∧ w.cell? ⟨N, 20, none⟩ = some c20) ∧ (∀ j, w.frozen? ⟨N, j, none⟩ = false) ∧ N < w.heap.size :=
  ⟨⟨h.cell 0 rfl, h.cell 1 rfl, h.cell 2 rfl, h.cell 3 rfl, h.cell 4 rfl, h.cell 5 rfl, h.cell 6 rfl, h.cell 7 rfl, h.cell 8 rfl, h.cell 9 rfl, h.cell 10 rfl, h.cell 11 rfl, h.cell 12 rfl, h.cell 13 rfl, h.cell 14 rfl, h.cell 15 rfl, h.cell 16 rfl, h.cell 17 rfl, h.cell 18 rfl, h.cell 19 rfl, h.cell 20 rfl⟩, fun j => Lib.frozen_of_heap h _, h.lt⟩


/-- Yes. -/
abbrev YesP (W : World) (e : Ending) (w' : World) : Prop := e = .returned (.bool true) ∧ Below W.heap.size W w'
theorem rpath_yes (p : List Int) (a a' : Option Addr) (c c' : Nat) (w : World) (h : RowA w w.heap.size 1 a p.length c (p.map (Value.int .i64))) (h' : RowA w w.heap.size 1 a' p.length c' (p.map (Value.int .i64))) :
    Calls Tryz.prog 23 #[.slice a p.length c, .slice a' p.length c'] w (YesP w) :=
  (rpath_c a a' c c' _ p p w h h').mono fun e w' hh => by obtain ⟨rfl, hd⟩ := hh; exact ⟨ret_bool (by simp), hd.below _⟩
end Go.Proofs.YtajclfjedlkbcaaGreatDoor
/- Walks: paths compared; whether one is the same as, or above, another one. -/
namespace Go.Proofs.YtajclfjedlkbcaaGreatDoor
open Go.RowKit Go.Redl
set_option linter.unusedVariables false

def cmpI (a b : Int) : Int := if a < b then -1 else if b < a then 1 else 0
/-- Two paths, number by number. -/
def cmpL : List Int → List Int → Int
  | [], [] => 0
  | [], _ :: _ => -1
  | _ :: _, [] => 1
  | x :: a, y :: b => if cmpI x y = 0 then cmpL a b else cmpI x y
theorem cmpI_zero {x y : Int} : cmpI x y = 0 ↔ x = y := by unfold cmpI; split <;> (try split) <;> omega
theorem cmpI_neg {x y : Int} : cmpI x y < 0 ↔ x < y := by unfold cmpI; split <;> (try split) <;> omega
theorem cmpL_self : ∀ a : List Int, cmpL a a = 0
  | [] => rfl
  | x :: a => by unfold cmpL; rw [if_pos (by simp [cmpI]), cmpL_self a]
theorem cmpL_eq : ∀ {a b : List Int}, cmpL a b = 0 → a = b
  | [], [], _ => rfl
  | [], _ :: _, h => by simp [cmpL] at h
  | _ :: _, [], h => by simp [cmpL] at h
  | x :: a, y :: b, h => by
    unfold cmpL at h
    split at h
    · rename_i h0
      rw [cmpL_eq h, cmpI_zero.1 h0]
    · exact absurd h ‹_›
theorem cmpL_swap : ∀ a b : List Int, cmpL b a = -cmpL a b
  | [], [] => rfl
  | [], _ :: _ => rfl
  | _ :: _, [] => rfl
  | x :: a, y :: b => by
    unfold cmpL
    have : cmpI y x = -cmpI x y := by unfold cmpI; split <;> (try split) <;> (try split) <;> omega
    rw [this]
    by_cases h : cmpI x y = 0
    · rw [if_pos h, if_pos (by omega), cmpL_swap a b]
    · rw [if_neg h, if_neg (by omega)]
theorem cmpL_trans : ∀ {a b c : List Int}, cmpL a b < 0 → cmpL b c < 0 → cmpL a c < 0
  | [], _, [], h1, h2 => by
    rename_i b
    cases b with
    | nil => simp [cmpL] at h1
    | cons y b => simp [cmpL] at h2
  | [], _, _ :: _, h1, h2 => by simp [cmpL]
  | _ :: _, [], _, h1, h2 => by simp [cmpL] at h1
  | _ :: _, _ :: _, [], h1, h2 => by simp [cmpL] at h2
  | x :: a, y :: b, z :: c, h1, h2 => by
    unfold cmpL at h1 h2 ⊢
    by_cases e1 : cmpI x y = 0
    · obtain rfl := cmpI_zero.1 e1
      rw [if_pos e1] at h1
      by_cases e2 : cmpI x z = 0
      · rw [if_pos e2] at h2 ⊢
        exact cmpL_trans h1 h2
      · rw [if_neg e2] at h2 ⊢; exact h2
    · rw [if_neg e1] at h1
      have hxy := cmpI_neg.1 h1
      by_cases e2 : cmpI y z = 0
      · obtain rfl := cmpI_zero.1 e2
        rw [if_neg e1]; exact h1
      · rw [if_neg e2] at h2
        have hyz := cmpI_neg.1 h2
        have hxz : cmpI x z < 0 := cmpI_neg.2 (by omega)
        rw [if_neg (by omega)]; exact hxz
theorem cmpL_three (a b : List Int) : cmpL a b < 0 ∨ a = b ∨ cmpL b a < 0 := by
  rcases Int.lt_trichotomy (cmpL a b) 0 with h | h | h
  · exact .inl h
  · exact .inr (.inl (cmpL_eq h))
  · exact .inr (.inr (by rw [cmpL_swap]; omega))

theorem nan_ent : ∀ args w, (callFunc 166 args).run Tryz.prog w = .ok (.enter 166 args) w := by intro args w; kernel_rfl
set_option maxRecDepth 100000 in
theorem nan_c (x : Int) (w : World) : Calls Tryz.prog 166 #[.int .i64 x] w fun e w' => e = .returned (.bool false) ∧ w' = w := by
  have hne : (x != x) = false := by simp
  go_enter Tryz.func166, Tryz.ntmps166
  go_wp2_with fail
  go_ret
  exact ⟨rfl, rfl⟩
theorem cmpi_ent : ∀ args w, (callFunc 134 args).run Tryz.prog w = .ok (.enter 134 args) w := by intro args w; kernel_rfl
set_option maxRecDepth 100000 in
theorem cmpi_c (x y : Int) (w : World) : Calls Tryz.prog 134 #[.int .i64 x, .int .i64 y] w fun e w' => e = .returned (.int .i64 (cmpI x y)) ∧ w' = w := by
  have HX := Lib.hid (nan_c x w); have HY := Lib.hid (nan_c y w)
  obtain ⟨z, hz⟩ : ∃ z, z = cmpI x y := ⟨_, rfl⟩
  rw [← hz]
  have Hz := Lib.hid (show (x < y → z = -1) ∧ (¬ x < y → y < x → z = 1) ∧ (¬ x < y → ¬ y < x → z = 0) from ⟨fun h => by rw [hz, cmpI, if_pos h], fun h h' => by rw [hz, cmpI, if_neg h, if_pos h'], fun h h' => by rw [hz, cmpI, if_neg h, if_neg h']⟩)
  clear hz
  go_enter Tryz.func134, Tryz.ntmps134
  go_wp2_with fail
  refine HX.out.mono ?_
  rintro e w1 ⟨rfl, rfl⟩
  go_wp2_with fail
  refine HY.out.mono ?_
  rintro e w1 ⟨rfl, rfl⟩
  by_cases h1 : x < y
  · have Hr := Lib.hid (Hz.out.1 (by omega))
    go_wp2_with fail
    go_ret
    exact ⟨ret_int Hr.out.symm, rfl⟩
  · by_cases h2 : y < x
    · have Hr := Lib.hid (Hz.out.2.1 (by omega) (by omega))
      have h3 : decide (x < y) = false := decide_eq_false (by omega)
      go_wp2_with fail
      go_ret
      exact ⟨ret_int Hr.out.symm, rfl⟩
    · have Hr := Lib.hid (Hz.out.2.2 (by omega) (by omega))
      have h3 : decide (x < y) = false := decide_eq_false (by omega)
      have h4 : decide (y < x) = false := decide_eq_false (by omega)
      go_wp2_with fail
      go_ret
      exact ⟨ret_int Hr.out.symm, rfl⟩
theorem scmp_ent : ∀ args w, (callFunc 110 args).run Tryz.prog w = .ok (.enter 110 args) w := by intro args w; kernel_rfl
theorem cmpL_step {xs ys : List Int} {k : Nat} (h1 : k < xs.length) (h2 : k < ys.length) : cmpL (xs.drop k) (ys.drop k) = if cmpI xs[k] ys[k] = 0 then cmpL (xs.drop (k + 1)) (ys.drop (k + 1)) else cmpI xs[k] ys[k] := by
  rw [List.drop_eq_getElem_cons h1, List.drop_eq_getElem_cons h2]; rfl
set_option maxRecDepth 100000 in
set_option maxHeartbeats 2000000 in
theorem scmp_c (xs ys : List Int) (a a' : Option Addr) (cap cap' B : Nat) (w : World) (hr : RowA w B 1 a xs.length cap (xs.map (Value.int .i64))) (hr' : RowA w B 1 a' ys.length cap' (ys.map (Value.int .i64))) :
    Calls Tryz.prog 110 #[.slice a xs.length cap, .slice a' ys.length cap'] w fun e w' => e = .returned (.int .i64 (cmpL xs ys)) ∧ w' = w := by
  obtain ⟨z, hz⟩ : ∃ z, z = cmpL xs ys := ⟨_, rfl⟩
  rw [← hz]
  have Hz := Lib.hid hz
  clear hz
  have H63 := Lib.hid (show xs.length ≤ 9223372036854775807 from Nat.le_trans hr.le (by have := hr.max; unfold maxLen at this; omega))
  go_enter Tryz.func110, Tryz.ntmps110
  go_wp2_with fail
  go_loopg [11, 5, 6, 7, 8] xs.length (fun g i _ _ _ _ wr => ∃ k : Nat, i = .int .i64 k ∧ k + g = xs.length ∧ k ≤ ys.length ∧ Hid (cmpL (xs.drop k) (ys.drop k) = z) ∧ wr = w)
  case atStart => exact ⟨0, rfl, by omega, by omega, Hz.out.symm, rfl⟩
  case round =>
    obtain ⟨k, rfl, hg, hky, hst, rfl⟩ := hrel
    by_cases hlt : k < xs.length
    · have hlti : (k : Int) < xs.length := by omega
      obtain ⟨b, off, rfl, hb, hcell0⟩ := hr.int_at k hlt
      have hcell := hcell0 k hlt
      rw [getD_of_lt hlt] at hcell
      clear hcell0
      by_cases hly : k < ys.length
      ·
        have hlyi : (k : Int) < ys.length := by omega
        have hge : decide ((ys.length : Int) ≤ k) = false := decide_eq_false (by omega)
        have hw1 : IntKind.i64.wrap ((k : Int) + 1) = (k : Int) + 1 := IntWalk.i64_in _ (by have := H63.out; omega)
        obtain ⟨b', off', rfl, hb', hcell0⟩ := hr'.int_at k hly
        have hcell' := hcell0 k hly
        rw [getD_of_lt hly] at hcell'
        clear hcell0
        have Hs := Lib.hid ((cmpL_step hlt hly).symm.trans hst.out)
        have HC := Lib.hid (cmpi_c xs[k] ys[k] wr)
        generalize xs[k] = x at hcell Hs HC
        generalize ys[k] = y at hcell' Hs HC
        clear hst
        by_cases h0 : cmpI x y = 0
        ·
          have Hs2 := Lib.hid (show cmpL (xs.drop (k + 1)) (ys.drop (k + 1)) = z by have h := Hs.out; rwa [if_pos h0] at h)
          rw [h0] at HC
          clear Hs h0
          go_wp2_with fail
          refine HC.out.mono ?_
          rintro e w1 ⟨rfl, rfl⟩
          clear HC
          go_wp2_with fail
          go_roundg (xs.length - (k + 1))
          case measure => omega
          case rel => exact ⟨k + 1, by go_num, by omega, by omega, Hs2, rfl⟩
        ·
          have Hs2 := Lib.hid (show cmpI x y = z by have h := Hs.out; rwa [if_neg h0] at h)
          have hne : (cmpI x y != 0) = true := by simpa using h0
          clear Hs h0
          generalize cmpI x y = c at HC Hs2 hne
          go_wp2_with fail
          refine HC.out.mono ?_
          rintro e w1 ⟨rfl, rfl⟩
          clear HC
          go_wp2_with fail
          go_ret
          exact ⟨ret_int Hs2.out, rfl⟩
      ·
        obtain rfl : k = ys.length := by omega
        have hge : decide ((ys.length : Int) ≤ ys.length) = true := decide_eq_true (by omega)
        have Hs := Lib.hid (show (1 : Int) = z by
          have h := hst.out
          rw [List.drop_length, List.drop_eq_getElem_cons hlt] at h
          exact h)
        clear hst
        go_wp2_with fail
        go_ret
        exact ⟨ret_int Hs.out, rfl⟩
    ·
      obtain rfl : k = xs.length := by omega
      by_cases hly : xs.length < ys.length
      · have hlyi : (xs.length : Int) < ys.length := by omega
        have Hs := Lib.hid (show (-1 : Int) = z by
          have h := hst.out
          rw [List.drop_length, List.drop_eq_getElem_cons hly] at h
          exact h)
        clear hst
        go_wp2_with fail
        go_ret
        exact ⟨ret_int Hs.out, rfl⟩
      · have hlyi : decide ((xs.length : Int) < ys.length) = false := decide_eq_false (by omega)
        have Hs := Lib.hid (show (0 : Int) = z by
          have h := hst.out
          rw [List.drop_length, List.drop_of_length_le (show ys.length ≤ xs.length by omega)] at h
          exact h)
        clear hst
        go_wp2_with fail
        go_ret
        exact ⟨ret_int Hs.out, rfl⟩

theorem tcmp_ent : ∀ args w, (callFunc 64 args).run Tryz.prog w = .ok (.enter 64 args) w := by intro args w; kernel_rfl
set_option maxRecDepth 100000 in
theorem tcmp_c (xs ys : List Int) (a a' : Option Addr) (cap cap' B : Nat) (w : World) (hr : RowA w B 1 a xs.length cap (xs.map (Value.int .i64))) (hr' : RowA w B 1 a' ys.length cap' (ys.map (Value.int .i64))) :
    Calls Tryz.prog 64 #[.slice a xs.length cap, .slice a' ys.length cap'] w fun e w' => e = .returned (.int .i64 (cmpL xs ys)) ∧ w' = w := by
  have HC := Lib.hid (scmp_c xs ys a a' cap cap' B w hr hr')
  clear hr hr'
  go_enter Tryz.func64, Tryz.ntmps64
  go_wp2_with fail
  refine HC.out.mono ?_
  rintro e w1 ⟨rfl, rfl⟩
  go_wp2_with fail
  go_ret
  exact ⟨rfl, rfl⟩

set_option maxHeartbeats 400000 in
theorem spath_c (a a' : Option Addr) (cap cap' B : Nat) (xs ys : List Int) (w : World) (hr : RowA w B 1 a xs.length cap (xs.map (Value.int .i64))) (hr' : RowA w B 1 a' ys.length cap' (ys.map (Value.int .i64))) :
    Calls Tryz.prog 47 #[.slice a xs.length cap, .slice a' ys.length cap'] w fun e w' => e = .returned (.bool (decide (xs = ys))) ∧ Drawn w w' := by
  have hm : xs.length ≤ 9223372036854775807 := by have h1 := hr.le; have h2 := hr.max; unfold maxLen at h2; omega
  have hm' : ys.length ≤ 9223372036854775807 := by have h1 := hr'.le; have h2 := hr'.max; unfold maxLen at h2; omega
  by_cases hl : xs.length = ys.length
  · go_enter Tryz.func47, Tryz.ntmps47
    have hle : ys.length ≤ xs.length := by omega
    have hle' : xs.length ≤ ys.length := by omega
    have hne : (((xs.length : Nat) : Int) != (ys.length : Int)) = false := by simp [hl]
    have Hl := Lib.hid hl; clear hl
    go_wp2_with fail
    go_loopw [13] (fun i wr => ∃ k : Nat, k ≤ xs.length ∧ i = .int .i64 k ∧ SameTo xs ys k ∧ Drawn w wr) (fun i _ => xs.length - (intOf i).toNat)
    case atStart => exact ⟨0, Nat.zero_le _, rfl, sameTo_zero _ _, ⟨0, rfl⟩⟩
    case round =>
      obtain ⟨k, hk, rfl, hp, q, rfl⟩ := hrel
      have Hp := Lib.hid hp; clear hp
      by_cases hlt : k < xs.length
      · obtain ⟨b, off, rfl, hb, hcell⟩ := hr.int_at k hlt
        obtain ⟨b', off', rfl, hb', hcell'⟩ := hr'.int_at k (by omega)
        have hcell := hcell k hlt
        have hcell' := hcell' k (by omega)
        have hlt' : k < ys.length := by omega
        rw [getD_of_lt hlt] at hcell
        rw [getD_of_lt hlt'] at hcell'
        go_wp2_with fail
        by_cases he : xs[k] = ys[k]
        · have hne : (xs[k] != ys[k]) = false := by simp [he]
          have He := Lib.hid he; clear he
          go_quiet (fail)
          go_wp2_with fail
          go_roundw
          case rel => exact ⟨k + 1, by omega, by go_num, sameTo_succ Hp.out hlt hlt' He.out, by first | exact drawn_one _ _ | exact drawn_two _ _ _⟩
          case measure => simp [intOf]; omega
        · have hne : (xs[k] != ys[k]) = true := by simp [he]
          have He := Lib.hid he; clear he
          go_quiet (fail)
          go_wp2_with fail
          go_ret
          exact ⟨ret_bool (by simp [same_not hlt hlt' He.out]), drawn_two _ _ _⟩
      · go_wp2_with fail
        go_ret
        obtain rfl : k = xs.length := by omega
        exact ⟨ret_bool (by simp [sameTo_all Hp.out Hl.out]), drawn_one _ _⟩
  · have hne : (((xs.length : Nat) : Int) != (ys.length : Int)) = true := by simp; omega
    have Hl := Lib.hid hl; clear hl
    go_enter Tryz.func47, Tryz.ntmps47
    go_wp2_with fail
    go_ret
    exact ⟨ret_bool (by simp [show xs ≠ ys from fun h => Hl.out (by rw [h])]), drawn_zero _⟩


theorem seq_ent : ∀ args w, (callFunc 47 args).run Tryz.prog w = .ok (.enter 47 args) w := by intro args w; kernel_rfl
theorem tsame_ent : ∀ args w, (callFunc 66 args).run Tryz.prog w = .ok (.enter 66 args) w := by intro args w; kernel_rfl
set_option maxRecDepth 100000 in
theorem tsame_c (xs ys : List Int) (a a' : Option Addr) (cap cap' B : Nat) (w : World) (hr : RowA w B 1 a xs.length cap (xs.map (Value.int .i64))) (hr' : RowA w B 1 a' ys.length cap' (ys.map (Value.int .i64))) :
    Calls Tryz.prog 66 #[.slice a xs.length cap, .slice a' ys.length cap'] w fun e w' => e = .returned (.bool (decide (xs = ys))) ∧ Drawn w w' := by
  have HC := Lib.hid (spath_c a a' cap cap' B xs ys w hr hr')
  clear hr hr'
  go_enter Tryz.func66, Tryz.ntmps66
  go_wp2_with fail
  refine HC.out.mono ?_
  rintro e w1 ⟨rfl, hd⟩
  have Hd := Lib.hid hd
  clear hd
  go_wp2_with fail
  go_ret
  exact ⟨ret_bool (by simp), Hd.out⟩

end Go.Proofs.YtajclfjedlkbcaaGreatDoor
/- Walks: whether a path is above another one. -/
namespace Go.Proofs.YtajclfjedlkbcaaGreatDoor
open Go.RowKit Go.Redl
set_option linter.unusedVariables false

/-- How many numbers both begin with. -/
def alikeN : List Int → List Int → Nat
  | x :: a, y :: b => if x = y then 1 + alikeN a b else 0
  | [], _ => 0
  | _ :: _, [] => 0
theorem alikeN_le : ∀ a b : List Int, alikeN a b ≤ a.length ∧ alikeN a b ≤ b.length
  | [], b => by simp [alikeN]
  | _ :: _, [] => by simp [alikeN]
  | x :: a, y :: b => by
    have := alikeN_le a b
    unfold alikeN
    split <;> simp <;> omega
theorem alikeN_step {xs ys : List Int} {k : Nat} (h1 : k < xs.length) (h2 : k < ys.length) : alikeN (xs.drop k) (ys.drop k) = if xs[k] = ys[k] then 1 + alikeN (xs.drop (k + 1)) (ys.drop (k + 1)) else 0 := by
  rw [List.drop_eq_getElem_cons h1, List.drop_eq_getElem_cons h2]; rfl
theorem alikeN_pre : ∀ {a b : List Int}, alikeN a b = a.length ↔ a <+: b
  | [], b => by simp [alikeN]
  | x :: a, [] => by simp [alikeN]
  | x :: a, y :: b => by
    unfold alikeN
    rw [List.cons_prefix_cons, ← alikeN_pre (a := a) (b := b)]
    split
    · rename_i h; simp [h]; omega
    · rename_i h; simp [h]
/-- One path is above another one. -/
def aboveB (a b : List Int) : Bool := decide (a.length < b.length) && decide (alikeN a b = a.length)

theorem alike_ent : ∀ args w, (callFunc 67 args).run Tryz.prog w = .ok (.enter 67 args) w := by intro args w; kernel_rfl
set_option maxRecDepth 100000 in
set_option maxHeartbeats 2000000 in
theorem alike_c (xs ys : List Int) (a a' : Option Addr) (cap cap' B : Nat) (w : World) (hr : RowA w B 1 a xs.length cap (xs.map (Value.int .i64))) (hr' : RowA w B 1 a' ys.length cap' (ys.map (Value.int .i64))) :
    Calls Tryz.prog 67 #[.slice a xs.length cap, .slice a' ys.length cap'] w fun e w' => e = .returned (.int .i64 (alikeN xs ys : Nat)) ∧ Drawn w w' := by
  obtain ⟨z, hz⟩ : ∃ z, z = alikeN xs ys := ⟨_, rfl⟩
  rw [← hz]
  have Hz := Lib.hid hz
  have H63 := Lib.hid (show xs.length ≤ 9223372036854775807 from Nat.le_trans hr.le (by have := hr.max; unfold maxLen at this; omega))
  have Hle := Lib.hid (alikeN_le xs ys)
  by_cases hle : xs.length ≤ ys.length
  · have hlei : (xs.length : Int) ≤ ys.length := by omega
    have Hor := Lib.hid hle
    clear hz
    go_enter Tryz.func67, Tryz.ntmps67
    go_wp2_with fail
    go_loopg [11, 5] xs.length (fun g i _ wr => ∃ k : Nat, i = .int .i64 k ∧ k + g = xs.length ∧ Hid (k + alikeN (xs.drop k) (ys.drop k) = z) ∧ Drawn w wr)
    case atStart => exact ⟨0, rfl, by omega, (show 0 + alikeN xs ys = z by rw [Hz.out]; omega), ⟨0, rfl⟩⟩
    case round =>
      obtain ⟨k, rfl, hg, hst, q, rfl⟩ := hrel
      by_cases hlt : k < xs.length
      · have hlti : (k : Int) < xs.length := by omega
        have hlx : k < xs.length := by have := Hor.out; omega
        have hly : k < ys.length := by have := Hor.out; omega
        have hlxi : (k : Int) < xs.length := by omega
        have hlyi : (k : Int) < ys.length := by omega
        obtain ⟨b, off, rfl, hb, hcell0⟩ := hr.int_at k hlx
        have hcell := hcell0 k hlx
        obtain ⟨b', off', rfl, hb', hcell1⟩ := hr'.int_at k hly
        have hcell' := hcell1 k hly
        rw [getD_of_lt hlx] at hcell
        rw [getD_of_lt hly] at hcell'
        have Hs := Lib.hid (show k + (if xs[k] = ys[k] then 1 + alikeN (xs.drop (k + 1)) (ys.drop (k + 1)) else 0) = z by rw [← alikeN_step hlx hly]; exact hst.out)
        have hw1 : IntKind.i64.wrap ((k : Int) + 1) = (k : Int) + 1 := IntWalk.i64_in _ (by have := H63.out; omega)
        generalize xs[k] = x at hcell Hs
        generalize ys[k] = y at hcell' Hs
        clear hcell0 hcell1 hst
        by_cases he : x = y
        · have hne : (x != y) = false := by simp [he]
          have Hs2 := Lib.hid (show (k + 1) + alikeN (xs.drop (k + 1)) (ys.drop (k + 1)) = z by have h := Hs.out; rw [if_pos he] at h; omega)
          have He := Lib.hid he
          clear he Hs
          go_wp2_with fail
          go_quiet (fail)
          go_wp2_with fail
          go_roundg (xs.length - (k + 1))
          case measure => omega
          case rel => exact ⟨k + 1, by go_num, by omega, Hs2, by first | exact drawn_one _ _ | exact drawn_two _ _ _⟩
        · have hne : (x != y) = true := by simp [he]
          have Hs2 := Lib.hid (show k = z by have h := Hs.out; rw [if_neg he] at h; omega)
          clear he Hs
          go_wp2_with fail
          go_quiet (fail)
          go_wp2_with fail
          go_ret
          exact ⟨ret_int (by first | (rw [← Hs2.out]; done) | (rw [← Hs2.out]; omega)), by first | exact drawn_one _ _ | exact drawn_two _ _ _⟩
      · obtain rfl : k = xs.length := by omega
        have Hs2 := Lib.hid (show xs.length = z by
          have h := hst.out
          have h2 := alikeN_le (xs.drop xs.length) (ys.drop xs.length)
          rw [List.length_drop, List.length_drop] at h2
          omega)
        clear hst
        go_wp2_with fail
        go_ret
        exact ⟨ret_int (by first | (rw [← Hs2.out]; done) | (rw [← Hs2.out]; omega)), by first | exact drawn_one _ _ | exact drawn_two _ _ _⟩
  · have hlei : ¬ (xs.length : Int) ≤ ys.length := by omega
    have Hor := Lib.hid hle
    clear hz
    go_enter Tryz.func67, Tryz.ntmps67
    go_wp2_with fail
    go_loopg [11, 5] ys.length (fun g i _ wr => ∃ k : Nat, i = .int .i64 k ∧ k + g = ys.length ∧ Hid (k + alikeN (xs.drop k) (ys.drop k) = z) ∧ Drawn w wr)
    case atStart => exact ⟨0, rfl, by omega, (show 0 + alikeN xs ys = z by rw [Hz.out]; omega), ⟨0, rfl⟩⟩
    case round =>
      obtain ⟨k, rfl, hg, hst, q, rfl⟩ := hrel
      by_cases hlt : k < ys.length
      · have hlti : (k : Int) < ys.length := by omega
        have hlx : k < xs.length := by have := Hor.out; omega
        have hly : k < ys.length := by have := Hor.out; omega
        have hlxi : (k : Int) < xs.length := by omega
        have hlyi : (k : Int) < ys.length := by omega
        obtain ⟨b, off, rfl, hb, hcell0⟩ := hr.int_at k hlx
        have hcell := hcell0 k hlx
        obtain ⟨b', off', rfl, hb', hcell1⟩ := hr'.int_at k hly
        have hcell' := hcell1 k hly
        rw [getD_of_lt hlx] at hcell
        rw [getD_of_lt hly] at hcell'
        have Hs := Lib.hid (show k + (if xs[k] = ys[k] then 1 + alikeN (xs.drop (k + 1)) (ys.drop (k + 1)) else 0) = z by rw [← alikeN_step hlx hly]; exact hst.out)
        have hw1 : IntKind.i64.wrap ((k : Int) + 1) = (k : Int) + 1 := IntWalk.i64_in _ (by have := H63.out; omega)
        generalize xs[k] = x at hcell Hs
        generalize ys[k] = y at hcell' Hs
        clear hcell0 hcell1 hst
        by_cases he : x = y
        · have hne : (x != y) = false := by simp [he]
          have Hs2 := Lib.hid (show (k + 1) + alikeN (xs.drop (k + 1)) (ys.drop (k + 1)) = z by have h := Hs.out; rw [if_pos he] at h; omega)
          have He := Lib.hid he
          clear he Hs
          go_wp2_with fail
          go_quiet (fail)
          go_wp2_with fail
          go_roundg (ys.length - (k + 1))
          case measure => omega
          case rel => exact ⟨k + 1, by go_num, by omega, Hs2, by first | exact drawn_one _ _ | exact drawn_two _ _ _⟩
        · have hne : (x != y) = true := by simp [he]
          have Hs2 := Lib.hid (show k = z by have h := Hs.out; rw [if_neg he] at h; omega)
          clear he Hs
          go_wp2_with fail
          go_quiet (fail)
          go_wp2_with fail
          go_ret
          exact ⟨ret_int (by first | (rw [← Hs2.out]; done) | (rw [← Hs2.out]; omega)), by first | exact drawn_one _ _ | exact drawn_two _ _ _⟩
      · obtain rfl : k = ys.length := by omega
        have Hs2 := Lib.hid (show ys.length = z by
          have h := hst.out
          have h2 := alikeN_le (xs.drop ys.length) (ys.drop ys.length)
          rw [List.length_drop, List.length_drop] at h2
          omega)
        clear hst
        go_wp2_with fail
        go_ret
        exact ⟨ret_int (by first | (rw [← Hs2.out]; done) | (rw [← Hs2.out]; omega)), by first | exact drawn_one _ _ | exact drawn_two _ _ _⟩

theorem above_ent : ∀ args w, (callFunc 34 args).run Tryz.prog w = .ok (.enter 34 args) w := by intro args w; kernel_rfl
set_option maxRecDepth 100000 in
theorem above_c (xs ys : List Int) (a a' : Option Addr) (cap cap' B : Nat) (w : World) (hr : RowA w B 1 a xs.length cap (xs.map (Value.int .i64))) (hr' : RowA w B 1 a' ys.length cap' (ys.map (Value.int .i64))) :
    Calls Tryz.prog 34 #[.slice a xs.length cap, .slice a' ys.length cap'] w fun e w' => e = .returned (.bool (aboveB xs ys)) ∧ Drawn w w' := by
  have HC := Lib.hid (alike_c xs ys a a' cap cap' B w hr hr')
  clear hr hr'
  unfold aboveB
  by_cases hlt : xs.length < ys.length
  · have hlti : (xs.length : Int) < ys.length := by omega
    obtain ⟨z, hz⟩ : ∃ z, z = alikeN xs ys := ⟨_, rfl⟩
    rw [← hz] at HC ⊢
    have Hlt := Lib.hid (decide_eq_true hlt)
    have hbe : ((z : Int) == (xs.length : Int)) = decide (z = xs.length) := by
      by_cases h : z = xs.length
      · subst h; simp
      · rw [decide_eq_false h]; simp; omega
    clear hz hlt
    go_enter Tryz.func34, Tryz.ntmps34
    go_wp2_with fail
    refine HC.out.mono ?_
    rintro e w1 ⟨rfl, hd⟩
    have Hd := Lib.hid hd
    clear hd
    go_wp2_with fail
    go_ret
    exact ⟨ret_bool (by rw [Hlt.out]; simp), Hd.out⟩
  · have hlti : ¬ (xs.length : Int) < ys.length := by omega
    have Hlt := Lib.hid (decide_eq_false hlt)
    clear hlt HC
    go_enter Tryz.func34, Tryz.ntmps34
    go_wp2_with fail
    go_ret
    exact ⟨ret_bool (by rw [Hlt.out]; simp), ⟨0, rfl⟩⟩

end Go.Proofs.YtajclfjedlkbcaaGreatDoor
/- Walks: slices.DeleteFunc at rows of paths. -/
namespace Go.Proofs.YtajclfjedlkbcaaGreatDoor
open Go.RowKit Go.Redl
set_option linter.unusedVariables false

theorem At.setCells {b : Nat} {T : TypeId} : ∀ (vs : List Value) (o : Nat) (w : World) (cs : List Value), At w b cs T → ∃ cs', cs'.length = cs.length ∧ cs'.take o = cs.take o ∧ At (w.setCells b o vs) b cs' T
  | [], o, w, cs, h => ⟨cs, rfl, rfl, h⟩
  | v :: vs, o, w, cs, h => by
    obtain ⟨cs', h1, h2, h3⟩ := At.setCells vs (o + 1) (w.setCell ⟨b, o, none⟩ v) (cs.set o v) (h.set o v)
    refine ⟨cs', by rw [h1, List.length_set], ?_, h3⟩
    have h4 := congrArg (List.take o) h2
    rw [List.take_take, List.take_take, Nat.min_eq_left (by omega)] at h4
    rw [h4, List.take_set_of_le (Nat.le_refl _)]
theorem _root_.Go.World.grownBy.setCells {w0 : World} {b : Nat} : ∀ (vs : List Value) (o : Nat) (w : World), w0.grownBy w (some b) → w0.grownBy (w.setCells b o vs) (some b)
  | [], o, w, h => h
  | v :: vs, o, w, h => World.grownBy.setCells vs (o + 1) _ (h.set o v)
/-- A part of a row, the rest made zero. -/
theorem RowX.cut {w : World} {M L b cap i n : Nat} {zs : List PX} {tl : List Value} (hM : M ≤ b) (hA : At w b (zs.map pxV ++ tl) 47) (hl : zs.length + tl.length = cap) (hm : cap ≤ maxLen) (hi : i ≤ zs.length) (hq : ∀ x ∈ zs, PxQ w (fun k => L ≤ k ∧ k ≠ b) x) (vs : List Value) :
    RowX (w.setCells b i vs) M L (.slice (some ⟨b, 0, none⟩) (zs.take i).length cap) (zs.take i) := by
  obtain ⟨cs', h1, h2, h3⟩ := hA.setCells vs i
  have h4 : cs' = (zs.take i).map pxV ++ cs'.drop i := by
    have h5 := List.take_append_drop i cs'
    rw [h2, List.take_append_of_le_length (by simpa using hi), ← List.map_take] at h5
    exact h5.symm
  rw [h4] at h3
  refine RowX.shut hM h3 ?_ hm fun x hx => (hq x (List.mem_of_mem_take hx)).grown ((World.grownBy.refl w _).setCells vs i w)
  simp at h1 ⊢
  omega

set_option maxRecDepth 100000 in
set_option maxHeartbeats 1000000 in
theorem idx_path (n : Nat) (a : Option Addr) (cap cb : Nat) (caps : Array Value) (pred : Nat → Bool) (W : World) (hn : n ≤ 100000000) (hcb : ∀ args w, (callFunc cb args).run Tryz.prog w = .ok (.enter cb args) w)
    (H : ∀ (k : Nat) (W' : World), k < n → Below W.heap.size W W' → ∃ b off c0, a = some ⟨b, off, none⟩ ∧ W'.cell? ⟨b, off + k, none⟩ = some c0 ∧ Calls Tryz.prog cb (#[c0] ++ caps) W' fun e w' => e = .returned (.bool (pred k)) ∧ Below W'.heap.size W' w') :
    Calls Tryz.prog 112 #[.slice a n cap, .func (.func cb) #[] caps] W fun e w' => e = .returned (.int .i64 (idxP pred n)) ∧ Below W.heap.size W w' := by
  have HH := Lib.hid H
  clear H
  go_enter Tryz.func112, Tryz.ntmps112
  go_wp2_with fail
  go_loopg [8] n (fun g i wr => ∃ k : Nat, k + g = n ∧ i = .int .i64 k ∧ (∀ j, j < k → pred j = false) ∧ Below W.heap.size W wr)
  case atStart => exact ⟨0, by omega, rfl, by intro j hj; omega, Below.refl _ _⟩
  case round =>
    obtain ⟨k, hg, rfl, hb, hbr⟩ := hrel
    have Hbr := Lib.hid hbr; have Hb := Lib.hid hb
    by_cases hlt : k < n
    · obtain ⟨b, off, c0, rfl, h0, hC⟩ := HH.out k wr hlt hbr
      have hlti : (k : Int) < n := by omega
      clear hb hbr HH
      cases hp : pred k with
      | true =>
        rw [hp] at hC
        have HC := Lib.hid hC
        have Hr := Lib.hid (idxP_some hlt hp Hb.out)
        clear hC hp
        go_wp2_with fail
        refine HC.out.mono ?_
        rintro e w1 ⟨rfl, hbel⟩
        have Hb1 := Lib.hid (Hbr.out.trans (hbel.mono Hbr.out.size))
        clear hbel HC
        go_wp2_with fail
        go_ret
        exact ⟨ret_int Hr.out.symm, Hb1.out⟩
      | false =>
        rw [hp] at hC
        have HC := Lib.hid hC
        have Hr := Lib.hid (show ∀ j, j < k + 1 → pred j = false from fun j hj => by
          rcases Nat.lt_or_ge j k with h | h
          · exact Hb.out j h
          · obtain rfl : j = k := by omega
            exact hp)
        clear hC hp
        go_wp2_with fail
        refine HC.out.mono ?_
        rintro e w1 ⟨rfl, hbel⟩
        have Hb1 := Lib.hid (Hbr.out.trans (hbel.mono Hbr.out.size))
        clear hbel HC
        go_wp2_with fail
        go_roundg (gk - 1)
        case measure => omega
        case rel => exact ⟨k + 1, by omega, by go_num, Hr.out, Hb1.out⟩
    · obtain rfl : k = n := by omega
      have Hr := Lib.hid (idxP_none hb)
      clear hb hbr HH
      go_wp2_with fail
      go_ret
      exact ⟨ret_int Hr.out.symm, Hbr.out⟩

theorem idxpath_ent : ∀ args w, (callFunc 112 args).run Tryz.prog w = .ok (.enter 112 args) w := by intro args w; kernel_rfl

abbrev px0 : PX := ([], none, 0)
theorem px_get {xs : List PX} {k : Nat} (hk : k < xs.length) : xs.getD k px0 = xs[k] := by simp [List.getD, List.getElem?_eq_getElem hk]
theorem px_cell {w : World} {b : Nat} {xs : List PX} {tl : List Value} {T : TypeId} (h : At w b (xs.map pxV ++ tl) T) (k : Nat) (hk : k < xs.length) : w.cell? ⟨b, k, none⟩ = some (pxV xs[k]) :=
  h.cell k (by rw [List.getElem?_append_left (by simpa using hk)]; simp [List.getElem?_eq_getElem hk])
/-- What is left of a row, a predicate's being struck. -/
def DelP (W : World) (M L : Nat) (v : Value) (l : List PX) (e : Ending) (w' : World) : Prop :=
  ∃ v', e = .returned v' ∧ RowX w' M L v' l ∧ (∀ k, v'.ownBlock = some k → v.ownBlock = some k) ∧ W.grownBy w' v.ownBlock

set_option maxRecDepth 100000 in
set_option maxHeartbeats 2000000 in
theorem delx_c (g : Nat) (lb : Array Value) (p : PX → Bool) (M L : Nat) (v : Value) (xs : List PX) (W : World) (hg : ∀ args w, (callFunc g args).run Tryz.prog w = .ok (.enter g args) w) (hx : RowX W M L v xs) (hn : xs.length ≤ 100000000)
    (hp : ∀ x ∈ xs, ∀ W', W.grownBy W' v.ownBlock → Calls Tryz.prog g (#[pxV x] ++ lb) W' fun e w' => e = .returned (.bool (p x)) ∧ Below W'.heap.size W' w') :
    Calls Tryz.prog 75 #[v, .func (.func g) #[] lb] W (DelP W M L v (xs.filter fun x => !p x)) := by
  rcases hx.open with ⟨rfl, rfl⟩ | ⟨b, cap, tl, rfl, hMb, hA, hcl, hcm⟩
  · have HI := Lib.hid (idx_path 0 none 0 g lb (fun _ => false) W (by omega) hg (fun k W' hk => by omega))
    rw [show idxP (fun _ => false) 0 = -1 by rfl] at HI
    clear hp hx hn hg
    go_enter Tryz.func75, Tryz.ntmps75
    go_wp2_with fail
    refine HI.out.mono ?_
    rintro e w1 ⟨rfl, hbel⟩
    have Hb := Lib.hid hbel
    clear hbel HI
    go_wp2_with fail
    go_ret
    exact ⟨_, rfl, RowX.nil _ _ _, fun k hk => hk, grown_of_below Hb.out⟩
  · have hq0 : ∀ x ∈ xs, PxQ W (fun k => L ≤ k ∧ k ≠ b) x := fun x hx' => rowq_imp (hx.all x hx') fun k hk => ⟨hk.1, fun e => hk.2 (by rw [e]; rfl)⟩
    have hown : (Value.slice (some ⟨b, 0, none⟩) xs.length cap).ownBlock = some b := rfl
    rw [hown] at hp
    have HI := Lib.hid (idx_path xs.length (some ⟨b, 0, none⟩) cap g lb (fun k => p (xs.getD k px0)) W hn hg (fun k W' hk hb => by
      refine ⟨b, 0, pxV xs[k], rfl, ?_, ?_⟩
      · rw [Nat.zero_add]; exact px_cell (hA.kept hb) k hk
      · rw [px_get hk]; exact hp _ (List.getElem_mem hk) W' (grown_of_below hb)))
    have HA := Lib.hid hA; have Hq0 := Lib.hid hq0; have HP := Lib.hid hp
    rcases idxP_cases (fun k => p (xs.getD k px0)) xs.length with ⟨k0, hk0, ht, hb, he⟩ | ⟨hb, he⟩
    · rw [he] at HI
      have hpk : p xs[k0] = true := by have h := ht; simp only [px_get hk0] at h; exact h
      have hstart := Lib.hid (show xs.take k0 = (xs.take (k0 + 1)).filter (fun x => !p x) by
        rw [List.take_succ_eq_append_getElem hk0, List.filter_append, List.filter_cons_of_neg (by simp [hpk]), List.filter_nil, List.append_nil]
        refine (List.filter_eq_self.2 fun x hx' => ?_).symm
        obtain ⟨k, hk, rfl⟩ := List.mem_iff_getElem.1 hx'
        have hk' : k < k0 := by simp at hk; omega
        have := hb k hk'
        rw [px_get (by omega)] at this
        simp [this])
      have hne1 : ((k0 : Int) == -1) = false := beq_eq_false_iff_ne.2 (by omega)
      clear hp hx hb he hA hq0 hown ht hpk
      go_enter Tryz.func75, Tryz.ntmps75
      go_wp2_with fail
      refine HI.out.mono ?_
      rintro e w1 ⟨rfl, hbel⟩
      have HA1 := Lib.hid (HA.out.kept hbel)
      have HG1 := Lib.hid (grown_of_below (r := some b) hbel)
      clear hbel HI
      go_wp2_with fail
      go_loopg [5, 6, 7] xs.length (fun gg s5 s6 _ wr => ∃ (i j : Nat) (zs : List PX), s5 = .int .i64 i ∧ s6 = .int .i64 j ∧ zs.length = xs.length ∧ i < j ∧ j ≤ xs.length ∧ xs.length - j ≤ gg ∧ Hid (zs.take i = (xs.take j).filter (fun x => !p x)) ∧ Hid (zs.drop j = xs.drop j) ∧ Hid (∀ z ∈ zs, z ∈ xs) ∧ Hid (At wr b (zs.map pxV ++ tl) 47) ∧ Hid (W.grownBy wr (some b)))
      case atStart => exact ⟨k0, k0 + 1, xs, rfl, by go_num, rfl, by omega, by omega, by omega, hstart, rfl, fun z hz => hz, HA1, HG1⟩
      case round =>
        obtain ⟨i, j, zs, rfl, rfl, hzl, hij, hjn, hgg, hdone, hrest, hmem, hAt, hgr⟩ := hrel
        by_cases hlt : j < xs.length
        · have hlti : (j : Int) < (xs.length : Int) := by omega
          have hiti : (i : Int) < (xs.length : Int) := by omega
          have hzj : zs[j] = xs[j] := by
            have h := hrest.out
            rw [List.drop_eq_getElem_cons hlt, List.drop_eq_getElem_cons (by omega)] at h
            exact (List.cons.inj h).1
          have cj := px_cell hAt.out j (by omega)
          have ci := px_cell hAt.out i (by omega)
          have cf : wr.frozen? ⟨b, i, none⟩ = false := Lib.frozen_of_heap hAt.out _
          rw [hzj] at cj
          have hC := HP.out xs[j] (List.getElem_mem hlt) wr hgr.out
          have Hxj := Lib.hid (show xs[j] ∈ xs from List.getElem_mem hlt)
          have Hst := Lib.hid (show xs.take (j + 1) = xs.take j ++ [xs[j]] from List.take_succ_eq_append_getElem hlt)
          have hcl1 : (pxV xs[j]).cells = #[pxV xs[j]] := rfl
          have Hbw := Lib.hid (At.lt hAt.out)
          generalize xs[j] = u at cj hC hzj Hxj Hst
          generalize zs[i] = old at ci
          obtain ⟨zu, za, zc⟩ := u
          cases hq : p (zu, za, zc) with
          | false =>
            rw [hq] at hC
            have HC := Lib.hid hC; have HQ := Lib.hid hq
            unfold pxV at cj HC
            clear hC hq hzj ci cf
            go_wp2_with fail
            refine HC.out.mono ?_
            rintro e w2 ⟨rfl, hbel⟩
            have HA2 := Lib.hid (hAt.out.kept hbel); have HG2 := Lib.hid (hgr.out.then hbel)
            have ci := px_cell HA2.out i (by omega)
            have cf : w2.frozen? ⟨b, i, none⟩ = false := Lib.frozen_of_heap HA2.out _
            have hi2 : i < zs.length := by omega
            generalize zs[i] = old at ci
            clear hbel HC cj
            go_wp2_with fail
            go_roundg (xs.length - (j + 1))
            case measure => omega
            case rel =>
              refine ⟨i + 1, j + 1, zs.set i (zu, za, zc), by go_num, by go_num, by rw [List.length_set]; exact hzl, by omega, by omega, Nat.le_refl _, ?_, ?_, ?_, ?_, HG2.out.set i _⟩
              · show (zs.set i (zu, za, zc)).take (i + 1) = (xs.take (j + 1)).filter (fun x => !p x)
                rw [Hst.out, List.filter_append, List.filter_cons_of_pos (by simp [HQ.out]), List.filter_nil, ← hdone.out, List.take_set, List.take_succ_eq_append_getElem hi2, List.set_append_right _ _ (by simp; omega)]
                simp [Nat.min_eq_left (Nat.le_of_lt hi2)]
              · show (zs.set i (zu, za, zc)).drop (j + 1) = xs.drop (j + 1)
                rw [List.drop_set_of_lt (by omega), ← List.drop_drop, ← List.drop_drop, hrest.out]
              · intro z hz
                rcases List.mem_or_eq_of_mem_set hz with h | h
                · exact hmem.out z h
                · rw [h]; exact Hxj.out
              · show At _ b ((zs.set i (zu, za, zc)).map pxV ++ tl) 47
                have h := HA2.out.set i (pxV (zu, za, zc))
                rw [List.set_append_left _ _ (by simpa using hi2), ← List.map_set] at h
                exact h
          | true =>
            rw [hq] at hC
            have HC := Lib.hid hC; have HQ := Lib.hid hq
            unfold pxV at cj HC
            clear hC hq ci cf hzj
            go_wp2_with fail
            refine HC.out.mono ?_
            rintro e w2 ⟨rfl, hbel⟩
            have HA2 := Lib.hid (hAt.out.kept hbel); have HG2 := Lib.hid (hgr.out.then hbel)
            clear hbel HC cj
            go_wp2_with fail
            go_roundg (xs.length - (j + 1))
            case measure => omega
            case rel =>
              refine ⟨i, j + 1, zs, rfl, by go_num, hzl, by omega, by omega, Nat.le_refl _, ?_, ?_, hmem, HA2, HG2⟩
              · show zs.take i = (xs.take (j + 1)).filter (fun x => !p x)
                rw [Hst.out, List.filter_append, List.filter_cons_of_neg (by simp [HQ.out]), List.filter_nil, List.append_nil]
                exact hdone.out
              · show zs.drop (j + 1) = xs.drop (j + 1)
                rw [← List.drop_drop, ← List.drop_drop, hrest.out]
        · obtain rfl : j = xs.length := by omega
          have hltz : ¬ (xs.length : Int) < (xs.length : Int) := by omega
          have hiti : (i : Int) ≤ (xs.length : Int) := by omega
          have hcl := fun ty => Lib.run_clear_slice (P := Tryz.prog) wr 36 47 ty (.slice none 0 0) Tryz.underlying36 (fun w => by kernel_rfl) rfl rfl b (0 + i) (xs.length - i) (cap - i) (by omega) (fun k hk => by
            have := px_cell hAt.out (i + k) (by omega)
            rw [Nat.zero_add, this]; rfl) (fun k hk => Lib.frozen_of_heap hAt.out _)
          rw [Nat.zero_add] at hcl
          have Hcut := Lib.hid (RowX.cut (i := i) (n := xs.length) hMb hAt.out (by omega) hcm (by omega) (fun x hx' => (Hq0.out x (hmem.out x hx')).grown hgr.out))
          have Hgs := Lib.hid (fun vs => World.grownBy.setCells vs i wr hgr.out)
          have Hfin := Lib.hid (show zs.take i = xs.filter (fun x => !p x) by have := hdone.out; rwa [List.take_length] at this)
          have Hlen : Hid ((zs.take i).length = i) := by show _ = _; simp; omega
          obtain ⟨vs, hvs⟩ : ∃ vs, vs = List.replicate (xs.length - i) (Value.slice none 0 0) := ⟨_, rfl⟩
          rw [← hvs] at hcl
          clear hAt hgr hvs
          go_wp2_with fail
          go_ret
          rw [← Hfin.out]
          refine ⟨.slice (some ⟨b, 0, none⟩) (zs.take i).length cap, by rw [Hlen.out]; rfl, Hcut.out vs, fun k hk => hk, Hgs.out vs⟩
    · rw [he] at HI
      have Hf := Lib.hid (show xs.filter (fun x => !p x) = xs from List.filter_eq_self.2 fun x hx' => by
        obtain ⟨k, hk, rfl⟩ := List.mem_iff_getElem.1 hx'
        have := hb k hk
        rw [px_get hk] at this
        simp [this])
      have Hx := Lib.hid hx
      clear hp hx hg hb he hA hq0 hown HP
      go_enter Tryz.func75, Tryz.ntmps75
      go_wp2_with fail
      refine HI.out.mono ?_
      rintro e w1 ⟨rfl, hbel⟩
      have Hb := Lib.hid hbel
      clear hbel HI
      go_wp2_with fail
      go_ret
      rw [Hf.out]
      exact ⟨_, rfl, Hx.out.below Hb.out, fun k hk => hk, grown_of_below Hb.out⟩

end Go.Proofs.YtajclfjedlkbcaaGreatDoor
