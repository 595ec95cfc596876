/- Parts of the proof, one behind the other: RTK, RTL, RTM. -/
import Derived.Test.YtbommcakcmhalaaGreatDoorLM9
/- Walks: tree.Put, Add, Cut. -/
set_option linter.unusedVariables false
set_option linter.unusedSimpArgs false
set_option maxHeartbeats 4000000
set_option maxRecDepth 100000
namespace Go.Proofs.YtbommcakcmhalaaGreatDoor
open Go.RowKit Go.Redl
/-- A tree, or why there is none. -/
def TreeP (W : World) (R : NodeD × Int) (e : Ending) (w' : World) : Prop :=
 Below W.heap.size W w' /\ if R.2 = 0 then ∃ cs, e = .returned (.tuple #[.agg cs.toArray, .int .i64 0]) /\ NodeQ w' (fun b => W.heap.size <= b) R.1 cs
  else e = .returned (.tuple #[.agg #[.bool false, .slice none 0 0, .slice none 0 0, .slice none 0 0], .int .i64 R.2])
theorem TreeP.of_changed {W w : World} {n : NodeD} {p : List Int} {R : NodeD -> NodeD × Int} {e : Ending} {w' : World} {r : NodeD × Int} (hb : Below W.heap.size W w) (h : ChangedP w n p R e w')
 (hr : r = match atN n p with | none => (zeroN, 5) | some m => if (R m).2 = 0 then (putN n p (R m).1, 0) else (zeroN, (R m).2)) : TreeP W r e w' := by
 obtain ⟨h1, h2⟩ := h
 refine ⟨hb.trans (h1.mono hb.size), ?_⟩
 subst hr
 cases hat : atN n p with
 | none => rw [hat] at h2; simp only; rw [if_neg (by decide)]; exact h2
 | some m =>
   rw [hat] at h2
   simp only at h2 ⊢
   by_cases hz : (R m).2 = 0
   . rw [if_pos hz] at h2
     simp only [hz, if_true]
     obtain ⟨cs, rfl, hq⟩ := h2
     exact ⟨cs, rfl, NodeQ.keep (Nat.le_refl _) (fun _ _ _ => rfl) (fun x hx _ => Nat.le_trans hb.size hx) _ _ hq⟩
   . rw [if_neg hz] at h2
     simp only [hz, if_false]
     exact h2
/-- The result's box written. -/
theorem tree_ok {W w0 w1 : World} {N : Nat} {r : NodeD} {l : Bool} {b1 b2 b3 : Option Addr} {o1 o2 o3 d1 d2 d3 : Nat} (hb : Below W.heap.size W w1) (hW : W.heap.size <= w0.heap.size) (hN : N < w0.heap.size) (hN2 : W.heap.size <= N) (hq : NodeQ w1 (fun b => w0.heap.size <= b) r [.bool l, .slice b1 o1 d1, .slice b2 o2 d2, .slice b3 o3 d3]) :
 TreeP W (r, 0) (.returned (.tuple #[.agg #[.bool l, .slice b1 o1 d1, .slice b2 o2 d2, .slice b3 o3 d3], .int .i64 0])) ((((w1.setCell ⟨N, 0, none⟩ (.bool l)).setCell ⟨N, 1, none⟩ (.slice b1 o1 d1)).setCell ⟨N, 2, none⟩ (.slice b2 o2 d2)).setCell ⟨N, 3, none⟩ (.slice b3 o3 d3)) := by
 refine ⟨below_all hb hN2 _ _ _ _, ?_⟩
 rw [if_pos rfl]
 have hne : ¬ (w0.heap.size <= N) := by omega
 exact ⟨_, rfl, NodeQ.keep (Nat.le_refl _) (fun _ _ _ => rfl) (fun b hb _ => Nat.le_trans hW hb) _ _ (nodeq_set (nodeq_set (nodeq_set (nodeq_set hq hne) hne) hne) hne)⟩
theorem tree_no {W w1 : World} {N : Nat} {r : NodeD × Int} (hb : Below W.heap.size W w1) (hN2 : W.heap.size <= N) (hr : r.2 ≠ 0) :
 TreeP W r (.returned (.tuple #[.agg #[.bool false, .slice none 0 0, .slice none 0 0, .slice none 0 0], .int .i64 r.2])) ((((w1.setCell ⟨N, 0, none⟩ (.bool false)).setCell ⟨N, 1, none⟩ (.slice none 0 0)).setCell ⟨N, 2, none⟩ (.slice none 0 0)).setCell ⟨N, 3, none⟩ (.slice none 0 0)) := by
 refine ⟨below_all hb hN2 _ _ _ _, ?_⟩
 rw [if_neg hr]
theorem TreeP.cases {W : World} {R : NodeD × Int} {e : Ending} {w' : World} (h : TreeP W R e w') : Below W.heap.size W w' /\ ((R.2 = 0 /\ ∃ l b1 o1 d1 b2 o2 d2 b3 o3 d3, e = .returned (.tuple #[.agg #[.bool l, .slice b1 o1 d1, .slice b2 o2 d2, .slice b3 o3 d3], .int .i64 0]) /\ NodeQ w' (fun b => W.heap.size <= b) R.1 [.bool l, .slice b1 o1 d1, .slice b2 o2 d2, .slice b3 o3 d3]) ∨
 (R.2 ≠ 0 /\ e = .returned (.tuple #[.agg #[.bool false, .slice none 0 0, .slice none 0 0, .slice none 0 0], .int .i64 R.2]))) := by
 obtain ⟨h1, h2⟩ := h
 refine ⟨h1, ?_⟩
 by_cases hz : R.2 = 0
 . rw [if_pos hz] at h2
   obtain ⟨cs, rfl, hq⟩ := h2
   obtain ⟨l, b1, o1, d1, b2, o2, d2, b3, o3, d3, rfl⟩ := hq.form
   exact .inl ⟨hz, l, b1, o1, d1, b2, o2, d2, b3, o3, d3, rfl, hq⟩
 . rw [if_neg hz] at h2
   exact .inr ⟨hz, h2⟩
theorem put_c (n m' : NodeD) (p : List Int) (v v' : Value) (pa : Option Addr) (pc : Nat) (W : World) (hbig : n.wt <= 100000000) (hbig' : m'.wt <= 100000000) (hv : NodeV W W.heap.size n v) (hv' : NodeV W W.heap.size m' v') (hp : RowA W W.heap.size 1 pa p.length pc (p.map (Value.int .i64))) :
 Calls Tryz.prog 191 #[v, .slice pa p.length pc, v'] W (TreeP W (putE n p m')) := by
 obtain ⟨R, hR⟩ : ∃ R, R = putE n p m' := ⟨_, rfl⟩
 rw [<- hR]
 have HR := Lib.hid hR
 obtain ⟨csn, rfl, hc⟩ := hv
 obtain ⟨l, a1, n1, c1, a2, n2, c2, a3, n3, c3, rfl⟩ := hc.form
 obtain ⟨csm, rfl, hcm⟩ := hv'
 obtain ⟨e0, b1, m1, d1, b2, m2, d2, b3, m3, d3, rfl⟩ := hcm.form
 clear hR
 obtain ⟨w0, hw0⟩ : ∃ w0, w0 = ((W.alloc (Obj.cells #[.bool l, .slice a1 n1 c1, .slice a2 n2 c2, .slice a3 n3 c3] 35)).alloc (Obj.cells #[.bool e0, .slice b1 m1 d1, .slice b2 m2 d2, .slice b3 m3 d3] 35)).alloc (Obj.cells #[.bool false, .slice none 0 0, .slice none 0 0, .slice none 0 0] 35) := ⟨_, rfl⟩
 have hb0 : Below W.heap.size W w0 := by rw [hw0]; exact three_below _ _ _ _
 have hA : NodeAt w0 W.heap.size (.bool l) (.slice a1 n1 c1) (.slice a2 n2 c2) (.slice a3 n3 c3) := by rw [hw0]; exact ((NodeAt.fresh W _ _ _ _).alloc _).alloc _
 have hM : NodeAt w0 (W.heap.size + 1) (.bool e0) (.slice b1 m1 d1) (.slice b2 m2 d2) (.slice b3 m3 d3) := by rw [hw0]; exact (node_second W _ _ _ _ _).alloc _
 have hB : NodeAt w0 (W.heap.size + 1 + 1) (.bool false) (.slice none 0 0) (.slice none 0 0) (.slice none 0 0) := by rw [hw0]; exact At.third W _ _ _ _
 have hs0 : w0.heap.size = W.heap.size + 3 := by rw [hw0]; simp
 have hvm : NodeV w0 w0.heap.size m' (.agg #[.bool e0, .slice b1 m1 d1, .slice b2 m2 d2, .slice b3 m3 d3]) := ⟨_, rfl, NodeC.keep hb0 hb0.size _ _ hcm⟩
 have HC := Lib.hid (changed_c 241 #[.pointer (some ⟨W.heap.size + 1, 0, none⟩)] put1_ent n p (.agg #[.bool l, .slice a1 n1 c1, .slice a2 n2 c2, .slice a3 n3 c3]) pa pc (fun _ => (m', 0)) w0 hbig ⟨_, rfl, NodeC.keep hb0 hb0.size _ _ hc⟩ (hp.keep hb0 hb0.size) (fun m _ => put1_c m' m (W.heap.size + 1) e0 b1 b2 b3 m1 m2 m3 d1 d2 d3 w0 hM hvm hbig'))
 obtain ⟨y0, y1, y2, y3, -, -⟩ := hA.facts
 have Hw0 := Lib.hid hw0; have Hb0 := Lib.hid hb0; have HB := Lib.hid hB; have Hs0 := Lib.hid hs0
 clear hc hcm hb0 hA hM hB hs0 hvm hp hw0
 go_enter Tryz.func191, Tryz.ntmps191
 go_upto_region 1 with fail
 rw [<- Hw0.out]
 clear Hw0
 go_wp2_with fail
 refine HC.out.mono ?_
 intro e w1 hch
 have ht : TreeP w0 R e w1 := TreeP.of_changed (Below.refl _ _) hch (by rw [HR.out]; unfold putE; cases atN n p <;> rfl)
 clear HR
 obtain ⟨R1, R2⟩ := R
 have hB1 := HB.out.keep (hch.1.mono (by rw [Hs0.out]; omega))
 obtain ⟨x0, x1, x2, x3, ⟨f0, f1, f2, f3⟩, -⟩ := hB1.facts
 obtain ⟨hb1, ⟨hz, l', k1, o1, r1, k2, o2, r2, k3, o3, r3, rfl, hq⟩ | ⟨hz, rfl⟩⟩ := ht.cases
 . simp only at hz
   subst hz
   have Hq := Lib.hid hq; have Hb1 := Lib.hid (Hb0.out.trans (hb1.mono Hb0.out.size))
   clear HC hch ht hB1 hb1 hq y0 y1 y2 y3
   go_wp2_with fail
   refine bodyPost_ret (v := .tuple #[.agg #[.bool l', .slice k1 o1 r1, .slice k2 o2 r2, .slice k3 o3 r3], .int .i64 0]) (by simp [results, Tryz.results191, go_sem, x0, x1, x2, x3, f0, f1, f2, f3]) rfl ?_
   exact tree_ok (N := W.heap.size + 1 + 1) Hb1.out Hb0.out.size (by rw [Hs0.out]; omega) (by omega) Hq.out
 . have Hz := Lib.hid hz; have Hb1 := Lib.hid (Hb0.out.trans (hb1.mono Hb0.out.size))
   clear HC hch ht hB1 hb1 hz y0 y1 y2 y3
   simp only
   go_wp2_with fail
   refine bodyPost_ret (v := .tuple #[.agg #[.bool false, .slice none 0 0, .slice none 0 0, .slice none 0 0], .int .i64 R2]) (by simp [results, Tryz.results191, go_sem, x0, x1, x2, x3, f0, f1, f2, f3]) rfl ?_
   exact tree_no (N := W.heap.size + 1 + 1) (r := (R1, R2)) Hb1.out (by omega) Hz.out
theorem row_up {w : World} {B pc : Nat} {a : Option Addr} {q : List Int} {i : Int} (h : RowA w B 1 a (q ++ [i]).length pc ((q ++ [i]).map (Value.int .i64))) :
 ∃ b off, a = some ⟨b, off, none⟩ /\ b < B /\ w.cell? ⟨b, off + q.length, none⟩ = some (.int .i64 i) /\ RowA w B 1 (some ⟨b, off, none⟩) q.length pc (q.map (Value.int .i64)) := by
 obtain ⟨b, off, ha, hb, hc⟩ := h.some_ (by simp)
 have hle := h.le
 rw [List.length_append, List.length_singleton] at hle
 refine ⟨b, off, ha, hb, hc _ _ (by simp), ⟨by simp, by omega, h.max, (by intro u hu; obtain ⟨z, -, rfl⟩ := List.mem_map.1 hu; rfl), (fun e => by cases e), fun _ => ⟨b, off, rfl, hb, fun j u hj => hc j u ?_⟩⟩⟩
 rw [List.map_append, List.getElem?_append_left]
 . exact hj
 . rcases Nat.lt_or_ge j (q.map (Value.int .i64)).length with h | h
   . exact h
   . rw [List.getElem?_eq_none h] at hj; cases hj
theorem add_nil (n m' : NodeD) (v v' : Value) (pa : Option Addr) (pc : Nat) (W : World) (hv : NodeV W W.heap.size n v) (hv' : NodeV W W.heap.size m' v') :
 Calls Tryz.prog 130 #[v, .slice pa 0 pc, v'] W (TreeP W (zeroN, 6)) := by
 obtain ⟨csn, rfl, hc⟩ := hv
 obtain ⟨l, a1, n1, c1, a2, n2, c2, a3, n3, c3, rfl⟩ := hc.form
 obtain ⟨csm, rfl, hcm⟩ := hv'
 obtain ⟨e0, b1, m1, d1, b2, m2, d2, b3, m3, d3, rfl⟩ := hcm.form
 clear hc hcm
 go_enter Tryz.func130, Tryz.ntmps130
 go_wp2_with fail
 refine bodyPost_ret (v := .tuple #[.agg #[.bool false, .slice none 0 0, .slice none 0 0, .slice none 0 0], .int .i64 6]) (by simp [results, Tryz.results130, go_sem]) rfl ?_
 exact ⟨three_below _ _ _ _, by rw [if_neg (by decide)]⟩
theorem add1_c (m' m : NodeD) (i : Int) (M N : Nat) (e0 : Bool) (a1 a2 a3 : Option Addr) (n1 n2 n3 q1 q2 q3 : Nat) (W : World) (hM : W.cell? ⟨M, 0, none⟩ = some (.int .i64 i)) (hMW : M < W.heap.size) (hN : At W N [.bool e0, .slice a1 n1 q1, .slice a2 n2 q2, .slice a3 n3 q3] 35) (hv : NodeV W W.heap.size m' (.agg #[.bool e0, .slice a1 n1 q1, .slice a2 n2 q2, .slice a3 n3 q3])) (hbig : m'.wt <= 100000000) (hn : m.wt <= 100000000) :
 HowC 188 #[.pointer (some ⟨M, 0, none⟩), .pointer (some ⟨N, 0, none⟩)] W m (addR i m' m) := by
 by_cases he : (addR i m' m).2 = 0
 . unfold addR at he ⊢
   split at he
   . cases he
   . rename_i hl
     rw [if_neg hl]
     split at he
     . cases he
     . rename_i hi
       rw [if_neg hi]
       obtain ⟨k, rfl⟩ : ∃ k : Nat, i = k := ⟨i.toNat, by omega⟩
       rw [Int.toNat_natCast]
       have hk : (kidsOf m).length <= 100000000 := by obtain ⟨l, ps, t, ks⟩ := m; have := wtAll_len ks; simp only [NodeD.wt] at hn; simp only [kidsOf]; omega
       exact add1_ok m' m k M N e0 a1 a2 a3 n1 n2 n3 q1 q2 q3 W hM hMW hN hv hbig (by simpa using hl) (by omega) hk
 . exact add1_no m' m i M N W hM hMW he
theorem add_some (n m' : NodeD) (q : List Int) (i : Int) (v v' : Value) (pa : Option Addr) (pc : Nat) (W : World) (hbig : n.wt <= 100000000) (hbig' : m'.wt <= 100000000) (hv : NodeV W W.heap.size n v) (hv' : NodeV W W.heap.size m' v') (hp : RowA W W.heap.size 1 pa (q ++ [i]).length pc ((q ++ [i]).map (Value.int .i64))) (hq : q.length <= 1000000) :
 Calls Tryz.prog 130 #[v, .slice pa (q ++ [i]).length pc, v'] W (TreeP W (addN n (q ++ [i]) m')) := by
 obtain ⟨R, hR⟩ : ∃ R, R = addN n (q ++ [i]) m' := ⟨_, rfl⟩
 rw [<- hR]
 have HR := Lib.hid hR
 obtain ⟨pb, po, rfl, hpb, hpi, hpq⟩ := row_up hp
 have hpc : q.length + 1 <= pc := by have := hp.le; simpa using this
 have hpm := hp.max
 unfold maxLen at hpm
 rw [List.length_append, List.length_singleton] at *
 obtain ⟨csn, rfl, hc⟩ := hv
 obtain ⟨l, a1, n1, c1, a2, n2, c2, a3, n3, c3, rfl⟩ := hc.form
 obtain ⟨csm, rfl, hcm⟩ := hv'
 obtain ⟨e0, b1, m1, d1, b2, m2, d2, b3, m3, d3, rfl⟩ := hcm.form
 clear hR hp
 obtain ⟨w0, hw0⟩ : ∃ w0, w0 = ((W.alloc (Obj.cells #[.bool l, .slice a1 n1 c1, .slice a2 n2 c2, .slice a3 n3 c3] 35)).alloc (Obj.cells #[.bool e0, .slice b1 m1 d1, .slice b2 m2 d2, .slice b3 m3 d3] 35)).alloc (Obj.cells #[.bool false, .slice none 0 0, .slice none 0 0, .slice none 0 0] 35) := ⟨_, rfl⟩
 have hb0 : Below W.heap.size W w0 := by rw [hw0]; exact three_below _ _ _ _
 have hA : NodeAt w0 W.heap.size (.bool l) (.slice a1 n1 c1) (.slice a2 n2 c2) (.slice a3 n3 c3) := by rw [hw0]; exact ((NodeAt.fresh W _ _ _ _).alloc _).alloc _
 have hM : NodeAt w0 (W.heap.size + 1) (.bool e0) (.slice b1 m1 d1) (.slice b2 m2 d2) (.slice b3 m3 d3) := by rw [hw0]; exact (node_second W _ _ _ _ _).alloc _
 have hB : NodeAt w0 (W.heap.size + 1 + 1) (.bool false) (.slice none 0 0) (.slice none 0 0) (.slice none 0 0) := by rw [hw0]; exact At.third W _ _ _ _
 have hs0 : w0.heap.size = W.heap.size + 3 := by rw [hw0]; simp
 have y0 : w0.cell? ⟨pb, po + q.length, none⟩ = some (.int .i64 i) := (hb0.cell (p := ⟨pb, po + q.length, none⟩) hpb).trans hpi
 have hpbw : pb < w0.heap.size := Nat.lt_of_lt_of_le hpb hb0.size
 have HA := Lib.hid hA; have HM := Lib.hid hM; have HB := Lib.hid hB
 have Hw0 := Lib.hid hw0; have Hb0 := Lib.hid hb0; have Hs0 := Lib.hid hs0; have Hc := Lib.hid hc; have Hcm := Lib.hid hcm; have Hpq := Lib.hid hpq
 have h1 : ((q.length : Int) + 1) - 1 = (q.length : Int) := by omega
 have h2 : (q.length : Int) <= (pc : Int) := by omega
 clear hc hcm hb0 hA hM hB hs0 hw0 hpq hpi
 go_enter Tryz.func130, Tryz.ntmps130
 go_upto_region 1 with fail
 rw [<- Hw0.out]
 clear Hw0
 go_upto_region 3 with fail
 go_region
 obtain ⟨w1, hw1⟩ : ∃ w1, w1 = (w0.alloc (Obj.cells #[.int .i64 i] 3)).drew := ⟨_, rfl⟩
 rw [<- hw1]
 have hb1 : Below w0.heap.size w0 w1 := by rw [hw1]; exact (one_below _ _).drew
 have hI : At w1 w0.heap.size [.int .i64 i] 3 := by rw [hw1]; exact At.fresh w0 _ _
 have hbb := Hb0.out.trans (hb1.mono Hb0.out.size)
 have hA1 := HA.out.keep (hb1.mono (by rw [Hs0.out]; omega)); have hM1 := HM.out.keep (hb1.mono (by rw [Hs0.out]; omega))
 have HB1 := Lib.hid (HB.out.keep (hb1.mono (by rw [Hs0.out]; omega)))
 have hvm : NodeV w1 w1.heap.size m' (.agg #[.bool e0, .slice b1 m1 d1, .slice b2 m2 d2, .slice b3 m3 d3]) := ⟨_, rfl, NodeC.keep hbb hbb.size _ _ Hcm.out⟩
 have HC := Lib.hid (changed_c 188 #[.pointer (some ⟨w0.heap.size, 0, none⟩), .pointer (some ⟨W.heap.size + 1, 0, none⟩)] add1_ent n q (.agg #[.bool l, .slice a1 n1 c1, .slice a2 n2 c2, .slice a3 n3 c3]) (some ⟨pb, po, none⟩) pc (addR i m') w1 hbig ⟨_, rfl, NodeC.keep hbb hbb.size _ _ Hc.out⟩ (Hpq.out.keep hbb hbb.size) (fun m hm => add1_c m' m i w0.heap.size (W.heap.size + 1) e0 b1 b2 b3 m1 m2 m3 d1 d2 d3 w1 (hI.cell 0 rfl) hI.lt hM1 hvm hbig' (Nat.le_trans (atN_wt q n m hm) hbig)))
 obtain ⟨x0, x1, x2, x3, -, -⟩ := hA1.facts
 have Hbb := Lib.hid hbb
 have Hs1 := Lib.hid (show W.heap.size + 3 <= w1.heap.size by have := hb1.size; rw [Hs0.out] at this; exact this)
 clear hw1 hb1 hI hbb hA1 hM1 hvm y0 HA HM HB
 go_wp2_with fail
 refine HC.out.mono ?_
 intro e w2 hch
 have ht : TreeP w1 R e w2 := TreeP.of_changed (Below.refl _ _) hch (by
  rw [HR.out]
  unfold addN
  rw [if_neg (by simp), drop_snoc, last_snoc]
  cases atN n q with
  | none => rfl
  | some k =>
    simp only [addR]
    split
    . rfl
    . split <;> rfl)
 clear HR
 obtain ⟨R1, R2⟩ := R
 have hB2 := HB1.out.keep (hch.1.mono (by have := Hs1.out; omega))
 obtain ⟨z0, z1, z2, z3, ⟨f0, f1, f2, f3⟩, -⟩ := hB2.facts
 obtain ⟨hb2, ⟨hz, l', k1, o1, r1, k2, o2, r2, k3, o3, r3, rfl, hq⟩ | ⟨hz, rfl⟩⟩ := ht.cases
 . simp only at hz
   subst hz
   have Hq := Lib.hid hq; have Hb2 := Lib.hid (Hbb.out.trans (hb2.mono Hbb.out.size))
   clear HC hch ht hB2 hb2 hq x0 x1 x2 x3
   go_wp2_with fail
   refine bodyPost_ret (v := .tuple #[.agg #[.bool l', .slice k1 o1 r1, .slice k2 o2 r2, .slice k3 o3 r3], .int .i64 0]) (by simp [results, Tryz.results130, go_sem, z0, z1, z2, z3, f0, f1, f2, f3]) rfl ?_
   exact tree_ok (N := W.heap.size + 1 + 1) Hb2.out Hbb.out.size (by have := Hs1.out; omega) (by omega) Hq.out
 . have Hz := Lib.hid hz; have Hb2 := Lib.hid (Hbb.out.trans (hb2.mono Hbb.out.size))
   clear HC hch ht hB2 hb2 hz x0 x1 x2 x3
   simp only
   go_wp2_with fail
   refine bodyPost_ret (v := .tuple #[.agg #[.bool false, .slice none 0 0, .slice none 0 0, .slice none 0 0], .int .i64 R2]) (by simp [results, Tryz.results130, go_sem, z0, z1, z2, z3, f0, f1, f2, f3]) rfl ?_
   exact tree_no (N := W.heap.size + 1 + 1) (r := (R1, R2)) Hb2.out (by omega) Hz.out
theorem add_c (n m' : NodeD) (p : List Int) (v v' : Value) (pa : Option Addr) (pc : Nat) (W : World) (hbig : n.wt <= 100000000) (hbig' : m'.wt <= 100000000) (hv : NodeV W W.heap.size n v) (hv' : NodeV W W.heap.size m' v') (hp : RowA W W.heap.size 1 pa p.length pc (p.map (Value.int .i64))) (hq : p.length <= 1000000) :
 Calls Tryz.prog 130 #[v, .slice pa p.length pc, v'] W (TreeP W (addN n p m')) := by
 rcases List.eq_nil_or_concat p with rfl | ⟨q, i, rfl⟩
 . exact add_nil n m' v v' pa pc W hv hv'
 . rw [List.concat_eq_append] at *
   exact add_some n m' q i v v' pa pc W hbig hbig' hv hv' hp (by simp at hq; omega)
end Go.Proofs.YtbommcakcmhalaaGreatDoor
/- Walks: tree.Cut. -/
namespace Go.Proofs.YtbommcakcmhalaaGreatDoor
open Go.RowKit Go.Redl
/-- What is left of a tree, and what was taken out; or why not. -/
def CutP (W : World) (R : NodeD × NodeD × Int) (e : Ending) (w' : World) : Prop :=
 Below W.heap.size W w' /\ if R.2.2 = 0 then ∃ cs ds, e = .returned (.tuple #[.agg cs.toArray, .agg ds.toArray, .int .i64 0]) /\ NodeQ w' (fun b => W.heap.size <= b) R.1 cs /\ NodeQ w' (fun b => W.heap.size <= b) R.2.1 ds
  else e = .returned (.tuple #[.agg #[.bool false, .slice none 0 0, .slice none 0 0, .slice none 0 0], .agg #[.bool false, .slice none 0 0, .slice none 0 0, .slice none 0 0], .int .i64 R.2.2])
theorem NodeAt.set4 {w : World} {M N : Nat} {c0 c1 c2 c3 : Value} (h : NodeAt w M c0 c1 c2 c3) (hne : M ≠ N) (d0 d1 d2 d3 : Value) : NodeAt ((((w.setCell ⟨N, 0, none⟩ d0).setCell ⟨N, 1, none⟩ d1).setCell ⟨N, 2, none⟩ d2).setCell ⟨N, 3, none⟩ d3) M c0 c1 c2 c3 := (((h.set hne).set hne).set hne).set hne
theorem nodeq_since {w w' : World} {ok : Nat -> Prop} {n : NodeD} {cs : List Value} (h : NodeQ w ok n cs) (hb : Below w.heap.size w w') : NodeQ w' ok n cs := NodeQ.keep hb.size (fun b _ hlt => hb.block b hlt) (fun _ h _ => h) n cs h
theorem nodeq_set4 {w : World} {ok : Nat -> Prop} {N : Nat} {n : NodeD} {cs : List Value} (h : NodeQ w ok n cs) (hne : ¬ ok N) (d0 d1 d2 d3 : Value) : NodeQ ((((w.setCell ⟨N, 0, none⟩ d0).setCell ⟨N, 1, none⟩ d1).setCell ⟨N, 2, none⟩ d2).setCell ⟨N, 3, none⟩ d3) ok n cs := nodeq_set (nodeq_set (nodeq_set (nodeq_set h hne) hne) hne) hne
theorem atN_up {n m : NodeD} {q : List Int} {i : Int} (h : atN n (q ++ [i]) = some m) : ∃ (k : NodeD) (j : Nat), atN n q = some k /\ i = j /\ ∃ hj : j < (kidsOf k).length, (kidsOf k)[j] = m := by
 rw [atN_append] at h
 cases hk : atN n q with
 | none => rw [hk] at h; cases h
 | some k =>
   rw [hk] at h
   obtain ⟨j, rfl, hj, h2⟩ := atN_cons_some (show atN k [i] = some m from h)
   have e : (kidsOf k)[j] = m := by simpa [atN] using h2
   exact ⟨k, j, rfl, rfl, hj, e⟩
theorem cut_nil (n : NodeD) (v : Value) (pa : Option Addr) (pc : Nat) (W : World) (hv : NodeV W W.heap.size n v) :
 Calls Tryz.prog 129 #[v, .slice pa 0 pc] W (CutP W (zeroN, zeroN, 6)) := by
 obtain ⟨csn, rfl, hc⟩ := hv
 obtain ⟨l, a1, n1, c1, a2, n2, c2, a3, n3, c3, rfl⟩ := hc.form
 clear hc
 go_enter Tryz.func129, Tryz.ntmps129
 go_wp2_with fail
 refine bodyPost_ret (v := .tuple #[.agg #[.bool false, .slice none 0 0, .slice none 0 0, .slice none 0 0], .agg #[.bool false, .slice none 0 0, .slice none 0 0, .slice none 0 0], .int .i64 6]) (by simp [results, Tryz.results129, go_sem]) rfl ?_
 exact ⟨three_below _ _ _ _, by rw [if_neg (by decide)]⟩
theorem cut_no (n : NodeD) (q : List Int) (i : Int) (v : Value) (pa : Option Addr) (pc : Nat) (W : World) (hbig : n.wt <= 100000000) (hv : NodeV W W.heap.size n v) (hp : RowA W W.heap.size 1 pa (q ++ [i]).length pc ((q ++ [i]).map (Value.int .i64))) (hat : atN n (q ++ [i]) = none) :
 Calls Tryz.prog 129 #[v, .slice pa (q ++ [i]).length pc] W (CutP W (zeroN, zeroN, 5)) := by
 obtain ⟨csn, rfl, hc⟩ := hv
 obtain ⟨l, a1, n1, c1, a2, n2, c2, a3, n3, c3, rfl⟩ := hc.form
 obtain ⟨w0, hw0⟩ : ∃ w0, w0 = ((W.alloc (Obj.cells #[.bool l, .slice a1 n1 c1, .slice a2 n2 c2, .slice a3 n3 c3] 35)).alloc (Obj.cells #[.bool false, .slice none 0 0, .slice none 0 0, .slice none 0 0] 35)).alloc (Obj.cells #[.bool false, .slice none 0 0, .slice none 0 0, .slice none 0 0] 35) := ⟨_, rfl⟩
 have hb0 : Below W.heap.size W w0 := by rw [hw0]; exact three_below _ _ _ _
 have hA : NodeAt w0 W.heap.size (.bool l) (.slice a1 n1 c1) (.slice a2 n2 c2) (.slice a3 n3 c3) := by rw [hw0]; exact ((NodeAt.fresh W _ _ _ _).alloc _).alloc _
 have hB : NodeAt w0 (W.heap.size + 1) (.bool false) (.slice none 0 0) (.slice none 0 0) (.slice none 0 0) := by rw [hw0]; exact (node_second W _ _ _ _ _).alloc _
 have hC : NodeAt w0 (W.heap.size + 1 + 1) (.bool false) (.slice none 0 0) (.slice none 0 0) (.slice none 0 0) := by rw [hw0]; exact At.third W _ _ _ _
 have hs0 : w0.heap.size = W.heap.size + 3 := by rw [hw0]; simp
 have hg := get_c n (q ++ [i]) (.agg #[.bool l, .slice a1 n1 c1, .slice a2 n2 c2, .slice a3 n3 c3]) pa pc w0 hbig ⟨_, rfl, NodeC.keep hb0 hb0.size _ _ hc⟩ (hp.keep hb0 hb0.size)
 rw [hat] at hg
 have HG := Lib.hid hg
 obtain ⟨y0, y1, y2, y3, -, -⟩ := hA.facts
 have HB := Lib.hid hB; have HC := Lib.hid hC; have Hw0 := Lib.hid hw0; have Hb0 := Lib.hid hb0; have Hs0 := Lib.hid hs0
 clear hc hp hat hg hA hB hC hb0 hs0 hw0
 obtain ⟨k, hk⟩ : ∃ k, (q ++ [i]).length = k + 1 := ⟨q.length, by simp⟩
 rw [hk] at HG ⊢
 clear hk
 go_enter Tryz.func129, Tryz.ntmps129
 go_upto_region 1 with fail
 rw [<- Hw0.out]
 clear Hw0
 go_wp2_with fail
 refine HG.out.mono ?_
 rintro e w1 ⟨rfl, hb1⟩
 obtain ⟨x0, x1, x2, x3, ⟨f0, f1, f2, f3⟩, xl⟩ := (HB.out.keep (hb1.mono (by rw [Hs0.out]; omega))).facts
 obtain ⟨z0, z1, z2, z3, ⟨g0, g1, g2, g3⟩, zl⟩ := (HC.out.keep (hb1.mono (by rw [Hs0.out]; omega))).facts
 have Hb1 := Lib.hid (Hb0.out.trans (hb1.mono Hb0.out.size)); have Hb10 := Lib.hid hb1
 clear HG hb1 y0 y1 y2 y3
 go_wp2_with fail
 have h1 : W.heap.size <= W.heap.size + 1 + 1 := by omega
 have h2 : W.heap.size <= W.heap.size + 1 := by omega
 have hx := (HB.out.keep (Hb10.out.mono (by rw [Hs0.out]; omega)))
 have hz := (HC.out.keep (Hb10.out.mono (by rw [Hs0.out]; omega)))
 have q1 := below_all (below_all (below_all Hb1.out h1 (.bool false) (.slice none 0 0) (.slice none 0 0) (.slice none 0 0)) h2 (.bool false) (.slice none 0 0) (.slice none 0 0) (.slice none 0 0)) h1 (.bool false) (.slice none 0 0) (.slice none 0 0) (.slice none 0 0)
 have q2 := NodeAt.set4 (N := W.heap.size + 1 + 1) (NodeAt.all (NodeAt.set4 (N := W.heap.size + 1 + 1) hx (by omega) (.bool false) (.slice none 0 0) (.slice none 0 0) (.slice none 0 0)) (.bool false) (.slice none 0 0) (.slice none 0 0) (.slice none 0 0)) (by omega) (.bool false) (.slice none 0 0) (.slice none 0 0) (.slice none 0 0)
 have q3 := NodeAt.all (NodeAt.set4 (N := W.heap.size + 1) (NodeAt.all hz (.bool false) (.slice none 0 0) (.slice none 0 0) (.slice none 0 0)) (by omega) (.bool false) (.slice none 0 0) (.slice none 0 0) (.slice none 0 0)) (.bool false) (.slice none 0 0) (.slice none 0 0) (.slice none 0 0)
 clear x0 x1 x2 x3 f0 f1 f2 f3 xl z0 z1 z2 z3 g0 g1 g2 g3 zl hx hz
 with_reducible generalize World.setCell (World.setCell (World.setCell (World.setCell (World.setCell (World.setCell (World.setCell (World.setCell (World.setCell (World.setCell (World.setCell (World.setCell w1 _ _) _ _) _ _) _ _) _ _) _ _) _ _) _ _) _ _) _ _) _ _) _ _ = w5 at q1 q2 q3 ⊢
 obtain ⟨x0, x1, x2, x3, -, -⟩ := q2.facts
 obtain ⟨z0, z1, z2, z3, -, -⟩ := q3.facts
 refine bodyPost_ret (v := .tuple #[.agg #[.bool false, .slice none 0 0, .slice none 0 0, .slice none 0 0], .agg #[.bool false, .slice none 0 0, .slice none 0 0, .slice none 0 0], .int .i64 5]) (by simp [results, Tryz.results129, go_sem, x0, x1, x2, x3, z0, z1, z2, z3]) rfl ?_
 exact ⟨q1, by rw [if_neg (by decide)]⟩
theorem cut_yes (n m k : NodeD) (q : List Int) (j : Nat) (v : Value) (pa : Option Addr) (pc : Nat) (W : World) (hbig : n.wt <= 100000000) (hv : NodeV W W.heap.size n v) (hp : RowA W W.heap.size 1 pa (q ++ [(j : Int)]).length pc ((q ++ [(j : Int)]).map (Value.int .i64))) (hq : q.length <= 1000000) (hat : atN n (q ++ [(j : Int)]) = some m) (hk : atN n q = some k) (hj : j < (kidsOf k).length) :
 Calls Tryz.prog 129 #[v, .slice pa (q ++ [(j : Int)]).length pc] W (CutP W (putN n q (setKids k ((kidsOf k).eraseIdx j)), m, 0)) := by
 have hkw := Nat.le_trans (atN_wt q n k hk) hbig
 have hmw := Nat.le_trans (atN_wt _ n m hat) hbig
 have hkl : (kidsOf k).length <= 100000000 := by obtain ⟨l, ps, t, ks⟩ := k; have := wtAll_len ks; simp only [NodeD.wt] at hkw; simp only [kidsOf]; omega
 have hg0 := fun (w0 : World) (v : Value) (hv : NodeV w0 w0.heap.size n v) (hp : RowA w0 w0.heap.size 1 pa (q ++ [(j : Int)]).length pc ((q ++ [(j : Int)]).map (Value.int .i64))) => get_c n (q ++ [(j : Int)]) v pa pc w0 hbig hv hp
 rw [hat] at hg0
 have hp0 := hp
 obtain ⟨pb, po, rfl, hpb, hpi, hpq⟩ := row_up hp
 have hpc : q.length + 1 <= pc := by have := hp.le; simpa using this
 have hpm := hp.max
 unfold maxLen at hpm
 obtain ⟨csn, rfl, hc⟩ := hv
 obtain ⟨l, a1, n1, c1, a2, n2, c2, a3, n3, c3, rfl⟩ := hc.form
 obtain ⟨w0, hw0⟩ : ∃ w0, w0 = ((W.alloc (Obj.cells #[.bool l, .slice a1 n1 c1, .slice a2 n2 c2, .slice a3 n3 c3] 35)).alloc (Obj.cells #[.bool false, .slice none 0 0, .slice none 0 0, .slice none 0 0] 35)).alloc (Obj.cells #[.bool false, .slice none 0 0, .slice none 0 0, .slice none 0 0] 35) := ⟨_, rfl⟩
 have hb0 : Below W.heap.size W w0 := by rw [hw0]; exact three_below _ _ _ _
 have hA : NodeAt w0 W.heap.size (.bool l) (.slice a1 n1 c1) (.slice a2 n2 c2) (.slice a3 n3 c3) := by rw [hw0]; exact ((NodeAt.fresh W _ _ _ _).alloc _).alloc _
 have hB : NodeAt w0 (W.heap.size + 1) (.bool false) (.slice none 0 0) (.slice none 0 0) (.slice none 0 0) := by rw [hw0]; exact (node_second W _ _ _ _ _).alloc _
 have hC : NodeAt w0 (W.heap.size + 1 + 1) (.bool false) (.slice none 0 0) (.slice none 0 0) (.slice none 0 0) := by rw [hw0]; exact At.third W _ _ _ _
 have hs0 : w0.heap.size = W.heap.size + 3 := by rw [hw0]; simp
 have HG := Lib.hid (hg0 w0 (.agg #[.bool l, .slice a1 n1 c1, .slice a2 n2 c2, .slice a3 n3 c3]) ⟨_, rfl, NodeC.keep hb0 hb0.size _ _ hc⟩ (hp0.keep hb0 hb0.size))
 obtain ⟨y0, y1, y2, y3, -, -⟩ := hA.facts
 have HA := Lib.hid hA; have HB := Lib.hid hB; have HC := Lib.hid hC; have Hw0 := Lib.hid hw0; have Hb0 := Lib.hid hb0; have Hs0 := Lib.hid hs0; have Hc := Lib.hid hc; have Hpq := Lib.hid hpq; have Hpi := Lib.hid hpi
 have Hk := Lib.hid hk
 have h1 : ((q.length : Int) + 1) - 1 = (q.length : Int) := by omega
 have h2 : (q.length : Int) <= (pc : Int) := by omega
 clear hc hp hp0 hat hg0 hA hB hC hb0 hs0 hw0 hpq hpi hk
 rw [List.length_append, List.length_singleton] at *
 go_enter Tryz.func129, Tryz.ntmps129
 go_upto_region 1 with fail
 rw [<- Hw0.out]
 clear Hw0
 go_upto_region 3 with fail
 go_wp2_with fail
 refine HG.out.mono ?_
 rintro e w1 ⟨cs, rfl, hqm, hb1⟩
 obtain ⟨lm, p1, o1, d1, p2, o2, d2, p3, o3, d3, rfl⟩ := hqm.form
 have hC1 := HC.out.keep (hb1.mono (by rw [Hs0.out]; omega))
 obtain ⟨z0, z1, z2, z3, ⟨g0, g1, g2, g3⟩, zl⟩ := hC1.facts
 have Hb1 := Lib.hid hb1; have Hqm := Lib.hid hqm; have HC1 := Lib.hid hC1
 clear HG hb1 y0 y1 y2 y3 hqm hC1
 go_upto_region 6 with fail
 obtain ⟨w2, hw2⟩ : ∃ w2, w2 = (((w1.setCell ⟨W.heap.size + 1 + 1, 0, none⟩ (.bool lm)).setCell ⟨W.heap.size + 1 + 1, 1, none⟩ (.slice p1 o1 d1)).setCell ⟨W.heap.size + 1 + 1, 2, none⟩ (.slice p2 o2 d2)).setCell ⟨W.heap.size + 1 + 1, 3, none⟩ (.slice p3 o3 d3) := ⟨_, rfl⟩
 rw [<- hw2]
 have hs1 := Hb1.out.size
 have hs0 := Hs0.out
 have hs2 : w2.heap.size = w1.heap.size := by rw [hw2]; simp [World.setCell]
 have hC2 : NodeAt w2 (W.heap.size + 1 + 1) (.bool lm) (.slice p1 o1 d1) (.slice p2 o2 d2) (.slice p3 o3 d3) := by rw [hw2]; exact NodeAt.all HC1.out _ _ _ _
 have hA2 : NodeAt w2 W.heap.size (.bool l) (.slice a1 n1 c1) (.slice a2 n2 c2) (.slice a3 n3 c3) := by rw [hw2]; exact NodeAt.set4 (HA.out.keep (Hb1.out.mono (by omega))) (by omega) _ _ _ _
 have hB2 : NodeAt w2 (W.heap.size + 1) (.bool false) (.slice none 0 0) (.slice none 0 0) (.slice none 0 0) := by rw [hw2]; exact NodeAt.set4 (HB.out.keep (Hb1.out.mono (by omega))) (by omega) _ _ _ _
 have hb2 : Below W.heap.size W w2 := by rw [hw2]; exact below_all (Hb0.out.trans (Hb1.out.mono Hb0.out.size)) (by omega) _ _ _ _
 have hq2 : NodeQ w2 (fun b => w0.heap.size <= b) m [.bool lm, .slice p1 o1 d1, .slice p2 o2 d2, .slice p3 o3 d3] := by
  have hne : ¬ (w0.heap.size <= W.heap.size + 1 + 1) := by omega
  rw [hw2]; exact nodeq_set (nodeq_set (nodeq_set (nodeq_set Hqm.out hne) hne) hne) hne
 have y0 : w2.cell? ⟨pb, po + q.length, none⟩ = some (.int .i64 (j : Int)) := (hb2.cell (p := ⟨pb, po + q.length, none⟩) hpb).trans Hpi.out
 have HA2 := Lib.hid hA2; have HB2 := Lib.hid hB2; have HC2 := Lib.hid hC2; have Hb2 := Lib.hid hb2; have Hq2 := Lib.hid hq2
 have Hs2 := Lib.hid (show W.heap.size + 3 <= w2.heap.size by omega)
 have hpbw : pb < w2.heap.size := Nat.lt_of_lt_of_le hpb hb2.size
 clear hw2 hs1 hs0 hs2 hC2 hA2 hB2 hb2 hq2 z0 z1 z2 z3 g0 g1 g2 g3 zl HA HB HC HC1 Hqm Hpi
 go_region
 obtain ⟨w3, hw3⟩ : ∃ w3, w3 = (w2.alloc (Obj.cells #[.int .i64 (j : Int)] 3)).drew := ⟨_, rfl⟩
 rw [<- hw3]
 have hb3 : Below w2.heap.size w2 w3 := by rw [hw3]; exact (one_below _ _).drew
 have hI : At w3 w2.heap.size [.int .i64 (j : Int)] 3 := by rw [hw3]; exact At.fresh w2 _ _
 have hbb := Hb2.out.trans (hb3.mono Hb2.out.size)
 have hs2 := Hs2.out
 have hA3 := HA2.out.keep (hb3.mono (by omega))
 have HB3 := Lib.hid (HB2.out.keep (hb3.mono (by omega))); have HC3 := Lib.hid (HC2.out.keep (hb3.mono (by omega)))
 have HCh := Lib.hid (changed_c 186 #[.pointer (some ⟨w2.heap.size, 0, none⟩)] cut1_ent n q (.agg #[.bool l, .slice a1 n1 c1, .slice a2 n2 c2, .slice a3 n3 c3]) (some ⟨pb, po, none⟩) pc (fun k => (setKids k ((kidsOf k).eraseIdx j), 0)) w3 hbig ⟨_, rfl, NodeC.keep hbb hbb.size _ _ Hc.out⟩ (Hpq.out.keep hbb hbb.size) (fun k' hk' => by
  have e : k' = k := by have := Hk.out; rw [this] at hk'; exact (Option.some.inj hk').symm
  subst e
  exact cut1_c k' j w2.heap.size w3 (hI.cell 0 rfl) hI.lt hj hkl))
 obtain ⟨x0, x1, x2, x3, -, -⟩ := hA3.facts
 have Hbb := Lib.hid hbb; have Hb3 := Lib.hid hb3
 have Hs3 := Lib.hid (show w2.heap.size <= w3.heap.size from hb3.size)
 clear hw3 hb3 hI hbb hA3 y0 HA2 HB2 HC2 hs2
 go_wp2_with fail
 refine HCh.out.mono ?_
 intro e w4 hch
 have ht : TreeP w3 (putN n q (setKids k ((kidsOf k).eraseIdx j)), 0) e w4 := TreeP.of_changed (Below.refl _ _) hch (by rw [Hk.out]; simp)
 have hs2 := Hs2.out; have hs3 := Hs3.out
 have hB4 := HB3.out.keep (hch.1.mono (by omega))
 have hC4 := HC3.out.keep (hch.1.mono (by omega))
 obtain ⟨hb4, ⟨-, l', k1, s1, r1, k2, s2, r2, k3, s3, r3, rfl, hqr⟩ | ⟨hz, -⟩⟩ := ht.cases
 . obtain ⟨z0, z1, z2, z3, ⟨f0, f1, f2, f3⟩, zl⟩ := hB4.facts
   obtain ⟨v0, v1, v2, v3, ⟨g0, g1, g2, g3⟩, vl⟩ := hC4.facts
   have Hqr := Lib.hid hqr; have Hb4 := Lib.hid (Hbb.out.trans (hb4.mono Hbb.out.size)); have Hb40 := Lib.hid hb4
   have HB4 := Lib.hid hB4; have HC4 := Lib.hid hC4
   clear HCh hch ht hB4 hC4 hb4 hqr x0 x1 x2 x3
   go_upto_region 8 with fail
   obtain ⟨w5, hw5⟩ : ∃ w5, w5 = (((w4.setCell ⟨W.heap.size + 1, 0, none⟩ (.bool l')).setCell ⟨W.heap.size + 1, 1, none⟩ (.slice k1 s1 r1)).setCell ⟨W.heap.size + 1, 2, none⟩ (.slice k2 s2 r2)).setCell ⟨W.heap.size + 1, 3, none⟩ (.slice k3 s3 r3) := ⟨_, rfl⟩
   rw [<- hw5]
   have hB5 : NodeAt w5 (W.heap.size + 1) (.bool l') (.slice k1 s1 r1) (.slice k2 s2 r2) (.slice k3 s3 r3) := by rw [hw5]; exact NodeAt.all HB4.out _ _ _ _
   have hC5 : NodeAt w5 (W.heap.size + 1 + 1) (.bool lm) (.slice p1 o1 d1) (.slice p2 o2 d2) (.slice p3 o3 d3) := by rw [hw5]; exact NodeAt.set4 HC4.out (by omega) _ _ _ _
   have hb5 : Below W.heap.size W w5 := by rw [hw5]; exact below_all Hb4.out (by omega) _ _ _ _
   have hs0 := Hs0.out
   have hq5 : NodeQ w5 (fun b => w0.heap.size <= b) (putN n q (setKids k ((kidsOf k).eraseIdx j))) [.bool l', .slice k1 s1 r1, .slice k2 s2 r2, .slice k3 s3 r3] := by
    have hne : ¬ (w3.heap.size <= W.heap.size + 1) := by omega
    rw [hw5]
    exact NodeQ.keep (Nat.le_refl _) (fun _ _ _ => rfl) (fun b hb _ => by omega) _ _ (nodeq_set (nodeq_set (nodeq_set (nodeq_set Hqr.out hne) hne) hne) hne)
   have hm5 : NodeQ w5 (fun b => w0.heap.size <= b) m [.bool lm, .slice p1 o1 d1, .slice p2 o2 d2, .slice p3 o3 d3] := by
    have hne : ¬ (w0.heap.size <= W.heap.size + 1) := by omega
    rw [hw5]
    exact nodeq_set (nodeq_set (nodeq_set (nodeq_set (nodeq_since (nodeq_since Hq2.out Hb3.out) Hb40.out) hne) hne) hne) hne
   have HB5 := Lib.hid hB5; have HC5 := Lib.hid hC5; have Hb5 := Lib.hid hb5; have Hq5 := Lib.hid hq5; have Hm5 := Lib.hid hm5
   obtain ⟨z0, z1, z2, z3, ⟨f0, f1, f2, f3⟩, zl⟩ := hB5.facts
   obtain ⟨v0, v1, v2, v3, ⟨g0, g1, g2, g3⟩, vl⟩ := hC5.facts
   clear hw5 hB5 hC5 hb5 hq5 hm5 HB4 HC4 Hb4 Hqr hs0 hs2 hs3
   go_region
   have hn0 := Hs0.out
   have q0 := below_all (below_all Hb5.out (N := W.heap.size + 1) (by omega) (.bool l') (.slice k1 s1 r1) (.slice k2 s2 r2) (.slice k3 s3 r3)) (N := W.heap.size + 1 + 1) (by omega) (.bool lm) (.slice p1 o1 d1) (.slice p2 o2 d2) (.slice p3 o3 d3)
   have q1 := NodeAt.set4 (N := W.heap.size + 1 + 1) (NodeAt.all HB5.out (.bool l') (.slice k1 s1 r1) (.slice k2 s2 r2) (.slice k3 s3 r3)) (by omega) (.bool lm) (.slice p1 o1 d1) (.slice p2 o2 d2) (.slice p3 o3 d3)
   have q2 := NodeAt.all (NodeAt.set4 (N := W.heap.size + 1) HC5.out (by omega) (.bool l') (.slice k1 s1 r1) (.slice k2 s2 r2) (.slice k3 s3 r3)) (.bool lm) (.slice p1 o1 d1) (.slice p2 o2 d2) (.slice p3 o3 d3)
   have hx1 : ¬ (w0.heap.size <= W.heap.size + 1) := by omega
   have hx2 : ¬ (w0.heap.size <= W.heap.size + 1 + 1) := by omega
   have q3 := nodeq_set4 (nodeq_set4 Hq5.out hx1 (.bool l') (.slice k1 s1 r1) (.slice k2 s2 r2) (.slice k3 s3 r3)) hx2 (.bool lm) (.slice p1 o1 d1) (.slice p2 o2 d2) (.slice p3 o3 d3)
   have q4 := nodeq_set4 (nodeq_set4 Hm5.out hx1 (.bool l') (.slice k1 s1 r1) (.slice k2 s2 r2) (.slice k3 s3 r3)) hx2 (.bool lm) (.slice p1 o1 d1) (.slice p2 o2 d2) (.slice p3 o3 d3)
   clear z0 z1 z2 z3 f0 f1 f2 f3 zl v0 v1 v2 v3 g0 g1 g2 g3 vl
   with_reducible generalize World.setCell (World.setCell (World.setCell (World.setCell (World.setCell (World.setCell (World.setCell (World.setCell w5 _ _) _ _) _ _) _ _) _ _) _ _) _ _) _ _ = w6 at q0 q1 q2 q3 q4 ⊢
   obtain ⟨x0, x1, x2, x3, -, -⟩ := q1.facts
   obtain ⟨z0, z1, z2, z3, -, -⟩ := q2.facts
   have Q0 := Lib.hid q0; have Q3 := Lib.hid q3; have Q4 := Lib.hid q4
   clear q0 q1 q2 q3 q4 hx1 hx2 hn0
   go_wp2_with fail
   refine bodyPost_ret (v := .tuple #[.agg #[.bool l', .slice k1 s1 r1, .slice k2 s2 r2, .slice k3 s3 r3], .agg #[.bool lm, .slice p1 o1 d1, .slice p2 o2 d2, .slice p3 o3 d3], .int .i64 0]) (by simp [results, Tryz.results129, go_sem, x0, x1, x2, x3, z0, z1, z2, z3]) rfl ?_
   have hbw := Hb0.out.size
   refine ⟨Q0.out.drew, ?_⟩
   rw [if_pos rfl]
   exact ⟨_, _, rfl, NodeQ.keep (w := w6) (w' := w6.drew) (Nat.le_refl _) (fun _ _ _ => rfl) (fun b hb _ => Nat.le_trans hbw hb) _ _ Q3.out, NodeQ.keep (w := w6) (w' := w6.drew) (Nat.le_refl _) (fun _ _ _ => rfl) (fun b hb _ => Nat.le_trans hbw hb) _ _ Q4.out⟩
 . exact absurd rfl hz
theorem cut_c (n : NodeD) (p : List Int) (v : Value) (pa : Option Addr) (pc : Nat) (W : World) (hbig : n.wt <= 100000000) (hv : NodeV W W.heap.size n v) (hp : RowA W W.heap.size 1 pa p.length pc (p.map (Value.int .i64))) (hq : p.length <= 1000000) :
 Calls Tryz.prog 129 #[v, .slice pa p.length pc] W (CutP W (cutN n p)) := by
 rcases List.eq_nil_or_concat p with rfl | ⟨q, i, rfl⟩
 . exact cut_nil n v pa pc W hv
 . rw [List.concat_eq_append] at *
   cases hat : atN n (q ++ [i]) with
   | none =>
     have e : cutN n (q ++ [i]) = (zeroN, zeroN, 5) := by unfold cutN; rw [if_neg (by simp), hat]
     rw [e]
     exact cut_no n q i v pa pc W hbig hv hp hat
   | some m =>
     obtain ⟨k, j, hk, rfl, hj, hm⟩ := atN_up hat
     have e := cutN_kid hk hj
     rw [hm] at e
     rw [e]
     exact cut_yes n m k q j v pa pc W hbig hv hp (by simp at hq; omega) hat hk hj
end Go.Proofs.YtbommcakcmhalaaGreatDoor
/- Walks: node.Copy: the copy's own rows lie apart. -/
namespace Go.Proofs.YtbommcakcmhalaaGreatDoor
open Go.RowKit Go.Redl
/-- A node whose text and Kids lie in rows of its own, apart. -/
def NodeO (w : World) (M : Nat) : NodeD -> List Value -> Prop
 | .mk l ps t ks, cs => ∃ (ap : Option Addr) (cp : Nat) (at_ : Option Addr) (ct : Nat) (ak : Option Addr) (ck : Nat) (css : List Value), cs = [.bool l, .slice ap ps.length cp, .slice at_ t.length ct, .slice ak ks.length ck] /\
     RowQ w (fun b => M <= b /\ (Value.slice ak ks.length ck).ownBlock ≠ some b /\ (Value.slice at_ t.length ct).ownBlock ≠ some b) 2 ap ps.length cp (propCells ps) /\ w.ownsRow M 21 1 (.slice at_ t.length ct) t.length (t.map (Value.int .i32)) /\ (∀ z ∈ t, (Lit.int .i32 z).wf = true) /\
     w.ownsRow M 35 4 (.slice ak ks.length ck) ks.length css /\ KidsQ w (fun b => M <= b /\ (Value.slice ak ks.length ck).ownBlock ≠ some b /\ (Value.slice at_ t.length ct).ownBlock ≠ some b) ks css /\ (∀ b, (Value.slice at_ t.length ct).ownBlock = some b -> (Value.slice ak ks.length ck).ownBlock ≠ some b)
def CopyO (W : World) (n : NodeD) (e : Ending) (w' : World) : Prop := ∃ cs, e = .returned (.agg cs.toArray) /\ NodeO w' W.heap.size n cs /\ Below W.heap.size W w'
theorem row_apart2 {w1 w3 : World} {b1 b3 b4 e e' e'' sz sz' sz'' n n' n'' c M : Nat} {a : Option Addr} {u u2 : Value} {cs cs' cs'' : List Value} {w4 : World} (h1 : w1.ownsRow b1 e sz (.slice a n c) n cs) (ho : ∀ u ∈ cs, u.oneCell' = true) (hb : Below w1.heap.size w1 w3) (h3 : w3.ownsRow b3 e' sz' u n' cs') (hle : w1.heap.size <= b3) (h4 : w4.ownsRow b4 e'' sz'' u2 n'' cs'') (hle4 : w1.heap.size <= b4) (hM : M <= b1) :
 RowQ w3 (fun b => M <= b /\ u.ownBlock ≠ some b /\ u2.ownBlock ≠ some b) sz a n c cs := by
 obtain ⟨a', c', hv, hr⟩ := RowQ.of_own h1 ho
 injection hv with e1 e2 e3
 subst e1; subst e3
 refine hr.keep hb.size (fun b _ hlt => hb.block b hlt) (fun b hk hlt => ⟨Nat.le_trans hM (h1.lt b hk).1, fun hu => ?_, fun hu => ?_⟩)
 . have := (h3.lt b hu).1
   omega
 . have := (h4.lt b hu).1
   omega
theorem rowq_lt2 {w : World} {M : Nat} {r r2 : Option Nat} {sz n cap : Nat} {a : Option Addr} {cs : List Value} (h : RowQ w (fun b => M <= b /\ r ≠ some b /\ r2 ≠ some b) sz a n cap cs) : RowQ w (fun b => M <= b /\ b < w.heap.size /\ r ≠ some b /\ r2 ≠ some b) sz a n cap cs := h.keep (Nat.le_refl _) (fun _ _ _ => rfl) (fun b hb hlt => ⟨hb.1, hlt, hb.2⟩)
theorem own_set_ne {w : World} {M e sz n g o : Nat} {v u : Value} {cs : List Value} (h : w.ownsRow M e sz v n cs) (hne : v.ownBlock ≠ some g) : (w.setCell ⟨g, o, none⟩ u).ownsRow M e sz v n cs := by
 refine ⟨h.1, ?_⟩
 rcases h.2 with hn | ⟨k, cap, cur, hv, hb, hg, hr⟩
 . exact .inl hn
 . refine .inr ⟨k, cap, cur, hv, hb, ?_, hr⟩
   rw [Below.heap_setCell w ⟨g, o, none⟩ u k (by show k ≠ g; intro e; exact hne (by rw [hv, <- e]; rfl))]
   exact hg
theorem copyO_c (n : NodeD) (v : Value) (W : World) (hbig : n.wt <= 100000000) (hv : NodeV W W.heap.size n v) : Calls Tryz.prog 64 #[v] W (CopyO W n) := by
 obtain ⟨l, ps, t, ks⟩ := n
 obtain ⟨ap, cp, at_, ct, ak, ck, css, rfl, hp, ht, hk, hkk⟩ := hv.open
 have hpl : ps.length <= 100000000 := by have := propsWt_len ps; simp only [NodeD.wt] at hbig; omega
 have htl : t.length <= 100000000 := by simp only [NodeD.wt] at hbig; omega
 have hkl : ks.length <= 100000000 := by have := wtAll_len ks; simp only [NodeD.wt] at hbig; omega
 have hkw : wtAll ks <= 100000000 := by simp only [NodeD.wt] at hbig; omega
 obtain ⟨⟨at2, ct2, htv, htr⟩, htw⟩ := ht
 injection htv with e1 e2 e3
 subst e1; subst e3
 have hA := (NodeAt.fresh W (.bool l) (.slice ap ps.length cp) (.slice at_ t.length ct) (.slice ak ks.length ck)).alloc (Obj.cells #[.bool false, .slice none 0 0, .slice none 0 0, .slice none 0 0] 35)
 have hB := node_second W (Obj.cells #[.bool l, .slice ap ps.length cp, .slice at_ t.length ct, .slice ak ks.length ck] 35) (.bool false) (.slice none 0 0) (.slice none 0 0) (.slice none 0 0)
 have hb0 : Below W.heap.size W ((W.alloc (Obj.cells #[.bool l, .slice ap ps.length cp, .slice at_ t.length ct, .slice ak ks.length ck] 35)).alloc (Obj.cells #[.bool false, .slice none 0 0, .slice none 0 0, .slice none 0 0] 35)) := ((Below.refl _ _).alloc (Nat.le_refl _) _).alloc (by simp) _
 have hs0 : ((W.alloc (Obj.cells #[.bool l, .slice ap ps.length cp, .slice at_ t.length ct, .slice ak ks.length ck] 35)).alloc (Obj.cells #[.bool false, .slice none 0 0, .slice none 0 0, .slice none 0 0] 35)).heap.size = W.heap.size + 2 := by simp
 have HI := Lib.hid (fun (i : Nat) (h : i < ks.length) (v : Value) (W2 : World) (q : NodeV W2 W2.heap.size ks[i] v) => copyI_c _ ks[i] v W2 (Nat.le_refl _) (Nat.le_trans (wtAll_mem (List.getElem_mem h)) hkw) q)
 have Hp := Lib.hid (hp.keep hb0 (Nat.le_refl _)); have Ht := Lib.hid (htr.keep hb0 (Nat.le_refl _)); have Hk := Lib.hid (hk.keep hb0 (Nat.le_refl _)); have Hkk := Lib.hid (KidsC.keep hb0 (Nat.le_refl _) _ _ hkk)
 have Htone := Lib.hid (show ∀ u ∈ t.map (Value.int .i32), u.oneCell' = true by intro u hu; obtain ⟨z, -, rfl⟩ := List.mem_map.1 hu; rfl); have Hkkone := Lib.hid hkk.one
 have HkkW := Lib.hid hkk
 have Htw := Lib.hid htw; have Hb0 := Lib.hid hb0; have HA := Lib.hid hA; have HB := Lib.hid hB; have Hs0 := Lib.hid hs0
 clear hbig hv hp htr hk hkk htw hb0 hA hB hkw hs0
 go_enter Tryz.func64, Tryz.ntmps64
 go_upto_region 1 with fail
 obtain ⟨w0, hw0⟩ : ∃ w0, w0 = (W.alloc (Obj.cells #[.bool l, .slice ap ps.length cp, .slice at_ t.length ct, .slice ak ks.length ck] 35)).alloc (Obj.cells #[.bool false, .slice none 0 0, .slice none 0 0, .slice none 0 0] 35) := ⟨_, rfl⟩
 rw [<- hw0] at Hp Ht Hk Hkk Hb0 HA HB Hs0 ⊢
 clear hw0
 obtain ⟨x0, x1, x2, x3, ⟨f0, f1, f2, f3⟩, hA4⟩ := HA.out.facts
 go_cut [] (fun wx => ∃ pa pc ta tc ka kc, NodeAt wx W.heap.size (.bool l) (.slice pa ps.length pc) (.slice ta t.length tc) (.slice ka ks.length kc) /\ NodeAt wx (W.heap.size + 1) (.bool false) (.slice none 0 0) (.slice none 0 0) (.slice none 0 0) /\
  RowQ wx (fun b => W.heap.size + 2 <= b /\ (Value.slice ka ks.length kc).ownBlock ≠ some b /\ (Value.slice ta t.length tc).ownBlock ≠ some b) 2 pa ps.length pc (propCells ps) /\ wx.ownsRow (W.heap.size + 2) 21 1 (.slice ta t.length tc) t.length (t.map (Value.int .i32)) /\ (∀ b, (Value.slice ta t.length tc).ownBlock = some b -> (Value.slice ka ks.length kc).ownBlock ≠ some b) /\
  wx.ownsRow (W.heap.size + 2) 35 4 (.slice ka ks.length kc) ks.length css /\ Below W.heap.size W wx)
 case first =>
  go_region_law (first
   | (refine step_call rfl 116 _ _ rfl clp_ent [Value.slice ap ps.length cp] ?_ _ (clone_prop W.heap.size ps.length ap cp _ _ (Hp.out.keep ?_ (Nat.le_refl _)) ?_ hpl) ?_
      . go_simp
      . exact (Below.refl _ _).drew
      . show W.heap.size <= w0.heap.size; rw [Hs0.out]; omega
      rintro e w1 ⟨v1, rfl, hown, hbel⟩
      obtain ⟨pa, pc, rfl, -⟩ := row_of_own hown (propCells_one _)
      refine ⟨_, rfl, ?_⟩
      have Hbel1 := Lib.hid (((Below.refl w0.heap.size w0).drew).trans hbel); have Hown1 := Lib.hid hown
      have hA1 := HA.out.keep (Hbel1.out.mono (by rw [Hs0.out]; omega))
      obtain ⟨y0, y1, y2, y3, ⟨k0, k1, k2, k3⟩, hA5⟩ := hA1.facts
      clear hbel hown hA1)
   | (refine step_call rfl 117 _ _ rfl clr_ent [Value.slice at_ t.length ct] ?_ _ (clone_runes W.heap.size t.length at_ ct _ _ (Ht.out.keep (Hbel1.out.mono ?_) (Nat.le_refl _)) ?_ htl) ?_
      . go_simp
      . rw [Hs0.out]; omega
      . have := Hbel1.out.size; rw [Hs0.out] at this; omega
      rintro e w2 ⟨v2, rfl, hown, hbel⟩
      obtain ⟨ta, tc, rfl, -⟩ := row_of_own hown Htone.out
      refine ⟨_, rfl, ?_⟩
      have Hbel2 := Lib.hid (Hbel1.out.trans (hbel.mono Hbel1.out.size)); have Hown2 := Lib.hid hown; have Hbel12 := Lib.hid hbel
      have hA1 := HA.out.keep (Hbel2.out.mono (by rw [Hs0.out]; omega))
      obtain ⟨z0, z1, z2, z3, ⟨g0, g1, g2, g3⟩, hA6⟩ := hA1.facts
      clear hbel hown hA1)
   | (refine step_call rfl 118 _ _ rfl cln_ent [Value.slice ak ks.length ck] ?_ _ (clone_node W.heap.size ks.length ak ck _ _ (Hk.out.keep (Hbel2.out.mono ?_) (Nat.le_refl _)) ?_ hkl) ?_
      . go_simp
      . rw [Hs0.out]; omega
      . have := Hbel2.out.size; rw [Hs0.out] at this; omega
      rintro e w3 ⟨v3, rfl, hown, hbel⟩
      obtain ⟨ka, kc, rfl, -⟩ := row_of_own hown Hkkone.out
      refine ⟨_, rfl, ?_⟩
      have Hbel3 := Lib.hid (Hbel2.out.trans (hbel.mono Hbel2.out.size)); have Hown3 := Lib.hid hown; have Hbel23 := Lib.hid hbel
      have hA1 := HA.out.keep (Hbel3.out.mono (by rw [Hs0.out]; omega))
      obtain ⟨t0, t1, t2, t3, ⟨r0, r1, r2, r3⟩, hA7⟩ := hA1.facts
      have HA3 := Lib.hid hA1
      clear hbel hown hA1))
  all_goals
   go_wp2_with fail
   go_meet
   case rel =>
    have hM3 : W.heap.size + 2 <= w0.heap.size := by rw [Hs0.out]; omega
    have hrp := row_apart2 (M := W.heap.size + 2) Hown1.out (propCells_one _) (Hbel12.out.trans (Hbel23.out.mono Hbel12.out.size)) Hown3.out Hbel12.out.size Hown2.out (Nat.le_refl _) hM3
    have hkM : W.heap.size + 2 <= w2.heap.size := Nat.le_trans hM3 Hbel2.out.size
    have htk : ∀ b, (Value.slice ta t.length tc).ownBlock = some b -> (Value.slice ka ks.length kc).ownBlock ≠ some b := fun b h1 h2 => by have := (Hown2.out.lt b h1).2; have := (Hown3.out.lt b h2).1; omega
    have hn1 : ¬ (W.heap.size + 2 <= W.heap.size /\ (Value.slice ka ks.length kc).ownBlock ≠ some W.heap.size /\ (Value.slice ta t.length tc).ownBlock ≠ some W.heap.size) := fun h => by omega
    have hbo : ∀ {w : World} {e sz n o : Nat} {v u : Value} {cs : List Value}, w.ownsRow (W.heap.size + 2) e sz v n cs -> (w.setCell ⟨W.heap.size, o, none⟩ u).ownsRow (W.heap.size + 2) e sz v n cs := fun h => ownsRow_setCell_below (a := ⟨W.heap.size, _, none⟩) h (by show W.heap.size < _; omega) _
    refine ⟨pa, pc, ta, tc, ka, kc, ?_, ?_, ?_, ?_, htk, ?_, ?_⟩
    . exact ((HA3.out.s1 _).s2 _).s3 _
    . exact (((HB.out.keep (Hbel3.out.mono (by rw [Hs0.out]; omega))).set (by omega)).set (by omega)).set (by omega)
    . exact rowq_set (rowq_set (rowq_set hrp hn1) hn1) hn1
    . exact hbo (hbo (hbo (own_mono (own_keep Hown2.out Hbel23.out) (Nat.le_trans hM3 Hbel1.out.size))))
    . exact hbo (hbo (hbo (own_mono Hown3.out hkM)))
    . exact ((((Hb0.out.trans (Hbel3.out.mono (by rw [Hs0.out]; omega))).setCell (p := ⟨W.heap.size, 1, none⟩) (Nat.le_refl _) _).setCell (p := ⟨W.heap.size, 2, none⟩) (Nat.le_refl _) _).setCell (p := ⟨W.heap.size, 3, none⟩) (Nat.le_refl _) _)
 case rest =>
  obtain ⟨pa, pc, ta, tc, ka, kc, hA, hB, hrp, hrt, htk, hown, hbel⟩ := hcut
  obtain ⟨y0, y1, y2, y3, -, hA5⟩ := hA.facts
  have Htk := Lib.hid htk
  have HgM := Lib.hid (show ∀ g, (Value.slice ka ks.length kc).ownBlock = some g -> g < wc.heap.size from fun g hg => (hown.lt g hg).2)
  have HwM := Lib.hid (show W.heap.size + 2 <= wc.heap.size from hB.facts.2.2.2.2.2)
  have Hi := Lib.hid (show _ /\ _ /\ _ /\ _ /\ _ /\ _ from ⟨hA, hB, hrp, hrt, hown, hbel⟩)
  clear hA hB hrp hrt htk hown hbel x0 x1 x2 x3 f0 f1 f2 f3 hA4 HA HB Hp Ht Hk
  go_wp2_with fail
  clear y0 y1 y2 y3 hA5
  go_loopg [20] ks.length (fun g i wr => ∃ (j : Nat) (csN : List Value), i = .int .i64 j /\ j + g = ks.length /\ NodeAt wr W.heap.size (.bool l) (.slice pa ps.length pc) (.slice ta t.length tc) (.slice ka ks.length kc) /\ NodeAt wr (W.heap.size + 1) (.bool false) (.slice none 0 0) (.slice none 0 0) (.slice none 0 0) /\
   RowQ wr (fun b => W.heap.size + 2 <= b /\ b < wc.heap.size /\ (Value.slice ka ks.length kc).ownBlock ≠ some b /\ (Value.slice ta t.length tc).ownBlock ≠ some b) 2 pa ps.length pc (propCells ps) /\ (wr.ownsRow (W.heap.size + 2) 21 1 (.slice ta t.length tc) t.length (t.map (Value.int .i32)) /\ ∀ b, (Value.slice ta t.length tc).ownBlock = some b -> b < wc.heap.size) /\
   wr.ownsRow (W.heap.size + 2) 35 4 (.slice ka ks.length kc) ks.length (csN ++ css.drop (j * 4)) /\ KidsI wr (ks.take j) wc.heap.size wr.heap.size csN /\ Below W.heap.size W wr)
  case atStart =>
   obtain ⟨hA, hB, hrp, hrt, hown, hbel⟩ := Hi.out
   exact ⟨0, [], rfl, by omega, hA, hB, rowq_lt2 hrp, ⟨hrt, fun b hb => (hrt.lt b hb).2⟩, by simpa using hown, by rw [List.take_zero]; unfold KidsI; exact ⟨rfl, Nat.le_refl _⟩, hbel⟩
  case round =>
   obtain ⟨j, csN, rfl, hg, hA, hB, hrp, hrt, hown, hkids, hbel⟩ := hrel
   obtain ⟨y0, y1, y2, y3, ⟨p0, p1, p2, p3⟩, hA5⟩ := hA.facts
   obtain ⟨z0, z1, z2, z3, ⟨q0, q1, q2, q3⟩, hB5⟩ := hB.facts
   have hcl := KidsQ.len' (KidsI.q (ok := fun _ => True) (fun _ _ _ => trivial) hkids)
   have hMr := hkids.le
   have hclen := Hkk.out.len
   have HA2 := Lib.hid hA; have HB2 := Lib.hid hB; have Hrp := Lib.hid hrp; have Hrt := Lib.hid hrt; have Hown := Lib.hid hown; have Hkids := Lib.hid hkids; have Hbel := Lib.hid hbel
   clear hA hB hrp hrt hkids
   by_cases hlt : j < ks.length
   . obtain ⟨c, hc, hall⟩ := HkkW.out.at_ j hlt
     have hc' := NodeC.keep hbel (Nat.le_refl _) _ _ hc
     obtain ⟨l1, a1, n1, c1, a2, n2, c2, a3, n3, c3, rfl⟩ := hc'.form
     have hcj : csN.length = j * 4 := by rw [hcl, List.length_take, Nat.min_eq_left (by omega)]
     have hjl : j * 4 + 4 <= css.length := by rw [hclen]; omega
     obtain ⟨g, rfl, hgM⟩ := own_some Hown.out (by
      intro e
      have := congrArg List.length e
      simp only [List.length_append, List.length_drop, List.length_nil] at this
      omega)
     have hgl : g < wr.heap.size := (Hown.out.lt g rfl).2
     have hat : ∀ i, i < 4 -> (csN ++ css.drop (j * 4))[j * 4 + i]? = [Value.bool l1, .slice a1 n1 c1, .slice a2 n2 c2, .slice a3 n3 c3][i]? := by
      intro i hi
      rw [List.getElem?_append_right (by omega), List.getElem?_drop, hcj, show j * 4 + (j * 4 + i - j * 4) = j * 4 + i by omega]
      exact hall i hi
     have k0 := own_at Hown.out _ _ (hat 0 (by omega))
     have k1 := own_at Hown.out _ _ (hat 1 (by omega))
     have k2 := own_at Hown.out _ _ (hat 2 (by omega))
     have k3 := own_at Hown.out _ _ (hat 3 (by omega))
     have hdrop : ∃ x0 x1 x2 x3, css.drop (j * 4) = x0 :: x1 :: x2 :: x3 :: css.drop ((j + 1) * 4) := by
      refine ⟨css[j * 4], css[j * 4 + 1], css[j * 4 + 2], css[j * 4 + 3], ?_⟩
      rw [List.drop_eq_getElem_cons (by omega), List.drop_eq_getElem_cons (by omega), List.drop_eq_getElem_cons (by omega), List.drop_eq_getElem_cons (by omega)]
      rw [show (j + 1) * 4 = j * 4 + 1 + 1 + 1 + 1 by omega]
     have hlti : (j : Int) < ks.length := by omega
     have HC := Lib.hid (fun (W' : World) (hbw : Below wr.heap.size wr W') => HI.out j hlt (.agg #[.bool l1, .slice a1 n1 c1, .slice a2 n2 c2, .slice a3 n3 c3]) W' ⟨_, rfl, NodeC.keep (hbw.mono hbel.size) (Nat.le_trans hbel.size hbw.size) _ _ hc'⟩)
     have Hdrop := Lib.hid hdrop; have Hcj := Lib.hid hcj
     have hW := hbel.size
     have hgne : g ≠ W.heap.size := by omega
     clear hc hc' hall hat hdrop hcj hown hbel Hi hcl hclen hjl
     simp only [Nat.add_zero] at k0
     go_wp2_with fail
     go_region_law (first
      | (refine step_call rfl 64 _ _ rfl copy_ent [Value.agg #[.bool l1, .slice a1 n1 c1, .slice a2 n2 c2, .slice a3 n3 c3]] ?_ _ (HC.out _ ?_) ?_
         . go_simp
         . exact ((Below.refl _ _).alloc (Nat.le_refl _) _).drew
         rintro e w6 ⟨cs', rfl, hnode, hbel6⟩
         obtain ⟨m1, b1, o1, d1, b2, o2, d2, b3, o3, d3, rfl⟩ := hnode.form
         refine ⟨_, rfl, ?_⟩
         have Hb6 := Lib.hid ((((Below.refl wr.heap.size wr).alloc (Nat.le_refl _) (Obj.cells #[.bool l1, .slice a1 n1 c1, .slice a2 n2 c2, .slice a3 n3 c3] 35)).drew).trans (hbel6.mono (by show wr.heap.size <= (wr.alloc _).heap.size; simp)))
         have hA6 := HA2.out.keep (Hb6.out.mono (by omega))
         have hown6 := own_keep Hown.out Hb6.out
         have r0 := hown6.frozenAt (j * 4); have r1 := hown6.frozenAt (j * 4 + 1); have r2 := hown6.frozenAt (j * 4 + 2); have r3 := hown6.frozenAt (j * 4 + 3)
         have hg6 := (hown6.lt g rfl).2
         have k0' := (Hb6.out.cell (p := ⟨g, j * 4, none⟩) hgl).trans k0; have k1' := (Hb6.out.cell (p := ⟨g, j * 4 + 1, none⟩) hgl).trans k1; have k2' := (Hb6.out.cell (p := ⟨g, j * 4 + 2, none⟩) hgl).trans k2; have k3' := (Hb6.out.cell (p := ⟨g, j * 4 + 3, none⟩) hgl).trans k3
         obtain ⟨s0, s1, s2, s3, -, hA7⟩ := hA6.facts
         have HA6 := Lib.hid hA6; have Hown6 := Lib.hid hown6; have Hnode := Lib.hid hnode
         clear hA6 hown6 hnode hbel6))
     all_goals
      go_wp2_with fail
      go_roundg (gk - 1)
      case measure => omega
      case rel =>
       have hz : (Value.slice (some ⟨g, 0, none⟩) ks.length kc).ownBlock = some g := by simp [Value.ownBlock]
       obtain ⟨x0, x1, x2, x3, hdr⟩ := Hdrop.out
       have hs := (((Hown6.out.stored (j * 4) (.bool m1)).1.stored (j * 4 + 1) (.slice b1 o1 d1)).1.stored (j * 4 + 2) (.slice b2 o2 d2)).1.stored (j * 4 + 3) (.slice b3 o3 d3) |>.1
       rw [set_four Hcj.out hdr] at hs
       have hng : ¬ (W.heap.size + 2 <= g /\ g < wc.heap.size /\ (Value.slice (some ⟨g, 0, none⟩) ks.length kc).ownBlock ≠ some g /\ (Value.slice ta t.length tc).ownBlock ≠ some g) := fun h => h.2.2.1 hz
       have hgM2 := HgM.out g hz
       have hk6 := KidsI.keep (w' := w6) Hb6.out.size (fun b _ _ hlt => Hb6.out.block b hlt) Hkids.out
       have hrp6 := Hrp.out.keep (w' := w6) (ok' := fun b => W.heap.size + 2 <= b /\ b < wc.heap.size /\ (Value.slice (some ⟨g, 0, none⟩) ks.length kc).ownBlock ≠ some b /\ (Value.slice ta t.length tc).ownBlock ≠ some b) Hb6.out.size (fun b _ hlt => Hb6.out.block b hlt) (fun b hb _ => hb)
       have hrt6 := own_keep Hrt.out.1 Hb6.out
       have htg : (Value.slice ta t.length tc).ownBlock ≠ some g := fun e => Htk.out g e hz
       have hB6 := HB2.out.keep (Hb6.out.mono (by omega))
       have hsz := Hb6.out.size
       have hkk := kidsi_set (o := j * 4 + 3) (u := .slice b3 o3 d3) (kidsi_set (o := j * 4 + 2) (u := .slice b2 o2 d2) (kidsi_set (o := j * 4 + 1) (u := .slice b1 o1 d1) (kidsi_set (o := j * 4) (u := .bool m1) ((hk6.up (by simp)).snoc Hnode.out) hgM2) hgM2) hgM2) hgM2
       rw [<- List.take_succ_eq_append_getElem hlt] at hkk
       refine ⟨j + 1, csN ++ [.bool m1, .slice b1 o1 d1, .slice b2 o2 d2, .slice b3 o3 d3], rfl, by omega, ?_, ?_, ?_, ?_, hs, hkk.up (by simp [World.setCell]), ?_⟩
       . exact (((HA6.out.set hgne.symm).set hgne.symm).set hgne.symm).set hgne.symm
       . exact (((hB6.set (by omega)).set (by omega)).set (by omega)).set (by omega)
       . exact rowq_set (rowq_set (rowq_set (rowq_set hrp6 hng) hng) hng) hng
       . exact ⟨own_set_ne (own_set_ne (own_set_ne (own_set_ne hrt6 htg) htg) htg) htg, Hrt.out.2⟩
       . exact ((((below_then Hbel.out Hb6.out (Nat.le_refl _)).setCell (p := ⟨g, j * 4, none⟩) (by show W.heap.size <= g; omega) _).setCell (p := ⟨g, j * 4 + 1, none⟩) (by show W.heap.size <= g; omega) _).setCell (p := ⟨g, j * 4 + 2, none⟩) (by show W.heap.size <= g; omega) _).setCell (p := ⟨g, j * 4 + 3, none⟩) (by show W.heap.size <= g; omega) _
   . have hnl : decide ((j : Int) < ks.length) = false := by simp; omega
     clear hown hbel Hi
     go_wp2_with fail
     refine bodyPost_ret (v := .agg #[.bool l, .slice pa ps.length pc, .slice ta t.length tc, .slice ka ks.length kc]) (by simp [results, Tryz.results64, go_sem, z0, z1, z2, z3]) rfl ?_
     have hj : j = ks.length := by omega
     have hown2 := Hown.out
     have hkids2 := Hkids.out
     rw [hj, List.take_length] at hkids2
     rw [hj, List.drop_eq_nil_of_le (by omega), List.append_nil] at hown2
     have hn1 : ¬ (W.heap.size + 2 <= W.heap.size + 1 /\ W.heap.size + 1 < wc.heap.size /\ (Value.slice ka ks.length kc).ownBlock ≠ some (W.heap.size + 1) /\ (Value.slice ta t.length tc).ownBlock ≠ some (W.heap.size + 1)) := fun h => by omega
     have hMw := HwM.out
     have hbo : ∀ {w : World} {e sz n o : Nat} {v u : Value} {cs : List Value}, w.ownsRow (W.heap.size + 2) e sz v n cs -> (w.setCell ⟨W.heap.size + 1, o, none⟩ u).ownsRow (W.heap.size + 2) e sz v n cs := fun h => ownsRow_setCell_below (a := ⟨W.heap.size + 1, _, none⟩) h (by show W.heap.size + 1 < _; omega) _
     refine ⟨[.bool l, .slice pa ps.length pc, .slice ta t.length tc, .slice ka ks.length kc], rfl, ?_, ?_⟩
     . unfold NodeO
       refine ⟨pa, pc, ta, tc, ka, kc, csN, rfl, ?_, ?_, Htw.out, ?_, ?_, Htk.out⟩
       . exact (rowq_all Hrp.out hn1 _ _ _ _).keep (Nat.le_refl _) (fun _ _ _ => rfl) (fun b hb _ => ⟨by omega, hb.2.2.1, hb.2.2.2⟩)
       . exact own_mono (hbo (hbo (hbo (hbo Hrt.out.1)))) (by omega)
       . exact own_mono (hbo (hbo (hbo (hbo hown2)))) (by omega)
       . refine KidsI.q (fun b hb hb2 => ⟨by omega, fun e => ?_, fun e => ?_⟩) (kidsi_set (kidsi_set (kidsi_set (kidsi_set hkids2 (by omega)) (by omega)) (by omega)) (by omega))
         . have := HgM.out b e; omega
         . have := Hrt.out.2 b e; omega
     . with_reducible exact below_all Hbel.out (Nat.le_succ _) _ _ _ _
end Go.Proofs.YtbommcakcmhalaaGreatDoor
