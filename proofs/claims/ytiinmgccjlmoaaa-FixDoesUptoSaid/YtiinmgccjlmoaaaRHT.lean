/- Walks: fix's lift. -/
import Derived.Test.YtiinmgccjlmoaaaRHR
namespace Go.Proofs.Ytiinmgccjlmoaaa
open Go.RowKit Go.Redl
set_option linter.unusedVariables false
set_option linter.unusedSimpArgs false

/-- The moves that lift an element's Kids. -/
def liftOps (p : List Int) (j n : Nat) : List OpD := (List.range n).map (fun i : Nat => (⟨5, p ++ [(j : Int), 0], p ++ [(j : Int) + (1 + (i : Int))], 0, zeroN, []⟩ : OpD))
theorem liftOps_len (p : List Int) (j n : Nat) : (liftOps p j n).length = n := by simp [liftOps]
theorem liftOps_succ (p : List Int) (j n : Nat) : liftOps p j (n + 1) = liftOps p j n ++ [⟨5, p ++ [(j : Int), 0], p ++ [(j : Int) + (1 + (n : Int))], 0, zeroN, []⟩] := by
  simp [liftOps, List.range_succ]

set_option maxRecDepth 100000 in
set_option maxHeartbeats 4000000 in
theorem lift_c (p : List Int) (pa : Option Addr) (pc : Nat) (ks : List NodeD) (ak : Option Addr) (ck : Nat) (css : List Value) (v1 v2 v3 v5 v6 v7 v8 v9 v10 v11 v12 v13 v15 : Value) (j : Nat) (W : World)
    (hJ : JobAt W p pa pc ks ak ck css j) (hj : j < ks.length) :
    Calls Try.prog 28 #[.agg #[.slice pa p.length pc, v1, v2, v3, .slice ak ks.length ck, v5, v6, v7, v8, v9, v10, v11, v12, v13, .int .i64 j, v15]] W (OpsP W (liftOps p j (kidsOf (kidAt ks j)).length ++ [⟨2, p ++ [(j : Int)], [], 0, noKids (kidAt ks j), []⟩])) := by
  have hkl : ks.length ≤ 100000000 := by have := wtAll_len ks; have := hJ.kl; omega
  have hqw : (kidAt ks j).wt ≤ 100000000 := by rw [kid_get hj]; have := wtAll_mem (List.getElem_mem hj); have := hJ.kl; omega
  have hpl := hJ.pl
  have hAt := Lib.hid (fun (d : Int) (h0 : 0 ≤ d) (h1 : d ≤ 100000000) (w1 : World) (hb : Below W.heap.size W w1) => jat_c p pa pc v1 v2 v3 (.slice ak ks.length ck) v5 v6 v7 v8 v9 v10 v11 v12 v13 v15 j d w1 (hJ.keep hb).path hJ.pl hJ.at_ h0 h1)
  have hK := fun (w1 : World) (hb : Below W.heap.size W w1) => jkid_c ks ak ck css (.slice pa p.length pc) v1 v2 v3 v5 v6 v7 v8 v9 v10 v11 v12 v13 v15 j w1 (hJ.keep hb).kids (hJ.keep hb).kids' hj hkl
  have hld := fun (w' : World) (h : At w' W.heap.size [.slice pa p.length pc, v1, v2, v3, .slice ak ks.length ck, v5, v6, v7, v8, v9, v10, v11, v12, v13, .int .i64 j, v15] 72) => At.load (P := Try.prog) h Try.underlying72 rfl (by kernel_rfl)
  simp [go_sem] at hld
  have Hld := Lib.hid hld
  generalize kidAt ks j = q at hK hqw ⊢
  have HC := Lib.hid (fun (v : Value) (w1 : World) (hv : NodeV w1 w1.heap.size q v) => copy_c _ q v w1 (Nat.le_refl _) hqw hv)
  obtain ⟨lq, pq, tq, kq⟩ := q
  simp only [kidsOf, noKids]
  have hkq : kq.length ≤ 100000000 := by have := wtAll_len kq; simp only [NodeD.wt] at hqw; omega
  obtain ⟨w0, hw0⟩ : ∃ w0, w0 = W.alloc (Obj.cells #[.slice pa p.length pc, v1, v2, v3, .slice ak ks.length ck, v5, v6, v7, v8, v9, v10, v11, v12, v13, .int .i64 j, v15] 72) := ⟨_, rfl⟩
  have hb0 : Below W.heap.size W w0 := by rw [hw0]; exact one_below _ _
  have hB : At w0 W.heap.size [.slice pa p.length pc, v1, v2, v3, .slice ak ks.length ck, v5, v6, v7, v8, v9, v10, v11, v12, v13, .int .i64 j, v15] 72 := by rw [hw0]; exact At.fresh _ _ _
  have HKd := Lib.hid (hK w0 hb0)
  have Hw0 := Lib.hid hw0; have Hb0 := Lib.hid hb0; have HB := Lib.hid hB
  have hB0 := hB
  clear hw0 hb0 hB hJ hj hqw hK
  go_enter Try.func28, Try.ntmps28
  go_upto_region 1 with fail
  rw [← Hw0.out]
  clear Hw0
  go_wp2_with fail
  refine HKd.out.mono ?_
  rintro e w1 ⟨kv, rfl, hkv, hbel⟩
  have Hb1 := Lib.hid (Hb0.out.trans (hbel.mono Hb0.out.size))
  have HB1 := Lib.hid (HB.out.kept hbel)
  have HC1 := Lib.hid (HC.out kv w1 hkv)
  clear hbel hB0 HKd hkv hld
  go_wp2_with fail
  refine HC1.out.mono ?_
  rintro e w2 ⟨cs, rfl, hn, hbel⟩
  obtain ⟨ap, cp, at_, ct, aq, cq, cqs, rfl, hqp, hqt, hqf, hqk, hqkk⟩ : ∃ ap cp at_ ct aq cq cqs, cs = [.bool lq, .slice ap pq.length cp, .slice at_ tq.length ct, .slice aq kq.length cq] ∧ RowQ w2 (fun b => w1.heap.size ≤ b) 2 ap pq.length cp (propCells pq) ∧ RowQ w2 (fun b => w1.heap.size ≤ b) 1 at_ tq.length ct (tq.map (Value.int .i32)) ∧ (∀ z ∈ tq, (Lit.int .i32 z).wf = true) ∧ RowQ w2 (fun b => w1.heap.size ≤ b) 4 aq kq.length cq cqs ∧ KidsQ w2 (fun b => w1.heap.size ≤ b) kq cqs := by
    unfold NodeQ at hn; exact hn
  have Hq0 := Lib.hid (show NodeQ w2 (fun b => b < w2.heap.size) (.mk lq pq tq []) [.bool lq, .slice ap pq.length cp, .slice at_ tq.length ct, .slice none 0 0] by
    unfold NodeQ
    exact ⟨ap, cp, at_, ct, none, 0, [], rfl, hqp.keep (Nat.le_refl _) (fun _ _ _ => rfl) (fun b _ hlt => hlt), hqt.keep (Nat.le_refl _) (fun _ _ _ => rfl) (fun b _ hlt => hlt), hqf, RowQ.empty _ _ _, by unfold KidsQ; rfl⟩)
  have Hb2 := Lib.hid (Hb1.out.trans (hbel.mono Hb1.out.size))
  have HB2 := Lib.hid (HB1.out.kept hbel)
  clear hbel hn hqp hqt hqf hqk hqkk HC1 HC HB1 HB
  obtain ⟨w3, hw3⟩ : ∃ w3, w3 = w2.alloc (Obj.cells #[.bool lq, .slice ap pq.length cp, .slice at_ tq.length ct, .slice aq kq.length cq] 35) := ⟨_, rfl⟩
  have hb3 : Below w2.heap.size w2 w3 := by rw [hw3]; exact one_below _ _
  have hN3 : At w3 w2.heap.size [.bool lq, .slice ap pq.length cp, .slice at_ tq.length ct, .slice aq kq.length cq] 35 := by rw [hw3]; exact At.fresh _ _ _
  have hs3 : w3.heap.size = w2.heap.size + 1 := by rw [hw3]; simp
  have Hb3 := Lib.hid (Hb2.out.trans (hb3.mono Hb2.out.size))
  have HB3 := Lib.hid (HB2.out.kept hb3); have HN3 := Lib.hid hN3
  have Hq3 := Lib.hid (Hq0.out.since hb3)
  have Hw3 := Lib.hid hw3
  have HA3 := Lib.hid (fun (d : Int) (h0 : 0 ≤ d) (h1 : d ≤ 100000000) (w1 : World) (hb : Below w3.heap.size w3 w1) => hAt.out d h0 h1 w1 (Hb3.out.trans (hb.mono Hb3.out.size)))
  obtain ⟨⟨n0, n1, n2, n3⟩, nf, nl⟩ := hN3.f4
  have hBl := HB3.out.lt
  have hB2l := HB2.out.lt
  have hAt0 := Lib.hid (fun (w1 : World) (hb : Below W.heap.size W w1) => hAt.out 0 (Int.le_refl _) (by omega) w1 hb)
  clear hw3 hb3 hN3 hAt Hq0 HB2
  go_upto_region 2 with fail
  rw [← Hw3.out]
  clear Hw3
  go_wp2_with fail
  obtain ⟨zs, hzs⟩ : ∃ zs, zs = p ++ [(j : Int)] := ⟨_, rfl⟩
  obtain ⟨ys, hys⟩ : ∃ ys, ys = p ++ [(j : Int), 0] := ⟨_, rfl⟩
  have HZ := Lib.hid (fun (w1 : World) (hb : Below w3.heap.size w3 w1) => (show Calls Try.prog 57 #[.agg #[.slice pa p.length pc, v1, v2, v3, .slice ak ks.length ck, v5, v6, v7, v8, v9, v10, v11, v12, v13, .int .i64 j, v15], .int .i64 0] w1 (PathP w1 zs) by
    have h := HA3.out 0 (Int.le_refl _) (by omega) w1 hb
    rw [Int.add_zero, ← hzs] at h
    exact h))
  have HU := Lib.hid (fun (za : Option Addr) (zc : Nat) (la : Option Addr) (w1 : World) (h1 : RowA w1 w1.heap.size 1 za zs.length zc (zs.map (Value.int .i64))) (h2 : RowA w1 w1.heap.size 1 la 1 1 [.int .i64 0]) => (show Calls Try.prog 59 #[.slice za zs.length zc, .slice la 1 1] w1 (PathP w1 ys) by
    have h := under_c zs [0] za zc la 1 w1 h1 h2 (by rw [hzs]; simp; omega)
    rw [show zs ++ [0] = ys by rw [hzs, hys]; simp] at h
    exact h))
  have Hzs := Lib.hid hzs; have Hys := Lib.hid hys
  clear hzs hys n0 n1 n2 n3 nf nl
  go_loopg [4, 12] kq.length (fun g v c wr => ∃ i : Nat, c = .int .i64 i ∧ i + g = kq.length ∧ OpsO w3.heap.size w3.heap.size wr v (liftOps p j i) ∧ Below w3.heap.size w3 wr)
  case atStart => exact ⟨0, rfl, by omega, OpsO.nil _ _ _, Below.refl _ _⟩
  case round =>
    obtain ⟨i, rfl, hg, hO, hbr⟩ := hrel
    have HO := Lib.hid hO; have Hbr := Lib.hid hbr
    have HBr := Lib.hid (HB3.out.kept hbr)
    have hwr3 := hbr.size
    clear hO hbr
    by_cases hlt : i < kq.length
    · --<1
      have hlti : (i : Int) < kq.length := by omega
      have hwr : IntKind.i64.wrap (1 + (i : Int)) = 1 + (i : Int) := IntWalk.i64_in _ (by omega)
      have HX := Lib.hid (fun (w1 : World) (hb : Below wr.heap.size wr w1) => HA3.out (1 + (i : Int)) (by omega) (by omega) w1 (Hbr.out.trans (hb.mono hwr3)))
      have HZr := Lib.hid (fun (w1 : World) (hb : Below wr.heap.size wr w1) => HZ.out w1 (Hbr.out.trans (hb.mono hwr3)))
      have HV := Lib.hid HO.out.lt
      obtain ⟨xs, hxs⟩ : ∃ xs, xs = p ++ [(j : Int) + (1 + (i : Int))] := ⟨_, rfl⟩
      rw [← hxs] at HX
      have Hsucc := Lib.hid (show liftOps p j (i + 1) = liftOps p j i ++ [⟨5, ys, xs, 0, zeroN, []⟩] by rw [liftOps_succ, hxs, Hys.out])
      have hll : (liftOps p j i).length ≤ 100000000 := by rw [liftOps_len]; omega
      have hld := Hld.out
      generalize liftOps p j i = L1 at HO Hsucc hll
      clear hxs
      go_upto_region 6 with fail
      go_region_held3 (fun w' => At w' W.heap.size [.slice pa p.length pc, v1, v2, v3, .slice ak ks.length ck, v5, v6, v7, v8, v9, v10, v11, v12, v13, .int .i64 j, v15] 72) ((repeat (first | with_reducible exact HB8.out | with_reducible exact HB6.out | with_reducible exact HB5.out | with_reducible exact HB4.out | with_reducible exact HBr.out | with_reducible exact At.second _ _ _ _ | with_reducible exact At.fresh _ _ _ | with_reducible refine At.drew ?_ | with_reducible refine At.alloc ?_ _)))
        (first
        | (refine step_call rfl 57 _ _ rfl jat_ent [.agg #[.slice pa p.length pc, v1, v2, v3, .slice ak ks.length ck, v5, v6, v7, v8, v9, v10, v11, v12, v13, .int .i64 j, v15], .int .i64 0] ?_ _ (HZr.out _ (by ((repeat (first | with_reducible exact Below.refl _ _ | with_reducible refine Below.drew ?_ | with_reducible refine Below.alloc ?_ ?_ _ | with_reducible refine Below.setCell ?_ ?_ _)) <;> (first | with_reducible exact Nat.le_refl _ | (simp; done) | (simp; omega) | omega)))) ?_
           · go_simp
           rintro e w4 ⟨za, zc, rfl, hq, hbel⟩
           refine ⟨_, rfl, ?_⟩
           have Hb4 := Lib.hid (Below.and (w0 := wr) (by ((repeat (first | with_reducible exact Below.refl _ _ | with_reducible refine Below.drew ?_ | with_reducible refine Below.alloc ?_ ?_ _ | with_reducible refine Below.setCell ?_ ?_ _)) <;> (first | with_reducible exact Nat.le_refl _ | (simp; done) | (simp; omega) | omega))) hbel)
           first
             | (refine At.lay (N := ?_) (cs := [.int .i64 0]) (T := 3) (At.kept ?_ hbel) ?_
                rotate_left
                · (repeat (first | with_reducible exact At.second _ _ _ _ | with_reducible exact At.fresh _ _ _ | with_reducible refine At.drew ?_ | with_reducible refine At.alloc ?_ _))
                intro HL4)
             | skip
           have HB4 := Lib.hid (HBr.out.kept Hb4.out)
           have Hz := Lib.hid hq.any
           clear hbel hq)
        | (refine step_call rfl 59 _ _ rfl under_ent [.slice za zs.length zc, .slice (some ⟨w4.heap.size, 0, none⟩) 1 1] ?_ _ (HU.out _ _ _ _ (RowQ.row (ok := fun _ => True) (by (repeat (first | with_reducible exact Hz.out | with_reducible refine rowq_alloc ?_ _)))) (RowQ.row (ok := fun _ => True) (rowq_at (T := 3) (by (repeat (first | with_reducible exact HL4.out | with_reducible exact At.second _ _ _ _ | with_reducible exact At.fresh _ _ _ | with_reducible refine At.drew ?_ | with_reducible refine At.alloc ?_ _))) 1 1 rfl (by omega) (ints_one [0]) trivial))) ?_
           · go_simp
           rintro e w5 ⟨ya, yc, rfl, hq, hbel⟩
           refine ⟨_, rfl, ?_⟩
           have Hb5 := Lib.hid (Below.and (w0 := wr) (by ((repeat (first | with_reducible exact Hb4.out | with_reducible exact Below.refl _ _ | with_reducible refine Below.drew ?_ | with_reducible refine Below.alloc ?_ ?_ _ | with_reducible refine Below.setCell ?_ ?_ _)) <;> (first | with_reducible exact Nat.le_refl _ | with_reducible exact Hb4.out.size | (have hsz := Hb4.out.size; simp [World.setCell]; omega) | (simp; done) | (simp; omega) | omega))) hbel)
           have HB5 := Lib.hid (HBr.out.kept Hb5.out)
           have Hy := Lib.hid (RowQ.imp hq (fun b hb => (show wr.heap.size ≤ b from Nat.le_trans (by (first | exact Hb4.out.size | (have hsz := Hb4.out.size; simp; omega) | exact Nat.le_refl _ | (simp; done) | (simp; omega) | omega)) hb)))
           clear hbel hq)
        | (refine step_call rfl 59 _ _ rfl under_ent [.slice za zs.length zc, .slice (some ⟨wr.heap.size, 0, none⟩) 1 1] ?_ _ (HU.out _ _ _ _ (RowQ.row (ok := fun _ => True) (by (repeat (first | with_reducible exact Hz.out | with_reducible refine rowq_alloc ?_ _)))) (RowQ.row (ok := fun _ => True) (rowq_at (T := 3) (by (repeat (first | with_reducible exact HL4.out | with_reducible exact At.second _ _ _ _ | with_reducible exact At.fresh _ _ _ | with_reducible refine At.drew ?_ | with_reducible refine At.alloc ?_ _))) 1 1 rfl (by omega) (ints_one [0]) trivial))) ?_
           · go_simp
           rintro e w5 ⟨ya, yc, rfl, hq, hbel⟩
           refine ⟨_, rfl, ?_⟩
           have Hb5 := Lib.hid (Below.and (w0 := wr) (by ((repeat (first | with_reducible exact Hb4.out | with_reducible exact Below.refl _ _ | with_reducible refine Below.drew ?_ | with_reducible refine Below.alloc ?_ ?_ _ | with_reducible refine Below.setCell ?_ ?_ _)) <;> (first | with_reducible exact Nat.le_refl _ | with_reducible exact Hb4.out.size | (have hsz := Hb4.out.size; simp [World.setCell]; omega) | (simp; done) | (simp; omega) | omega))) hbel)
           have HB5 := Lib.hid (HBr.out.kept Hb5.out)
           have Hy := Lib.hid (RowQ.imp hq (fun b hb => (show wr.heap.size ≤ b from Nat.le_trans (by (first | exact Hb4.out.size | (have hsz := Hb4.out.size; simp; omega) | exact Nat.le_refl _ | (simp; done) | (simp; omega) | omega)) hb)))
           clear hbel hq)
        | (refine step_call rfl 57 _ _ rfl jat_ent [.agg #[.slice pa p.length pc, v1, v2, v3, .slice ak ks.length ck, v5, v6, v7, v8, v9, v10, v11, v12, v13, .int .i64 j, v15], .int .i64 (1 + (i : Int))] ?_ _ (HX.out _ (by ((repeat (first | with_reducible exact Hb5.out | with_reducible exact Hb4.out | with_reducible exact Below.refl _ _ | with_reducible refine Below.drew ?_ | with_reducible refine Below.alloc ?_ ?_ _ | with_reducible refine Below.setCell ?_ ?_ _)) <;> (first | with_reducible exact Nat.le_refl _ | with_reducible exact Hb5.out.size | with_reducible exact Hb4.out.size | (have hsz := Hb5.out.size; simp [World.setCell]; omega) | (have hsz := Hb4.out.size; simp [World.setCell]; omega) | (simp; done) | (simp; omega) | omega)))) ?_
           · go_simp
           rintro e w6 ⟨xa, xc, rfl, hq, hbel⟩
           refine ⟨_, rfl, ?_⟩
           have Hb6 := Lib.hid (Below.and (w0 := wr) (by ((repeat (first | with_reducible exact Hb5.out | with_reducible exact Hb4.out | with_reducible exact Below.refl _ _ | with_reducible refine Below.drew ?_ | with_reducible refine Below.alloc ?_ ?_ _ | with_reducible refine Below.setCell ?_ ?_ _)) <;> (first | with_reducible exact Nat.le_refl _ | with_reducible exact Hb5.out.size | with_reducible exact Hb4.out.size | (have hsz := Hb5.out.size; simp [World.setCell]; omega) | (have hsz := Hb4.out.size; simp [World.setCell]; omega) | (simp; done) | (simp; omega) | omega))) hbel)
           have Hs6 := Lib.hid hbel
           have HB6 := Lib.hid (HBr.out.kept Hb6.out)
           have Hx := Lib.hid (RowQ.imp hq (fun b hb => (show wr.heap.size ≤ b from Nat.le_trans (by (first | exact Hb5.out.size | (have hsz := Hb5.out.size; simp; omega) | exact Nat.le_refl _ | (simp; done) | (simp; omega) | omega)) hb)))
           clear hbel hq)
        | (refine step_push rfl _ _ rfl Try.underlying39 info_op w3.heap.size w3.heap.size _ L1 ?_ (HO.out.below Hb6.out) ⟨5, ys, xs, 0, zeroN, []⟩ (opCells ⟨5, ys, xs, 0, zeroN, []⟩ ya yc xa xc (.bool false) (.slice none 0 0) (.slice none 0 0) (.slice none 0 0) none 0) rfl ?_ ?_ hll ?_ ?_
           · go_simp
           · go_simp
           · exact ⟨ya, yc, xa, xc, _, _, _, _, none, 0, rfl, (Hy.out.since Hs6.out).imp (fun b hb => ⟨Nat.le_trans hwr3 hb, HV.out b hb⟩), Hx.out.imp (fun b hb => ⟨Nat.le_trans hwr3 hb, HV.out b hb⟩), zero_q _ _, RowQ.empty _ _ _⟩
           · exact Nat.le_trans hwr3 Hb6.out.size
           intro v' w8 hO8 hb8
           have HO8 := Lib.hid hO8
           have Hb8 := Lib.hid ((Hbr.out.trans (Hb6.out.mono hwr3)).trans hb8)
           have HB8 := Lib.hid (HB6.out.keep (hb8.mono hBl))
           clear hO8 hb8))
      all_goals
        clear hld
        go_wp2_with fail
        go_roundg (kq.length - (i + 1))
        case measure => omega
        case rel => exact ⟨i + 1, by go_num, by omega, by rw [Hsucc.out]; exact HO8.out, Hb8.out⟩
    · --<2
      obtain rfl : i = kq.length := by omega
      have hN := HN3.out.kept Hbr.out
      have hlr := hN.lt
      obtain ⟨⟨n0, n1, n2, n3⟩, nf, nl⟩ := hN.f4
      have HNr := Lib.hid hN
      clear hN
      obtain ⟨va, vc, hv⟩ := HO.out.form
      subst hv
      have hll := liftOps_len p j kq.length
      go_upto_region 9 with fail
      obtain ⟨w5, hw5⟩ : ∃ w5, w5 = wr.setCell ⟨w2.heap.size, 3, none⟩ (.slice none 0 0) := ⟨_, rfl⟩
      rw [← hw5]
      have HO5 := Lib.hid (show OpsO w3.heap.size w3.heap.size w5 _ (liftOps p j kq.length) by rw [hw5]; exact HO.out.set (by omega) (by omega) _)
      have HN5 := Lib.hid (show At w5 w2.heap.size [.bool lq, .slice ap pq.length cp, .slice at_ tq.length ct, .slice none 0 0] 35 by rw [hw5]; exact HNr.out.set 3 _)
      have HB5 := Lib.hid (show At w5 W.heap.size [.slice pa p.length pc, v1, v2, v3, .slice ak ks.length ck, v5, v6, v7, v8, v9, v10, v11, v12, v13, .int .i64 j, v15] 72 by rw [hw5]; exact HBr.out.set_ne (by omega) _)
      have Hq5 := Lib.hid (show NodeQ w5 (fun b => b < w2.heap.size) (.mk lq pq tq []) [.bool lq, .slice ap pq.length cp, .slice at_ tq.length ct, .slice none 0 0] by rw [hw5]; exact nodeq_set ((Hq3.out).since Hbr.out) (by omega))
      have Hb5 := Lib.hid (show Below W.heap.size W w5 by rw [hw5]; exact (Hb3.out.trans (Hbr.out.mono Hb3.out.size)).setCell (p := ⟨w2.heap.size, 3, none⟩) (by show W.heap.size ≤ w2.heap.size; omega) _)
      have hs5 : w5.heap.size = wr.heap.size := by rw [hw5]; simp [World.setCell]
      have HZ5 := Lib.hid (fun (w1 : World) (hb : Below w5.heap.size w5 w1) => (show Calls Try.prog 57 #[.agg #[.slice pa p.length pc, v1, v2, v3, .slice ak ks.length ck, v5, v6, v7, v8, v9, v10, v11, v12, v13, .int .i64 j, v15], .int .i64 0] w1 (PathP w1 zs) by
        have h := hAt0.out w1 (Hb5.out.trans (hb.mono Hb5.out.size))
        rw [Int.add_zero, ← Hzs.out] at h
        exact h))
      have HS0 := Lib.hid (fun (w' : World) (hb : Below w5.heap.size w5 w') => And.intro (HB5.out.kept hb) (HN5.out.kept hb))
      have hln := fun (w' : World) (h : At w' w2.heap.size [.bool lq, .slice ap pq.length cp, .slice at_ tq.length ct, .slice none 0 0] 35) => At.load (P := Try.prog) h Try.underlying35 rfl (by kernel_rfl)
      simp [go_sem] at hln
      have hld := Hld.out
      clear hw5 n0 n1 n2 n3 nf nl HB3 HN3 HBr HNr HO Hq3 HZ HU
      go_region_held3 (fun w' => At w' W.heap.size [.slice pa p.length pc, v1, v2, v3, .slice ak ks.length ck, v5, v6, v7, v8, v9, v10, v11, v12, v13, .int .i64 j, v15] 72 ∧ At w' w2.heap.size [.bool lq, .slice ap pq.length cp, .slice at_ tq.length ct, .slice none 0 0] 35) (first | with_reducible exact HS8.out | (refine HS0.out _ (by ((repeat (first | with_reducible exact Hb6.out | with_reducible exact Below.refl _ _ | with_reducible refine Below.drew ?_ | with_reducible refine Below.alloc ?_ ?_ _ | with_reducible refine Below.setCell ?_ ?_ _)) <;> (first | with_reducible exact Nat.le_refl _ | with_reducible exact Hb6.out.size | (have hsz := Hb6.out.size; simp [World.setCell]; omega) | (simp; done) | (simp; omega) | omega)))))
        (first
        | (refine step_call rfl 57 _ _ rfl jat_ent [.agg #[.slice pa p.length pc, v1, v2, v3, .slice ak ks.length ck, v5, v6, v7, v8, v9, v10, v11, v12, v13, .int .i64 j, v15], .int .i64 0] ?_ _ (HZ5.out _ (by ((repeat (first | with_reducible exact Below.refl _ _ | with_reducible refine Below.drew ?_ | with_reducible refine Below.alloc ?_ ?_ _ | with_reducible refine Below.setCell ?_ ?_ _)) <;> (first | with_reducible exact Nat.le_refl _ | (simp; done) | (simp; omega) | omega)))) ?_
           · go_simp
           rintro e w6 ⟨za, zc, rfl, hq, hbel⟩
           refine ⟨_, rfl, ?_⟩
           have Hb6 := Lib.hid (Below.and (w0 := w5) (by ((repeat (first | with_reducible exact Below.refl _ _ | with_reducible refine Below.drew ?_ | with_reducible refine Below.alloc ?_ ?_ _ | with_reducible refine Below.setCell ?_ ?_ _)) <;> (first | with_reducible exact Nat.le_refl _ | (simp; done) | (simp; omega) | omega))) hbel)
           have Hz := Lib.hid hq
           clear hbel hq)
        | (refine step_push rfl _ _ rfl Try.underlying39 info_op 0 w3.heap.size _ (liftOps p j kq.length) ?_ ((HO5.out.below Hb6.out).from (Nat.zero_le _)) ⟨2, zs, [], 0, .mk lq pq tq [], []⟩ (opCells ⟨2, zs, [], 0, .mk lq pq tq [], []⟩ za zc none 0 (.bool lq) (.slice ap pq.length cp) (.slice at_ tq.length ct) (.slice none 0 0) none 0) rfl ?_ ?_ (by omega) ?_ ?_
           · go_simp
           · go_simp
           · exact ⟨za, zc, none, 0, _, _, _, _, none, 0, rfl, Hz.out.imp (fun b hb => ⟨Nat.zero_le _, HO5.out.lt b hb⟩), RowQ.empty _ _ _, NodeQ.keep (Nat.le_refl _) (fun _ _ _ => rfl) (fun b hb _ => ⟨Nat.zero_le _, fun e => by have := HO5.out.ge b e; omega⟩) _ _ (Hq5.out.since Hb6.out), RowQ.empty _ _ _⟩
           · exact Nat.le_trans (by omega) Hb6.out.size
           intro v' w8 hO8 hb8
           have HO8 := Lib.hid hO8
           have Hb8 := Lib.hid ((Hb5.out.trans (Hb6.out.mono Hb5.out.size)).trans (hb8.mono (by omega)))
           have HS8 := Lib.hid (And.intro ((HB5.out.kept Hb6.out).keep (hb8.mono hBl)) ((HN5.out.kept Hb6.out).keep (hb8.mono (by omega))))
           clear hO8 hb8))
      all_goals
        go_wp2_with fail
        go_ret
        refine ⟨_, rfl, ?_, Hb8.out⟩
        rw [← Hzs.out]
        exact HO8.out.ops

end Go.Proofs.Ytiinmgccjlmoaaa
