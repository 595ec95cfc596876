/- Walks: fix's fill, merge. -/
import Derived.Test.YtiinmgccjlmoaaaRHR
namespace Go.Proofs.Ytiinmgccjlmoaaa
open Go.RowKit Go.Redl
set_option linter.unusedVariables false
set_option linter.unusedSimpArgs false

theorem field_props (l : Bool) (a : Option Addr) (n c : Nat) (b : Option Addr) (m d : Nat) (e : Option Addr) (k f : Nat) (w : World) : (Instr.field 35 (.agg #[.bool l, .slice a n c, .slice b m d, .slice e k f]) 1).run Try.prog w = .ok (.slice a n c) w := by kernel_rfl
theorem leafz_q (w : World) (ok : Nat → Prop) : NodeQ w ok (.mk true [] [] []) [.bool true, .slice none 0 0, .slice none 0 0, .slice none 0 0] := by
  unfold NodeQ
  exact ⟨none, 0, none, 0, none, 0, [], rfl, RowQ.empty _ _ _, RowQ.empty _ _ _, by simp, RowQ.empty _ _ _, by unfold KidsQ; rfl⟩
set_option maxRecDepth 100000 in
set_option maxHeartbeats 2000000 in
theorem fixfill_c (p : List Int) (pa : Option Addr) (pc : Nat) (ks : List NodeD) (ak : Option Addr) (ck : Nat) (css : List Value) (v1 v2 v3 v5 v6 v7 v8 v9 v10 v13 v15 : Value) (fl : Int) (ft : List UInt8) (j : Nat) (W : World)
    (hJ : JobAt W p pa pc ks ak ck css j) :
    Calls Try.prog 31 #[.agg #[.slice pa p.length pc, v1, v2, v3, .slice ak ks.length ck, v5, v6, v7, v8, v9, v10, .int .i64 fl, strV ft, v13, .int .i64 j, v15]] W (OpsP W [⟨1, p ++ [(j : Int)], [], 0, if fl = 1 then .mk true [] [] [] else elemN ft, []⟩]) := by
  obtain ⟨Q, hQ⟩ : ∃ Q, Q = (if fl = 1 then NodeD.mk true [] [] [] else elemN ft) := ⟨_, rfl⟩
  rw [← hQ]
  have HQ := Lib.hid hQ
  clear hQ
  obtain ⟨w0, hw0⟩ : ∃ w0, w0 = (W.alloc (Obj.cells #[.slice pa p.length pc, v1, v2, v3, .slice ak ks.length ck, v5, v6, v7, v8, v9, v10, .int .i64 fl, strV ft, v13, .int .i64 j, v15] 72)).alloc (Obj.cells #[.bool true, .slice none 0 0, .slice none 0 0, .slice none 0 0] 35) := ⟨_, rfl⟩
  have hb0 : Below W.heap.size W w0 := by rw [hw0]; exact two_below _ _ _
  have hB : At w0 W.heap.size [.slice pa p.length pc, v1, v2, v3, .slice ak ks.length ck, v5, v6, v7, v8, v9, v10, .int .i64 fl, strV ft, v13, .int .i64 j, v15] 72 := by rw [hw0]; exact (At.fresh _ _ _).alloc _
  have hN : At w0 (W.heap.size + 1) [.bool true, .slice none 0 0, .slice none 0 0, .slice none 0 0] 35 := by rw [hw0]; exact At.second _ _ _ _
  have hAt := fun (w1 : World) (hb : Below W.heap.size W w1) => jat_c p pa pc v1 v2 v3 (.slice ak ks.length ck) v5 v6 v7 v8 v9 v10 (.int .i64 fl) (strV ft) v13 v15 j 0 w1 (hJ.keep hb).path hJ.pl hJ.at_ (by omega) (by omega)
  rw [Int.add_zero] at hAt
  generalize p ++ [(j : Int)] = zs at hAt ⊢
  have HAt := Lib.hid hAt
  have HT := Lib.hid (fun (w1 : World) => ftyped_c ft w1)
  have hld := fun (w' : World) (h : At w' W.heap.size [.slice pa p.length pc, v1, v2, v3, .slice ak ks.length ck, v5, v6, v7, v8, v9, v10, .int .i64 fl, strV ft, v13, .int .i64 j, v15] 72) => At.load (P := Try.prog) h Try.underlying72 rfl (by kernel_rfl)
  simp [go_sem] at hld
  have Hw0 := Lib.hid hw0; have Hb0 := Lib.hid hb0; have HB := Lib.hid hB; have HN := Lib.hid hN
  have x11 := hB.cell 11 rfl
  have xl := hB.lt
  obtain ⟨⟨n0, n1, n2, n3⟩, nf, nl⟩ := hN.f4
  clear hw0 hb0 hB hN hAt hJ
  go_enter Try.func31, Try.ntmps31
  go_upto_region 2 with fail
  rw [← Hw0.out]
  clear Hw0
  go_upto_if 8 with fail
  go_cut [] (fun wx => ∃ l a1 m1 k1 a2 m2 k2 a3 m3 k3, At wx (W.heap.size + 1) [.bool l, .slice a1 m1 k1, .slice a2 m2 k2, .slice a3 m3 k3] 35 ∧ At wx W.heap.size [.slice pa p.length pc, v1, v2, v3, .slice ak ks.length ck, v5, v6, v7, v8, v9, v10, .int .i64 fl, strV ft, v13, .int .i64 j, v15] 72 ∧ NodeQ wx (fun b => w0.heap.size ≤ b) Q [.bool l, .slice a1 m1 k1, .slice a2 m2 k2, .slice a3 m3 k3] ∧ Below W.heap.size W wx)
  case first =>
    by_cases h1 : fl = 1
    · subst h1
      have HQ1 := Lib.hid (show Q = .mk true [] [] [] by rw [HQ.out, if_pos rfl])
      go_wp2_with fail
      go_meet
      case rel =>
        refine ⟨_, _, _, _, _, _, _, _, _, _, HN.out, HB.out, ?_, Hb0.out⟩
        rw [HQ1.out]; exact leafz_q _ _
    · have h1I : (fl != 1) = true := by simpa using h1
      have HQ1 := Lib.hid (show Q = elemN ft by rw [HQ.out, if_neg h1])
      have x12 := HB.out.cell 12 rfl
      have HT1 := Lib.hid (HT.out w0)
      clear h1 hld
      go_wp2_with fail
      refine HT1.out.mono ?_
      rintro e w1 ⟨cs, rfl, hn, hbel⟩
      obtain ⟨l, a1, m1, k1, a2, m2, k2, a3, m3, k3, rfl⟩ := hn.form
      have Hn := Lib.hid hn; have Hb1 := Lib.hid (Hb0.out.trans (hbel.mono Hb0.out.size))
      have HN1 := Lib.hid (HN.out.kept hbel); have HB1 := Lib.hid (HB.out.kept hbel)
      clear hbel hn n0 n1 n2 n3 nf nl x11 x12 HT1
      obtain ⟨⟨n0, n1, n2, n3⟩, nf, nl⟩ := HN1.out.f4
      go_wp2_with fail
      go_meet
      case rel =>
        have hcl : W.heap.size ≤ W.heap.size + 1 := by omega
        have hn0 : ¬ w0.heap.size ≤ W.heap.size + 1 := by have := HN.out.lt; omega
        refine ⟨_, _, _, _, _, _, _, _, _, _, HN1.out.s4 _ _ _ _, HB1.out.n4 (by omega) _ _ _ _, ?_, below_all Hb1.out hcl _ _ _ _⟩
        rw [HQ1.out]
        exact nodeq_set (nodeq_set (nodeq_set (nodeq_set Hn.out hn0) hn0) hn0) hn0
  case rest =>
    obtain ⟨l, a1, m1, k1, a2, m2, k2, a3, m3, k3, hN2, hB2, hq2, hb2⟩ := hcut
    have HN2 := Lib.hid hN2; have HB2 := Lib.hid hB2; have Hq2 := Lib.hid hq2; have HbW := Lib.hid hb2
    have HAt2 := Lib.hid (fun (w1 : World) (hb : Below wc.heap.size wc w1) => HAt.out w1 (HbW.out.trans (hb.mono HbW.out.size)))
    have HS0 := Lib.hid (fun (w' : World) (hb : Below wc.heap.size wc w') => And.intro (HB2.out.kept hb) (HN2.out.kept hb))
    have hln := fun (w' : World) (h : At w' (W.heap.size + 1) [.bool l, .slice a1 m1 k1, .slice a2 m2 k2, .slice a3 m3 k3] 35) => At.load (P := Try.prog) h Try.underlying35 rfl (by kernel_rfl)
    simp [go_sem] at hln
    clear hN2 hB2 hq2 hb2 n0 n1 n2 n3 nf nl x11 HN HB HT HAt
    go_upto_region 4 with fail
    go_region_held3 (fun w' => At w' W.heap.size [.slice pa p.length pc, v1, v2, v3, .slice ak ks.length ck, v5, v6, v7, v8, v9, v10, .int .i64 fl, strV ft, v13, .int .i64 j, v15] 72 ∧ At w' (W.heap.size + 1) [.bool l, .slice a1 m1 k1, .slice a2 m2 k2, .slice a3 m3 k3] 35) (refine HS0.out _ (by ((repeat (first | with_reducible exact Hb1.out | with_reducible exact Below.refl _ _ | with_reducible refine Below.drew ?_ | with_reducible refine Below.alloc ?_ ?_ _ | with_reducible refine Below.setCell ?_ ?_ _)) <;> (first | with_reducible exact Nat.le_refl _ | with_reducible exact Hb1.out.size | (have hsz := Hb1.out.size; simp [World.setCell]; omega) | (simp; done) | (simp; omega) | omega))))
      (first
      | (refine step_call rfl 57 _ _ rfl jat_ent [.agg #[.slice pa p.length pc, v1, v2, v3, .slice ak ks.length ck, v5, v6, v7, v8, v9, v10, .int .i64 fl, strV ft, v13, .int .i64 j, v15], .int .i64 0] ?_ _ (HAt2.out _ (by ((repeat (first | with_reducible exact Below.refl _ _ | with_reducible refine Below.drew ?_ | with_reducible refine Below.alloc ?_ ?_ _ | with_reducible refine Below.setCell ?_ ?_ _)) <;> (first | with_reducible exact Nat.le_refl _ | (simp; done) | (simp; omega) | omega)))) ?_
         · go_simp
         rintro e w1 ⟨za, zc, rfl, hq, hbel⟩
         refine ⟨_, rfl, ?_⟩
         have Hb1 := Lib.hid (Below.and (w0 := wc) (by ((repeat (first | with_reducible exact Below.refl _ _ | with_reducible refine Below.drew ?_ | with_reducible refine Below.alloc ?_ ?_ _ | with_reducible refine Below.setCell ?_ ?_ _)) <;> (first | with_reducible exact Nat.le_refl _ | (simp; done) | (simp; omega) | omega))) hbel)
         have Hz := Lib.hid hq.any
         clear hbel hq))
    all_goals
      go_wp2_with fail
      go_ret
      refine ⟨_, rfl, ops_one (o := ⟨1, zs, [], 0, Q, []⟩) ⟨za, zc, none, 0, _, _, _, _, none, 0, rfl, Hz.out, RowQ.empty _ _ _, (Hq2.out.since Hb1.out).any, RowQ.empty _ _ _⟩, HbW.out.trans ((Hb1.out.alloc Hb1.out.size _).mono HbW.out.size)⟩

set_option maxRecDepth 100000 in
set_option maxHeartbeats 2000000 in
theorem fixmerge_c (p : List Int) (pa : Option Addr) (pc : Nat) (ks : List NodeD) (ak : Option Addr) (ck : Nat) (css : List Value) (v1 v2 v3 v5 v6 v7 v8 v9 v10 v11 v12 v13 v15 : Value) (j : Nat) (W : World)
    (hJ : JobAt W p pa pc ks ak ck css j) (hj : j < ks.length) (hj0 : 0 < j) :
    Calls Try.prog 30 #[.agg #[.slice pa p.length pc, v1, v2, v3, .slice ak ks.length ck, v5, v6, v7, v8, v9, v10, v11, v12, v13, .int .i64 j, v15]] W (OpsP W [⟨3, p ++ [(j : Int)], [], (textOf (kidAt ks (j - 1))).length, zeroN, propsOf (kidAt ks j)⟩]) := by
  have hkl : ks.length ≤ 100000000 := by have := wtAll_len ks; have := hJ.kl; omega
  have hqw : (kidAt ks j).wt ≤ 100000000 := by rw [kid_get hj]; have := wtAll_mem (List.getElem_mem hj); have := hJ.kl; omega
  have hpl : (propsOf (kidAt ks j)).length ≤ 100000000 := by
    generalize kidAt ks j = q at hqw
    obtain ⟨l, ps, t, kk⟩ := q
    have := propsWt_len ps
    simp only [NodeD.wt] at hqw
    simp only [propsOf]; omega
  obtain ⟨w0, hw0⟩ : ∃ w0, w0 = W.alloc (Obj.cells #[.slice pa p.length pc, v1, v2, v3, .slice ak ks.length ck, v5, v6, v7, v8, v9, v10, v11, v12, v13, .int .i64 j, v15] 72) := ⟨_, rfl⟩
  have hb0 : Below W.heap.size W w0 := by rw [hw0]; exact one_below _ _
  have hB : At w0 W.heap.size [.slice pa p.length pc, v1, v2, v3, .slice ak ks.length ck, v5, v6, v7, v8, v9, v10, v11, v12, v13, .int .i64 j, v15] 72 := by rw [hw0]; exact At.fresh _ _ _
  have hAt := fun (w1 : World) (hb : Below W.heap.size W w1) => jat_c p pa pc v1 v2 v3 (.slice ak ks.length ck) v5 v6 v7 v8 v9 v10 v11 v12 v13 v15 j 0 w1 (hJ.keep hb).path hJ.pl hJ.at_ (by omega) (by omega)
  rw [Int.add_zero] at hAt
  generalize p ++ [(j : Int)] = zs at hAt ⊢
  have HAt := Lib.hid (fun (w1 : World) (hb : Below w0.heap.size w0 w1) => hAt w1 (hb0.trans (hb.mono hb0.size)))
  have HKd := Lib.hid (fun (w1 : World) (hb : Below w0.heap.size w0 w1) => jkid_c ks ak ck css (.slice pa p.length pc) v1 v2 v3 v5 v6 v7 v8 v9 v10 v11 v12 v13 v15 j w1 (hJ.keep (hb0.trans (hb.mono hb0.size))).kids (hJ.keep (hb0.trans (hb.mono hb0.size))).kids' hj hkl)
  have hld := fun (w' : World) (h : At w' W.heap.size [.slice pa p.length pc, v1, v2, v3, .slice ak ks.length ck, v5, v6, v7, v8, v9, v10, v11, v12, v13, .int .i64 j, v15] 72) => At.load (P := Try.prog) h Try.underlying72 rfl (by kernel_rfl)
  simp [go_sem] at hld
  have Hld := Lib.hid hld
  obtain ⟨kb, ko, a1, c1, a2, c2, a3, c3, hak, hkb, -, -, g0, g1, g2, g3⟩ := kidO hJ.kids hJ.kids' (j - 1) (by omega)
  have f0 := (hb0.cell (p := ⟨kb, ko + (j - 1) * 4, none⟩) hkb).trans g0
  have f1 := (hb0.cell (p := ⟨kb, ko + (j - 1) * 4 + 1, none⟩) hkb).trans g1
  have f2 := (hb0.cell (p := ⟨kb, ko + (j - 1) * 4 + 2, none⟩) hkb).trans g2
  have f3 := (hb0.cell (p := ⟨kb, ko + (j - 1) * 4 + 3, none⟩) hkb).trans g3
  rw [← kid_get (show j - 1 < ks.length by omega)] at f0 f1 f2 f3
  have hjI : (j : Int) ≤ ks.length := by omega
  have hwr : IntKind.i64.wrap ((j : Int) - 1) = ((j - 1 : Nat) : Int) := by rw [show ((j : Int) - 1) = ((j - 1 : Nat) : Int) by omega]; exact IntWalk.i64_in _ (by omega)
  have hj1 : ((j - 1 : Nat) : Int) < ks.length := by omega
  generalize kidAt ks j = q at HKd hpl ⊢
  generalize kidAt ks (j - 1) = qa at f0 f1 f2 f3 ⊢
  have hHB := Lib.hid hB; have Hb0 := Lib.hid hb0; have Hw0 := Lib.hid hw0
  have x4 := hB.cell 4 rfl; have x14 := hB.cell 14 rfl; have xl := hB.lt
  rw [hak] at x4
  have Hak := Lib.hid hak
  clear hw0 hb0 hB hAt hJ hj hqw g0 g1 g2 g3 hld hak
  go_enter Try.func30, Try.ntmps30
  go_upto_region 1 with fail
  rw [← Hw0.out]
  clear Hw0
  go_upto_region 2 with fail
  obtain ⟨w1, hw1⟩ : ∃ w1, w1 = w0.alloc (Obj.cells #[.bool (leafOf qa), .slice a1 (propsOf qa).length c1, .slice a2 (textOf qa).length c2, .slice a3 (kidsOf qa).length c3] 35) := ⟨_, rfl⟩
  rw [← hw1]
  have hb1 : Below w0.heap.size w0 w1 := by rw [hw1]; exact one_below _ _
  have hN1 : At w1 w0.heap.size [.bool (leafOf qa), .slice a1 (propsOf qa).length c1, .slice a2 (textOf qa).length c2, .slice a3 (kidsOf qa).length c3] 35 := by rw [hw1]; exact At.fresh _ _ _
  have hB1 := hHB.out.kept hb1
  have HB := Lib.hid hB1; have HN := Lib.hid hN1; have Hb1 := Lib.hid hb1
  have HS0 := Lib.hid (fun (w' : World) (hb : Below w1.heap.size w1 w') => And.intro (HB.out.kept hb) ((HN.out.kept hb).cell 2 rfl))
  have HAt2 := Lib.hid (fun (w' : World) (hb : Below w1.heap.size w1 w') => HAt.out w' (Hb1.out.trans (hb.mono Hb1.out.size)))
  have HKd2 := Lib.hid (fun (w' : World) (hb : Below w1.heap.size w1 w') => HKd.out w' (Hb1.out.trans (hb.mono Hb1.out.size)))
  have hld := Hld.out
  have hfp := field_props
  clear hw1 hb1 hN1 hB1 hHB f0 f1 f2 f3 x4 x14 HAt HKd
  go_region_held3 (fun w' => At w' W.heap.size [.slice pa p.length pc, v1, v2, v3, .slice ak ks.length ck, v5, v6, v7, v8, v9, v10, v11, v12, v13, .int .i64 j, v15] 72 ∧ w'.cell? ⟨w0.heap.size, 2, none⟩ = some (.slice a2 (textOf qa).length c2)) (refine HS0.out _ (by ((repeat (first | with_reducible exact Hb4.out | with_reducible exact Hb3.out | with_reducible exact Hb2.out | with_reducible exact Below.refl _ _ | with_reducible refine Below.drew ?_ | with_reducible refine Below.alloc ?_ ?_ _ | with_reducible refine Below.setCell ?_ ?_ _)) <;> (first | with_reducible exact Nat.le_refl _ | with_reducible exact Hb4.out.size | with_reducible exact Hb3.out.size | with_reducible exact Hb2.out.size | (have hsz := Hb4.out.size; simp [World.setCell]; omega) | (have hsz := Hb3.out.size; simp [World.setCell]; omega) | (have hsz := Hb2.out.size; simp [World.setCell]; omega) | (simp; done) | (simp; omega) | omega))))
    (first
    | (refine step_call rfl 57 _ _ rfl jat_ent [.agg #[.slice pa p.length pc, v1, v2, v3, .slice ak ks.length ck, v5, v6, v7, v8, v9, v10, v11, v12, v13, .int .i64 j, v15], .int .i64 0] ?_ _ (HAt2.out _ (by ((repeat (first | with_reducible exact Below.refl _ _ | with_reducible refine Below.drew ?_ | with_reducible refine Below.alloc ?_ ?_ _ | with_reducible refine Below.setCell ?_ ?_ _)) <;> (first | with_reducible exact Nat.le_refl _ | (simp; done) | (simp; omega) | omega)))) ?_
       · go_simp
       rintro e w2 ⟨za, zc, rfl, hq, hbel⟩
       refine ⟨_, rfl, ?_⟩
       have Hb2 := Lib.hid (Below.and (w0 := w1) (by ((repeat (first | with_reducible exact Below.refl _ _ | with_reducible refine Below.drew ?_ | with_reducible refine Below.alloc ?_ ?_ _ | with_reducible refine Below.setCell ?_ ?_ _)) <;> (first | with_reducible exact Nat.le_refl _ | (simp; done) | (simp; omega) | omega))) hbel)
       have Hz := Lib.hid hq.any
       clear hbel hq)
    | (refine step_call rfl 58 _ _ rfl jkid_ent [.agg #[.slice pa p.length pc, v1, v2, v3, .slice ak ks.length ck, v5, v6, v7, v8, v9, v10, v11, v12, v13, .int .i64 j, v15]] ?_ _ (HKd2.out _ (by ((repeat (first | with_reducible exact Hb2.out | with_reducible exact Below.refl _ _ | with_reducible refine Below.drew ?_ | with_reducible refine Below.alloc ?_ ?_ _ | with_reducible refine Below.setCell ?_ ?_ _)) <;> (first | with_reducible exact Nat.le_refl _ | with_reducible exact Hb2.out.size | (have hsz := Hb2.out.size; simp [World.setCell]; omega) | (simp; done) | (simp; omega) | omega)))) ?_
       · go_simp
       rintro e w3 ⟨kv, rfl, hkv, hbel⟩
       obtain ⟨lq, pq, tq, kq⟩ := q
       obtain ⟨aq, cq, bq, dq, eq_, fq, gq, rfl, hpr, -, -, -⟩ := hkv.open
       refine ⟨_, rfl, ?_⟩
       have Hb3 := Lib.hid (Below.and (w0 := w1) (by ((repeat (first | with_reducible exact Hb2.out | with_reducible exact Below.refl _ _ | with_reducible refine Below.drew ?_ | with_reducible refine Below.alloc ?_ ?_ _ | with_reducible refine Below.setCell ?_ ?_ _)) <;> (first | with_reducible exact Nat.le_refl _ | with_reducible exact Hb2.out.size | (have hsz := Hb2.out.size; simp [World.setCell]; omega) | (simp; done) | (simp; omega) | omega))) hbel)
       have Hs3 := Lib.hid hbel
       have Hpr := Lib.hid hpr
       clear hbel hkv hpr)
    | (refine step_call rfl 61 _ _ rfl prop_cl_ent [.slice aq pq.length cq] ?_ _ (clone_prop _ pq.length aq cq _ _ Hpr.out (Nat.le_refl _) hpl) ?_
       · go_simp
       rintro e w4 ⟨ov, rfl, hown, hbel⟩
       obtain ⟨oa, oc, rfl, hoq⟩ := rowq_own hown (propCells_one _)
       refine ⟨_, rfl, ?_⟩
       have Hb4 := Lib.hid (Below.and (w0 := w1) (by ((repeat (first | with_reducible exact Hb3.out | with_reducible exact Below.refl _ _ | with_reducible refine Below.drew ?_ | with_reducible refine Below.alloc ?_ ?_ _ | with_reducible refine Below.setCell ?_ ?_ _)) <;> (first | with_reducible exact Nat.le_refl _ | with_reducible exact Hb3.out.size | (have hsz := Hb3.out.size; simp [World.setCell]; omega) | (simp; done) | (simp; omega) | omega))) hbel)
       have Hs4 := Lib.hid hbel
       have Hoq := Lib.hid hoq.any
       clear hbel hown hoq))
  all_goals
    go_wp2_with fail
    go_ret
    refine ⟨_, rfl, ops_one (o := ⟨3, zs, [], (textOf qa).length, zeroN, pq⟩) ⟨za, zc, none, 0, _, _, _, _, oa, oc, rfl, (Hz.out.since Hs3.out).since Hs4.out, RowQ.empty _ _ _, zero_q _ _, Hoq.out⟩, Hb0.out.trans ((Below.and Hb1.out (Hb4.out.alloc Hb4.out.size _)).mono Hb0.out.size)⟩

end Go.Proofs.Ytiinmgccjlmoaaa
