/- Parts of the proof, one behind the other: RSD, RN2, RFB, RFE. -/
import Derived.Test.YtmhgbocejjnoaaaGreatDoorPK6
import Derived.Test.YtmhgbocejjnoaaaGreatDoorPK1
import Derived.Test.YtmhgbocejjnoaaaGreatDoorRows
import Derived.Test.YtmhgbocejjnoaaaGreatDoorProg
import Derived.Test.YtmhgbocejjnoaaaGreatDoorCards
import Derived.Test.YtmhgbocejjnoaaaGreatDoorTie
import Derived.Test.YtmhgbocejjnoaaaGreatDoorPK2
import Derived.ProofKit
import Derived.LaidMore
import Derived.OpenShut
import Derived.ShutString
import Derived.ChangeOld
import Derived.Below
import Derived.Stop.Joined
import Derived.Lib.LaidTab
import Derived.Stop.LaidErr
import Derived.Deep.DeepHandedRow
import Derived.Deep.DeepWitnessRowRef
import Derived.JoinedCond
import Derived.Lay
import Derived.SevenTiedAt
import Derived.Test.YtmhgbocejjnoaaaGreatDoorPK4
/- Walks: CodeKids. -/
namespace Go.Proofs.YtmhgbocejjnoaaaGreatDoor
open Go.RowKit Go.Redl
set_option linter.unusedVariables false

mutual
/-- More room: as much more is left. -/
theorem leftN_shift : ∀ (n : NodeD) (m d : Int), 0 ≤ leftN n m → 0 ≤ d → leftN n (m + d) = leftN n m + d
  | .mk l ps t ks, m, d, h, hd => by
    unfold leftN at h ⊢
    split at h
    · exact absurd h (by decide)
    · rename_i hc
      have ih := leftK_shift ks _ d h hd
      rw [if_neg hc, if_neg (by omega), ← ih]
      congr 1
      omega
theorem leftK_shift : ∀ (ks : List NodeD) (m d : Int), 0 ≤ leftK ks m → 0 ≤ d → leftK ks (m + d) = leftK ks m + d
  | [], m, d, h, hd => by simp [leftK]
  | k :: ks, m, d, h, hd => by
    unfold leftK at h
    split at h
    · exact absurd h (by decide)
    · rename_i hc
      have a := leftN_shift k m d (by omega) hd
      have b := leftK_shift ks _ d h hd
      conv => lhs; unfold leftK
      conv => rhs; unfold leftK
      rw [a, if_neg hc, if_neg (by omega), b]
end
theorem few_pair {a b : NodeD} (ha : fewB a 100 = true) (hb : fewB b 100 = true) : fewB (.mk false [] [] [a, b]) 250 = true := by
  unfold fewB at ha hb ⊢
  simp only [decide_eq_true_eq] at ha hb ⊢
  have h1 := leftN_shift a 100 149 ha (by decide)
  have h2 := leftN_shift b 100 (leftN a 100 + 49) hb (by omega)
  have e1 : (100 : Int) + 149 = 249 := rfl
  rw [e1] at h1
  have e2 : (100 : Int) + (leftN a 100 + 49) = leftN a 249 := by rw [h1]; omega
  rw [e2] at h2
  have e4 : leftN (.mk false [] [] [a, b]) 250 = leftK [a, b] 249 := by unfold leftN; simp [propsQ]
  rw [e4]
  unfold leftK
  rw [if_neg (by omega)]
  unfold leftK
  rw [if_neg (by omega)]
  unfold leftK
  omega
theorem pair_ok {a b : NodeD} (ha : nodeE a = 0) (hb : nodeE b = 0) : nodeE (.mk false [] [] [a, b]) = 0 := by
  unfold nodeE ownE
  simp [propsE, propsGo, checkE, kidsE, ha, hb]
theorem print_size (n : NodeD) (S : ByteArray) (hS : S = ⟨(printL n).toArray⟩) : S.size = (printL n).length := by rw [hS]; rfl
theorem print_ne (n : NodeD) (S : ByteArray) (hS : S = ⟨(printL n).toArray⟩) : S.toList.isEmpty = false := by
  rw [hS, ByteArray.toList_mk]
  obtain ⟨x, r, hx, -⟩ := printL_head n
  rw [hx]; rfl
theorem NodeAt.second (w : World) (o : Obj) (c0 c1 c2 c3 : Value) : NodeAt ((w.alloc o).alloc (.cells #[c0, c1, c2, c3] 27)) (w.heap.size + 1) c0 c1 c2 c3 := by
  have h := NodeAt.fresh (w.alloc o) c0 c1 c2 c3
  have e : (w.alloc o).heap.size = w.heap.size + 1 := by simp
  rwa [e] at h
/-- Two nodes in a literal. -/
theorem pair_node {w : World} {a b : NodeD} {c0 c1 c2 c3 d0 d1 d2 d3 : Value} (ha : NodeC w w.heap.size a [c0, c1, c2, c3]) (hb : NodeC w w.heap.size b [d0, d1, d2, d3]) :
    NodeV (w.alloc (.cells #[c0, c1, c2, c3, d0, d1, d2, d3] 27)) (w.alloc (.cells #[c0, c1, c2, c3, d0, d1, d2, d3] 27)).heap.size (.mk false [] [] [a, b]) (.agg #[.bool false, .slice none 0 0, .slice none 0 0, .slice (some ⟨w.heap.size, 0, none⟩) 2 2]) := by
  have hb0 := (Below.refl w.heap.size w).alloc (Nat.le_refl _) (Obj.cells #[c0, c1, c2, c3, d0, d1, d2, d3] 27)
  have h1 := ha.one; have h2 := hb.one
  refine ⟨[.bool false, .slice none 0 0, .slice none 0 0, .slice (some ⟨w.heap.size, 0, none⟩) 2 2], rfl, ?_⟩
  unfold NodeC
  refine ⟨none, 0, none, 0, some ⟨w.heap.size, 0, none⟩, 2, [c0, c1, c2, c3, d0, d1, d2, d3], rfl, RowA.empty _ _ _, RowA.empty _ _ _, by simp, ?_, ?_⟩
  · exact row_cells 4 2 [c0, c1, c2, c3, d0, d1, d2, d3] rfl (by omega) (by
      intro u hu
      simp only [List.mem_cons, List.not_mem_nil, or_false] at hu h1 h2
      rcases hu with rfl | rfl | rfl | rfl | rfl | rfl | rfl | rfl
      · exact h1 _ (.inl rfl)
      · exact h1 _ (.inr (.inl rfl))
      · exact h1 _ (.inr (.inr (.inl rfl)))
      · exact h1 _ (.inr (.inr (.inr rfl)))
      · exact h2 _ (.inl rfl)
      · exact h2 _ (.inr (.inl rfl))
      · exact h2 _ (.inr (.inr (.inl rfl)))
      · exact h2 _ (.inr (.inr (.inr rfl)))) (Below.refl _ _)
  · unfold KidsC
    refine ⟨[c0, c1, c2, c3], [d0, d1, d2, d3], rfl, NodeC.keep hb0 hb0.size _ _ ha, ?_⟩
    unfold KidsC
    exact ⟨[d0, d1, d2, d3], [], rfl, NodeC.keep hb0 hb0.size _ _ hb, by unfold KidsC; rfl⟩

set_option maxRecDepth 100000 in
set_option maxHeartbeats 4000000 in
theorem ckids_ff (a b : NodeD) (va vb : Value) (w : World) (hna : a.wt ≤ 1048576) (hnb : b.wt ≤ 1048576) (hva : NodeV w w.heap.size a va) (hvb : NodeV w w.heap.size b vb) (hT : TabAt w) (hEr : ErrsAt w) (hg : 7 < w.heap.size) (hf : fewB a 100 = false) :
    Calls Tryz.prog 5 #[va, vb] w fun e w' => e = .returned (.bool true) ∧ Below w.heap.size w w' := by
  have hva0 := hva; have hvb0 := hvb
  obtain ⟨csa, rfl, hca⟩ := hva0
  obtain ⟨csb, rfl, hcb⟩ := hvb0
  obtain ⟨la, pa, pn, pc, ta, tn, tc, ka, kn, kc, rfl⟩ := hca.form
  obtain ⟨lb, qa, qn, qc, ua, un, uc, ja, jn, jc, rfl⟩ := hcb.form
  have hB0 : Below w.heap.size w ((w.alloc (Obj.cells #[.bool la, .slice pa pn pc, .slice ta tn tc, .slice ka kn kc] 27)).alloc (Obj.cells #[.bool lb, .slice qa qn qc, .slice ua un uc, .slice ja jn jc] 27)) := ((Below.refl _ _).alloc (Nat.le_refl _) _).alloc (by simp) _
  have hA0 := (NodeAt.fresh w (.bool la) (.slice pa pn pc) (.slice ta tn tc) (.slice ka kn kc)).alloc (Obj.cells #[.bool lb, .slice qa qn qc, .slice ua un uc, .slice ja jn jc] 27)
  have hA1 := NodeAt.second w (Obj.cells #[.bool la, .slice pa pn pc, .slice ta tn tc, .slice ka kn kc] 27) (.bool lb) (.slice qa qn qc) (.slice ua un uc) (.slice ja jn jc)
  have HL := Lib.hid (live_c _ (hT.keep hB0 hg) (Nat.lt_of_lt_of_le hg hB0.size))
  have HF := fun (w1 : World) (hb : Below w.heap.size w w1) => Lib.hid (rfew_c a _ 100 w1 (by omega) (by omega) (by omega) (hva.keep hb hb.size))
  have HG := fun (w1 : World) (hb : Below w.heap.size w w1) => Lib.hid (rfew_c b _ 100 w1 (by omega) (by omega) (by omega) (hvb.keep hb hb.size))
  have Hb0 := Lib.hid hB0; have HA0 := Lib.hid hA0; have HA1 := Lib.hid hA1
  rw [hf] at HF
  clear hva hvb hna hnb hB0 hA0 hA1 hca hcb hT hEr hf
  go_enter Tryz.func5, Tryz.ntmps5
  go_wp2_with fail
  refine HL.out.mono ?_
  rintro e w1 ⟨rfl, hbel⟩
  have Hb1 := Lib.hid (below_then Hb0.out hbel (Nat.le_refl _))
  have hA0 := HA0.out.keep (hbel.mono (by have := HA0.out.facts.2.2.2.2.2; omega))
  have hA1 := HA1.out.keep (hbel.mono (by have := HA1.out.facts.2.2.2.2.2; omega))
  clear HA0 HA1
  have HA0 := Lib.hid hA0; have HA1 := Lib.hid hA1
  obtain ⟨x0, x1, x2, x3, -, hx4⟩ := hA0.facts
  obtain ⟨y0, y1, y2, y3, -, hy4⟩ := hA1.facts
  clear hbel HL hA0 hA1
  have HF1 := HF _ Hb1.out
  go_wp2_with fail
  clear x0 x1 x2 x3 y0 y1 y2 y3 hx4 hy4
  refine HF1.out.mono ?_
  rintro e w2 ⟨rfl, hbel⟩
  have Hb2 := Lib.hid (below_then Hb1.out hbel (Nat.le_refl _))
  have hA0 := HA0.out.keep (hbel.mono (by have := HA0.out.facts.2.2.2.2.2; omega))
  have hA1 := HA1.out.keep (hbel.mono (by have := HA1.out.facts.2.2.2.2.2; omega))
  clear HA0 HA1
  have HA0 := Lib.hid hA0; have HA1 := Lib.hid hA1
  obtain ⟨x0, x1, x2, x3, -, hx4⟩ := hA0.facts
  obtain ⟨y0, y1, y2, y3, -, hy4⟩ := hA1.facts
  clear hbel HF1 hA0 hA1
  go_wp2_with fail
  go_ret
  exact ⟨ret_bool (by simp), Hb2.out⟩

set_option maxRecDepth 100000 in
set_option maxHeartbeats 4000000 in
theorem ckids_tf (a b : NodeD) (va vb : Value) (w : World) (hna : a.wt ≤ 1048576) (hnb : b.wt ≤ 1048576) (hva : NodeV w w.heap.size a va) (hvb : NodeV w w.heap.size b vb) (hT : TabAt w) (hEr : ErrsAt w) (hg : 7 < w.heap.size) (hf : fewB a 100 = true) (hf2 : fewB b 100 = false) :
    Calls Tryz.prog 5 #[va, vb] w fun e w' => e = .returned (.bool true) ∧ Below w.heap.size w w' := by
  have hva0 := hva; have hvb0 := hvb
  obtain ⟨csa, rfl, hca⟩ := hva0
  obtain ⟨csb, rfl, hcb⟩ := hvb0
  obtain ⟨la, pa, pn, pc, ta, tn, tc, ka, kn, kc, rfl⟩ := hca.form
  obtain ⟨lb, qa, qn, qc, ua, un, uc, ja, jn, jc, rfl⟩ := hcb.form
  have hB0 : Below w.heap.size w ((w.alloc (Obj.cells #[.bool la, .slice pa pn pc, .slice ta tn tc, .slice ka kn kc] 27)).alloc (Obj.cells #[.bool lb, .slice qa qn qc, .slice ua un uc, .slice ja jn jc] 27)) := ((Below.refl _ _).alloc (Nat.le_refl _) _).alloc (by simp) _
  have hA0 := (NodeAt.fresh w (.bool la) (.slice pa pn pc) (.slice ta tn tc) (.slice ka kn kc)).alloc (Obj.cells #[.bool lb, .slice qa qn qc, .slice ua un uc, .slice ja jn jc] 27)
  have hA1 := NodeAt.second w (Obj.cells #[.bool la, .slice pa pn pc, .slice ta tn tc, .slice ka kn kc] 27) (.bool lb) (.slice qa qn qc) (.slice ua un uc) (.slice ja jn jc)
  have HL := Lib.hid (live_c _ (hT.keep hB0 hg) (Nat.lt_of_lt_of_le hg hB0.size))
  have HF := fun (w1 : World) (hb : Below w.heap.size w w1) => Lib.hid (rfew_c a _ 100 w1 (by omega) (by omega) (by omega) (hva.keep hb hb.size))
  have HG := fun (w1 : World) (hb : Below w.heap.size w w1) => Lib.hid (rfew_c b _ 100 w1 (by omega) (by omega) (by omega) (hvb.keep hb hb.size))
  have Hb0 := Lib.hid hB0; have HA0 := Lib.hid hA0; have HA1 := Lib.hid hA1
  rw [hf] at HF
  rw [hf2] at HG
  clear hva hvb hna hnb hB0 hA0 hA1 hca hcb hT hEr hf hf2
  go_enter Tryz.func5, Tryz.ntmps5
  go_wp2_with fail
  refine HL.out.mono ?_
  rintro e w1 ⟨rfl, hbel⟩
  have Hb1 := Lib.hid (below_then Hb0.out hbel (Nat.le_refl _))
  have hA0 := HA0.out.keep (hbel.mono (by have := HA0.out.facts.2.2.2.2.2; omega))
  have hA1 := HA1.out.keep (hbel.mono (by have := HA1.out.facts.2.2.2.2.2; omega))
  clear HA0 HA1
  have HA0 := Lib.hid hA0; have HA1 := Lib.hid hA1
  obtain ⟨x0, x1, x2, x3, -, hx4⟩ := hA0.facts
  obtain ⟨y0, y1, y2, y3, -, hy4⟩ := hA1.facts
  clear hbel HL hA0 hA1
  have HF1 := HF _ Hb1.out
  go_wp2_with fail
  clear x0 x1 x2 x3 y0 y1 y2 y3 hx4 hy4
  refine HF1.out.mono ?_
  rintro e w2 ⟨rfl, hbel⟩
  have Hb2 := Lib.hid (below_then Hb1.out hbel (Nat.le_refl _))
  have hA0 := HA0.out.keep (hbel.mono (by have := HA0.out.facts.2.2.2.2.2; omega))
  have hA1 := HA1.out.keep (hbel.mono (by have := HA1.out.facts.2.2.2.2.2; omega))
  clear HA0 HA1
  have HA0 := Lib.hid hA0; have HA1 := Lib.hid hA1
  obtain ⟨x0, x1, x2, x3, -, hx4⟩ := hA0.facts
  obtain ⟨y0, y1, y2, y3, -, hy4⟩ := hA1.facts
  clear hbel HF1 hA0 hA1
  have HG1 := HG _ Hb2.out
  clear HF HG
  go_wp2_with fail
  clear x0 x1 x2 x3 y0 y1 y2 y3 hx4 hy4
  refine HG1.out.mono ?_
  rintro e w3 ⟨rfl, hbel⟩
  have Hb3 := Lib.hid (below_then Hb2.out hbel (Nat.le_refl _))
  have hA0 := HA0.out.keep (hbel.mono (by have := HA0.out.facts.2.2.2.2.2; omega))
  have hA1 := HA1.out.keep (hbel.mono (by have := HA1.out.facts.2.2.2.2.2; omega))
  clear HA0 HA1
  have HA0 := Lib.hid hA0; have HA1 := Lib.hid hA1
  obtain ⟨x0, x1, x2, x3, -, hx4⟩ := hA0.facts
  obtain ⟨y0, y1, y2, y3, -, hy4⟩ := hA1.facts
  clear hbel HG1 hA0 hA1
  go_wp2_with fail
  go_ret
  exact ⟨ret_bool (by simp), Hb3.out⟩

set_option maxRecDepth 100000 in
set_option maxHeartbeats 4000000 in
theorem ckids_bad (a b : NodeD) (va vb : Value) (w : World) (hna : a.wt ≤ 1048576) (hnb : b.wt ≤ 1048576) (hva : NodeV w w.heap.size a va) (hvb : NodeV w w.heap.size b vb) (hT : TabAt w) (hEr : ErrsAt w) (hg : 7 < w.heap.size) (hf : fewB a 100 = true) (hf2 : fewB b 100 = true) (hE : nodeE a ≠ 0) :
    Calls Tryz.prog 5 #[va, vb] w fun e w' => e = .returned (.bool true) ∧ Below w.heap.size w w' := by
  have hva0 := hva; have hvb0 := hvb
  obtain ⟨csa, rfl, hca⟩ := hva0
  obtain ⟨csb, rfl, hcb⟩ := hvb0
  obtain ⟨la, pa, pn, pc, ta, tn, tc, ka, kn, kc, rfl⟩ := hca.form
  obtain ⟨lb, qa, qn, qc, ua, un, uc, ja, jn, jc, rfl⟩ := hcb.form
  have hB0 : Below w.heap.size w ((w.alloc (Obj.cells #[.bool la, .slice pa pn pc, .slice ta tn tc, .slice ka kn kc] 27)).alloc (Obj.cells #[.bool lb, .slice qa qn qc, .slice ua un uc, .slice ja jn jc] 27)) := ((Below.refl _ _).alloc (Nat.le_refl _) _).alloc (by simp) _
  have hA0 := (NodeAt.fresh w (.bool la) (.slice pa pn pc) (.slice ta tn tc) (.slice ka kn kc)).alloc (Obj.cells #[.bool lb, .slice qa qn qc, .slice ua un uc, .slice ja jn jc] 27)
  have hA1 := NodeAt.second w (Obj.cells #[.bool la, .slice pa pn pc, .slice ta tn tc, .slice ka kn kc] 27) (.bool lb) (.slice qa qn qc) (.slice ua un uc) (.slice ja jn jc)
  have HL := Lib.hid (live_c _ (hT.keep hB0 hg) (Nat.lt_of_lt_of_le hg hB0.size))
  have HF := fun (w1 : World) (hb : Below w.heap.size w w1) => Lib.hid (rfew_c a _ 100 w1 (by omega) (by omega) (by omega) (hva.keep hb hb.size))
  have HG := fun (w1 : World) (hb : Below w.heap.size w w1) => Lib.hid (rfew_c b _ 100 w1 (by omega) (by omega) (by omega) (hvb.keep hb hb.size))
  have Hb0 := Lib.hid hB0; have HA0 := Lib.hid hA0; have HA1 := Lib.hid hA1
  rw [hf] at HF
  rw [hf2] at HG
  have HP := fun (w1 : World) (hb : Below w.heap.size w w1) => Lib.hid (print_no a _ w1 hna (hva.keep hb hb.size) hE)
  have hx0 : (nodeE a != 0) = true := by simpa using hE
  generalize nodeE a = x at HP hx0
  have HR : ∃ (T : ByteArray) (z : Int), ∀ (w1 : World), Below w.heap.size w w1 → Hid (Calls Tryz.prog 11 #[.agg [Value.bool lb, .slice qa qn qc, .slice ua un uc, .slice ja jn jc].toArray] w1 fun e w' => e = .returned (.tuple #[.string T, .int .i64 z]) ∧ Below w1.heap.size w1 w') := by
    by_cases hE2 : nodeE b = 0
    · exact ⟨_, _, fun w1 hb => Lib.hid (print_ok b _ w1 hnb (hvb.keep hb hb.size) hE2 (hT.keep hb hg) (Nat.lt_of_lt_of_le hg hb.size))⟩
    · exact ⟨_, _, fun w1 hb => Lib.hid (print_no b _ w1 hnb (hvb.keep hb hb.size) hE2)⟩
  obtain ⟨T, z, HR⟩ := HR
  clear hva hvb hna hnb hB0 hA0 hA1 hca hcb hT hEr hf hf2 hE
  go_enter Tryz.func5, Tryz.ntmps5
  go_wp2_with fail
  refine HL.out.mono ?_
  rintro e w1 ⟨rfl, hbel⟩
  have Hb1 := Lib.hid (below_then Hb0.out hbel (Nat.le_refl _))
  have hA0 := HA0.out.keep (hbel.mono (by have := HA0.out.facts.2.2.2.2.2; omega))
  have hA1 := HA1.out.keep (hbel.mono (by have := HA1.out.facts.2.2.2.2.2; omega))
  clear HA0 HA1
  have HA0 := Lib.hid hA0; have HA1 := Lib.hid hA1
  obtain ⟨x0, x1, x2, x3, -, hx4⟩ := hA0.facts
  obtain ⟨y0, y1, y2, y3, -, hy4⟩ := hA1.facts
  clear hbel HL hA0 hA1
  have HF1 := HF _ Hb1.out
  go_wp2_with fail
  clear x0 x1 x2 x3 y0 y1 y2 y3 hx4 hy4
  refine HF1.out.mono ?_
  rintro e w2 ⟨rfl, hbel⟩
  have Hb2 := Lib.hid (below_then Hb1.out hbel (Nat.le_refl _))
  have hA0 := HA0.out.keep (hbel.mono (by have := HA0.out.facts.2.2.2.2.2; omega))
  have hA1 := HA1.out.keep (hbel.mono (by have := HA1.out.facts.2.2.2.2.2; omega))
  clear HA0 HA1
  have HA0 := Lib.hid hA0; have HA1 := Lib.hid hA1
  obtain ⟨x0, x1, x2, x3, -, hx4⟩ := hA0.facts
  obtain ⟨y0, y1, y2, y3, -, hy4⟩ := hA1.facts
  clear hbel HF1 hA0 hA1
  have HG1 := HG _ Hb2.out
  clear HF HG
  go_wp2_with fail
  clear x0 x1 x2 x3 y0 y1 y2 y3 hx4 hy4
  refine HG1.out.mono ?_
  rintro e w3 ⟨rfl, hbel⟩
  have Hb3 := Lib.hid (below_then Hb2.out hbel (Nat.le_refl _))
  have hA0 := HA0.out.keep (hbel.mono (by have := HA0.out.facts.2.2.2.2.2; omega))
  have hA1 := HA1.out.keep (hbel.mono (by have := HA1.out.facts.2.2.2.2.2; omega))
  clear HA0 HA1
  have HA0 := Lib.hid hA0; have HA1 := Lib.hid hA1
  obtain ⟨x0, x1, x2, x3, -, hx4⟩ := hA0.facts
  obtain ⟨y0, y1, y2, y3, -, hy4⟩ := hA1.facts
  clear hbel HG1 hA0 hA1
  have HP1 := HP _ Hb3.out
  clear HP
  go_wp2_with fail
  clear x0 x1 x2 x3 y0 y1 y2 y3 hx4 hy4
  refine HP1.out.mono ?_
  rintro e w4 ⟨rfl, hbel⟩
  have Hb4 := Lib.hid (below_then Hb3.out hbel (Nat.le_refl _))
  have hA0 := HA0.out.keep (hbel.mono (by have := HA0.out.facts.2.2.2.2.2; omega))
  have hA1 := HA1.out.keep (hbel.mono (by have := HA1.out.facts.2.2.2.2.2; omega))
  clear HA0 HA1
  have HA0 := Lib.hid hA0; have HA1 := Lib.hid hA1
  obtain ⟨x0, x1, x2, x3, -, hx4⟩ := hA0.facts
  obtain ⟨y0, y1, y2, y3, -, hy4⟩ := hA1.facts
  clear hbel HP1 hA0 hA1
  have HR1 := HR _ Hb4.out
  clear HR
  go_wp2_with fail
  clear x0 x1 x2 x3 y0 y1 y2 y3 hx4 hy4
  refine HR1.out.mono ?_
  rintro e w5 ⟨rfl, hbel⟩
  have Hb5 := Lib.hid (below_then Hb4.out hbel (Nat.le_refl _))
  have hA0 := HA0.out.keep (hbel.mono (by have := HA0.out.facts.2.2.2.2.2; omega))
  have hA1 := HA1.out.keep (hbel.mono (by have := HA1.out.facts.2.2.2.2.2; omega))
  clear HA0 HA1
  have HA0 := Lib.hid hA0; have HA1 := Lib.hid hA1
  obtain ⟨x0, x1, x2, x3, -, hx4⟩ := hA0.facts
  obtain ⟨y0, y1, y2, y3, -, hy4⟩ := hA1.facts
  clear hbel HR1 hA0 hA1
  go_wp2_with fail
  go_ret
  exact ⟨ret_bool (by simp), Hb5.out⟩

set_option maxRecDepth 100000 in
set_option maxHeartbeats 4000000 in
theorem ckids_half (a b : NodeD) (va vb : Value) (w : World) (hna : a.wt ≤ 1048576) (hnb : b.wt ≤ 1048576) (hva : NodeV w w.heap.size a va) (hvb : NodeV w w.heap.size b vb) (hT : TabAt w) (hEr : ErrsAt w) (hg : 7 < w.heap.size) (hf : fewB a 100 = true) (hf2 : fewB b 100 = true) (hE : nodeE a = 0) (hE2 : nodeE b ≠ 0) :
    Calls Tryz.prog 5 #[va, vb] w fun e w' => e = .returned (.bool true) ∧ Below w.heap.size w w' := by
  have hva0 := hva; have hvb0 := hvb
  obtain ⟨csa, rfl, hca⟩ := hva0
  obtain ⟨csb, rfl, hcb⟩ := hvb0
  obtain ⟨la, pa, pn, pc, ta, tn, tc, ka, kn, kc, rfl⟩ := hca.form
  obtain ⟨lb, qa, qn, qc, ua, un, uc, ja, jn, jc, rfl⟩ := hcb.form
  have hB0 : Below w.heap.size w ((w.alloc (Obj.cells #[.bool la, .slice pa pn pc, .slice ta tn tc, .slice ka kn kc] 27)).alloc (Obj.cells #[.bool lb, .slice qa qn qc, .slice ua un uc, .slice ja jn jc] 27)) := ((Below.refl _ _).alloc (Nat.le_refl _) _).alloc (by simp) _
  have hA0 := (NodeAt.fresh w (.bool la) (.slice pa pn pc) (.slice ta tn tc) (.slice ka kn kc)).alloc (Obj.cells #[.bool lb, .slice qa qn qc, .slice ua un uc, .slice ja jn jc] 27)
  have hA1 := NodeAt.second w (Obj.cells #[.bool la, .slice pa pn pc, .slice ta tn tc, .slice ka kn kc] 27) (.bool lb) (.slice qa qn qc) (.slice ua un uc) (.slice ja jn jc)
  have HL := Lib.hid (live_c _ (hT.keep hB0 hg) (Nat.lt_of_lt_of_le hg hB0.size))
  have HF := fun (w1 : World) (hb : Below w.heap.size w w1) => Lib.hid (rfew_c a _ 100 w1 (by omega) (by omega) (by omega) (hva.keep hb hb.size))
  have HG := fun (w1 : World) (hb : Below w.heap.size w w1) => Lib.hid (rfew_c b _ 100 w1 (by omega) (by omega) (by omega) (hvb.keep hb hb.size))
  have Hb0 := Lib.hid hB0; have HA0 := Lib.hid hA0; have HA1 := Lib.hid hA1
  rw [hf] at HF
  rw [hf2] at HG
  have hla := few_len a 100 hE (by unfold fewB at hf; simpa using hf)
  have hlan : 0 ≤ leftN a 100 := by unfold fewB at hf; simpa using hf
  have HP := fun (w1 : World) (hb : Below w.heap.size w w1) => Lib.hid (print_ok a _ w1 hna (hva.keep hb hb.size) hE (hT.keep hb hg) (Nat.lt_of_lt_of_le hg hb.size))
  obtain ⟨SA, hSA⟩ : ∃ S, S = (⟨(printL a).toArray⟩ : ByteArray) := ⟨_, rfl⟩
  have hsa := print_size a SA hSA
  have hea := print_ne a SA hSA
  rw [← hSA] at HP
  have HR := fun (w1 : World) (hb : Below w.heap.size w w1) => Lib.hid (print_no b _ w1 hnb (hvb.keep hb hb.size) hE2)
  have hx0 : (nodeE b != 0) = true := by simpa using hE2
  generalize nodeE b = x at HR hx0
  have hla' : (printL a).length ≤ 6000 := by omega
  generalize (printL a).length = La at hsa hla' hla
  clear hva hvb hna hnb hB0 hA0 hA1 hca hcb hT hEr hf hf2 hE hE2 hSA hla hlan
  go_enter Tryz.func5, Tryz.ntmps5
  go_wp2_with fail
  refine HL.out.mono ?_
  rintro e w1 ⟨rfl, hbel⟩
  have Hb1 := Lib.hid (below_then Hb0.out hbel (Nat.le_refl _))
  have hA0 := HA0.out.keep (hbel.mono (by have := HA0.out.facts.2.2.2.2.2; omega))
  have hA1 := HA1.out.keep (hbel.mono (by have := HA1.out.facts.2.2.2.2.2; omega))
  clear HA0 HA1
  have HA0 := Lib.hid hA0; have HA1 := Lib.hid hA1
  obtain ⟨x0, x1, x2, x3, -, hx4⟩ := hA0.facts
  obtain ⟨y0, y1, y2, y3, -, hy4⟩ := hA1.facts
  clear hbel HL hA0 hA1
  have HF1 := HF _ Hb1.out
  go_wp2_with fail
  clear x0 x1 x2 x3 y0 y1 y2 y3 hx4 hy4
  refine HF1.out.mono ?_
  rintro e w2 ⟨rfl, hbel⟩
  have Hb2 := Lib.hid (below_then Hb1.out hbel (Nat.le_refl _))
  have hA0 := HA0.out.keep (hbel.mono (by have := HA0.out.facts.2.2.2.2.2; omega))
  have hA1 := HA1.out.keep (hbel.mono (by have := HA1.out.facts.2.2.2.2.2; omega))
  clear HA0 HA1
  have HA0 := Lib.hid hA0; have HA1 := Lib.hid hA1
  obtain ⟨x0, x1, x2, x3, -, hx4⟩ := hA0.facts
  obtain ⟨y0, y1, y2, y3, -, hy4⟩ := hA1.facts
  clear hbel HF1 hA0 hA1
  have HG1 := HG _ Hb2.out
  clear HF HG
  go_wp2_with fail
  clear x0 x1 x2 x3 y0 y1 y2 y3 hx4 hy4
  refine HG1.out.mono ?_
  rintro e w3 ⟨rfl, hbel⟩
  have Hb3 := Lib.hid (below_then Hb2.out hbel (Nat.le_refl _))
  have hA0 := HA0.out.keep (hbel.mono (by have := HA0.out.facts.2.2.2.2.2; omega))
  have hA1 := HA1.out.keep (hbel.mono (by have := HA1.out.facts.2.2.2.2.2; omega))
  clear HA0 HA1
  have HA0 := Lib.hid hA0; have HA1 := Lib.hid hA1
  obtain ⟨x0, x1, x2, x3, -, hx4⟩ := hA0.facts
  obtain ⟨y0, y1, y2, y3, -, hy4⟩ := hA1.facts
  clear hbel HG1 hA0 hA1
  have HP1 := HP _ Hb3.out
  clear HP
  go_wp2_with fail
  clear x0 x1 x2 x3 y0 y1 y2 y3 hx4 hy4
  refine HP1.out.mono ?_
  rintro e w4 ⟨rfl, hbel⟩
  have Hb4 := Lib.hid (below_then Hb3.out hbel (Nat.le_refl _))
  have hA0 := HA0.out.keep (hbel.mono (by have := HA0.out.facts.2.2.2.2.2; omega))
  have hA1 := HA1.out.keep (hbel.mono (by have := HA1.out.facts.2.2.2.2.2; omega))
  clear HA0 HA1
  have HA0 := Lib.hid hA0; have HA1 := Lib.hid hA1
  obtain ⟨x0, x1, x2, x3, -, hx4⟩ := hA0.facts
  obtain ⟨y0, y1, y2, y3, -, hy4⟩ := hA1.facts
  clear hbel HP1 hA0 hA1
  have HR1 := HR _ Hb4.out
  clear HR
  go_wp2_with fail
  clear x0 x1 x2 x3 y0 y1 y2 y3 hx4 hy4
  refine HR1.out.mono ?_
  rintro e w5 ⟨rfl, hbel⟩
  have Hb5 := Lib.hid (below_then Hb4.out hbel (Nat.le_refl _))
  have hA0 := HA0.out.keep (hbel.mono (by have := HA0.out.facts.2.2.2.2.2; omega))
  have hA1 := HA1.out.keep (hbel.mono (by have := HA1.out.facts.2.2.2.2.2; omega))
  clear HA0 HA1
  have HA0 := Lib.hid hA0; have HA1 := Lib.hid hA1
  obtain ⟨x0, x1, x2, x3, -, hx4⟩ := hA0.facts
  obtain ⟨y0, y1, y2, y3, -, hy4⟩ := hA1.facts
  clear hbel HR1 hA0 hA1
  go_wp2_with fail
  go_ret
  exact ⟨ret_bool (by simp), Hb5.out⟩

set_option maxRecDepth 100000 in
set_option maxHeartbeats 4000000 in
theorem ckids_ok (a b : NodeD) (va vb : Value) (w : World) (hna : a.wt ≤ 1048576) (hnb : b.wt ≤ 1048576) (hva : NodeV w w.heap.size a va) (hvb : NodeV w w.heap.size b vb) (hT : TabAt w) (hEr : ErrsAt w) (hg : 7 < w.heap.size) (hf : fewB a 100 = true) (hf2 : fewB b 100 = true) (hE : nodeE a = 0) (hE2 : nodeE b = 0) :
    Calls Tryz.prog 5 #[va, vb] w fun e w' => e = .returned (.bool true) ∧ Below w.heap.size w w' := by
  have hva0 := hva; have hvb0 := hvb
  obtain ⟨csa, rfl, hca⟩ := hva0
  obtain ⟨csb, rfl, hcb⟩ := hvb0
  obtain ⟨la, pa, pn, pc, ta, tn, tc, ka, kn, kc, rfl⟩ := hca.form
  obtain ⟨lb, qa, qn, qc, ua, un, uc, ja, jn, jc, rfl⟩ := hcb.form
  have hB0 : Below w.heap.size w ((w.alloc (Obj.cells #[.bool la, .slice pa pn pc, .slice ta tn tc, .slice ka kn kc] 27)).alloc (Obj.cells #[.bool lb, .slice qa qn qc, .slice ua un uc, .slice ja jn jc] 27)) := ((Below.refl _ _).alloc (Nat.le_refl _) _).alloc (by simp) _
  have hA0 := (NodeAt.fresh w (.bool la) (.slice pa pn pc) (.slice ta tn tc) (.slice ka kn kc)).alloc (Obj.cells #[.bool lb, .slice qa qn qc, .slice ua un uc, .slice ja jn jc] 27)
  have hA1 := NodeAt.second w (Obj.cells #[.bool la, .slice pa pn pc, .slice ta tn tc, .slice ka kn kc] 27) (.bool lb) (.slice qa qn qc) (.slice ua un uc) (.slice ja jn jc)
  have HL := Lib.hid (live_c _ (hT.keep hB0 hg) (Nat.lt_of_lt_of_le hg hB0.size))
  have HF := fun (w1 : World) (hb : Below w.heap.size w w1) => Lib.hid (rfew_c a _ 100 w1 (by omega) (by omega) (by omega) (hva.keep hb hb.size))
  have HG := fun (w1 : World) (hb : Below w.heap.size w w1) => Lib.hid (rfew_c b _ 100 w1 (by omega) (by omega) (by omega) (hvb.keep hb hb.size))
  have Hb0 := Lib.hid hB0; have HA0 := Lib.hid hA0; have HA1 := Lib.hid hA1
  rw [hf] at HF
  rw [hf2] at HG
  have hla := few_len a 100 hE (by unfold fewB at hf; simpa using hf)
  have hlan : 0 ≤ leftN a 100 := by unfold fewB at hf; simpa using hf
  have HP := fun (w1 : World) (hb : Below w.heap.size w w1) => Lib.hid (print_ok a _ w1 hna (hva.keep hb hb.size) hE (hT.keep hb hg) (Nat.lt_of_lt_of_le hg hb.size))
  obtain ⟨SA, hSA⟩ : ∃ S, S = (⟨(printL a).toArray⟩ : ByteArray) := ⟨_, rfl⟩
  have hsa := print_size a SA hSA
  have hea := print_ne a SA hSA
  rw [← hSA] at HP
  have hlb := few_len b 100 hE2 (by unfold fewB at hf2; simpa using hf2)
  have hlbn : 0 ≤ leftN b 100 := by unfold fewB at hf2; simpa using hf2
  have HR := fun (w1 : World) (hb : Below w.heap.size w w1) => Lib.hid (print_ok b _ w1 hnb (hvb.keep hb hb.size) hE2 (hT.keep hb hg) (Nat.lt_of_lt_of_le hg hb.size))
  have HQ1 := fun (w1 : World) (hb : Below w.heap.size w w1) => parseT_c (91 :: (printL a ++ (printL b ++ [93]))) w1 (by simp; omega) (hEr.keep hb) (hT.keep hb hg) (Nat.lt_of_lt_of_le hg hb.size)
  have HQ2 := fun (w1 : World) (hb : Below w.heap.size w w1) => parseT_c (printL a ++ printL b) w1 (by simp; omega) (hEr.keep hb) (hT.keep hb hg) (Nat.lt_of_lt_of_le hg hb.size)
  have HQ3 := fun (w1 : World) (hb : Below w.heap.size w w1) => parseT_c (91 :: (printL a ++ printL b)) w1 (by simp; omega) (hEr.keep hb) (hT.keep hb hg) (Nat.lt_of_lt_of_le hg hb.size)
  rw [parse_kids hE hE2] at HQ1
  rw [parse_two hE] at HQ2
  rw [parse_open hE hE2] at HQ3
  have hfp := few_pair hf hf2
  have hwp : (NodeD.mk false [] [] [a, b]).wt ≤ 100000000 := by simp only [NodeD.wt, wtAll, propsWt, List.length_nil]; omega
  have HF2 := fun (w1 : World) (cs : List Value) (h : NodeC w1 w1.heap.size (.mk false [] [] [a, b]) cs) => Lib.hid (rfew_c (.mk false [] [] [a, b]) (.agg cs.toArray) 250 w1 hwp (by omega) (by omega) ⟨cs, rfl, h⟩)
  rw [hfp] at HF2
  have HS := fun (w1 : World) (cs : List Value) (v : Value) (h : NodeC w1 w1.heap.size (.mk false [] [] [a, b]) cs) (h2 : NodeV w1 w1.heap.size (.mk false [] [] [a, b]) v) => Lib.hid (same_c _ (.mk false [] [] [a, b]) (.mk false [] [] [a, b]) (.agg cs.toArray) v w1 (Nat.le_refl _) ⟨cs, rfl, h⟩ h2)
  rw [sameN_self] at HS
  have HCA := fun (w1 : World) (hb : Below w.heap.size w w1) => Lib.hid (NodeC.keep hb hb.size _ _ hca)
  have HCB := fun (w1 : World) (hb : Below w.heap.size w w1) => Lib.hid (NodeC.keep hb hb.size _ _ hcb)
  obtain ⟨SB, hSB⟩ : ∃ S, S = (⟨(printL b).toArray⟩ : ByteArray) := ⟨_, rfl⟩
  have hsb := print_size b SB hSB
  have heb := print_ne b SB hSB
  rw [← hSB] at HR
  obtain ⟨X0, hX0⟩ : ∃ X, X = (⟨#[91]⟩ : ByteArray) ++ SA := ⟨_, rfl⟩
  obtain ⟨X3, hX3⟩ : ∃ X, X = X0 ++ SB := ⟨_, rfl⟩
  obtain ⟨X1, hX1⟩ : ∃ X, X = X3 ++ (⟨#[93]⟩ : ByteArray) := ⟨_, rfl⟩
  obtain ⟨X2, hX2⟩ : ∃ X, X = SA ++ SB := ⟨_, rfl⟩
  have g0 : X0 = ⟨(91 :: printL a).toArray⟩ := by rw [hX0, hSA]; exact bytes_append [91] _
  have g3 : X3 = ⟨(91 :: (printL a ++ printL b)).toArray⟩ := by rw [hX3, g0, hSB]; exact bytes_append _ _
  have g1 : X1 = ⟨(91 :: (printL a ++ (printL b ++ [93]))).toArray⟩ := by
    rw [hX1, g3]
    have := bytes_append (91 :: (printL a ++ printL b)) [93]
    rw [show (⟨#[93]⟩ : ByteArray) = ⟨[93].toArray⟩ from rfl, this]
    simp
  have g2 : X2 = ⟨(printL a ++ printL b).toArray⟩ := by rw [hX2, hSA, hSB]; exact bytes_append _ _
  have z0 : X0.size = 1 + (printL a).length := by rw [g0]; show (91 :: printL a).length = _; simp; omega
  have z3 : X3.size = 1 + (printL a).length + (printL b).length := by rw [g3]; show (91 :: (printL a ++ printL b)).length = _; simp; omega
  rw [← g1] at HQ1
  rw [← g2] at HQ2
  rw [← g3] at HQ3
  have hla' : (printL a).length ≤ 6000 := by omega
  have hlb' : (printL b).length ≤ 6000 := by omega
  obtain ⟨La, hLa⟩ : ∃ n, n = (printL a).length := ⟨_, rfl⟩
  obtain ⟨Lb, hLb⟩ : ∃ n, n = (printL b).length := ⟨_, rfl⟩
  rw [← hLa] at hsa z0 z3 HQ2 HQ3 hla'
  rw [← hLb] at hsb z3 HQ3 hlb'
  have hY0 := hX0.symm; have hY1 := hX1.symm; have hY2 := hX2.symm; have hY3 := hX3.symm
  clear hX0 hX1 hX2 hX3
  have HQ1 := Lib.hid HQ1; have HQ2 := Lib.hid HQ2; have HQ3 := Lib.hid HQ3; have HF2 := Lib.hid HF2; have HS := Lib.hid HS; have HCA := Lib.hid HCA; have HCB := Lib.hid HCB
  have s91 : (⟨#[91]⟩ : ByteArray).size = 1 := rfl
  have s93 : (⟨#[93]⟩ : ByteArray).size = 1 := rfl
  clear hwp hfp hSA hSB g0 g1 g2 g3 hLa hLb hla hlan hlb hlbn
  clear hva hvb hna hnb hB0 hA0 hA1 hca hcb hT hEr hf hf2 hE hE2
  go_enter Tryz.func5, Tryz.ntmps5
  go_wp2_with fail
  refine HL.out.mono ?_
  rintro e w1 ⟨rfl, hbel⟩
  have Hb1 := Lib.hid (below_then Hb0.out hbel (Nat.le_refl _))
  have hA0 := HA0.out.keep (hbel.mono (by have := HA0.out.facts.2.2.2.2.2; omega))
  have hA1 := HA1.out.keep (hbel.mono (by have := HA1.out.facts.2.2.2.2.2; omega))
  clear HA0 HA1
  have HA0 := Lib.hid hA0; have HA1 := Lib.hid hA1
  obtain ⟨x0, x1, x2, x3, -, hx4⟩ := hA0.facts
  obtain ⟨y0, y1, y2, y3, -, hy4⟩ := hA1.facts
  clear hbel HL hA0 hA1
  have HF1 := HF _ Hb1.out
  go_wp2_with fail
  clear x0 x1 x2 x3 y0 y1 y2 y3 hx4 hy4
  refine HF1.out.mono ?_
  rintro e w2 ⟨rfl, hbel⟩
  have Hb2 := Lib.hid (below_then Hb1.out hbel (Nat.le_refl _))
  have hA0 := HA0.out.keep (hbel.mono (by have := HA0.out.facts.2.2.2.2.2; omega))
  have hA1 := HA1.out.keep (hbel.mono (by have := HA1.out.facts.2.2.2.2.2; omega))
  clear HA0 HA1
  have HA0 := Lib.hid hA0; have HA1 := Lib.hid hA1
  obtain ⟨x0, x1, x2, x3, -, hx4⟩ := hA0.facts
  obtain ⟨y0, y1, y2, y3, -, hy4⟩ := hA1.facts
  clear hbel HF1 hA0 hA1
  have HG1 := HG _ Hb2.out
  clear HF HG
  go_wp2_with fail
  clear x0 x1 x2 x3 y0 y1 y2 y3 hx4 hy4
  refine HG1.out.mono ?_
  rintro e w3 ⟨rfl, hbel⟩
  have Hb3 := Lib.hid (below_then Hb2.out hbel (Nat.le_refl _))
  have hA0 := HA0.out.keep (hbel.mono (by have := HA0.out.facts.2.2.2.2.2; omega))
  have hA1 := HA1.out.keep (hbel.mono (by have := HA1.out.facts.2.2.2.2.2; omega))
  clear HA0 HA1
  have HA0 := Lib.hid hA0; have HA1 := Lib.hid hA1
  obtain ⟨x0, x1, x2, x3, -, hx4⟩ := hA0.facts
  obtain ⟨y0, y1, y2, y3, -, hy4⟩ := hA1.facts
  clear hbel HG1 hA0 hA1
  have HP1 := HP _ Hb3.out
  clear HP
  go_wp2_with fail
  clear x0 x1 x2 x3 y0 y1 y2 y3 hx4 hy4
  refine HP1.out.mono ?_
  rintro e w4 ⟨rfl, hbel⟩
  have Hb4 := Lib.hid (below_then Hb3.out hbel (Nat.le_refl _))
  have hA0 := HA0.out.keep (hbel.mono (by have := HA0.out.facts.2.2.2.2.2; omega))
  have hA1 := HA1.out.keep (hbel.mono (by have := HA1.out.facts.2.2.2.2.2; omega))
  clear HA0 HA1
  have HA0 := Lib.hid hA0; have HA1 := Lib.hid hA1
  obtain ⟨x0, x1, x2, x3, -, hx4⟩ := hA0.facts
  obtain ⟨y0, y1, y2, y3, -, hy4⟩ := hA1.facts
  clear hbel HP1 hA0 hA1
  have HR1 := HR _ Hb4.out
  clear HR
  go_wp2_with fail
  clear x0 x1 x2 x3 y0 y1 y2 y3 hx4 hy4
  refine HR1.out.mono ?_
  rintro e w5 ⟨rfl, hbel⟩
  have Hb5 := Lib.hid (below_then Hb4.out hbel (Nat.le_refl _))
  have hA0 := HA0.out.keep (hbel.mono (by have := HA0.out.facts.2.2.2.2.2; omega))
  have hA1 := HA1.out.keep (hbel.mono (by have := HA1.out.facts.2.2.2.2.2; omega))
  clear HA0 HA1
  have HA0 := Lib.hid hA0; have HA1 := Lib.hid hA1
  obtain ⟨x0, x1, x2, x3, -, hx4⟩ := hA0.facts
  obtain ⟨y0, y1, y2, y3, -, hy4⟩ := hA1.facts
  clear hbel HR1 hA0 hA1
  have HQ := Lib.hid (HQ1.out w5 Hb5.out)
  clear HQ1
  go_wp2_with fail
  refine HQ.out.mono ?_
  rintro e w6 ⟨cs, rfl, hnode, hbel⟩
  have Hb6 := Lib.hid (below_then Hb5.out hbel (Nat.le_refl _))
  have hA0 := HA0.out.keep (hbel.mono (by omega))
  have hA1 := HA1.out.keep (hbel.mono (by omega))
  obtain ⟨l1, a1, n1, c1, a2, n2, c2, a3, n3, c3, rfl⟩ := hnode.form
  have hnc := NodeQ.node _ _ hnode
  have hb7 := (Below.refl w6.heap.size w6).alloc (Nat.le_refl _) (Obj.cells #[.bool l1, .slice a1 n1 c1, .slice a2 n2 c2, .slice a3 n3 c3] 27)
  have Hnc := Lib.hid (NodeC.keep hb7 hb7.size _ _ hnc)
  have Hb7 := Lib.hid (below_then Hb6.out hb7 (Nat.le_refl _))
  have HM := Lib.hid (NodeAt.fresh w6 (.bool l1) (.slice a1 n1 c1) (.slice a2 n2 c2) (.slice a3 n3 c3))
  have HF3 := HF2.out _ _ Hnc.out
  clear HA0 HA1 x0 x1 x2 x3 y0 y1 y2 y3 hx4 hy4
  have HA0 := Lib.hid (hA0.alloc (Obj.cells #[.bool l1, .slice a1 n1 c1, .slice a2 n2 c2, .slice a3 n3 c3] 27)); have HA1 := Lib.hid (hA1.alloc (Obj.cells #[.bool l1, .slice a1 n1 c1, .slice a2 n2 c2, .slice a3 n3 c3] 27))
  clear hbel hnode hnc hb7 hA0 hA1 HQ HF2
  go_wp2_with fail
  refine HF3.out.mono ?_
  rintro e w8 ⟨rfl, hbel⟩
  have Hb8 := Lib.hid (below_then Hb7.out hbel (Nat.le_refl _))
  have hA0 := HA0.out.keep (hbel.mono (by have := HA0.out.facts.2.2.2.2.2; omega))
  have hA1 := HA1.out.keep (hbel.mono (by have := HA1.out.facts.2.2.2.2.2; omega))
  have hM := HM.out.keep (hbel.mono (by simp))
  obtain ⟨x0, x1, x2, x3, -, hx4⟩ := hA0.facts
  obtain ⟨y0, y1, y2, y3, -, hy4⟩ := hA1.facts
  obtain ⟨z0', z1', z2', z3', -, hz4⟩ := hM.facts
  have hpn := pair_node (HCA.out w8 Hb8.out).out (HCB.out w8 Hb8.out).out
  have hb9 := (Below.refl w8.heap.size w8).alloc (Nat.le_refl _) (Obj.cells #[.bool la, .slice pa pn pc, .slice ta tn tc, .slice ka kn kc, .bool lb, .slice qa qn qc, .slice ua un uc, .slice ja jn jc] 27)
  have HS1 := HS.out _ _ _ (NodeC.keep (below_then hbel hb9 (Nat.le_refl _)) (Nat.le_trans hbel.size hb9.size) _ _ Hnc.out) hpn
  have Hb9 := Lib.hid (below_then Hb8.out hb9 (Nat.le_refl _))
  clear hbel hb9 hpn HCA HCB HS Hnc HM hM HA0 HA1 hA0 hA1 HF3
  go_wp2_with fail
  refine HS1.out.mono ?_
  rintro e w10 ⟨rfl, hbel⟩
  have Hb10 := Lib.hid (below_then Hb9.out hbel (Nat.le_refl _))
  clear hbel HS1 x0 x1 x2 x3 y0 y1 y2 y3 z0' z1' z2' z3' hx4 hy4 hz4
  have HQ := Lib.hid (HQ2.out w10 Hb10.out)
  clear HQ2
  go_wp2_with fail
  refine HQ.out.mono ?_
  rintro e w11 ⟨rfl, -, hbel⟩
  have Hb11 := Lib.hid (below_then Hb10.out hbel (Nat.le_refl _))
  have Hb12 := Lib.hid (Hb11.out.alloc Hb11.out.size (Obj.cells #[.bool false, .slice none 0 0, .slice none 0 0, .slice none 0 0] 27))
  clear hbel HQ
  have HQ := Lib.hid (HQ3.out _ Hb12.out)
  clear HQ3
  go_wp2_with fail
  refine HQ.out.mono ?_
  rintro e w13 ⟨rfl, -, hbel⟩
  have Hb13 := Lib.hid (below_then Hb12.out hbel (Nat.le_refl _))
  have Hb14 := Lib.hid (Hb13.out.alloc Hb13.out.size (Obj.cells #[.bool false, .slice none 0 0, .slice none 0 0, .slice none 0 0] 27))
  clear hbel HQ
  go_wp2_with fail
  go_ret
  exact ⟨ret_bool (by simp), Hb14.out⟩



theorem ckids_walk (a b : NodeD) (va vb : Value) (w : World) (hna : a.wt ≤ 1048576) (hnb : b.wt ≤ 1048576) (hva : NodeV w w.heap.size a va) (hvb : NodeV w w.heap.size b vb) (hT : TabAt w ∧ 7 < w.heap.size ∧ ErrsAt w) :
    Calls Tryz.prog 5 #[va, vb] w fun e w' => e = .returned (.bool true) ∧ Below w.heap.size w w' := by
  obtain ⟨hT, hg, hEr⟩ := hT
  cases hf : fewB a 100 with
  | false => exact ckids_ff a b va vb w hna hnb hva hvb hT hEr hg hf
  | true =>
    cases hf2 : fewB b 100 with
    | false => exact ckids_tf a b va vb w hna hnb hva hvb hT hEr hg hf hf2
    | true =>
      by_cases hE : nodeE a = 0
      · by_cases hE2 : nodeE b = 0
        · exact ckids_ok a b va vb w hna hnb hva hvb hT hEr hg hf hf2 hE hE2
        · exact ckids_half a b va vb w hna hnb hva hvb hT hEr hg hf hf2 hE hE2
      · exact ckids_bad a b va vb w hna hnb hva hvb hT hEr hg hf hf2 hE

end Go.Proofs.YtmhgbocejjnoaaaGreatDoor
/- A tree that came in, read into plain data. -/
namespace Go.Proofs.YtmhgbocejjnoaaaGreatDoor
open Go.RowKit Go.Redl Go.Deep
set_option linter.unusedVariables false

/-- The elements of a slice, one by one. -/
def Elems {H α : Type} (Φ : α → List Value → DataW H → Prop) : List α → List Value → List (DataW H) → Prop
  | [], css, ds => css = [] ∧ ds = []
  | y :: ys, css, ds => ∃ c cs d ds', css = c ++ cs ∧ ds = d :: ds' ∧ Φ y c d ∧ Elems Φ ys cs ds'

theorem elems_of {H α : Type} {enc : TypeId × Value → H} {P : Program} {W : World} {fuel : Nat} {e : TypeId} {sz : Nat} (Φ : α → List Value → DataW H → Prop)
    (hΦ : ∀ cs x, DataW.trod enc P W 0 (fun _ => true) true fuel e cs = some x → ∃ y, Φ y cs x.1) :
    ∀ (elems : List (DataW H × List MemPlace)) (a : Addr) (off : Nat), (∀ i, i < elems.length → (W.cells? 0 (a.add (off + i * sz)) sz).bind (DataW.trod enc P W 0 (fun _ => true) true fuel e) = elems[i]?) →
      ∃ ys css, Elems Φ ys css (elems.map (·.1)) ∧ ys.length = elems.length ∧ css.length = elems.length * sz ∧ ∀ j u, css[j]? = some u → W.cell? (a.add (off + j)) = some u
  | [], a, off, h => ⟨[], [], ⟨rfl, rfl⟩, rfl, by simp, by simp⟩
  | x :: elems, a, off, h => by
    have h0 := h 0 (by simp)
    simp only [Nat.zero_mul, Nat.add_zero, List.getElem?_cons_zero, Option.bind_eq_some_iff] at h0
    obtain ⟨c, hc, ht⟩ := h0
    obtain ⟨y, hy⟩ := hΦ c x ht
    obtain ⟨_, hcl, hcell⟩ := World.cells?_some hc
    obtain ⟨ys, css, h1, h2, h3, h4⟩ := elems_of Φ hΦ elems a (off + sz) (fun i hi => by
      have := h (i + 1) (by simpa using hi)
      rw [show off + (i + 1) * sz = off + sz + i * sz by rw [Nat.add_mul]; omega] at this
      simpa using this)
    refine ⟨y :: ys, c ++ css, ⟨c, css, x.1, elems.map (·.1), rfl, rfl, hy, h1⟩, by simp [h2], by simp [hcl, h3, Nat.add_mul]; omega, fun j u hj => ?_⟩
    rcases Nat.lt_or_ge j sz with hlt | hge
    · rw [List.getElem?_append_left (by omega)] at hj
      have := hcell j hlt
      rw [add_add, hj] at this
      exact this
    · rw [List.getElem?_append_right (by omega), hcl] at hj
      have := h4 _ _ hj
      rw [show off + sz + (j - sz) = off + j by omega] at this
      exact this

theorem Elems.one {H α : Type} {Φ : α → List Value → DataW H → Prop} (h1 : ∀ y c d, Φ y c d → ∀ u ∈ c, u.oneCell' = true) : ∀ {ys : List α} {css : List Value} {ds : List (DataW H)}, Elems Φ ys css ds → ∀ u ∈ css, u.oneCell' = true
  | [], css, ds, h => by obtain ⟨rfl, -⟩ := h; simp
  | y :: ys, css, ds, h => by
    obtain ⟨c, cs, d, ds', rfl, rfl, hy, hr⟩ := h
    intro u hu
    rcases List.mem_append.1 hu with hu | hu
    · exact h1 y c d hy u hu
    · exact Elems.one h1 hr u hu

/-- A slice that came in: its elements read one by one. -/
theorem row_of_trod {H α : Type} {enc : TypeId × Value → H} {P : Program} {W : World} {fuel : Nat} {t e : TypeId} {sz : Nat} (Φ : α → List Value → DataW H → Prop) (ht : P.underlying t = some (.slice e)) (hs : P.cellsOf e = sz) (hpos : 0 < sz)
    (hΦ : ∀ m cs x, m < fuel → DataW.trod enc P W 0 (fun _ => true) true m e cs = some x → ∃ y, Φ y cs x.1) (h1 : ∀ y c d, Φ y c d → ∀ u ∈ c, u.oneCell' = true)
    {cs : List Value} {x : DataW H × List MemPlace} (h : DataW.trod enc P W 0 (fun _ => true) true fuel t cs = some x) :
    ∃ a cap ys css ds, cs = [.slice a ys.length cap] ∧ RowA W W.heap.size sz a ys.length cap css ∧ Elems Φ ys css ds ∧ (x.1 = .nil ∧ ys = [] ∧ ds = [] ∨ ∃ sp, x.1 = .slice ds sp) := by
  rcases DataW.trod_slice ht h with ⟨rfl, rfl⟩ | ⟨a, len, cap, elems, rest, n, rfl, rfl, rfl, hb, hl, hm, hel, hall, -, -⟩
  · exact ⟨none, 0, [], [], [], rfl, RowA.empty _ _ _, ⟨rfl, rfl⟩, .inl ⟨rfl, rfl, rfl⟩⟩
  · rw [hs] at hall
    obtain ⟨ys, css, g1, g2, g3, g4⟩ := elems_of (fuel := n) Φ (fun cs x hx => hΦ n cs x (Nat.lt_succ_self n) hx) elems a 0 (fun i hi => by
      have := hall i (by omega)
      rw [Nat.zero_add]; exact this)
    have hyl : ys.length = len := by omega
    subst hyl
    refine ⟨some a, cap, ys, css, elems.map (·.1), rfl, ⟨by rw [g3, hel], hl, hm, Elems.one h1 g1, (fun h => by cases h), fun hne => ?_⟩, g1, .inr ⟨_, rfl⟩⟩
    have hpos' : 0 < css.length := List.length_pos_iff.2 hne
    have h0 := g4 0 _ (List.getElem?_eq_getElem hpos')
    obtain ⟨b, off, spot⟩ := a
    have hspot : spot = none := by simpa [Addr.add] using World.cell?_spot h0
    subst hspot
    refine ⟨b, off, rfl, ?_, fun j u hj => ?_⟩
    · have := World.block_lt_of_cell? W _ h0
      simpa [addr_add] using this
    · have := g4 j u hj
      rw [Nat.zero_add, addr_add] at this
      exact this

theorem bulkAll_append {H : Type} (l r : List (DataW H)) : Rows.uptoBulkAll (l ++ r) = Rows.uptoBulkAll l + Rows.uptoBulkAll r := by
  induction l with
  | nil => simp [Rows.uptoBulkAll]
  | cons x l ih => simp only [List.cons_append, Rows.uptoBulkAll, ih]; omega

theorem list_string (s : ByteArray) : (⟨s.data.toList.toArray⟩ : ByteArray) = s := by cases s; simp

/-- A property that came in. -/
def PropΦ {H : Type} (p : PropD) (cs : List Value) (d : DataW H) : Prop := cs = [.string ⟨p.1.toArray⟩, .string ⟨p.2.toArray⟩] ∧ 2 + p.1.length + p.2.length ≤ Rows.uptoBulk d
theorem prop_of_trod {H : Type} {enc : TypeId × Value → H} {P : Program} {W : World} {fuel : Nat} {t : TypeId} {f0 f1 : Field} (hs : P.underlying t = some (.struct #[f0, f1])) (hc : P.cellsOf t = 2) (h0 : P.underlying f0.type = some .string) (h1 : P.underlying f1.type = some .string)
    (c0 : P.cellsOf f0.type = 1) (c1 : P.cellsOf f1.type = 1) (o0 : f0.offset = 0) (o1 : f1.offset = 1) {cs : List Value} {x : DataW H × List MemPlace} (h : DataW.trod enc P W 0 (fun _ => true) true fuel t cs = some x) : ∃ p, PropΦ p cs x.1 := by
  obtain ⟨xs, n, rfl, rfl, hl, hx, hf⟩ := DataW.trod_struct hs h
  rw [hc] at hl
  match xs, hx, cs, hl with
  | [y0, y1], _, [v0, v1], _ =>
    have g0 := hf 0 f0 rfl
    have g1 := hf 1 f1 rfl
    simp [o0, o1, c0, c1] at g0 g1
    obtain ⟨s0, e0, rfl, m0⟩ := DataW.trod_string h0 g0
    obtain ⟨s1, e1, rfl, m1⟩ := DataW.trod_string h1 g1
    simp at e0 e1
    subst e0; subst e1
    refine ⟨(s0.data.toList, s1.data.toList), ?_, ?_⟩
    · simp only [list_string]
    · simp [Rows.uptoBulk, Rows.uptoBulkAll]; omega

theorem elems_props {H : Type} : ∀ {ps : List PropD} {css : List Value} {ds : List (DataW H)}, Elems PropΦ ps css ds → css = propCells ps ∧ propsWt ps ≤ Rows.uptoBulkAll ds
  | [], css, ds, h => by obtain ⟨rfl, rfl⟩ := h; exact ⟨rfl, by simp [propsWt]⟩
  | p :: ps, css, ds, h => by
    obtain ⟨c, cs, d, ds', rfl, rfl, ⟨rfl, hb⟩, hr⟩ := h
    obtain ⟨rfl, h2⟩ := elems_props hr
    exact ⟨by simp [propCells], by simp only [propsWt, Rows.uptoBulkAll]; omega⟩
theorem elems_ints {H : Type} {k : IntKind} : ∀ {zs : List Int} {css : List Value} {ds : List (DataW H)}, Elems (fun z cs d => cs = [.int k z] ∧ (Lit.int k z).wf = true ∧ 1 ≤ Rows.uptoBulk (H := H) d) zs css ds →
    css = zs.map (Value.int k) ∧ (∀ z ∈ zs, (Lit.int k z).wf = true) ∧ zs.length ≤ Rows.uptoBulkAll ds
  | [], css, ds, h => by obtain ⟨rfl, rfl⟩ := h; exact ⟨rfl, by simp, by simp⟩
  | z :: zs, css, ds, h => by
    obtain ⟨c, cs, d, ds', rfl, rfl, ⟨rfl, hw, hb⟩, hr⟩ := h
    obtain ⟨rfl, h2, h3⟩ := elems_ints hr
    exact ⟨by simp, by simpa using ⟨hw, h2⟩, by simp only [List.length_cons, Rows.uptoBulkAll]; omega⟩
def NodeΦ {H : Type} (W : World) (n : NodeD) (cs : List Value) (d : DataW H) : Prop := NodeC W W.heap.size n cs ∧ n.wt ≤ Rows.uptoBulk d
theorem elems_kids {H : Type} {W : World} : ∀ {ks : List NodeD} {css : List Value} {ds : List (DataW H)}, Elems (NodeΦ W) ks css ds → KidsC W W.heap.size ks css ∧ wtAll ks ≤ Rows.uptoBulkAll ds
  | [], css, ds, h => by obtain ⟨rfl, rfl⟩ := h; exact ⟨by unfold KidsC; rfl, by simp [wtAll]⟩
  | k :: ks, css, ds, h => by
    obtain ⟨c, cs, d, ds', rfl, rfl, ⟨hk, hb⟩, hr⟩ := h
    obtain ⟨h2, h3⟩ := elems_kids hr
    exact ⟨by unfold KidsC; exact ⟨c, cs, rfl, hk, h2⟩, by simp only [wtAll, Rows.uptoBulkAll]; omega⟩

/-- What a slice's bulk says. -/
theorem slice_bulk {H : Type} {d : DataW H} {ds : List (DataW H)} {n : Nat} (h : d = .nil ∧ n = 0 ∧ ds = [] ∨ ∃ sp, d = .slice ds sp) : Rows.uptoBulkAll ds + 1 ≤ Rows.uptoBulk d := by
  rcases h with ⟨rfl, -, rfl⟩ | ⟨sp, rfl⟩
  · simp [Rows.uptoBulk, Rows.uptoBulkAll]
  · simp only [Rows.uptoBulk]; omega

set_option maxRecDepth 100000 in
theorem node_of_trod {H : Type} {enc : TypeId × Value → H} {W : World} : ∀ (fuel : Nat) (cs : List Value) (x : DataW H × List MemPlace), DataW.trod enc Tryz.prog W 0 (fun _ => true) true fuel 27 cs = some x → ∃ n, NodeΦ W n cs x.1 := by
  intro fuel
  induction fuel using Nat.strongRecOn with
  | _ fuel ih =>
    intro cs x h
    obtain ⟨xs, n, rfl, rfl, hl, hx, hf⟩ := DataW.trod_struct Tryz.underlying27 h
    rw [show Tryz.prog.cellsOf 27 = 4 by kernel_rfl] at hl
    match xs, hx, cs, hl with
    | [y0, y1, y2, y3], _, [v0, v1, v2, v3], _ =>
      have g0 := hf 0 _ rfl
      have g1 := hf 1 _ rfl
      have g2 := hf 2 _ rfl
      have g3 := hf 3 _ rfl
      have k0 : Tryz.prog.cellsOf 4 = 1 := by kernel_rfl
      have k1 : Tryz.prog.cellsOf 23 = 1 := by kernel_rfl
      have k2 : Tryz.prog.cellsOf 24 = 1 := by kernel_rfl
      have k3 : Tryz.prog.cellsOf 25 = 1 := by kernel_rfl
      simp [k0, k1, k2, k3] at g0 g1 g2 g3
      obtain ⟨b, e0, rfl⟩ := DataW.trod_bool Tryz.underlying4 g0
      obtain ⟨a1, c1, ps, css1, ds1, e1, r1, el1, s1⟩ := row_of_trod PropΦ Tryz.underlying23 (show Tryz.prog.cellsOf 41 = 2 by kernel_rfl) (by decide)
        (fun m cs x _ hx => prop_of_trod Tryz.underlying41 (by kernel_rfl) Tryz.underlying9 Tryz.underlying9 (by kernel_rfl) (by kernel_rfl) rfl rfl hx) (fun y c d hh => by obtain ⟨rfl, -⟩ := hh; intro u hu; simp at hu; rcases hu with rfl | rfl <;> rfl) g1
      obtain ⟨a2, c2, zs, css2, ds2, e2, r2, el2, s2⟩ := row_of_trod (fun z cs d => cs = [.int .i32 z] ∧ (Lit.int .i32 z).wf = true ∧ 1 ≤ Rows.uptoBulk (H := H) d) Tryz.underlying24 (show Tryz.prog.cellsOf 21 = 1 by kernel_rfl) (by decide)
        (fun m cs x _ hx => by
          obtain ⟨z, rfl, rfl, hw⟩ := DataW.trod_int Tryz.underlying21 hx
          exact ⟨z, rfl, hw, by simp [Rows.uptoBulk]⟩) (fun y c d hh => by obtain ⟨rfl, -⟩ := hh; intro u hu; simp at hu; subst hu; rfl) g2
      obtain ⟨a3, c3, ks, css3, ds3, e3, r3, el3, s3⟩ := row_of_trod (NodeΦ W) Tryz.underlying25 (show Tryz.prog.cellsOf 27 = 4 by kernel_rfl) (by decide)
        (fun m cs x hm hx => ih m (by omega) cs x hx) (fun y c d hh => hh.1.one) g3
      simp at e0 e1 e2 e3
      subst e0; subst e1; subst e2; subst e3
      obtain ⟨rfl, b1⟩ := elems_props el1
      obtain ⟨rfl, hw, b2⟩ := elems_ints el2
      obtain ⟨hk, b3⟩ := elems_kids el3
      refine ⟨.mk b ps zs ks, ?_, ?_⟩
      · unfold NodeC
        exact ⟨a1, c1, a2, c2, a3, c3, css3, rfl, r1, r2, hw, r3, hk⟩
      · have m1 := slice_bulk (n := 0) (s1.imp (fun h => ⟨h.1, rfl, h.2.2⟩) id)
        have m2 := slice_bulk (n := 0) (s2.imp (fun h => ⟨h.1, rfl, h.2.2⟩) id)
        have m3 := slice_bulk (n := 0) (s3.imp (fun h => ⟨h.1, rfl, h.2.2⟩) id)
        simp only [NodeD.wt, List.map_cons, List.map_nil, Rows.uptoBulk, Rows.uptoBulkAll]
        omega

end Go.Proofs.YtmhgbocejjnoaaaGreatDoor
/- The frame of the Upto laws at this seat. -/
namespace Go.Proofs.YtmhgbocejjnoaaaGreatDoor
open Go.ChangeShapes Go.WideShapes Go.ChangeAt Go.WideMaps Go.WideElems Go.RowKit Go.Redl
set_option linter.unusedVariables false

theorem own : ownKnob Tryz.prog.godebug = none := by kernel_rfl
theorem laidOut : laidOutB Tryz.prog = true := by kernel_rfl

def dB64 : List Int := [0, 1, 56, 2, 57, 49, 28, 3, 61, 58, 42, 50, 38, 29, 17, 4, 62, 47, 59, 36, 45, 43, 51, 22, 53, 39, 33, 30, 24, 18, 12, 5, 63, 55, 48, 27, 60, 41, 37, 16, 46, 35, 44, 21, 52, 32, 23, 11, 54, 26, 40, 15, 34, 20, 31, 10, 25, 14, 19, 9, 13, 8, 7, 6]

end Go.Proofs.YtmhgbocejjnoaaaGreatDoor
/- The frame's laws on the library's errors. -/
namespace Go.Proofs.YtmhgbocejjnoaaaGreatDoor
open Go.ChangeShapes Go.WideShapes Go.ChangeAt Go.WideMaps Go.WideElems Go.RowKit Go.Redl
set_option linter.unusedVariables false
set_option maxRecDepth 100000

theorem err_at {W : World} {n : String} {g : Nat} {v : Value} (hg : Tryz.prog.globalNamed n = some g) (h : W.var? Tryz.prog n = some #[v]) : W.cell? ⟨g, 0, none⟩ = some v := by
  have := World.var?_cell hg h 0
  simpa using this

theorem star_err : "*" ++ "errors.errorString" = "*errors.errorString" := by decide
theorem row_err (u : TypeId) (h : Tryz.prog.typeName? 3 u = some "*errors.errorString") : u = 145 :=
  typeName_ptr_named (nm := "errors.errorString") (by rw [star_err]; kernel_rfl) (by kernel_rfl) (by decide) u (by rw [star_err]; exact h)

end Go.Proofs.YtmhgbocejjnoaaaGreatDoor
