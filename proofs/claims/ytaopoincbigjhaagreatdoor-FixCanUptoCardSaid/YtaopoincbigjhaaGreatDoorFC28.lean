/- Parts of the proof, one behind the other: RYA, RYB, RFN, RYC. -/
import Derived.Test.YtaopoincbigjhaaGreatDoorFC21
import Derived.Test.YtaopoincbigjhaaGreatDoorFC24
import Derived.Test.YtaopoincbigjhaaGreatDoorFC27
import Derived.Test.YtaopoincbigjhaaGreatDoorFC4
import Derived.Test.YtaopoincbigjhaaGreatDoorRows
import Derived.WalkKit
import Derived.ProofKit
import Derived.LaidMore
import Derived.OpenShut
import Derived.ChangeOld
import Derived.Below
import Derived.Stop.Joined
import Derived.Deep.DeepHandedRow
import Derived.Deep.DeepWitnessRowRef
import Derived.JoinedCond
import Derived.Test.YtaopoincbigjhaaGreatDoorCards
import Derived.Test.YtaopoincbigjhaaGreatDoorTie
import Derived.ShutString
import Derived.Lib.LaidTab
import Derived.Stop.LaidErr
import Derived.Lay
import Derived.SevenTiedAt
/- Plain laws: a repair, as the laws of fix ask it. -/
namespace Go.Proofs.YtaopoincbigjhaaGreatDoor
open Go.RowKit Go.Redl
set_option linter.unusedVariables false
set_option linter.unusedSimpArgs false

theorem fixL_len2 (r : RuleD) (ks : List NodeD) (p : List Int) (f : FindD) (m : Nat) (h1 : wtAll ks ≤ m) (h2 : f.2.2 ≤ (m : Int) + 1) : (fixL r ks p f).length ≤ m + 2 := by
  have hk : (kidsOf (kidAt ks f.2.1.toNat)).length ≤ m := by
    have h3 : (kidAt ks f.2.1.toNat).wt ≤ m + 1 := by
      by_cases hi : f.2.1.toNat < ks.length
      · rw [kid_get hi]; have := wtAll_mem (List.getElem_mem hi); omega
      · rw [show kidAt ks f.2.1.toNat = .mk false [] [] [] from by simp [kidAt, List.getD, List.getElem?_eq_none (show ks.length ≤ f.2.1.toNat by omega)]]
        simp [NodeD.wt, propsWt, wtAll]
    generalize kidAt ks f.2.1.toNat = q at h3 ⊢
    obtain ⟨l, ps, t, ks'⟩ := q
    have := wtAll_len ks'
    simp only [NodeD.wt, kidsOf] at h3 ⊢
    omega
  unfold fixL
  split
  · simp only [List.length_cons, List.length_nil]; omega
  split
  · simp only [List.length_append, List.length_map, List.length_range, List.length_cons, List.length_nil]; omega
  split
  · simp only [List.length_cons, List.length_map, List.length_range]; omega
  split
  · simp only [List.length_cons, List.length_nil]; omega
  · simp only [List.length_cons, List.length_nil]; omega
theorem fixN_len2 (s : SchemaD) (n : NodeD) (p : List Int) (hn : n.wt ≤ 1048576) : (fixN s n p).1.length ≤ 100000000 := by
  have hw := atN_wt p n
  unfold fixN
  cases hat : atN n p with
  | none => simp
  | some k =>
    have hk := hw k hat
    simp only
    split
    · simp
    split
    · simp
    · have hks : wtAll (kidsOf k) ≤ 1048576 := by
        obtain ⟨l, ps, t, ks'⟩ := k
        simp only [NodeD.wt, kidsOf] at hk ⊢
        omega
      have hl := wtAll_len (kidsOf k)
      have hm : (findN s k).2.2 ≤ ((1048576 : Nat) : Int) + 1 := by
        rcases find_cases s k with hF | ⟨c, j, -, -, -, -, hF, -, -, -⟩
        · rw [hF]; simp
        · rw [hF]
          show ((manyN (ruleOf s (typeN k)) (kidsOf k) c : Nat) : Int) ≤ _
          have : manyN (ruleOf s (typeN k)) (kidsOf k) c ≤ 1 + (kidsOf k).length := by
            unfold manyN
            split
            · unfold runA
              have h1 := List.takeWhile_prefix (l := ((actsOf (ruleOf s (typeN k)) (kidsOf k)).drop ((lookN (ruleOf s (typeN k)) (kidsOf k) c).toNat + 1))) (p := fun a => decide (a = (actsOf (ruleOf s (typeN k)) (kidsOf k)).getD (lookN (ruleOf s (typeN k)) (kidsOf k) c).toNat (0, [])))
              have h2 := h1.length_le
              have h3 : ((actsOf (ruleOf s (typeN k)) (kidsOf k)).drop ((lookN (ruleOf s (typeN k)) (kidsOf k) c).toNat + 1)).length ≤ (kidsOf k).length := by simp [actsOf]
              omega
            · omega
          omega
      have := fixL_len2 (ruleOf s (typeN k)) (kidsOf k) p (findN s k) 1048576 hks hm
      exact Nat.le_trans this (by omega)
theorem small_path2 (s : SchemaD) (n : NodeD) (p : List Int) (h : smallB s n p = true) : p.length ≤ 40 := by
  unfold smallB at h
  simp only [Bool.and_eq_true, decide_eq_true_eq] at h
  exact h.2
theorem small_node {s : SchemaD} {n : NodeD} {p : List Int} (h : smallB s n p = true) : n.wt ≤ 15360 := by
  unfold smallB at h
  simp only [Bool.and_eq_true] at h
  have := wt_few h.1.2
  omega
theorem elem_wt (t : List UInt8) : (elemN t).wt ≤ 7 + t.length := by
  unfold elemN
  by_cases h : t = []
  · simp [h, NodeD.wt, propsWt, wtAll]
  · rw [if_neg h]
    simp only [NodeD.wt, propsWt, wtAll, List.length_nil]
    have : typeB.length = 4 := rfl
    omega
theorem name_len {t : List UInt8} (h : nameB t = true) : t.length ≤ 32 := by
  have := (name_val h).2
  unfold valB at this
  simp only [Bool.and_eq_true, decide_eq_true_eq] at this
  exact this.1
theorem kidAt_wt (ks : List NodeD) (i : Nat) : (kidAt ks i).wt ≤ wtAll ks + 1 := by
  by_cases hi : i < ks.length
  · rw [kid_get hi]; have := wtAll_mem (List.getElem_mem hi); omega
  · rw [show kidAt ks i = .mk false [] [] [] from by simp [kidAt, List.getD, List.getElem?_eq_none (show ks.length ≤ i by omega)]]
    simp [NodeD.wt, propsWt, wtAll]
theorem noKids_wt (k : NodeD) : (noKids k).wt ≤ k.wt := by
  cases k; simp only [noKids, NodeD.wt, wtAll]; omega
theorem propsOf_len (k : NodeD) : (propsOf k).length ≤ k.wt := by
  obtain ⟨l, ps, t, ks⟩ := k
  have := propsWt_len ps
  simp only [propsOf, NodeD.wt]; omega
theorem kids_wt2 (k : NodeD) : wtAll (kidsOf k) + 1 ≤ k.wt := by
  cases k; simp only [kidsOf, NodeD.wt]; omega
theorem insWt_none {l : List OpD} (h : ∀ o ∈ l, o.kind ≠ 1) : insWt l = 0 := by
  induction l with
  | nil => rfl
  | cons o l ih =>
    simp only [insWt]
    rw [if_neg (h o (by simp)), ih (fun o ho => h o (by simp [ho]))]
/-- What an operation of a repair is bounded by. -/
def OpOk (o : OpD) : Prop := KindR o.kind ∧ o.node.wt ≤ 1000000 ∧ o.dest.length ≤ 1000000 ∧ o.old.length ≤ 100000000
theorem fixL_ok {s : SchemaD} {n k : NodeD} {p : List Int} (hs : checkS s = 0) (hk : k.wt ≤ 15360) (hp : p.length ≤ 40) (hf : (findN s k).1 ≠ 0) :
    (∀ o ∈ fixL (ruleOf s (typeN k)) (kidsOf k) p (findN s k), OpOk o) ∧ insWt (fixL (ruleOf s (typeN k)) (kidsOf k) p (findN s k)) ≤ 100 ∧ fixL (ruleOf s (typeN k)) (kidsOf k) p (findN s k) ≠ [] := by
  have hF := formed_of (check_all hs _ (rule_in s (typeN k))).1
  have hkw := kids_wt2 k
  have hz : zeroN.wt = 1 := rfl
  rcases find_cases s k with h | ⟨c, j, hl, h1, h6, hj, he, hlt, h4, h66⟩
  · rw [h] at hf; exact absurd rfl hf
  rw [he]
  generalize ruleOf s (typeN k) = r at hF hj ⊢
  have hkj := kidAt_wt (kidsOf k) j
  obtain rfl | rfl | rfl | rfl | rfl | rfl : c = 1 ∨ c = 2 ∨ c = 3 ∨ c = 4 ∨ c = 5 ∨ c = 6 := by omega
  · rw [fixL_one (.inl rfl)]
    refine ⟨fun o ho => ?_, by simp [insWt], by simp⟩
    rw [List.mem_singleton.1 ho]
    exact ⟨.inr (.inl rfl), (show (kidAt (kidsOf k) (((j : Nat) : Int)).toNat).wt ≤ 1000000 by rw [Int.toNat_natCast]; omega), by simp, by simp⟩
  · rw [fixL_two rfl]
    refine ⟨fun o ho => ?_, ?_, by simp⟩
    · rcases List.mem_append.1 ho with ho | ho
      · obtain ⟨i, -, rfl⟩ := List.mem_map.1 ho
        exact ⟨.inr (.inr (.inr rfl)), (show zeroN.wt ≤ 1000000 by omega), (show (p ++ [_]).length ≤ 1000000 by simp; omega), by simp⟩
      · rw [List.mem_singleton.1 ho]
        have := noKids_wt (kidAt (kidsOf k) j)
        exact ⟨.inr (.inl rfl), (show (noKids (kidAt (kidsOf k) (((j : Nat) : Int)).toNat)).wt ≤ 1000000 by rw [Int.toNat_natCast]; omega), by simp, by simp⟩
    · rw [insWt_none]
      · omega
      · intro o ho
        rcases List.mem_append.1 ho with ho | ho
        · obtain ⟨i, -, rfl⟩ := List.mem_map.1 ho
          simp
        · rw [List.mem_singleton.1 ho]; simp
  · have hjl := hlt (by omega)
    have h4a := (run_acts hjl hj).1
    have hnm := name_len (act_wrap (actOf_ok hF _) h4a)
    have hew := elem_wt (actOf r (kidsOf k)[j]).2
    rw [fixL_three rfl]
    simp only [Int.toNat_natCast]
    rw [kid_at hjl]
    refine ⟨fun o ho => ?_, ?_, by simp⟩
    · rcases List.mem_cons.1 ho with rfl | ho
      · exact ⟨.inl rfl, (show (elemN _).wt ≤ 1000000 by omega), by simp, by simp⟩
      · obtain ⟨i, -, rfl⟩ := List.mem_map.1 ho
        exact ⟨.inr (.inr (.inr rfl)), (show zeroN.wt ≤ 1000000 by omega), (show (p ++ [_, _]).length ≤ 1000000 by simp; omega), by simp⟩
    · rw [insWt, insWt_none (l := List.map _ _)]
      · rw [if_pos rfl]
        show (elemN _).wt + 0 ≤ 100
        omega
      · intro o ho
        obtain ⟨i, -, rfl⟩ := List.mem_map.1 ho
        simp
  · rw [fixL_four rfl]
    have hpl := propsOf_len (kidAt (kidsOf k) j)
    refine ⟨fun o ho => ?_, by simp [insWt], by simp⟩
    rw [List.mem_singleton.1 ho]
    exact ⟨.inr (.inr (.inl rfl)), (show zeroN.wt ≤ 1000000 by omega), by simp, (show (propsOf (kidAt (kidsOf k) (((j : Nat) : Int)).toNat)).length ≤ 100000000 by rw [Int.toNat_natCast]; omega)⟩
  · rw [fixL_one (.inr rfl)]
    refine ⟨fun o ho => ?_, by simp [insWt], by simp⟩
    rw [List.mem_singleton.1 ho]
    exact ⟨.inr (.inl rfl), (show (kidAt (kidsOf k) (((j : Nat) : Int)).toNat).wt ≤ 1000000 by rw [Int.toNat_natCast]; omega), by simp, by simp⟩
  · rw [fixL_six rfl]
    have hx : (if r.fill = 1 then NodeD.mk true [] [] [] else elemN r.fillT).wt ≤ 100 := by
      split
      · simp [NodeD.wt, propsWt, wtAll]
      · rename_i hf1
        have hj6 : lookN r (kidsOf k) 6 = j := hj
        rw [look_last] at hj6
        split at hj6
        · rename_i h
          have := name_len (fill_two hF h.2 hf1).2
          have := elem_wt r.fillT
          omega
        · omega
    generalize (if r.fill = 1 then NodeD.mk true [] [] [] else elemN r.fillT) = x at hx ⊢
    refine ⟨fun o ho => ?_, ?_, by simp⟩
    · rw [List.mem_singleton.1 ho]
      exact ⟨.inl rfl, (show x.wt ≤ 1000000 by omega), by simp, by simp⟩
    · simp only [insWt, if_true]; omega
/-- The tree behind a repair. -/
def fixedN (s : SchemaD) (n k : NodeD) (p : List Int) : NodeD := putN n p (setKids k (fixK (ruleOf s (typeN k)) (kidsOf k) (findN s k)))
theorem fix_case {s : SchemaD} {n : NodeD} {p : List Int} (hsm : smallB s n p = true) (hs : checkS s = 0) (hn : nodeE n = 0) (hr : leafOf n = false) :
    ((fixN s n p).2 ≠ 0 ∧ (fixN s n p).1 = []) ∨
    ∃ k, atN n p = some k ∧ leafOf k = false ∧ (findN s k).1 ≠ 0 ∧ (fixN s n p).2 = 0 ∧ playN n ((fixN s n p).1.map OpD.full) = some (fixedN s n k p) ∧ (fixN s n p).1 ≠ [] ∧ (∀ o ∈ (fixN s n p).1, OpOk o) ∧
      n.wt + insWt (fixN s n p).1 ≤ 1000000 ∧ nodeE (fixedN s n k p) = 0 ∧ sizeN (fixedN s n k p) ≠ sizeN n ∧ (fixedN s n k p).wt ≤ 1000000 ∧ (fixN s n p).1 = fixL (ruleOf s (typeN k)) (kidsOf k) p (findN s k) := by
  have hnw := small_node hsm
  have hpl := small_path2 s n p hsm
  unfold fixN
  cases ha : atN n p with
  | none => exact .inl ⟨by simp, rfl⟩
  | some k =>
    simp only
    by_cases hl : leafOf k = true
    · rw [if_pos hl]; exact .inl ⟨by simp, rfl⟩
    · rw [if_neg hl]
      by_cases hf : (findN s k).1 = 0
      · rw [if_pos hf]; exact .inl ⟨by simp, rfl⟩
      · rw [if_neg hf]
        right
        have hkw := atN_wt _ _ _ ha
        have hE := nodeE_at p n k hn ha
        obtain ⟨h1, h2, h3⟩ := fixL_ok (n := n) hs (by omega) hpl hf
        have hpp := fix_play hn hr ha hf (new_ok hs hf)
        have hless := fix_less hs ha hf
        have hx : sizeN (fixedN s n k p) ≠ sizeN n := by
          obtain ⟨g1, g2, g3⟩ := hless
          show sizeN (putN n p _) ≠ sizeN n
          by_cases e3 : (findN s k).1 = 3
          · obtain ⟨w, -, -, -, -, h⟩ := g1 e3
            omega
          · by_cases e6 : (findN s k).1 = 6
            · have := (g2 e6).2.2; omega
            · have := g3 e3 e6; omega
        have hwt : (fixedN s n k p).wt ≤ n.wt + insWt (fixL (ruleOf s (typeN k)) (kidsOf k) p (findN s k)) := by
          have hgen : ∀ (L : List OpD) (m Y : NodeD), (∀ o ∈ L, OpOk o) → m.wt + insWt L ≤ 100000000 → playN m (L.map OpD.full) = some Y → Y.wt ≤ m.wt + insWt L := by
            intro L
            induction L with
            | nil => intro m Y _ _ h; injection h with h; subst h; exact Nat.le_add_right _ _
            | cons o L ih =>
              intro m Y ho hw h
              obtain ⟨T, hT, h5⟩ := playN_split h
              have h6 := apply_wt (ho o (by simp)).1 (by omega) hT
              simp only [insWt] at hw ⊢
              have h7 := ih T Y (fun o ho' => ho o (by simp [ho'])) (by omega) h5
              omega
          exact hgen _ n _ h1 (by omega) hpp
        exact ⟨k, rfl, by simpa using hl, hf, rfl, hpp, h3, h1, (show n.wt + insWt (fixL _ _ _ _) ≤ 1000000 by omega), nodeE_putK hn ha (by simpa using hl) (fixK_ok hs hE hf), hx, by omega, rfl⟩
theorem same_size {a b : NodeD} (h : sizeN a ≠ sizeN b) : sameN a b = false := by
  cases hs : sameN a b with
  | false => rfl
  | true => exact absurd (by rw [sameN_eq a b hs]) h
end Go.Proofs.YtaopoincbigjhaaGreatDoor
/- Walk: FixCan. -/
namespace Go.Proofs.YtaopoincbigjhaaGreatDoor
open Go.RowKit Go.Redl
set_option linter.unusedVariables false
set_option linter.unusedSimpArgs false

set_option maxRecDepth 100000 in
set_option maxHeartbeats 4000000 in
theorem fixcan_walk (s : SchemaD) (n : NodeD) (u v : Value) (p : List Int) (pa : Option Addr) (pc : Nat) (W : World) (hs : s.wt ≤ 1048576) (hn : n.wt ≤ 1048576) (hpl : p.length ≤ 1048576) (hu : SchemaV W W.heap.size s u) (hv : NodeV W W.heap.size n v) (hp : RowA W W.heap.size 1 pa p.length pc (p.map (Value.int .i64))) :
    Calls Tryz.prog 3 #[u, v, .slice pa p.length pc] W (fun e w' => e = .returned (.bool true) ∧ Below W.heap.size W w') := by
  have hu0 := hu
  obtain ⟨csn, rfl, hc⟩ := hv
  obtain ⟨l, b1, m1, d1, b2, m2, d2, b3, m3, d3, rfl⟩ := hc.form
  have hleaf := nodeq_leaf (NodeC.q (Nat.le_refl _) _ _ hc)
  obtain ⟨a, c, css, ea, ec, o0, o1, o2, o3, o4, o5, rfl, -, -, -, -⟩ := hu0.open
  obtain ⟨w0, hw0⟩ : ∃ w0, w0 = (W.alloc (Obj.cells #[.slice a s.rules.length c, strV s.els.type, .int .i64 s.els.text.1, strV s.els.text.2, .int .i64 s.els.other.1, strV s.els.other.2, .slice ea s.els.kids.length ec, .int .i64 s.els.fill, strV s.els.fillT, .int .i64 o0, .int .i64 o1, .int .i64 o2, .int .i64 o3, .int .i64 o4, .int .i64 o5, .int .i64 s.cap] 30)).alloc (Obj.cells #[.bool l, .slice b1 m1 d1, .slice b2 m2 d2, .slice b3 m3 d3] 35) := ⟨_, rfl⟩
  have hb0 : Below W.heap.size W w0 := by rw [hw0]; exact two_below _ _ _
  have HS0 := Lib.hid (show At w0 W.heap.size [.slice a s.rules.length c, strV s.els.type, .int .i64 s.els.text.1, strV s.els.text.2, .int .i64 s.els.other.1, strV s.els.other.2, .slice ea s.els.kids.length ec, .int .i64 s.els.fill, strV s.els.fillT, .int .i64 o0, .int .i64 o1, .int .i64 o2, .int .i64 o3, .int .i64 o4, .int .i64 o5, .int .i64 s.cap] 30 by rw [hw0]; exact (At.fresh W _ _).alloc _)
  have HN0 := Lib.hid (show At w0 (W.heap.size + 1) [.bool l, .slice b1 m1 d1, .slice b2 m2 d2, .slice b3 m3 d3] 35 by rw [hw0]; exact At.second W _ _ _)
  have huk : ∀ w', Below w0.heap.size w0 w' → SchemaV w' w'.heap.size s (.agg #[.slice a s.rules.length c, strV s.els.type, .int .i64 s.els.text.1, strV s.els.text.2, .int .i64 s.els.other.1, strV s.els.other.2, .slice ea s.els.kids.length ec, .int .i64 s.els.fill, strV s.els.fillT, .int .i64 o0, .int .i64 o1, .int .i64 o2, .int .i64 o3, .int .i64 o4, .int .i64 o5, .int .i64 s.cap]) := fun w' hb => hu.keep (hb0.trans (hb.mono hb0.size)) (hb0.trans (hb.mono hb0.size)).size
  have hvk : ∀ w', Below w0.heap.size w0 w' → NodeV w' w'.heap.size n (.agg #[.bool l, .slice b1 m1 d1, .slice b2 m2 d2, .slice b3 m3 d3]) := fun w' hb => ⟨_, rfl, NodeC.keep (hb0.trans (hb.mono hb0.size)) (hb0.trans (hb.mono hb0.size)).size _ _ hc⟩
  have hpk : ∀ w', Below w0.heap.size w0 w' → RowA w' w'.heap.size 1 pa p.length pc (p.map (Value.int .i64)) := fun w' hb => hp.keep (hb0.trans (hb.mono hb0.size)) (hb0.trans (hb.mono hb0.size)).size
  have HF := Lib.hid (fun (w' : World) (hb : Below w0.heap.size w0 w') => lawfew_c s n _ _ p pa pc w' (by omega) (by omega) (by omega) (huk w' hb) (hvk w' hb))
  have HL := Lib.hid (live_c w0)
  have HT := Lib.hid (fun (w' : World) (hb : Below w0.heap.size w0 w') => tcheck_c s _ w' (by omega) (huk w' hb))
  have HK := Lib.hid (fun (w' : World) (hb : Below w0.heap.size w0 w') => ncheck_c n _ w'.heap.size w' hn (hvk w' hb) (Nat.le_refl _))
  have HSN := Lib.hid hleaf; have Hu := Lib.hid huk; have Hv := Lib.hid hvk; have Hp := Lib.hid hpk
  have Hb0 := Lib.hid hb0; have Hw0 := Lib.hid hw0
  have hld := fun (w' : World) (h : At w' W.heap.size [.slice a s.rules.length c, strV s.els.type, .int .i64 s.els.text.1, strV s.els.text.2, .int .i64 s.els.other.1, strV s.els.other.2, .slice ea s.els.kids.length ec, .int .i64 s.els.fill, strV s.els.fillT, .int .i64 o0, .int .i64 o1, .int .i64 o2, .int .i64 o3, .int .i64 o4, .int .i64 o5, .int .i64 s.cap] 30) => At.load (P := Tryz.prog) h Tryz.underlying30 rfl (by kernel_rfl)
  simp [go_sem] at hld
  have Hld := Lib.hid hld
  have Hsw := Lib.hid hs; have Hnw := Lib.hid hn
  clear hu0 hc hw0 hb0 hu hp huk hvk hpk hleaf hld hs hn
  go_enter Tryz.func3, Tryz.ntmps3
  go_upto_region 1 with fail
  rw [← Hw0.out]
  clear Hw0
  go_wp2_with fail
  refine HL.out.mono ?_
  rintro e w1 ⟨rfl, hbel⟩
  have Hb1 := Lib.hid hbel
  have HF1 := Lib.hid (HF.out w1 hbel)
  have HS1 := Lib.hid (HS0.out.kept hbel); have HN1 := Lib.hid (HN0.out.kept hbel)
  obtain ⟨⟨y0, y1, y2, y3⟩, -, yl⟩ := HN1.out.f4
  clear hbel HL HF
  go_upto_region 3 with fail
  go_cut [31] (fun r wx => ∃ R : Bool, r = .bool R ∧ Hid (R = false → (smallB s n p = true ∧ checkS s = 0 ∧ nodeE n = 0 ∧ l = false)) ∧ Hid (Below w0.heap.size w0 wx))
  case first =>
    --<h1
    obtain ⟨B1, hB1⟩ : ∃ B1, B1 = smallB s n p := ⟨_, rfl⟩
    have HB1 := Lib.hid hB1
    rw [← hB1] at HF1
    clear hB1
    go_wp2_with (refine wpList_loadA rfl _ _ rfl W.heap.size #[.slice a s.rules.length c, strV s.els.type, .int .i64 s.els.text.1, strV s.els.text.2, .int .i64 s.els.other.1, strV s.els.other.2, .slice ea s.els.kids.length ec, .int .i64 s.els.fill, strV s.els.fillT, .int .i64 o0, .int .i64 o1, .int .i64 o2, .int .i64 o3, .int .i64 o4, .int .i64 o5, .int .i64 s.cap] rfl HS1.out _ Tryz.underlying30 rfl (by kernel_rfl) ?_)
    refine HF1.out.mono ?_
    rintro e w2 ⟨rfl, hbel⟩
    have Hb2 := Lib.hid (below_and Hb1.out hbel)
    clear HF1 hbel y0 y1 y2 y3 yl
    cases B1 with
    | false =>
      go_wp2_with fail
      go_meet
      case rel => exact ⟨true, rfl, Lib.hid (fun h => by cases h), Hb2⟩
    | true =>
      have hS := Hld.out w2 (HS0.out.kept Hb2.out)
      have HT1 := HT.out w2 Hb2.out
      obtain ⟨z1, hz1⟩ : ∃ z1, z1 = checkS s := ⟨_, rfl⟩
      rw [← hz1] at HT1
      have HT1 := Lib.hid HT1
      have HZ1 := Lib.hid hz1
      clear hz1
      go_wp2_with fail
      refine HT1.out.mono ?_
      rintro e w3 ⟨rfl, hbel⟩
      have Hb3 := Lib.hid (below_and Hb2.out hbel)
      clear HT1 hbel hS
      by_cases hz : z1 = 0
      · subst hz
        have HK1 := HK.out w3 Hb3.out
        obtain ⟨z2, hz2⟩ : ∃ z2, z2 = nodeE n := ⟨_, rfl⟩
        rw [← hz2] at HK1
        have HK1 := Lib.hid HK1
        have HZ2 := Lib.hid hz2
        obtain ⟨⟨y0, y1, y2, y3⟩, -, yl⟩ := (HN0.out.kept Hb3.out).f4
        clear hz2
        go_wp2_with fail
        refine HK1.out.mono ?_
        rintro e w4 ⟨rfl, hbel⟩
        have Hb4 := Lib.hid (below_and Hb3.out hbel)
        clear HK1 hbel y0 y1 y2 y3 yl
        by_cases hz : z2 = 0
        · subst hz
          obtain ⟨⟨y0, y1, y2, y3⟩, -, yl⟩ := (HN0.out.kept Hb4.out).f4
          go_wp2_with fail
          go_meet
          case rel => exact ⟨l, rfl, Lib.hid (fun h => ⟨HB1.out.symm, HZ1.out.symm, HZ2.out.symm, h⟩), Hb4⟩
        · have hzb : (z2 != 0) = true := by simpa using hz
          go_wp2_with fail
          go_meet
          case rel => exact ⟨true, rfl, Lib.hid (fun h => by cases h), Hb4⟩
      · have hzb : (z1 != 0) = true := by simpa using hz
        go_wp2_with fail
        go_meet
        case rel => exact ⟨true, rfl, Lib.hid (fun h => by cases h), Hb3⟩
    -->h1
  case rest =>
  obtain ⟨R, rfl, HR, Hbc⟩ := hcut
  clear HF1 HT HK y0 y1 y2 y3 yl Hb1 HS1 HN1
  cases R with
  | true =>
    have HbW := Lib.hid (Hb0.out.trans (Hbc.out.mono Hb0.out.size))
    go_wp2_with fail
    go_ret
    exact ⟨rfl, HbW.out⟩
  | false =>
  obtain ⟨hsm, hcs, hE, rfl⟩ := HR.out rfl
  have hlf := HSN.out.symm
  have hnw := small_node hsm
  have hpl40 := small_path2 s n p hsm
  have HSc := Lib.hid (HS0.out.kept Hbc.out); have HNc := Lib.hid (HN0.out.kept Hbc.out)
  have HO := Lib.hid (fixops_c s _ n _ p pa pc wc (by have := Hsw.out; omega) (by omega) (Hu.out wc Hbc.out) (Hv.out wc Hbc.out) (Hp.out wc Hbc.out) (by omega))
  have HLen := Lib.hid (fixN_len2 s n p (by omega))
  obtain ⟨⟨y0, y1, y2, y3⟩, -, yl⟩ := HNc.out.f4
  go_wp2_with (refine wpList_loadA rfl _ _ rfl W.heap.size #[.slice a s.rules.length c, strV s.els.type, .int .i64 s.els.text.1, strV s.els.text.2, .int .i64 s.els.other.1, strV s.els.other.2, .slice ea s.els.kids.length ec, .int .i64 s.els.fill, strV s.els.fillT, .int .i64 o0, .int .i64 o1, .int .i64 o2, .int .i64 o3, .int .i64 o4, .int .i64 o5, .int .i64 s.cap] rfl HSc.out _ Tryz.underlying30 rfl (by kernel_rfl) ?_)
  refine HO.out.mono ?_
  rintro e w5 ⟨lv, rfl, hlv, hbel⟩
  have Hb5 := Lib.hid (below_and Hbc.out hbel)
  clear HO hbel y0 y1 y2 y3 yl HSc HNc
  rcases fix_case hsm hcs hE hlf with ⟨her, hnil⟩ | ⟨k, hat, hkl, hfn, her, hplay, hne, hops, hins, hXE, hXs, hXw, hLeq⟩
  · rw [hnil] at hlv
    obtain ⟨la, lc, css2, rfl, -, -⟩ := hlv
    have heb : ((fixN s n p).2 != 0) = true := by simpa using her
    have HbW := Lib.hid (Hb0.out.trans (Hb5.out.mono Hb0.out.size))
    generalize (fixN s n p).2 = er at heb ⊢
    clear HLen her hnil
    go_wp2_with fail
    go_ret
    exact ⟨rfl, HbW.out⟩
  rw [her]
  generalize hL : (fixN s n p).1 = L at hlv hplay hne hops hins HLen hLeq
  obtain ⟨la, lc, css2, rfl, hla1, hla2⟩ := hlv
  have Hlv := Lib.hid (show OpsV w5 L (.slice la L.length lc) from ⟨la, lc, css2, rfl, hla1, hla2⟩)
  generalize hX : fixedN s n k p = X at hplay hXE hXs hXw
  have HX := Lib.hid hX; have HXE := Lib.hid hXE; have HXs := Lib.hid hXs; have HXw := Lib.hid hXw; have Hne := Lib.hid hne; have Hfn := Lib.hid hfn; have Hat := Lib.hid hat; have Hcs := Lib.hid hcs; have HE := Lib.hid hE; have Hkl := Lib.hid hkl; have Hlf := Lib.hid hlf; have Hnw2 := Lib.hid hnw; have Hp40 := Lib.hid hpl40; have HLeq := Lib.hid hLeq
  have HD := Lib.hid (done_c n X L _ la lc w5 hins (Hv.out w5 Hb5.out) Hlv.out HLen.out (fun o ho => hops o ho) hplay)
  have hlpos : (0 : Int) < L.length := by have := List.length_pos_iff.2 hne; omega
  obtain ⟨⟨y0, y1, y2, y3⟩, -, yl⟩ := (HN0.out.kept Hb5.out).f4
  clear hX hXE hXs hXw hne hfn hat hcs hE hkl hlf hnw hpl40 hLeq hla1 hla2 hL her hins hops hplay hsm HSN HR Hbc
  go_wp2_with fail
  refine HD.out.mono ?_
  rintro e w6 ⟨hbel, x0, x1, x2, x3, e1, e2, e3, g1, g2, g3, rfl, hXq⟩
  have Hb6 := Lib.hid (below_and Hb5.out hbel)
  have HXq := Lib.hid hXq
  clear HD hbel y0 y1 y2 y3 yl hXq

  obtain ⟨w7, hw7⟩ : ∃ w7, w7 = w6.alloc (Obj.cells #[.bool x0, .slice x1 e1 g1, .slice x2 e2 g2, .slice x3 e3 g3] 35) := ⟨_, rfl⟩
  have hb67 : Below w6.heap.size w6 w7 := by rw [hw7]; exact one_below _ _
  have HA7 := Lib.hid (show At w7 w6.heap.size [.bool x0, .slice x1 e1 g1, .slice x2 e2 g2, .slice x3 e3 g3] 35 by rw [hw7]; exact At.fresh _ _ _)
  have Hb7 := Lib.hid (below_and Hb6.out hb67)
  have HN7 := Lib.hid (HN0.out.kept Hb7.out); have HS7 := Lib.hid (HS0.out.kept Hb7.out)
  have HX7 := Lib.hid (nodeq_since HXq.out hb67)
  have HXv := Lib.hid (fun (w' : World) (hb : Below w7.heap.size w7 w') => (show NodeV w' w'.heap.size X (.agg #[.bool x0, .slice x1 e1 g1, .slice x2 e2 g2, .slice x3 e3 g3]) from ⟨_, rfl, NodeQ.node _ _ (nodeq_since HX7.out hb)⟩))
  have HNv := Lib.hid (fun (w' : World) (hb : Below w7.heap.size w7 w') => Hv.out w' (below_and Hb7.out hb))
  have Hw7 := Lib.hid hw7
  clear hw7 hb67 HXq
  go_upto_region 9 with fail
  rw [← Hw7.out]
  clear Hw7

  obtain ⟨⟨f0, f1, f2, f3⟩, -, fl⟩ := HA7.out.f4
  obtain ⟨⟨y0, y1, y2, y3⟩, -, yl⟩ := HN7.out.f4
  have hsame := same_c X.wt X n _ _ w7 (Nat.le_refl _) (HXv.out w7 (Below.refl _ _)) (HNv.out w7 (Below.refl _ _))
  rw [same_size HXs.out] at hsame
  have HSm := Lib.hid hsame
  clear hsame
  go_wp2_with fail
  refine HSm.out.mono ?_
  rintro e w8 ⟨rfl, hbel⟩
  have Hb8 := Lib.hid (below_and Hb7.out hbel)
  have hck := ncheck_c X _ w8.heap.size w8 (by have := HXw.out; omega) (HXv.out w8 hbel) (Nat.le_refl _)
  rw [HXE.out] at hck
  have HCk := Lib.hid hck
  have HA8 := HA7.out.kept hbel
  clear HSm hck f0 f1 f2 f3 fl y0 y1 y2 y3 yl hbel
  obtain ⟨⟨f0, f1, f2, f3⟩, -, fl⟩ := HA8.f4
  clear HA8
  go_wp2_with fail
  refine HCk.out.mono ?_
  rintro e w9 ⟨rfl, hbel⟩
  have HbW := Lib.hid (Hb0.out.trans ((below_and Hb8.out hbel).mono Hb0.out.size))
  clear HCk hbel f0 f1 f2 f3 fl
  go_wp2_with fail
  go_ret
  exact ⟨rfl, HbW.out⟩
end Go.Proofs.YtaopoincbigjhaaGreatDoor
/- The frame of the Upto laws whose rows list no table: how paths and schemas that came in are read. -/
namespace Go.Proofs.YtaopoincbigjhaaGreatDoor
open Go.ChangeShapes Go.WideShapes Go.ChangeAt Go.WideMaps Go.WideElems Go.RowKit Go.Redl Go.Deep
set_option linter.unusedVariables false

theorem own : ownKnob Tryz.prog.godebug = none := by kernel_rfl
theorem laidOut : laidOutB Tryz.prog = true := by kernel_rfl
def IntΦ {H : Type} (z : Int) (cs : List Value) (d : DataW H) : Prop := cs = [.int .i64 z] ∧ 1 ≤ Rows.uptoBulk d
theorem elems_path {H : Type} : ∀ {l : List Int} {css : List Value} {ds : List (DataW H)}, Elems IntΦ l css ds → css = l.map (Value.int .i64) ∧ l.length ≤ Rows.uptoBulkAll ds
  | [], css, ds, h => by obtain ⟨rfl, rfl⟩ := h; exact ⟨rfl, by simp⟩
  | z :: l, css, ds, h => by
    obtain ⟨c, cs, d, ds', rfl, rfl, ⟨rfl, hb⟩, hr⟩ := h
    obtain ⟨rfl, h3⟩ := elems_path hr
    exact ⟨rfl, by simp only [List.length_cons, Rows.uptoBulkAll]; omega⟩
theorem path_of_trod {H : Type} {enc : TypeId × Value → H} {W : World} {fuel : Nat} {cs : List Value} {x : DataW H × List MemPlace} (h : DataW.trod enc Tryz.prog W 0 (fun _ => true) true fuel 36 cs = some x) :
    ∃ a cap zs, cs = [.slice a (List.length zs) cap] ∧ RowA W W.heap.size 1 a (List.length zs) cap (zs.map (Value.int .i64)) ∧ zs.length + 1 ≤ Rows.uptoBulk x.1 := by
  obtain ⟨a, cap, ys, css, ds, rfl, hr, hel, hs⟩ := row_of_trod IntΦ Tryz.underlying36 (show Tryz.prog.cellsOf 3 = 1 by kernel_rfl) (by decide)
    (fun m cs x _ hx => by
      obtain ⟨xv, xp⟩ := x
      obtain ⟨z, e0, e1, -⟩ := DataW.trod_int Tryz.underlying3 hx
      have e2 := (Prod.mk.inj e1).1
      subst e2
      exact ⟨z, e0, by simp [Rows.uptoBulk]⟩) (fun y c d hh => by obtain ⟨rfl, -⟩ := hh; intro u hu; simp at hu; subst hu; rfl) h
  obtain ⟨rfl, hlen⟩ := elems_path hel
  have m0 := slice_bulk (n := 0) (hs.imp (fun h => ⟨h.1, rfl, h.2.2⟩) id)
  exact ⟨a, cap, ys, rfl, hr, by omega⟩
end Go.Proofs.YtaopoincbigjhaaGreatDoor
/- FixCan's contract, where what is read is of bulk at most 1048576: for every schema, tree and path the law returns true. Conditions: the bulk, and the row's own. -/
namespace Go.Proofs.YtaopoincbigjhaaGreatDoor
open Go.ChangeShapes Go.WideShapes Go.ChangeAt Go.RowKit Go.Redl
set_option linter.unusedVariables false
set_option maxRecDepth 100000

theorem fixCan_reads (os : Os) {H : Type} (enc : TypeId × Value → H) : ∃ places, DataW.whole enc Tryz.prog ((World.laidAll Tryz.prog os Rows.fixCanUptoRow.laid).forCall (fun _ _ => 0) ⟨#[], #[.agg #[.slice none 0 0, .string ⟨#[]⟩, .int .i64 0, .string ⟨#[]⟩, .int .i64 0, .string ⟨#[]⟩, .slice none 0 0, .int .i64 0, .string ⟨#[]⟩, .int .i64 0, .int .i64 0, .int .i64 0, .int .i64 0, .int .i64 0, .int .i64 0, .int .i64 0], .agg #[.bool false, .slice none 0 0, .slice none 0 0, .slice none 0 0], .slice none 0 0], []⟩).memory Tryz.f3.params.toList Rows.fixCanSpec.vars false (#[.agg #[.slice none 0 0, .string ⟨#[]⟩, .int .i64 0, .string ⟨#[]⟩, .int .i64 0, .string ⟨#[]⟩, .slice none 0 0, .int .i64 0, .string ⟨#[]⟩, .int .i64 0, .int .i64 0, .int .i64 0, .int .i64 0, .int .i64 0, .int .i64 0, .int .i64 0], .agg #[.bool false, .slice none 0 0, .slice none 0 0, .slice none 0 0], .slice none 0 0] : Array Value).toList 8 = some ([.agg [.nil, .agg [.lit (.string []), .agg [.lit (.int .i64 0), .lit (.string [])], .agg [.lit (.int .i64 0), .lit (.string [])], .nil, .lit (.int .i64 0), .lit (.string [])], .agg [.lit (.int .i64 0), .lit (.int .i64 0), .lit (.int .i64 0), .lit (.int .i64 0), .lit (.int .i64 0), .lit (.int .i64 0)], .lit (.int .i64 0)], .agg [.lit (.bool false), .nil, .nil, .nil], .nil], [], places) :=
  ⟨[], by kernel_rfl⟩
theorem fixCan_contract (H : Type) (enc : TypeId × Value → H) (W : World) (base : Nat) (args : Array Value) (ds gs : List (DataW H)) (before : List MemPlace)
    (hval0 : ∀ (j : Nat) t v, Tryz.f3.params[j]? = some t → args[j]? = some v → Value.okWide Tryz.prog W .any base t v)
    (hW : DataW.Whole enc Tryz.prog Tryz.f3.params.toList Rows.fixCanSpec.vars false W args.toList ds gs before) (hk : Rows.uptoSmall H (ds ++ gs) = true) (hL : laidMetH Tryz.prog Rows.fixCanUptoRow.laid W) :
    Calls Tryz.prog 3 args W fun e W' => ∃ v, e = .returned v ∧ Rows.fixCanSpec.post enc Tryz.prog Tryz.f3 false true false false W args v W' := by
  have hval : ∀ (j : Nat) t v, Tryz.f3.params[j]? = some t → args[j]? = some v → Value.okWide Tryz.prog W .any base t v := hval0
  have hW' := hW
  obtain ⟨p, q, hA0, hV, rfl, hfz, hnd⟩ := hW
  have hA : DataW.TrodAll enc Tryz.prog W 0 (fun _ => true) true Tryz.f3.params.toList args.toList ds p := hA0
  rw [Tryz.params3] at hA hval
  obtain ⟨v0, vs0, d0, ds0, p0, q0, hargs, rfl, rfl, h0, r0⟩ := trodAll_cons hA
  obtain ⟨v1, vs1, d1, ds1, p1, q1, rfl, rfl, rfl, h1, r1⟩ := trodAll_cons r0
  obtain ⟨v2, vs2, d2, ds2, p2, q2, rfl, rfl, rfl, h2, r2⟩ := trodAll_cons r1
  obtain ⟨rfl, rfl, rfl⟩ := trodAll_nil r2
  obtain rfl : args = #[v0, v1, v2] := by cases args; simp_all
  obtain ⟨rfl, rfl⟩ := trodVars_none hV
  obtain ⟨cs0, rfl, hsz0⟩ := okWide_struct Tryz.underlying30 (hval 0 30 v0 rfl rfl)
  have k0 := h0
  have lt0 : ∀ x ∈ p0, x.block < W.heap.size := by obtain ⟨m, hm⟩ := k0; exact DataW.trod_lt m _ _ _ hm
  obtain ⟨n0, i0, u0⟩ : ∃ n, SchemaV W W.heap.size n (.agg cs0) ∧ n.wt ≤ Rows.uptoBulk d0 := by
    obtain ⟨fuel, hf⟩ := h0
    obtain ⟨n, h1, h2⟩ := schema_of_trod hf
    exact ⟨n, ⟨cs0.toList, by simp, h1⟩, h2⟩
  obtain ⟨cs1, rfl, hsz1⟩ := okWide_struct Tryz.underlying35 (hval 1 35 v1 rfl rfl)
  have k1 := h1
  have lt1 : ∀ x ∈ p1, x.block < W.heap.size := by obtain ⟨m, hm⟩ := k1; exact DataW.trod_lt m _ _ _ hm
  obtain ⟨n1, i1, u1⟩ : ∃ n, NodeV W W.heap.size n (.agg cs1) ∧ n.wt ≤ Rows.uptoBulk d1 := by
    obtain ⟨fuel, hf⟩ := h1
    obtain ⟨n, h1, h2⟩ := node_of_trod fuel _ _ hf
    exact ⟨n, ⟨cs1.toList, by simp, h1⟩, h2⟩
  obtain ⟨a2, len2, cap2, rfl⟩ := okWide_slice Tryz.underlying36 (hval 2 36 v2 rfl rfl)
  have k2 := h2
  have lt2 : ∀ x ∈ p2, x.block < W.heap.size := by obtain ⟨m, hm⟩ := k2; exact DataW.trod_lt m _ _ _ hm
  obtain ⟨n2, hl2, i2, u2⟩ : ∃ zs : List Int, len2 = zs.length ∧ RowA W W.heap.size 1 a2 zs.length cap2 (zs.map (Value.int .i64)) ∧ zs.length + 1 ≤ Rows.uptoBulk d2 := by
    obtain ⟨fuel, hf⟩ := h2
    obtain ⟨a, cap, zs, h0, h1, h2⟩ := path_of_trod hf
    simp [Value.cells] at h0
    obtain ⟨rfl, rfl, rfl⟩ := h0
    exact ⟨zs, rfl, h1, h2⟩
  subst hl2
  have hb : Rows.uptoBulkAll _ ≤ 1048576 := of_decide_eq_true hk
  simp only [List.append_nil, Rows.uptoBulkAll, Nat.add_zero] at hb
  clear hA0 hval0
  refine (fixcan_walk n0 n1 _ _ n2 _ _ W (by omega) (by omega) (by omega) i0 i1 i2).mono fun e W' ⟨he, bel⟩ => ?_
  subst he
  exact ⟨_, rfl, _, _, _, [], _, [], hW', trodAll_mk1 (shut_bool Tryz.underlying4 _), (trodAll_cons_mk (Below.trod laidOut (by kernel_rfl) (of_decide_eq_true (by kernel_rfl)) k0 bel lt0) (trodAll_cons_mk (Below.trod laidOut (by kernel_rfl) (of_decide_eq_true (by kernel_rfl)) k1 bel lt1) (trodAll_cons_mk (Below.trod laidOut (by kernel_rfl) (of_decide_eq_true (by kernel_rfl)) k2 bel lt2) trodAll_mk0))), rfl, bel.frame _, fun h => by cases h⟩
theorem fixCan_lifted (os : Os) (started : os.Started) (H : Type) (enc : TypeId × Value → H) (F : Stop.Interp) :
    ReturnsInHanded {} Tryz.checked os 3 .any ((Rows.OpenSpec.upto Rows.fixCanSpec).preRow enc Tryz.prog Tryz.f3 Rows.fixCanUptoRow.domain false Rows.fixCanUptoRow.laid) (((Rows.OpenSpec.upto Rows.fixCanSpec).at F).post enc Tryz.prog Tryz.f3 false true false false) := by
  obtain ⟨places, hx⟩ := fixCan_reads os enc
  refine returnsInHanded_of_row (C := Tryz.checked) (s := Rows.OpenSpec.upto Rows.fixCanSpec) own started (by kernel_rfl) Tryz.func3
    (witness_row_atRef (enc := enc) (C := Tryz.checked) false (World.laidAll Tryz.prog os Rows.fixCanUptoRow.laid) #[.agg #[.slice none 0 0, .string ⟨#[]⟩, .int .i64 0, .string ⟨#[]⟩, .int .i64 0, .string ⟨#[]⟩, .slice none 0 0, .int .i64 0, .string ⟨#[]⟩, .int .i64 0, .int .i64 0, .int .i64 0, .int .i64 0, .int .i64 0, .int .i64 0, .int .i64 0], .agg #[.bool false, .slice none 0 0, .slice none 0 0, .slice none 0 0], .slice none 0 0] (World.laidAll_os _ _ _) (by kernel_rfl) (by kernel_rfl) (by kernel_rfl)
      (OpenSpec.preRow_of_cond 8 hx (by kernel_rfl) (fun k hk => by cases hk; kernel_rfl) (by kernel_rfl) (by rw [MakeChecks.laidMetH_plain _ _ _ (by kernel_rfl)]; exact laidMet_laidAll _ (by kernel_rfl) (by kernel_rfl)))) ?_
  intro W base args ds gs before hval hW _ hcond _ hL _ _
  exact fixCan_contract H enc W base args ds gs before hval hW (hcond _ rfl) hL
end Go.Proofs.YtaopoincbigjhaaGreatDoor
