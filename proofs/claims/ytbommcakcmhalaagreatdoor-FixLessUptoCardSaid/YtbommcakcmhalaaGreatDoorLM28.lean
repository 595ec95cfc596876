/- Parts of the proof, one behind the other: RYA, RYE, RYN, RYI, RYJ, RKK, RKL, RKM, RKN, RKO, RKP, RKT, RKQ, RKU, RQL. -/
import Derived.Test.YtbommcakcmhalaaGreatDoorLM21
import Derived.Test.YtbommcakcmhalaaGreatDoorLM24
import Derived.Test.YtbommcakcmhalaaGreatDoorLM27
import Derived.Test.YtbommcakcmhalaaGreatDoorLM6
import Derived.Test.YtbommcakcmhalaaGreatDoorLM7
import Derived.Test.YtbommcakcmhalaaGreatDoorLM8
import Derived.Laws.Cover4
import Derived.Deep.MidRow
import Derived.Laws.OwnMore
import Derived.Test.YtbommcakcmhalaaGreatDoorLM3
/- Plain laws: a repair, as the laws of fix ask it. -/
set_option linter.unusedVariables false
set_option linter.unusedSimpArgs false
set_option maxHeartbeats 4000000
set_option maxRecDepth 100000
namespace Go.Proofs.YtbommcakcmhalaaGreatDoor
open Go.RowKit Go.Redl
theorem fixL_len2 (r : RuleD) (ks : List NodeD) (p : List Int) (f : FindD) (m : Nat) (h1 : wtAll ks <= m) (h2 : f.2.2 <= (m : Int) + 1) : (fixL r ks p f).length <= m + 2 := by
 have hk : (kidsOf (kidAt ks f.2.1.toNat)).length <= m := by
  have h3 : (kidAt ks f.2.1.toNat).wt <= m + 1 := by
   by_cases hi : f.2.1.toNat < ks.length
   . rw [kid_get hi]; have := wtAll_mem (List.getElem_mem hi); omega
   . rw [show kidAt ks f.2.1.toNat = .mk false [] [] [] from by simp [kidAt, List.getD, List.getElem?_eq_none (show ks.length <= f.2.1.toNat by omega)]]
     simp [NodeD.wt, propsWt, wtAll]
  generalize kidAt ks f.2.1.toNat = q at h3 ⊢
  obtain ⟨l, ps, t, ks'⟩ := q
  have := wtAll_len ks'
  simp only [NodeD.wt, kidsOf] at h3 ⊢
  omega
 unfold fixL
 split
 . simp only [List.length_cons, List.length_nil]; omega
 split
 . simp only [List.length_append, List.length_map, List.length_range, List.length_cons, List.length_nil]; omega
 split
 . simp only [List.length_cons, List.length_map, List.length_range]; omega
 split
 . simp only [List.length_cons, List.length_nil]; omega
 . simp only [List.length_cons, List.length_nil]; omega
theorem fixN_len2 (s : SchemaD) (n : NodeD) (p : List Int) (hn : n.wt <= 1048576) : (fixN s n p).1.length <= 100000000 := by
 have hw := atN_wt p n
 unfold fixN
 cases hat : atN n p with
 | none => simp
 | some k =>
   have hk := hw k hat
   simp only
   split
   . simp
   split
   . simp
   . have hks : wtAll (kidsOf k) <= 1048576 := by
      obtain ⟨l, ps, t, ks'⟩ := k
      simp only [NodeD.wt, kidsOf] at hk ⊢
      omega
     have hl := wtAll_len (kidsOf k)
     have hm : (findN s k).2.2 <= ((1048576 : Nat) : Int) + 1 := by
      rcases find_cases s k with hF | ⟨c, j, -, -, -, -, hF, -, -, -⟩
      . rw [hF]; simp
      . rw [hF]
        show ((manyN (ruleOf s (typeN k)) (kidsOf k) c : Nat) : Int) <= _
        have : manyN (ruleOf s (typeN k)) (kidsOf k) c <= 1 + (kidsOf k).length := by
         unfold manyN
         split
         . unfold runA
           have h1 := List.takeWhile_prefix (l := ((actsOf (ruleOf s (typeN k)) (kidsOf k)).drop ((lookN (ruleOf s (typeN k)) (kidsOf k) c).toNat + 1))) (p := fun a => decide (a = (actsOf (ruleOf s (typeN k)) (kidsOf k)).getD (lookN (ruleOf s (typeN k)) (kidsOf k) c).toNat (0, [])))
           have h2 := h1.length_le
           have h3 : ((actsOf (ruleOf s (typeN k)) (kidsOf k)).drop ((lookN (ruleOf s (typeN k)) (kidsOf k) c).toNat + 1)).length <= (kidsOf k).length := by simp [actsOf]
           omega
         . omega
        omega
     have := fixL_len2 (ruleOf s (typeN k)) (kidsOf k) p (findN s k) 1048576 hks hm
     exact Nat.le_trans this (by omega)
theorem small_path2 (s : SchemaD) (n : NodeD) (p : List Int) (h : smallB s n p = true) : p.length <= 40 := by
 unfold smallB at h
 simp only [Bool.and_eq_true, decide_eq_true_eq] at h
 exact h.2
theorem small_node {s : SchemaD} {n : NodeD} {p : List Int} (h : smallB s n p = true) : n.wt <= 15360 := by
 unfold smallB at h
 simp only [Bool.and_eq_true] at h
 have := wt_few h.1.2
 omega
theorem elem_wt (t : List UInt8) : (elemN t).wt <= 7 + t.length := by
 unfold elemN
 by_cases h : t = []
 . simp [h, NodeD.wt, propsWt, wtAll]
 . rw [if_neg h]
   simp only [NodeD.wt, propsWt, wtAll, List.length_nil]
   have : typeB.length = 4 := rfl
   omega
theorem name_len {t : List UInt8} (h : nameB t = true) : t.length <= 32 := by
 have := (name_val h).2
 unfold valB at this
 simp only [Bool.and_eq_true, decide_eq_true_eq] at this
 exact this.1
theorem kidAt_wt (ks : List NodeD) (i : Nat) : (kidAt ks i).wt <= wtAll ks + 1 := by
 by_cases hi : i < ks.length
 . rw [kid_get hi]; have := wtAll_mem (List.getElem_mem hi); omega
 . rw [show kidAt ks i = .mk false [] [] [] from by simp [kidAt, List.getD, List.getElem?_eq_none (show ks.length <= i by omega)]]
   simp [NodeD.wt, propsWt, wtAll]
theorem noKids_wt (k : NodeD) : (noKids k).wt <= k.wt := by
 cases k; simp only [noKids, NodeD.wt, wtAll]; omega
theorem propsOf_len (k : NodeD) : (propsOf k).length <= k.wt := by
 obtain ⟨l, ps, t, ks⟩ := k
 have := propsWt_len ps
 simp only [propsOf, NodeD.wt]; omega
theorem kids_wt2 (k : NodeD) : wtAll (kidsOf k) + 1 <= k.wt := by
 cases k; simp only [kidsOf, NodeD.wt]; omega
theorem insWt_none {l : List OpD} (h : ∀ o ∈ l, o.kind ≠ 1) : insWt l = 0 := by
 induction l with
 | nil => rfl
 | cons o l ih =>
   simp only [insWt]
   rw [if_neg (h o (by simp)), ih (fun o ho => h o (by simp [ho]))]
/-- What an operation of a repair is bounded by. -/
def OpOk (o : OpD) : Prop := KindR o.kind /\ o.node.wt <= 1000000 /\ o.dest.length <= 1000000 /\ o.old.length <= 100000000
theorem fixL_ok {s : SchemaD} {n k : NodeD} {p : List Int} (hs : checkS s = 0) (hk : k.wt <= 900000) (hp : p.length <= 900000) (hf : (findN s k).1 ≠ 0) :
 (∀ o ∈ fixL (ruleOf s (typeN k)) (kidsOf k) p (findN s k), OpOk o) /\ insWt (fixL (ruleOf s (typeN k)) (kidsOf k) p (findN s k)) <= 100 /\ fixL (ruleOf s (typeN k)) (kidsOf k) p (findN s k) ≠ [] := by
 have hF := formed_of (check_all hs _ (rule_in s (typeN k))).1
 have hkw := kids_wt2 k
 have hz : zeroN.wt = 1 := rfl
 rcases find_cases s k with h | ⟨c, j, hl, h1, h6, hj, he, hlt, h4, h66⟩
 . rw [h] at hf; exact absurd rfl hf
 rw [he]
 generalize ruleOf s (typeN k) = r at hF hj ⊢
 have hkj := kidAt_wt (kidsOf k) j
 obtain rfl | rfl | rfl | rfl | rfl | rfl : c = 1 ∨ c = 2 ∨ c = 3 ∨ c = 4 ∨ c = 5 ∨ c = 6 := by omega
 . rw [fixL_one (.inl rfl)]
   refine ⟨fun o ho => ?_, by simp [insWt], by simp⟩
   rw [List.mem_singleton.1 ho]
   exact ⟨.inr (.inl rfl), (show (kidAt (kidsOf k) (((j : Nat) : Int)).toNat).wt <= 1000000 by rw [Int.toNat_natCast]; omega), by simp, by simp⟩
 . rw [fixL_two rfl]
   refine ⟨fun o ho => ?_, ?_, by simp⟩
   . rcases List.mem_append.1 ho with ho | ho
     . obtain ⟨i, -, rfl⟩ := List.mem_map.1 ho
       exact ⟨.inr (.inr (.inr rfl)), (show zeroN.wt <= 1000000 by omega), (show (p ++ [_]).length <= 1000000 by simp; omega), by simp⟩
     . rw [List.mem_singleton.1 ho]
       have := noKids_wt (kidAt (kidsOf k) j)
       exact ⟨.inr (.inl rfl), (show (noKids (kidAt (kidsOf k) (((j : Nat) : Int)).toNat)).wt <= 1000000 by rw [Int.toNat_natCast]; omega), by simp, by simp⟩
   . rw [insWt_none]
     . omega
     . intro o ho
       rcases List.mem_append.1 ho with ho | ho
       . obtain ⟨i, -, rfl⟩ := List.mem_map.1 ho
         simp
       . rw [List.mem_singleton.1 ho]; simp
 . have hjl := hlt (by omega)
   have h4a := (run_acts hjl hj).1
   have hnm := name_len (act_wrap (actOf_ok hF _) h4a)
   have hew := elem_wt (actOf r (kidsOf k)[j]).2
   rw [fixL_three rfl]
   simp only [Int.toNat_natCast]
   rw [kid_at hjl]
   refine ⟨fun o ho => ?_, ?_, by simp⟩
   . rcases List.mem_cons.1 ho with rfl | ho
     . exact ⟨.inl rfl, (show (elemN _).wt <= 1000000 by omega), by simp, by simp⟩
     . obtain ⟨i, -, rfl⟩ := List.mem_map.1 ho
       exact ⟨.inr (.inr (.inr rfl)), (show zeroN.wt <= 1000000 by omega), (show (p ++ [_, _]).length <= 1000000 by simp; omega), by simp⟩
   . rw [insWt, insWt_none (l := List.map _ _)]
     . rw [if_pos rfl]
       show (elemN _).wt + 0 <= 100
       omega
     . intro o ho
       obtain ⟨i, -, rfl⟩ := List.mem_map.1 ho
       simp
 . rw [fixL_four rfl]
   have hpl := propsOf_len (kidAt (kidsOf k) j)
   refine ⟨fun o ho => ?_, by simp [insWt], by simp⟩
   rw [List.mem_singleton.1 ho]
   exact ⟨.inr (.inr (.inl rfl)), (show zeroN.wt <= 1000000 by omega), by simp, (show (propsOf (kidAt (kidsOf k) (((j : Nat) : Int)).toNat)).length <= 100000000 by rw [Int.toNat_natCast]; omega)⟩
 . rw [fixL_one (.inr rfl)]
   refine ⟨fun o ho => ?_, by simp [insWt], by simp⟩
   rw [List.mem_singleton.1 ho]
   exact ⟨.inr (.inl rfl), (show (kidAt (kidsOf k) (((j : Nat) : Int)).toNat).wt <= 1000000 by rw [Int.toNat_natCast]; omega), by simp, by simp⟩
 . rw [fixL_six rfl]
   have hx : (if r.fill = 1 then NodeD.mk true [] [] [] else elemN r.fillT).wt <= 100 := by
    split
    . simp [NodeD.wt, propsWt, wtAll]
    . rename_i hf1
      have hj6 : lookN r (kidsOf k) 6 = j := hj
      rw [look_last] at hj6
      split at hj6
      . rename_i h
        have := name_len (fill_two hF h.2 hf1).2
        have := elem_wt r.fillT
        omega
      . omega
   generalize (if r.fill = 1 then NodeD.mk true [] [] [] else elemN r.fillT) = x at hx ⊢
   refine ⟨fun o ho => ?_, ?_, by simp⟩
   . rw [List.mem_singleton.1 ho]
     exact ⟨.inl rfl, (show x.wt <= 1000000 by omega), by simp, by simp⟩
   . simp only [insWt, if_true]; omega
theorem play_wt : ∀ (L : List OpD) (m Y : NodeD), (∀ o ∈ L, OpOk o) -> m.wt + insWt L <= 100000000 -> playN m (L.map OpD.full) = some Y -> Y.wt <= m.wt + insWt L := by
 intro L
 induction L with
 | nil => intro m Y _ _ h; injection h with h; subst h; exact Nat.le_add_right _ _
 | cons o L ih =>
   intro m Y ho hw h
   obtain ⟨T, hT, h5⟩ := playN_split h
   have h6 := apply_wt (ho o (by simp)).1 (by omega) hT
   simp only [insWt] at hw ⊢
   have h7 := ih T Y (fun o ho' => ho o (by simp [ho'])) (by omega) h5
   omega
/-- The tree behind a repair. -/
def fixedN (s : SchemaD) (n k : NodeD) (p : List Int) : NodeD := putN n p (setKids k (fixK (ruleOf s (typeN k)) (kidsOf k) (findN s k)))
theorem fix_case {s : SchemaD} {n : NodeD} {p : List Int} (hsm : smallB s n p = true) (hs : checkS s = 0) (hn : nodeE n = 0) (hr : leafOf n = false) :
 ((fixN s n p).2 ≠ 0 /\ (fixN s n p).1 = []) ∨
 ∃ k, atN n p = some k /\ leafOf k = false /\ (findN s k).1 ≠ 0 /\ (fixN s n p).2 = 0 /\ playN n ((fixN s n p).1.map OpD.full) = some (fixedN s n k p) /\ (fixN s n p).1 ≠ [] /\ (∀ o ∈ (fixN s n p).1, OpOk o) /\
   n.wt + insWt (fixN s n p).1 <= 1000000 /\ nodeE (fixedN s n k p) = 0 /\ sizeN (fixedN s n k p) ≠ sizeN n /\ (fixedN s n k p).wt <= 1000000 /\ (fixN s n p).1 = fixL (ruleOf s (typeN k)) (kidsOf k) p (findN s k) := by
 have hnw := small_node hsm
 have hpl := small_path2 s n p hsm
 unfold fixN
 cases ha : atN n p with
 | none => exact .inl ⟨by simp, rfl⟩
 | some k =>
   simp only
   by_cases hl : leafOf k = true
   . rw [if_pos hl]; exact .inl ⟨by simp, rfl⟩
   . rw [if_neg hl]
     by_cases hf : (findN s k).1 = 0
     . rw [if_pos hf]; exact .inl ⟨by simp, rfl⟩
     . rw [if_neg hf]
       right
       have hkw := atN_wt _ _ _ ha
       have hE := nodeE_at p n k hn ha
       obtain ⟨h1, h2, h3⟩ := fixL_ok (n := n) (p := p) hs (by omega) (by omega) hf
       have hpp := fix_play hn hr ha hf (new_ok hs hf)
       have hless := fix_less hs ha hf
       have hx : sizeN (fixedN s n k p) ≠ sizeN n := by
        obtain ⟨g1, g2, g3⟩ := hless
        show sizeN (putN n p _) ≠ sizeN n
        by_cases e3 : (findN s k).1 = 3
        . obtain ⟨w, -, -, -, -, h⟩ := g1 e3
          omega
        . by_cases e6 : (findN s k).1 = 6
          . have := (g2 e6).2.2; omega
          . have := g3 e3 e6; omega
       have hwt : (fixedN s n k p).wt <= n.wt + insWt (fixL (ruleOf s (typeN k)) (kidsOf k) p (findN s k)) := play_wt _ n _ h1 (by omega) hpp
       exact ⟨k, rfl, by simpa using hl, hf, rfl, hpp, h3, h1, (show n.wt + insWt (fixL _ _ _ _) <= 1000000 by omega), nodeE_putK hn ha (by simpa using hl) (fixK_ok hs hE hf), hx, by omega, rfl⟩
end Go.Proofs.YtbommcakcmhalaaGreatDoor
/- Walk: FixHere. -/
namespace Go.Proofs.YtbommcakcmhalaaGreatDoor
open Go.RowKit Go.Redl
/-- What tree.Get answers, told alike whether there is such a node or not. -/
def errG (R : Option NodeD) : Int := match R with | none => 5 | some _ => 0
theorem GetP.alike {W : World} {R : Option NodeD} {e : Ending} {w' : World} (h : GetP W R e w') : Below W.heap.size W w' /\ ∃ (x0 : Bool) (x1 x2 x3 : Option Addr) (y1 y2 y3 z1 z2 z3 : Nat),
 e = .returned (.tuple #[.agg #[.bool x0, .slice x1 y1 z1, .slice x2 y2 z2, .slice x3 y3 z3], .int .i64 (errG R)]) /\ NodeQ w' (fun b => W.heap.size <= b) (R.getD zeroN) [.bool x0, .slice x1 y1 z1, .slice x2 y2 z2, .slice x3 y3 z3] := by
 cases R with
 | none =>
   obtain ⟨rfl, hb⟩ := h
   exact ⟨hb, _, _, _, _, _, _, _, _, _, _, rfl, zero_q _ _⟩
 | some m =>
   obtain ⟨cs, rfl, hq, hb⟩ := h
   obtain ⟨x0, x1, y1, z1, x2, y2, z2, x3, y3, z3, rfl⟩ := hq.form
   exact ⟨hb, x0, x1, x2, x3, y1, y2, y3, z1, z2, z3, rfl, hq⟩
end Go.Proofs.YtbommcakcmhalaaGreatDoor
/- Walks: a law's kept. -/
namespace Go.Proofs.YtbommcakcmhalaaGreatDoor
open Go.RowKit Go.Redl
theorem keptL_take {r : RuleD} {ks : List NodeD} {k : Nat} (hk : k < ks.length) : keptL r (ks.take (k + 1)) = keptL r (ks.take k) + (if (actOf r ks[k]).1 = 1 then 1 else 0) := by
 rw [List.take_succ_eq_append_getElem hk, keptL_append, keptL_cons]
 rfl
theorem kept_c (s : SchemaD) (sv : Value) (n : NodeD) (v : Value) (W : World) (hsw : s.wt <= 100000000) (hw : n.wt <= 100000000) (hs : SchemaV W W.heap.size s sv) (hv : NodeV W W.heap.size n v) :
 Calls Tryz.prog 16 #[sv, v] W (fun e w' => e = .returned (.int .i64 (keptN s n : Nat)) /\ Below W.heap.size W w') := by
 have hv0 := hv; have hs0 := hs
 obtain ⟨lf, ps, t, ks⟩ := n
 obtain ⟨ap, cp, at_, ct, ak, ck, css, rfl, -, -, hk, hkk⟩ := hv0.open
 obtain ⟨a, c, rcss, ea, ec, o0, o1, o2, o3, o4, o5, rfl, -, -, -, ho⟩ := hs0.open
 have hRk : (ruleOf s (typeN (.mk lf ps t ks))).kids.length <= 100000000 := by have := kids_wt (ruleOf s (typeN (.mk lf ps t ks))); have := ruleOf_wt s (typeN (.mk lf ps t ks)); omega
 have hkl : ks.length <= 100000000 := by have := wtAll_len ks; simp only [NodeD.wt] at hw; omega
 obtain ⟨K, hK⟩ : ∃ K, K = keptL (ruleOf s (typeN (.mk lf ps t ks))) ks := ⟨_, rfl⟩
 rw [show keptN s (.mk lf ps t ks) = K from hK.symm]
 have hRO := fun (k : List UInt8) (w1 : World) (hb : Below W.heap.size W w1) => ruleOf_c s _ k w1 hsw (hs.keep hb hb.size)
 have hTY := fun (w1 : World) (hb : Below W.heap.size W w1) => type_c (.mk lf ps t ks) _ w1 hw (hv.keep hb hb.size)
 have hAC := fun (ra : Option Addr) (rc : Nat) (q : NodeD) (qv : Value) (w1 : World) (hr) (hq : NodeV w1 w1.heap.size q qv) (hqw : q.wt <= 100000000) => actOf_c (ruleOf s (typeN (.mk lf ps t ks))) ra rc q qv w1 hr hRk hq hqw
 have hqw : ∀ q ∈ ks, q.wt <= 100000000 := fun q hq => by have := wtAll_mem hq; simp only [NodeD.wt] at hw; omega
 generalize typeN (.mk lf ps t ks) = ty at hRO hTY hAC hK hRk
 obtain ⟨w0, hw0⟩ : ∃ w0, w0 = ((W.alloc (Obj.cells #[.slice a s.rules.length c, strV s.els.type, .int .i64 s.els.text.1, strV s.els.text.2, .int .i64 s.els.other.1, strV s.els.other.2, .slice ea s.els.kids.length ec, .int .i64 s.els.fill, strV s.els.fillT, .int .i64 o0, .int .i64 o1, .int .i64 o2, .int .i64 o3, .int .i64 o4, .int .i64 o5, .int .i64 s.cap] 30)).alloc (Obj.cells #[.bool lf, .slice ap ps.length cp, .slice at_ t.length ct, .slice ak ks.length ck] 35)) := ⟨_, rfl⟩
 have hb0 : Below W.heap.size W w0 := by rw [hw0]; exact two_below _ _ _
 have HA := Lib.hid (show At w0 W.heap.size [.slice a s.rules.length c, strV s.els.type, .int .i64 s.els.text.1, strV s.els.text.2, .int .i64 s.els.other.1, strV s.els.other.2, .slice ea s.els.kids.length ec, .int .i64 s.els.fill, strV s.els.fillT, .int .i64 o0, .int .i64 o1, .int .i64 o2, .int .i64 o3, .int .i64 o4, .int .i64 o5, .int .i64 s.cap] 30 by rw [hw0]; exact (At.fresh W _ _).alloc _)
 have HX := Lib.hid (show At w0 (W.heap.size + 1) [.bool lf, .slice ap ps.length cp, .slice at_ t.length ct, .slice ak ks.length ck] 35 by rw [hw0]; exact At.second W _ _ _)
 have Hw0 := Lib.hid hw0; have Hb0 := Lib.hid hb0
 have HAC := Lib.hid hAC
 have Hk := Lib.hid hk; have Hkk := Lib.hid hkk; have Hqw := Lib.hid hqw
 have HRO2 := Lib.hid (fun (w1 : World) (hb : Below w0.heap.size w0 w1) => hRO ty w1 (hb0.trans (hb.mono hb0.size)))
 have HTY2 := Lib.hid (fun (w1 : World) (hb : Below w0.heap.size w0 w1) => hTY w1 (hb0.trans (hb.mono hb0.size)))
 clear hw0 hb0 hRO hTY hAC hk hkk hqw hv hv0 hs hs0 ho hsw hw
 generalize ruleOf s ty = R at hK HRO2 HAC hRk
 have HK := Lib.hid hK
 clear hK
 go_enter Tryz.func16, Tryz.ntmps16
 go_upto_region 1 with fail
 rw [<- Hw0.out]
 clear Hw0
 go_cut [5] (fun p wx => ∃ (M : Nat) (ra : Option Addr) (rc : Nat), p = .pointer (some ⟨M, 0, none⟩) /\ At wx M [strV R.type, .int .i64 R.text.1, strV R.text.2, .int .i64 R.other.1, strV R.other.2, .slice ra R.kids.length rc, .int .i64 R.fill, strV R.fillT] 27 /\ w0.heap.size <= M /\
  RowQ wx (fun b => b ≠ M) 3 ra R.kids.length rc (pairCells R.kids) /\ Below w0.heap.size w0 wx)
 case first =>
  clear HAC Hk Hkk Hqw HK
  have HS0 := Lib.hid (fun (w' : World) (hb : Below w0.heap.size w0 w') => And.intro (HA.out.kept hb).f16.1 (HX.out.kept hb).f4.1)
  go_region_held3 (fun w' => (w'.cell? ⟨W.heap.size, 0, none⟩ = some (.slice a s.rules.length c) /\ w'.cell? ⟨W.heap.size, 1, none⟩ = some (strV s.els.type) /\ w'.cell? ⟨W.heap.size, 2, none⟩ = some (.int .i64 s.els.text.1) /\ w'.cell? ⟨W.heap.size, 3, none⟩ = some (strV s.els.text.2) /\ w'.cell? ⟨W.heap.size, 4, none⟩ = some (.int .i64 s.els.other.1) /\ w'.cell? ⟨W.heap.size, 5, none⟩ = some (strV s.els.other.2) /\ w'.cell? ⟨W.heap.size, 6, none⟩ = some (.slice ea s.els.kids.length ec) /\ w'.cell? ⟨W.heap.size, 7, none⟩ = some (.int .i64 s.els.fill) /\ w'.cell? ⟨W.heap.size, 8, none⟩ = some (strV s.els.fillT) /\ w'.cell? ⟨W.heap.size, 9, none⟩ = some (.int .i64 o0) /\ w'.cell? ⟨W.heap.size, 10, none⟩ = some (.int .i64 o1) /\ w'.cell? ⟨W.heap.size, 11, none⟩ = some (.int .i64 o2) /\ w'.cell? ⟨W.heap.size, 12, none⟩ = some (.int .i64 o3) /\ w'.cell? ⟨W.heap.size, 13, none⟩ = some (.int .i64 o4) /\ w'.cell? ⟨W.heap.size, 14, none⟩ = some (.int .i64 o5) /\ w'.cell? ⟨W.heap.size, 15, none⟩ = some (.int .i64 s.cap)) /\ (w'.cell? ⟨W.heap.size + 1, 0, none⟩ = some (.bool lf) /\ w'.cell? ⟨W.heap.size + 1, 1, none⟩ = some (.slice ap ps.length cp) /\ w'.cell? ⟨W.heap.size + 1, 2, none⟩ = some (.slice at_ t.length ct) /\ w'.cell? ⟨W.heap.size + 1, 3, none⟩ = some (.slice ak ks.length ck))) (refine HS0.out _ (by ((repeat (first | with_reducible exact Hb2.out | with_reducible exact Hb1.out | with_reducible exact Below.refl _ _ | with_reducible refine Below.drew ?_ | with_reducible refine Below.alloc ?_ ?_ _ | with_reducible refine Below.setCell ?_ ?_ _)) <;> (first | with_reducible exact Nat.le_refl _ | with_reducible exact Hb2.out.size | with_reducible exact Hb1.out.size | (have hsz := Hb2.out.size; simp [World.setCell]; omega) | (have hsz := Hb1.out.size; simp [World.setCell]; omega) | (simp; done) | (simp; omega) | omega))))
   (first
   | (refine step_call rfl 57 _ _ rfl type_ent [.agg #[.bool lf, .slice ap ps.length cp, .slice at_ t.length ct, .slice ak ks.length ck]] ?_ _ (HTY2.out _ (by ((repeat (first | with_reducible exact Below.refl _ _ | with_reducible refine Below.drew ?_ | with_reducible refine Below.alloc ?_ ?_ _ | with_reducible refine Below.setCell ?_ ?_ _)) <;> (first | with_reducible exact Nat.le_refl _ | (simp; done) | (simp; omega) | omega)))) ?_
      . go_simp
      rintro e w1 ⟨rfl, hbel⟩
      refine ⟨_, rfl, ?_⟩
      have Hz1 := Lib.hid hbel.size
      have Hb1 := Lib.hid (Below.and (w0 := w0) (by ((repeat (first | with_reducible exact Below.refl _ _ | with_reducible refine Below.drew ?_ | with_reducible refine Below.alloc ?_ ?_ _ | with_reducible refine Below.setCell ?_ ?_ _)) <;> (first | with_reducible exact Nat.le_refl _ | (simp; done) | (simp; omega) | omega))) hbel)
      first
       | (refine At.lay (N := ?_) (cs := [strV [], .int .i64 0, strV [], .int .i64 0, strV [], .slice none 0 0, .int .i64 0, strV []]) (T := 27) (At.kept ?_ hbel) ?_
          rotate_left
          . (repeat (first | with_reducible exact At.second _ _ _ _ | with_reducible exact At.fresh _ _ _ | with_reducible refine At.drew ?_ | with_reducible refine At.alloc ?_ _))
          intro HM1)
       | skip
      clear hbel)
   | (refine step_call rfl 56 _ _ rfl ruleOf_ent [.agg #[.slice a s.rules.length c, strV s.els.type, .int .i64 s.els.text.1, strV s.els.text.2, .int .i64 s.els.other.1, strV s.els.other.2, .slice ea s.els.kids.length ec, .int .i64 s.els.fill, strV s.els.fillT, .int .i64 o0, .int .i64 o1, .int .i64 o2, .int .i64 o3, .int .i64 o4, .int .i64 o5, .int .i64 s.cap], strV ty] ?_ _ (HRO2.out _ (by ((repeat (first | with_reducible exact Hb1.out | with_reducible exact Below.refl _ _ | with_reducible refine Below.drew ?_ | with_reducible refine Below.alloc ?_ ?_ _ | with_reducible refine Below.setCell ?_ ?_ _)) <;> (first | with_reducible exact Nat.le_refl _ | with_reducible exact Hb1.out.size | (have hsz := Hb1.out.size; simp [World.setCell]; omega) | (simp; done) | (simp; omega) | omega)))) ?_
      . go_simp
      rintro e w2 ⟨ra, rc, rfl, hrow, hbel⟩
      refine ⟨_, rfl, ?_⟩
      have Hz2 := Lib.hid hbel.size
      have Hb2 := Lib.hid (Below.and (w0 := w0) (by ((repeat (first | with_reducible exact Hb1.out | with_reducible exact Below.refl _ _ | with_reducible refine Below.drew ?_ | with_reducible refine Below.alloc ?_ ?_ _ | with_reducible refine Below.setCell ?_ ?_ _)) <;> (first | with_reducible exact Nat.le_refl _ | with_reducible exact Hb1.out.size | (have hsz := Hb1.out.size; simp [World.setCell]; omega) | (simp; done) | (simp; omega) | omega))) hbel)
      have Hrow := Lib.hid hrow
      first
       | (refine At.lay (N := ?_) (cs := [strV [], .int .i64 0, strV [], .int .i64 0, strV [], .slice none 0 0, .int .i64 0, strV []]) (T := 27) (At.kept ?_ hbel) ?_
          rotate_left
          . (repeat (first | with_reducible exact HM1.out | with_reducible exact At.second _ _ _ _ | with_reducible exact At.fresh _ _ _ | with_reducible refine At.drew ?_ | with_reducible refine At.alloc ?_ _))
          intro HM2)
       | skip
      first
       | (obtain ⟨⟨r0, r1, r2, r3, r4, r5, r6, r7⟩, rf, rl⟩ := HM2.out.f8)
       | skip
      clear hbel hrow))
  all_goals
   go_wp2_with fail
   go_meet
   case rel =>
    have hz1 := Hz1.out; have hz2 := Hz2.out
    simp at hz1 hz2
    refine ⟨_, ra, rc, rfl, ?_, ?_, ?_, ?_⟩
    . (repeat (first | with_reducible exact HM2.out | with_reducible exact HM2.out.s8 _ _ _ _ _ _ _ _ | with_reducible exact (HM2.out.alloc _).s8 _ _ _ _ _ _ _ _ | with_reducible exact At.second _ _ _ _ | with_reducible exact At.fresh _ _ _ | (with_reducible refine At.fresh2 ?_; (simp [World.setCell]; done)) | with_reducible refine At.drew ?_ | with_reducible refine At.alloc ?_ _ | (with_reducible refine At.n8 ?_ ?_ _ _ _ _ _ _ _ _; rotate_left; (omega))))
    . omega
    . (repeat (first | with_reducible refine rowq_s8 ?_ (by simp) _ _ _ _ _ _ _ _ | with_reducible refine rowq_alloc ?_ _))
      refine Hrow.out.keep (Nat.le_refl _) (fun _ _ _ => rfl) (fun b hb hlt => ?_)
      try simp at hb
      omega
    . ((repeat (first | with_reducible exact Hb2.out | with_reducible exact Below.refl _ _ | with_reducible refine Below.drew ?_ | with_reducible refine Below.alloc ?_ ?_ _ | with_reducible refine Below.setCell ?_ ?_ _)) <;> (first | with_reducible exact Nat.le_refl _ | with_reducible exact Hb2.out.size | (have hsz := Hb2.out.size; simp [World.setCell]; omega) | (simp; done) | (simp; omega) | omega))
 case rest =>
  obtain ⟨M, ra, rc, rfl, hE, hM0, hrow, hb⟩ := hcut
  have HWc := Lib.hid (Hb0.out.trans (hb.mono Hb0.out.size))
  have HXc := Lib.hid (HX.out.kept hb)
  have HE := Lib.hid hE; have Hrow := Lib.hid hrow
  have HW0 := Lib.hid Hb0.out.size
  clear HRO2 HTY2 HA HX hb hE hrow
  obtain ⟨⟨y0, y1, y2, y3⟩, -, yl⟩ := HXc.out.f4
  go_wp2_with fail
  clear y0 y1 y2 y3 yl
  go_loopg [16, 6, 8] ks.length (fun g i m _ wr => ∃ (k r : Nat), k + g = ks.length /\ i = .int .i64 k /\ m = .int .i64 r /\ r <= k /\ Hid (r = keptL R (ks.take k)) /\ Hid (At wr M [strV R.type, .int .i64 R.text.1, strV R.text.2, .int .i64 R.other.1, strV R.other.2, .slice ra R.kids.length rc, .int .i64 R.fill, strV R.fillT] 27) /\ Hid (RowQ wr (fun b => b ≠ M) 3 ra R.kids.length rc (pairCells R.kids)) /\ Hid (Below W.heap.size W wr))
  case atStart => exact ⟨0, 0, by omega, rfl, rfl, Nat.le_refl _, rfl, HE, Hrow, HWc⟩
  case round =>
   obtain ⟨k, r, hg, rfl, rfl, hrk, hr, he, hrow, hbr⟩ := hrel
   by_cases hlt : k < ks.length
   ·
     have hlti : (k : Int) < ks.length := by omega
     have hkr := Hk.out.keep hbr.out hbr.out.size; have hkkr := KidsC.keep hbr.out hbr.out.size _ _ Hkk.out
     obtain ⟨kb, ko, a1, c1, a2, c2, a3, c3, rfl, hkb, hnv, -, g0, g1, g2, g3⟩ := kidO hkr hkkr k hlt
     have hqq := Hqw.out _ (List.getElem_mem hlt)
     have hmp := keptL_take (r := R) hlt
     generalize ks[k] = q at hnv hqq hmp g0 g1 g2 g3
     have Hmp := Lib.hid hmp
     have HAF := Lib.hid (fun (w1 : World) (hb : Below wr.heap.size wr w1) => HAC.out ra rc q _ w1 ((hrow.out.keep hb.size (fun b _ hlt => hb.block b hlt) (fun _ h _ => h)).row) (hnv.keep hb hb.size) hqq)
     obtain ⟨A, hA⟩ : ∃ A, A = actOf R q := ⟨_, rfl⟩
     rw [<- hA] at HAF Hmp
     obtain ⟨A1, A2⟩ := A
     clear hA hmp hkr hkkr hqq hnv
     obtain ⟨w6, hw6⟩ : ∃ w6, w6 = wr.alloc (Obj.cells #[.bool (leafOf q), .slice a1 (propsOf q).length c1, .slice a2 (textOf q).length c2, .slice a3 (kidsOf q).length c3] 35) := ⟨_, rfl⟩
     have hb6 : Below wr.heap.size wr w6 := by rw [hw6]; exact one_below _ _
     have HK6 := Lib.hid (show At w6 wr.heap.size [.bool (leafOf q), .slice a1 (propsOf q).length c1, .slice a2 (textOf q).length c2, .slice a3 (kidsOf q).length c3] 35 by rw [hw6]; exact At.fresh _ _ _)
     have HE6 := Lib.hid (he.out.kept hb6)
     have Hb6 := Lib.hid hb6
     have HAF6 := Lib.hid (HAF.out w6 hb6)
     have Hw6 := Lib.hid hw6
     have hff := field_do A1 A2
     clear hw6 hb6
     go_upto_region 6 with fail
     rw [<- Hw6.out]
     clear Hw6 g0 g1 g2 g3
     obtain ⟨⟨f0, f1, f2, f3⟩, -, fl⟩ := HK6.out.f4
     go_wp2_with (refine wpList_loadA rfl _ _ rfl M #[strV R.type, .int .i64 R.text.1, strV R.text.2, .int .i64 R.other.1, strV R.other.2, .slice ra R.kids.length rc, .int .i64 R.fill, strV R.fillT] rfl HE6.out _ Tryz.underlying27 rfl (by kernel_rfl) ?_)
     refine HAF6.out.mono ?_
     rintro e w7 ⟨rfl, hbel⟩
     have Hb7 := Lib.hid (below_and Hb6.out hbel)
     have HE7 := Lib.hid (he.out.kept Hb7.out)
     have Hrow7 := Lib.hid (rowq_since hrow.out Hb7.out)
     have HbW := Lib.hid (hbr.out.trans (Hb7.out.mono hbr.out.size))
     clear hbel HAF6 HAF f0 f1 f2 f3 fl
     by_cases h1 : A1 = 1
     . subst h1
       go_wp2_with fail
       go_roundg (ks.length - (k + 1))
       case measure => omega
       case rel => exact ⟨k + 1, r + 1, by omega, by go_num, by go_num, by omega, (show r + 1 = keptL R (ks.take (k + 1)) by have h := Hmp.out; have h2 := hr.out; simp at h; omega), HE7, Hrow7, HbW⟩
     . have hb1 : (A1 == 1) = false := by simpa using h1
       have Hh1 := Lib.hid h1
       clear h1
       go_wp2_with fail
       go_roundg (ks.length - (k + 1))
       case measure => omega
       case rel => exact ⟨k + 1, r, by omega, by go_num, rfl, by omega, (show r = keptL R (ks.take (k + 1)) by rw [Hmp.out, if_neg Hh1.out, Nat.add_zero]; exact hr.out), HE7, Hrow7, HbW⟩
   . obtain rfl : k = ks.length := by omega
     have Hfin := Lib.hid (show r = K by have h := hr.out; rw [List.take_length] at h; rw [h]; exact HK.out.symm)
     clear hr
     go_wp2_with fail
     go_ret
     have hf := Hfin.out
     subst hf
     exact ⟨rfl, hbr.out⟩
end Go.Proofs.YtbommcakcmhalaaGreatDoor
/- Walks: node's walk, where what is asked holds only of the nodes that are met. -/
namespace Go.Proofs.YtbommcakcmhalaaGreatDoor
open Go.RowKit Go.Redl
section
variable {S : Type} {Φ : S -> World -> Prop} {Pre : NodeD -> S -> Prop} {PreK : List NodeD -> S -> Prop} {bad : TypeId -> Bool} {B tb eb cb : Nat} {caps : Array Value} {go : NodeD -> Bool} {st : NodeD -> S -> S} {M : Nat}
end
end Go.Proofs.YtbommcakcmhalaaGreatDoor
/- Walks: node.Text. -/
namespace Go.Proofs.YtbommcakcmhalaaGreatDoor
open Go.RowKit Go.Redl
/-- The text so far. -/
def TextAt (b : Nat) (acc : List Int) (W : World) : Prop := ∃ (a : Option Addr) (c : Nat), At W b [.slice a acc.length c] 32 /\ W.ownsRow (b + 1) 21 1 (.slice a acc.length c) acc.length (acc.map (Value.int .i32))
theorem TextAt.kept (b : Nat) (acc : List Int) (W W' : World) (h : TextAt b acc W) (hb : Below W.heap.size W W') : TextAt b acc W' := by
 obtain ⟨a, c, h1, h2⟩ := h
 exact ⟨a, c, h1.kept hb, own_keep h2 hb⟩
end Go.Proofs.YtbommcakcmhalaaGreatDoor
/- Plain words: rows of paths that are read; a path put behind a row. Walks: dirty's marks, Step at no operation. -/
namespace Go.Proofs.YtbommcakcmhalaaGreatDoor
open Go.RowKit Go.Redl
/-- A row of paths that is read. -/
structure ReadX (W : World) (B : Nat) (v : Value) (xs : List PX) : Prop where
 row : ∃ a c, v = .slice a xs.length c /\ RowA W B 1 a xs.length c (xs.map pxV)
 all : ∀ x ∈ xs, RowA W B 1 x.2.1 x.1.length x.2.2 (x.1.map (Value.int .i64))
theorem ReadX.keep {w w' : World} {B B' : Nat} {v : Value} {xs : List PX} (h : ReadX w B v xs) (hb : Below B w w') (hB : B <= B') : ReadX w' B' v xs := by
 obtain ⟨⟨a, c, h1, h2⟩, h3⟩ := h
 exact ⟨⟨a, c, h1, h2.keep hb hB⟩, fun x hx => (h3 x hx).keep hb hB⟩
theorem pxV_ones (xs : List PX) : ∀ u ∈ xs.map pxV, u.oneCell' = true := by
 intro u hu; obtain ⟨x, -, rfl⟩ := List.mem_map.1 hu; rfl
theorem RowX.read {w : World} {M L : Nat} {v : Value} {xs : List PX} (h : RowX w M L v xs) : ReadX w w.heap.size v xs := by
 obtain ⟨a, c, hv, hr⟩ := row_of_own h.own (pxV_ones xs)
 exact ⟨⟨a, c, hv, hr⟩, fun x hx => (h.all x hx).row⟩
theorem ReadX.at_ {w : World} {B : Nat} {a : Option Addr} {n c : Nat} {xs : List PX} (h : ReadX w B (.slice a n c) xs) (k : Nat) (hk : k < xs.length) :
 ∃ b off, a = some ⟨b, off, none⟩ /\ b < B /\ w.cell? ⟨b, off + k, none⟩ = some (pxV xs[k]) := by
 obtain ⟨⟨a', c', hv, hr⟩, -⟩ := h
 injection hv with e1 e2 e3; subst e1
 obtain ⟨b, off, ha, hb, hc⟩ := hr.some_ (by intro e; simp at e; subst e; simp at hk)
 exact ⟨b, off, ha, hb, hc k _ (by simp [List.getElem?_eq_getElem hk])⟩
/-- One more path put in. -/
theorem RowX.push {M L : Nat} {w0 w' : World} {v v' : Value} {xs : List PX} {y : PX} {ob : Obj} (h : RowX w0 M L v xs) (hy : PxQ w0 (fun b => L <= b /\ v.ownBlock ≠ some b) y)
 (hg : (w0.alloc ob).grownBy w' v.ownBlock) (hown : w'.ownsRow M 36 1 v' (xs.length + 1) (xs.map pxV ++ [pxV y])) (hw : v'.ownBlock = v.ownBlock ∨ ∀ k, v'.ownBlock = some k -> (w0.alloc ob).heap.size <= k) : RowX w' M L v' (xs ++ [y]) := by
 have hs := hg.size
 have hall : ∀ x ∈ xs ++ [y], PxQ w0 (fun b => L <= b /\ v.ownBlock ≠ some b) x := fun x hx => by
  rcases List.mem_append.1 hx with hx | hx
  . exact h.all x hx
  . rw [List.mem_singleton.1 hx]; exact hy
 refine ⟨by rw [List.length_append, List.map_append]; exact hown, fun x hx => (hall x hx).keep (by simp at hs; omega) (fun b hb hlt => ?_) fun b hb hlt => ⟨hb.1, ?_⟩⟩
 . rw [hg.block b (by simp; omega) (fun e => hb.2 e.symm), Lib.alloc_old _ _ _ hlt]
 . rcases hw with e | e
   . rw [e]; exact hb.2
   . intro e2; have := e b e2; simp at this; omega
end Go.Proofs.YtbommcakcmhalaaGreatDoor
/- Walks: dirty's Ready, All. -/
namespace Go.Proofs.YtbommcakcmhalaaGreatDoor
open Go.RowKit Go.Redl
end Go.Proofs.YtbommcakcmhalaaGreatDoor
/- Walk: weight.Region. -/
namespace Go.Proofs.YtbommcakcmhalaaGreatDoor
open Go.RowKit Go.Redl
end Go.Proofs.YtbommcakcmhalaaGreatDoor
/- Plain laws: what the region of some paths is: how many nodes lie at or below an element of them. -/
namespace Go.Proofs.YtbommcakcmhalaaGreatDoor
open Go.RowKit Go.Redl
end Go.Proofs.YtbommcakcmhalaaGreatDoor
/- Walks: redlinelaw19's example, and whether all is small enough. -/
namespace Go.Proofs.YtbommcakcmhalaaGreatDoor
open Go.RowKit Go.Redl
end Go.Proofs.YtbommcakcmhalaaGreatDoor
/- Plain words: a row put behind a row, in a region that draws; which lists have one region. -/
namespace Go.Proofs.YtbommcakcmhalaaGreatDoor
open Go.RowKit Go.Redl
end Go.Proofs.YtbommcakcmhalaaGreatDoor
/- Plain laws: the region of all elements; more elements, no smaller a region. -/
namespace Go.Proofs.YtbommcakcmhalaaGreatDoor
open Go.RowKit Go.Redl
end Go.Proofs.YtbommcakcmhalaaGreatDoor
/- Walk: WeightTwice. -/
namespace Go.Proofs.YtbommcakcmhalaaGreatDoor
open Go.RowKit Go.Redl
end Go.Proofs.YtbommcakcmhalaaGreatDoor
/- Walk: WeightAll. -/
namespace Go.Proofs.YtbommcakcmhalaaGreatDoor
open Go.RowKit Go.Redl
end Go.Proofs.YtbommcakcmhalaaGreatDoor
/- Walks: the reference's Copy of a tree, Get; a path with numbers behind it (RVB's walks, for a seat that has no operations). -/
namespace Go.Proofs.YtbommcakcmhalaaGreatDoor
open Go.RowKit Go.Redl
theorem rpcopy_c (B n : Nat) (a : Option Addr) (cap : Nat) (cs : List Value) (w : World) (hr : RowA w B 1 a n cap cs) (hB : B <= w.heap.size) (hn : n <= 100000000) :
 Calls Tryz.prog 67 #[.slice a n cap] w (MadeRow w 3 1 n cs) := by
 go_enter Tryz.func67, Tryz.ntmps67
 go_wp2_with (at_builtin; refine wpList_app rfl _ _ 36 rfl w.heap.size 3 (.int .i64 0) 1 8 Tryz.underlying36 info_int rfl (by decide) _ 0 [] rfl (World.ownsRow_nil _ _ _ _) _ n cap B cs rfl hr ?h63 ?hb ?hbase ?_)
 case h63 => unfold maxLen; omega
 case hb => omega
 case hbase => simp
 intro v' w1 hown hgrow
 have Ho := Lib.hid hown; have Hg := Lib.hid hgrow; clear hown hgrow hr
 go_wp2_with fail
 go_ret
 exact ⟨v', rfl, by simpa using Ho.out, (Below.refl _ _).grown Hg.out (Nat.le_refl _) (by simp [Value.ownBlock])⟩
theorem with_c (p l : List Int) (pa : Option Addr) (pc : Nat) (la : Option Addr) (lc : Nat) (W : World) (hp : RowA W W.heap.size 1 pa p.length pc (p.map (Value.int .i64))) (hl : RowA W W.heap.size 1 la l.length lc (l.map (Value.int .i64))) (hn : p.length + l.length <= 100000000) :
 Calls Tryz.prog 18 #[.slice pa p.length pc, .slice la l.length lc] W (PathP W (p ++ l)) := by
 have HC := Lib.hid (rpcopy_c _ p.length pa pc _ W hp (Nat.le_refl _) (by omega))
 have Hl := Lib.hid hl
 obtain ⟨zs, hzs⟩ : ∃ zs, zs = p ++ l := ⟨_, rfl⟩
 rw [<- hzs]
 have Hzs := Lib.hid hzs
 clear hp hl hzs
 go_enter Tryz.func18, Tryz.ntmps18
 go_wp2_with fail
 refine HC.out.mono ?_
 rintro e w1 ⟨v, rfl, hown, hbel⟩
 have Ho := Lib.hid hown; have Hb1 := Lib.hid hbel
 have Hl1 := Lib.hid (Hl.out.keep hbel hbel.size)
 clear hown hbel HC
 go_wp2_with (at_builtin; refine wpList_app rfl _ _ 36 rfl W.heap.size 3 (.int .i64 0) 1 8 Tryz.underlying36 info_int rfl (by decide) _ _ _ rfl Ho.out _ l.length lc _ (l.map (Value.int .i64)) rfl Hl1.out ?h63 ?hb ?hbase ?_)
 case h63 => unfold maxLen; omega
 case hb => omega
 case hbase => exact Hb1.out.size
 intro v' w2 hown hgrow
 have hb2 := Hb1.out.grown hgrow Hb1.out.size (fun k hk => (Ho.out.lt k hk).1)
 rw [<- List.map_append, show p.length + l.length = (p ++ l).length by simp, <- Hzs.out] at hown
 obtain ⟨a, c, rfl, hq⟩ := rowq_own hown (ints_one _)
 have Hq := Lib.hid hq; have Hb2 := Lib.hid hb2
 clear hown hgrow hb2 hq
 go_wp2_with fail
 go_ret
 exact ⟨_, _, rfl, Hq.out, Hb2.out⟩
end Go.Proofs.YtbommcakcmhalaaGreatDoor
