/- Parts of the proof, one behind the other: RMF, RMV, RMW, RMP, RMM, RCT, RHN, RKA. -/
import Derived.Test.YtajclfjedlkbcaaGreatDoorWF5
import Derived.RangeFuncBox
import Derived.RangeFuncNested
import Derived.RangeFuncBound
import Derived.RangeFuncCalls
import Derived.RangeFuncLeaves
import Derived.Shelf.Abstract
import Derived.Shelf.RegionOpen
import Derived.WalkKit
import Derived.OwnWalkIn
import Derived.TacticsInMore
import Derived.LoopNIn
import Derived.LoopIn
import Derived.Maps.AppendAt
import Derived.Sort.OwnSorted
import Derived.Sort.OwnSortedInts
import Derived.Test.YtajclfjedlkbcaaGreatDoorWF1
import Derived.Test.YtajclfjedlkbcaaGreatDoorWF4
import Derived.StringKeys
import Derived.Maps.Own
import Derived.Maps.OwnSet
import Derived.Maps.Views
import Derived.Sort.KeysCollected
/- Walk: table's types at a schema's rules. -/
namespace Go.Proofs.YtajclfjedlkbcaaGreatDoor
open Go.RowKit Go.Redl
set_option linter.unusedVariables false
set_option linter.unusedSimpArgs false

theorem typesR_ent : ∀ args w, (callFunc 49 args).run Tryz.prog w = .ok (.enter 49 args) w := by intro args w; kernel_rfl
abbrev ruleTypes (l : List RuleD) : List Value := l.map fun p => strV p.type
set_option maxRecDepth 100000 in
set_option maxHeartbeats 2000000 in
theorem typesR_c (l : List RuleD) (a : Option Addr) (cap : Nat) (css : List Value) (W : World) (hr : RowA W W.heap.size 8 a l.length cap css) (hc : RulesC W W.heap.size l css) (hn : l.length ≤ 100000000) :
    Calls Tryz.prog 49 #[.slice a l.length cap, .func (.func 50) #[] #[]] W fun e w' => e = .returned (.slice (some ⟨W.heap.size, 0, none⟩) l.length l.length) ∧ At w' W.heap.size (ruleTypes l) 9 ∧ Below W.heap.size W w' := by
  obtain ⟨w0, hw0⟩ : ∃ w0, w0 = W.alloc (.cells (List.replicate l.length (strV [])).toArray 9) := ⟨_, rfl⟩
  have hb0 : Below W.heap.size W w0 := by rw [hw0]; exact one_below _ _
  have hA : At w0 W.heap.size (List.replicate l.length (strV [])) 9 := by rw [hw0]; exact At.fresh W _ _
  have hMk := make_strs l.length hn W
  rw [← hw0] at hMk
  have Hr := Lib.hid (fun (w' : World) (hb : Below W.heap.size W w') => hr.keep hb hb.size)
  have Hc := Lib.hid (fun (w' : World) (hb : Below W.heap.size W w') => RulesC.keep hb hb.size hc)
  have HA := Lib.hid hA; have Hb0 := Lib.hid hb0
  have HE := ruletype_ent
  clear hr hc hA hb0 hw0
  go_enter Tryz.func49, Tryz.ntmps49
  go_wp2_with fail
  go_loopg [13] l.length (fun g i wr => ∃ k : Nat, i = .int .i64 k ∧ k + g = l.length ∧ Hid (At wr W.heap.size (ruleTypes (l.take k) ++ List.replicate (l.length - k) (strV [])) 9) ∧ Hid (Below W.heap.size W wr))
  case atStart => exact ⟨0, rfl, by omega, (show At w0 W.heap.size (ruleTypes (l.take 0) ++ List.replicate (l.length - 0) (strV [])) 9 by simpa using HA.out), Hb0⟩
  case round =>
    obtain ⟨k, rfl, hg, hat, hbr⟩ := hrel
    by_cases hlt : k < l.length
    · have hlti : (k : Int) < l.length := by omega
      obtain ⟨b, off, ra, rc, rfl, hlb, -, p0, p1, p2, p3, p4, p5, p6, p7⟩ := rule8 (Hr.out wr hbr.out) (Hc.out wr hbr.out) k hlt
      have Hst := Lib.hid (show l.take (k + 1) = l.take k ++ [l[k]] from List.take_succ_eq_append_getElem hlt)
      generalize l[k] = q at p0 p1 p2 p3 p4 p5 p6 p7 Hst
      obtain ⟨q0, ⟨q1, q2⟩, ⟨q3, q4⟩, q5, q6, q7⟩ := q
      simp only at p0 p1 p2 p3 p4 p5 p6 p7
      have HC := Lib.hid (fun (w1 : World) => ruletype_c q0 (.int .i64 q1) (strV q2) (.int .i64 q3) (strV q4) (.slice ra q5.length rc) (.int .i64 q6) (strV q7) w1)
      clear hlb
      go_wp2_with fail
      refine (HC.out _).mono ?_
      rintro e w2 ⟨rfl, hbel⟩
      have hb2 : Below wr.heap.size wr w2 := (one_below wr (Obj.cells #[strV q0, .int .i64 q1, strV q2, .int .i64 q3, strV q4, .slice ra q5.length rc, .int .i64 q6, strV q7] 27)).trans (hbel.mono (one_below wr _).size)
      have hA2 := hat.out.kept hb2
      have Hb2 := Lib.hid (hbr.out.trans (hb2.mono hbr.out.size))
      have cf : w2.frozen? ⟨W.heap.size, k, none⟩ = false := Lib.frozen_of_heap hA2 _
      have cc : w2.cell? ⟨W.heap.size, k, none⟩ = some (strV []) := hA2.cell k (by
        have hkl : (ruleTypes (l.take k)).length = k := by simp; omega
        rw [List.getElem?_append_right (by omega), List.getElem?_replicate, if_pos (by omega)])
      have HA2 := Lib.hid hA2
      clear hbel hb2 hA2 HC p0 p1 p2 p3 p4 p5 p6 p7
      go_wp2_with fail
      go_roundg (l.length - (k + 1))
      case measure => omega
      case rel =>
        refine ⟨k + 1, by go_num, by omega, ?_, (show Below _ _ _ from Hb2.out.setCell (p := ⟨W.heap.size, k, none⟩) (Nat.le_refl _) _)⟩
        show At _ W.heap.size (ruleTypes (l.take (k + 1)) ++ List.replicate (l.length - (k + 1)) (strV [])) 9
        have h := HA2.out.set k (strV q0)
        rw [List.set_append_right _ _ (by simp; omega)] at h
        rw [Hst.out]
        have e : l.length - k = (l.length - (k + 1)) + 1 := by omega
        rw [e, List.replicate_succ] at h
        simpa [Nat.min_eq_left (Nat.le_of_lt hlt)] using h
    · obtain rfl : k = l.length := by omega
      have Hfin := Lib.hid (show At wr W.heap.size (ruleTypes l) 9 by have h := hat.out; rw [List.take_length, Nat.sub_self] at h; simpa using h)
      have hnl : ¬ (l.length : Int) < l.length := by omega
      clear hat
      go_wp2_with fail
      go_ret
      exact ⟨rfl, Hfin.out, hbr.out⟩

end Go.Proofs.YtajclfjedlkbcaaGreatDoor
/- slices.Values over a row of numbers in memory; slices.AppendSeq, slices.Collect over it (the worked texts on iterators over slices, turned to this program). -/
namespace Go.Proofs.YtajclfjedlkbcaaGreatDoor
open Go.RowKit Go.Redl Go.Shelf
set_option linter.unusedVariables false
set_option linter.unusedSimpArgs false
attribute [local go_sem] Oper.semAt_some

/-- What has come when k rounds are over. -/
def upTo (f : Nat → Int) (k : Nat) : List Int := (List.range k).map f
theorem upTo_succ (f : Nat → Int) (k : Nat) : upTo f (k + 1) = upTo f k ++ [f k] := by simp [upTo, List.range_succ]
theorem upTo_length (f : Nat → Int) (k : Nat) : (upTo f k).length = k := by simp [upTo]
theorem upTo_take (zs : List Int) {k : Nat} (hk : k ≤ zs.length) : upTo (fun j => zs[j]?.getD 0) k = zs.take k := by
  apply List.ext_getElem
  · simp [upTo, hk]
  · intro i h1 h2
    have : i < zs.length := by simp [upTo] at h1; omega
    simp [upTo, this]

set_option maxRecDepth 100000 in
set_option maxHeartbeats 2000000 in
/-- slices.Values's closure, for every loop body that keeps what lay below n₀. -/
theorem values1_in (F : Fence) (n : Nat) (h7 : F.fn 94) (hro : F.round = none) (hn : 1 ≤ n) (l Bs n₀ b off len cap : Nat) (zs : List Int) (hreach : len * 8 ≤ 140737488351232) (hb : b < n₀) (J Jx : List Int → World → Prop)
    (hY : ∀ pre x W, J pre W → pre.length < len → YieldAt F (n - 1) Tryz.prog l #[.int .i64 x] W fun e W' =>
      (e = .returned (.bool true) ∧ J (pre ++ [x]) W' ∧ Below n₀ W W') ∨ (e = .returned (.bool false) ∧ Jx (pre ++ [x]) W'))
    (W : World) (hBs : W.cell? ⟨Bs, 0, none⟩ = some (.slice (some ⟨b, off, none⟩) len cap)) (hc : ∀ j, j < len → W.cell? ⟨b, off + j, none⟩ = some (.int .i64 (zs[j]?.getD 0))) (h0 : J [] W) :
    CallsIn F n Tryz.prog 94 #[.func (.yield l) #[] #[], .pointer (some ⟨Bs, 0, none⟩)] W fun e W' => (∃ v, e = .returned v) ∧
      ((∃ ys, ys = upTo (fun j => zs[j]?.getD 0) len ∧ J ys W') ∨ (∃ pre, (∃ k, k ≤ len ∧ pre = upTo (fun j => zs[j]?.getD 0) k) ∧ Jx pre W')) := by
  refine callsIn_of_wp Tryz.func94 rfl h7 ?_ hro
  simp only [Tryz.ntmps94, List.size_toArray, List.length_cons, List.length_nil, Nat.reduceAdd, Nat.reduceSub, Array.replicate_succ, Array.replicate_zero, List.push_toArray, List.append_toArray, List.nil_append, List.cons_append]
  gi_wp2
  gi_loopw [7] (fun i wr => ∃ k : Nat, k ≤ len ∧ i = .int .i64 k ∧ J (upTo (fun j => zs[j]?.getD 0) k) wr ∧ Below n₀ W wr)
    (fun i _ => len - (intOf i).toNat)
  case atStart => exact ⟨0, Nat.zero_le _, rfl, h0, Below.refl _ _⟩
  case round =>
    obtain ⟨k, hk, rfl, hJs, hnx⟩ := hrel
    have hcx : k < len → wr.cell? ⟨b, off + k, none⟩ = some (.int .i64 (zs[k]?.getD 0)) := fun h => (hnx.cell (p := ⟨b, off + k, none⟩) hb).trans (hc k h)
    by_cases hlt : k < len
    · obtain ⟨fn, tmps, assign, body, hy, hR⟩ := hY _ (zs[k]?.getD 0) wr hJs (by rw [upTo_length]; exact hlt)
      have hcx' := hcx hlt
      gi_wp2
      refine hR.mono ?_
      rintro e W3 (⟨rfl, hJ3, hk3⟩ | ⟨rfl, hJx3⟩)
      · gi_wp2
        go_roundw
        case rel => exact ⟨k + 1, by omega, by simp, by rw [upTo_succ]; exact hJ3, hnx.trans hk3⟩
        case measure => simp [intOf]; omega
      · gi_wp2
        refine bodyPost_ret (results_none rfl _ _ _) rfl ?_
        exact ⟨⟨_, rfl⟩, .inr ⟨_, ⟨k + 1, by omega, (upTo_succ _ _).symm⟩, hJx3⟩⟩
    · obtain rfl : k = len := by omega
      gi_wp2
      go_end0
      exact ⟨⟨_, rfl⟩, .inl ⟨_, rfl, hJs⟩⟩

set_option maxHeartbeats 1000000 in
/-- slices.Values: the slice is boxed, and captured. -/
theorem values_c (a : Option Addr) (len cap : Nat) (w : World) :
    Calls Tryz.prog 46 #[.slice a len cap] w fun e w' => e = .returned (.func (.func 94) #[] #[.pointer (some ⟨w.heap.size, 0, none⟩)]) ∧ w' = w.alloc (.cells #[.slice a len cap] 47) := by
  go_enter Tryz.func46, Tryz.ntmps46
  go_wp2
  go_ret
  exact ⟨rfl, rfl⟩

/-- slices.Values hands back an iterator that gives all numbers, in order. -/
theorem values_stops (F : Fence) (n : Nat) (h7 : F.fn 94) (hro : F.round = none) (hn : 1 ≤ n) (Bs n₀ b off cap : Nat) (zs : List Int) (hreach : zs.length * 8 ≤ 140737488351232) (w : World) (hBs : Bs < w.heap.size) (hn₀ : n₀ ≤ w.heap.size) (hb : b < n₀)
    (hc : w.cell? ⟨Bs, 0, none⟩ = some (.slice (some ⟨b, off, none⟩) zs.length cap)) (hI : ∀ j, j < zs.length → w.cell? ⟨b, off + j, none⟩ = some (.int .i64 (zs[j]?.getD 0))) :
    SeqStopsK F n Tryz.prog 94 #[.pointer (some ⟨Bs, 0, none⟩)] (fun x : Int => #[Value.int .i64 x]) (Below n₀) (fun ys => ys = zs) (fun pre => pre <+: zs) zs.length w := fun l J Jx W hW _ _ hY h0 => by
  have hc' := (hW.cell (p := ⟨Bs, 0, none⟩) hBs).trans hc
  refine (values1_in F n h7 hro hn l Bs n₀ b off zs.length cap zs hreach hb J Jx hY W hc' (fun j hj => (hW.cell (p := ⟨b, off + j, none⟩) (Nat.lt_of_lt_of_le hb hn₀)).trans (hI j hj)) h0).mono ?_
  rintro e W' ⟨he, ⟨ys, rfl, hj⟩ | ⟨pre, ⟨k, hk, rfl⟩, hj⟩⟩
  · exact ⟨he, .inl ⟨_, by rw [upTo_take zs (Nat.le_refl _), List.take_length], hj⟩⟩
  · exact ⟨he, .inr ⟨_, by rw [upTo_take zs hk]; exact List.take_prefix _ _, hj⟩⟩

theorem info_intT : (Tryz.prog.info? 3).map (fun i => (i.zero, i.size, i.bytes)) = some (some (.int .i64 0), 1, 8) := by kernel_rfl

set_option maxRecDepth 100000 in
set_option maxHeartbeats 2000000 in
/-- slices.AppendSeq onto nothing, over slices.Values. -/
theorem appseq_in (F : Fence) (n : Nat) (hF : F.fn 118) (h7 : F.fn 94) (hro : F.round = none) (hn : 3 ≤ n) (Bs b off cap : Nat) (zs : List Int) (hreach : zs.length ≤ 1000000) (w : World) (hBs : Bs < w.heap.size) (hb : b < w.heap.size)
    (hc : w.cell? ⟨Bs, 0, none⟩ = some (.slice (some ⟨b, off, none⟩) zs.length cap)) (hI : ∀ j, j < zs.length → w.cell? ⟨b, off + j, none⟩ = some (.int .i64 (zs[j]?.getD 0))) :
    CallsIn F n Tryz.prog 118 #[.slice none 0 0, .func (.func 94) #[] #[.pointer (some ⟨Bs, 0, none⟩)]] w fun e W' => ∃ v, e = .returned v ∧ W'.ownsRow w.heap.size 3 1 v zs.length (zs.map (Value.int .i64)) ∧ (v = .slice none 0 0 ↔ zs = []) ∧ Below w.heap.size w W' := by
  have h1 : 1 ≤ n := by omega
  obtain ⟨i0, hi, hz0, hz1, hz2⟩ := info_parts info_intT
  refine callsIn_of_wp_marks Tryz.func118 rfl hF ?_ hro
  simp only [Tryz.ntmps118, List.size_toArray, List.length_cons, List.length_nil, Nat.reduceAdd, Nat.reduceSub, Array.replicate_succ, Array.replicate_zero, List.push_toArray, List.append_toArray, List.nil_append, List.cons_append]
  gi_wp2
  have bO := Boxed.new w 47 (.slice none 0 0)
  have hB0 : Below w.heap.size w (w.alloc (.cells #[.slice none 0 0] 47)) := (Below.refl _ w).alloc (Nat.le_refl _) _
  refine wpIn_rangeFunc_ownG hro h1 (gf := 94) (lb := #[.pointer (some ⟨Bs, 0, none⟩)]) rfl h7 (enters_of Tryz.func94 (by kernel_rfl) rfl)
    (values_stops F (n - 1) h7 hro (by omega) Bs w.heap.size b off cap zs (by omega) _ (by simp; omega) (by simp) hb ((hB0.cell (p := ⟨Bs, 0, none⟩) hBs).trans hc) (fun j hj => (hB0.cell (p := ⟨b, off + j, none⟩) hb).trans (hI j hj))) belowK_t (belowK_b (by simp)) (Below.refl _ _) (fun _ => rfl)
    (fun pre W => (∃ v, Boxed W w.heap.size 47 v ∧ W.ownsRow w.heap.size 3 1 v pre.length (pre.map (Value.int .i64)) ∧ (v = .slice none 0 0 ↔ pre = [])) ∧ Below w.heap.size w W)
    (fun _ _ _ => False)
    (OwnFrom.and (Own.from (holdsRow_own w.heap.size w.heap.size 47 3 1 (fun pre => pre.length) (fun pre => pre.map (Value.int .i64)) (fun pre v => v = .slice none 0 0 ↔ pre = [])) _) (ownFrom_below (Nat.le_refl _) (by simp)))
    (fun _ _ _ _ _ hs _ _ => hs)
    ⟨⟨_, bO, World.ownsRow_nil _ _ _ _, by simp⟩, hB0⟩
    (fun x => { tmps := #[.slice none 0 0, .func (.func 94) #[] #[.pointer (some ⟨Bs, 0, none⟩)], .pointer (some ⟨w.heap.size, 0, none⟩), undef, .slice none 0 0, .int .i64 x, .func (.func 94) #[] #[.pointer (some ⟨Bs, 0, none⟩)], .int .i64 x, undef, undef, undef, undef, undef], defers := [] }) ?assign ?body ?done ?stop
  case assign =>
    intro l x W K hK
    gi_wp2
    exact hK
  case body =>
    rintro l pre x W ⟨⟨v, hv, hrow, hnil⟩, hB⟩ hlt
    have hc := hv.cell
    gi_wp2_with (gi_at_builtin; refine wpListIn_append_own _ rfl _ _ 47 rfl w.heap.size 3 i0 (.int .i64 0) 1 8 Tryz.underlying47 hi hz0 hz1 hz2 rfl (by decide) _ _ _ rfl (hrow.alloc _) ⟨W.heap.size, 0, none⟩ 1 1 [.int .i64 x] rfl rfl (cell_one_new _ _ _) (by simp [Value.oneCell']) (by unfold maxLen; omega) (by omega) (by have := hB.size; simp; omega) ?_; intro v' w1 hown' hgrow _; obtain ⟨g', cap', rfl⟩ := ownsRow_succ hown'; obtain ⟨hv1, hv2, hr2, hk2, hb2⟩ := hv.appended (by decide) hrow hB.size (Nat.le_refl _) hown' hgrow; have hc1 := hv1.cell; have hf1 := hv1.frozen)
    exact ⟨hk2.from _, hb2, ⟨_, hv2, by simpa using hr2, by simp⟩, hB.trans hb2⟩
  case done =>
    rintro D ys W hD rfl ⟨⟨v, hv, hrow, hnil⟩, hB⟩ hK
    have hc := hv.cell
    gi_wp2
    refine ⟨by simp, .inl ⟨_, _, rfl, run_takeDeferred hK, ?_⟩⟩
    exact ⟨_, results_tmp rfl _ _ _, v, rfl, ownsRow_putObj hrow _ hK rfl, hnil, hB.trans (belowK_b (w := w) (Nat.le_refl _) W D _ _ (by simp at hD; omega) hK rfl rfl)⟩
  case stop =>
    rintro D c pre W _ _ h _
    exact h.elim

theorem appseq_ent : ∀ args w, (callFunc 118 args).run Tryz.prog w = .ok (.enter 118 args) w := by intro args w; kernel_rfl
/-- slices.Collect over slices.Values. -/
theorem collect_c (Bs b off cap : Nat) (zs : List Int) (hreach : zs.length ≤ 1000000) (w : World) (hBs : Bs < w.heap.size) (hb : b < w.heap.size)
    (hc : w.cell? ⟨Bs, 0, none⟩ = some (.slice (some ⟨b, off, none⟩) zs.length cap)) (hI : ∀ j, j < zs.length → w.cell? ⟨b, off + j, none⟩ = some (.int .i64 (zs[j]?.getD 0))) :
    Calls Tryz.prog 92 #[.func (.func 94) #[] #[.pointer (some ⟨Bs, 0, none⟩)]] w fun e W' => ∃ v, e = .returned v ∧ W'.ownsRow w.heap.size 3 1 v zs.length (zs.map (Value.int .i64)) ∧ (v = .slice none 0 0 ↔ zs = []) ∧ Below w.heap.size w W' := by
  have HC := Lib.hid ((callsIn_wide (n := 3)).1 (appseq_in Fence.wide 3 trivial trivial rfl (by omega) Bs b off cap zs hreach w hBs hb hc hI))
  have HE := appseq_ent
  clear hc hI hBs hb
  go_enter Tryz.func92, Tryz.ntmps92
  go_wp2_with fail
  refine HC.out.mono ?_
  rintro e w' ⟨v, rfl, hrow, hnil, hbel⟩
  have Hrow := Lib.hid hrow; have Hnil := Lib.hid hnil; have Hbel := Lib.hid hbel
  clear hrow hnil hbel
  go_wp2_with fail
  go_ret
  exact ⟨v, rfl, Hrow.out, Hnil.out, Hbel.out⟩

end Go.Proofs.YtajclfjedlkbcaaGreatDoor
/- Walks: slices.Sort at an own row of numbers, of texts; slices.Sorted over slices.Values. -/
namespace Go.Proofs.YtajclfjedlkbcaaGreatDoor
open Go.RowKit Go.Redl Go.Shelf Go.Sort
set_option linter.unusedVariables false
set_option linter.unusedSimpArgs false

abbrev srtI (l : List Int) : List Int := l.mergeSort fun x y => decide (x ≤ y)
abbrev srtS (l : List (List UInt8)) : List (List UInt8) := l.mergeSort fun x y => decide (x ≤ y)
theorem sortI_ent : ∀ args w, (callFunc 93 args).run Tryz.prog w = .ok (.enter 93 args) w := by intro args w; kernel_rfl
theorem sortS_ent : ∀ args w, (callFunc 100 args).run Tryz.prog w = .ok (.enter 100 args) w := by intro args w; kernel_rfl
theorem sortI_c (l : List Int) (v : Value) (base : Nat) (w : World) (hown : w.ownsRow base 3 1 v l.length (l.map (Value.int .i64))) (hn : l.length ≤ 100000000) :
    Calls Tryz.prog 93 #[v] w fun e w' => e = .returned (.tuple #[]) ∧ w'.ownsRow base 3 1 v l.length ((srtI l).map (Value.int .i64)) ∧ w.grownBy w' v.ownBlock := by
  have h0 := hown
  rcases hown.2 with ⟨rfl, hz⟩ | ⟨g, cap, cur, rfl, hbase, hb, h1, h2, h3, h4⟩
  · have hl : l = [] := List.eq_nil_of_length_eq_zero hz
    subst hl
    refine (AnyM.slices_Sort_int_none Tryz.sortI none 0 w).mono ?_
    rintro e w' ⟨rfl, rfl⟩
    exact ⟨rfl, by simpa [srtI] using h0, World.grownBy.refl _ _⟩
  · have hH : Holds (Value.int .i64) w g 0 l.toArray := holds_of_blockI hb (by simpa using h4)
    refine (AnyM.slices_Sort_int Tryz.sortI g 0 cap l w hH (Array.getElem?_eq_some_iff.1 hb).1 (by omega)).mono ?_
    rintro e w' ⟨rfl, n, os, rfl⟩
    exact ⟨rfl, ownsRow_sortedI (by simp) hbase hb h1 h2 h3, grownBy_sortedI _⟩
theorem sortS_c (l : List (List UInt8)) (v : Value) (base : Nat) (w : World) (hown : w.ownsRow base 9 1 v l.length (l.map strV)) (hn : l.length ≤ 100000000) :
    Calls Tryz.prog 100 #[v] w fun e w' => e = .returned (.tuple #[]) ∧ w'.ownsRow base 9 1 v l.length ((srtS l).map strV) ∧ w.grownBy w' v.ownBlock := by
  have h0 := hown
  rcases hown.2 with ⟨rfl, hz⟩ | ⟨g, cap, cur, rfl, hbase, hb, h1, h2, h3, h4⟩
  · have hl : l = [] := List.eq_nil_of_length_eq_zero hz
    subst hl
    refine (AnyM.slices_Sort_string_none Tryz.sortS none 0 w).mono ?_
    rintro e w' ⟨rfl, rfl⟩
    exact ⟨rfl, by simpa [srtS] using h0, World.grownBy.refl _ _⟩
  · have hH : Holds encStr w g 0 l.toArray := holds_of_block hb (by simpa using h4)
    refine (AnyM.slices_Sort_string Tryz.sortS g 0 cap l w hH (Array.getElem?_eq_some_iff.1 hb).1 (by omega)).mono ?_
    rintro e w' ⟨rfl, n, os, rfl⟩
    exact ⟨rfl, ownsRow_sorted (by simp) hbase hb h1 h2 h3, grownBy_sorted _⟩
theorem collect_ent : ∀ args w, (callFunc 92 args).run Tryz.prog w = .ok (.enter 92 args) w := by intro args w; kernel_rfl
theorem sorted_ent : ∀ args w, (callFunc 45 args).run Tryz.prog w = .ok (.enter 45 args) w := by intro args w; kernel_rfl
theorem values_ent : ∀ args w, (callFunc 46 args).run Tryz.prog w = .ok (.enter 46 args) w := by intro args w; kernel_rfl
/-- slices.Sorted over slices.Values. -/
theorem sorted_c (Bs b off cap : Nat) (zs : List Int) (hreach : zs.length ≤ 1000000) (w : World) (hBs : Bs < w.heap.size) (hb : b < w.heap.size)
    (hc : w.cell? ⟨Bs, 0, none⟩ = some (.slice (some ⟨b, off, none⟩) zs.length cap)) (hI : ∀ j, j < zs.length → w.cell? ⟨b, off + j, none⟩ = some (.int .i64 (zs[j]?.getD 0))) :
    Calls Tryz.prog 45 #[.func (.func 94) #[] #[.pointer (some ⟨Bs, 0, none⟩)]] w fun e w' => ∃ a c, e = .returned (.slice a zs.length c) ∧ RowA w' w'.heap.size 1 a zs.length c ((srtI zs).map (Value.int .i64)) ∧ Below w.heap.size w w' := by
  have HC := Lib.hid (collect_c Bs b off cap zs hreach w hBs hb hc hI)
  have HE := collect_ent; have HE2 := sortI_ent
  clear hc hI hBs hb
  go_enter Tryz.func45, Tryz.ntmps45
  go_wp2_with fail
  refine HC.out.mono ?_
  rintro e w1 ⟨v, rfl, hown, hnil, hbel⟩
  have HS := Lib.hid (sortI_c zs v w.heap.size w1 hown (by omega))
  have Hown := Lib.hid hown
  have Hb1 := Lib.hid hbel
  clear hown hnil hbel HC
  go_wp2_with fail
  refine HS.out.mono ?_
  rintro e w2 ⟨rfl, hown2, hgrow⟩
  have Hb2 := Lib.hid (Hb1.out.grown hgrow Hb1.out.size (fun k hk => (Hown.out.lt k hk).1))
  have Ho2 := Lib.hid hown2
  clear hown2 hgrow HS
  go_wp2_with fail
  go_ret
  obtain ⟨a, c, rfl, hr⟩ := row_of_own Ho2.out (by simp [Value.oneCell'])
  exact ⟨a, c, rfl, hr, Hb2.out⟩

end Go.Proofs.YtajclfjedlkbcaaGreatDoor
/- Plain laws: fills have an end or meet a type again; what stays hangs on which names there are alone. -/
namespace Go.Proofs.YtajclfjedlkbcaaGreatDoor
open Go.RowKit Go.Redl
set_option linter.unusedVariables false

/-- Things none twice are no more than those among which they are. -/
theorem nodup_le {α : Type} [DecidableEq α] : ∀ (l m : List α), l.Nodup → (∀ x ∈ l, x ∈ m) → l.length ≤ m.length
  | [], m, _, _ => Nat.zero_le _
  | x :: l, m, h, hs => by
    have hx : x ∈ m := hs x (by simp)
    have hn := List.nodup_cons.1 h
    have h1 := nodup_le l (m.erase x) hn.2 (fun y hy => (List.mem_erase_of_ne (show y ≠ x from fun e => hn.1 (by rw [← e]; exact hy))).2 (hs y (by simp [hy])))
    rw [List.length_erase_of_mem hx] at h1
    have h2 := List.length_pos_of_mem hx
    simp only [List.length_cons]
    omega
theorem rev_ind {α : Type} {p : List α → Prop} (h0 : p []) (h1 : ∀ l x, p l → p (l ++ [x])) : ∀ l, p l := fun l => by
  have h : ∀ m : List α, p m.reverse := by
    intro m
    induction m with
    | nil => exact h0
    | cons x m ih => rw [List.reverse_cons]; exact h1 _ _ ih
  simpa using h l.reverse

theorem ruleOf_all (s : SchemaD) (k : List UInt8) : ruleOf s k ∈ allR s := by
  rcases ruleOf_cases s k with h | h
  · exact List.mem_append_left _ h
  · rw [h]; exact List.mem_append_right _ (by simp)
theorem allR_wt {s : SchemaD} {r : RuleD} (h : r ∈ allR s) : r.wt ≤ s.wt := by
  unfold SchemaD.wt
  rcases List.mem_append.1 h with h | h
  · have := rulesWt_mem h; omega
  · simp at h; subst h; omega
theorem all_len (s : SchemaD) : (allR s).length = s.rules.length + 1 := by simp
/-- The types met on the way are so many at the most. -/
theorem met_le {s : SchemaD} {met : List (List UInt8)} (h : met.Nodup) (hs : ∀ x ∈ met, x ∈ (allR s).map (·.type)) : met.length ≤ s.rules.length + 1 := by
  have h1 := nodup_le met _ h hs
  rw [List.length_map, all_len] at h1
  exact h1
theorem depth_step (s : SchemaD) (f : Nat) (met : List (List UInt8)) (r : RuleD) (n : Nat) :
    depthF s (f + 1) met r n = if r.fill = 0 then (n : Int) else if r.fill = 1 then (n : Int) + 1 else if r.type ∈ met then -1 else depthF s f (r.type :: met) (ruleOf s r.fillT) (n + 1) := rfl
theorem depth_le (s : SchemaD) : ∀ (f : Nat) (met : List (List UInt8)) (r : RuleD) (n : Nat), depthF s f met r n ≤ (n : Int) + f
  | 0, met, r, n => by simp only [depthF]; omega
  | f + 1, met, r, n => by
    rw [depth_step]
    have := depth_le s f (r.type :: met) (ruleOf s r.fillT) (n + 1)
    split
    · omega
    · split
      · omega
      · split
        · omega
        · omega

/-- What stays, by a list of names. -/
def settledL (s : SchemaD) (r : RuleD) (l : List (List UInt8)) : Bool :=
  !(decide (r.text.1 = 4) && (decide ((actIn r r.text.2).1 ≠ 1) || decide ((ruleOf s r.text.2).text.1 ≠ 1))) && (l.all (wrapOk s r) &&
    (if r.fill = 1 then decide (r.text.1 = 1) else if r.fill = 2 then decide ((actIn r r.fillT).1 = 1) else true))
theorem settledL_names (s : SchemaD) (r : RuleD) : settledL s r (namesS s) = settledB s r := rfl
theorem all_same {α : Type} {p : α → Bool} {l m : List α} (h : ∀ x, x ∈ l ↔ x ∈ m) : l.all p = m.all p := by
  rw [Bool.eq_iff_iff, List.all_eq_true, List.all_eq_true]
  exact ⟨fun g x hx => g x ((h x).2 hx), fun g x hx => g x ((h x).1 hx)⟩
theorem settledL_same {s : SchemaD} {r : RuleD} {l m : List (List UInt8)} (h : ∀ x, x ∈ l ↔ x ∈ m) : settledL s r l = settledL s r m := by
  unfold settledL
  rw [all_same h]
/-- All names that rules hold. -/
abbrev flatN (s : SchemaD) : List (List UInt8) := (allR s).flatMap ruleNames
theorem names_same {s : SchemaD} {out : List (List UInt8)} (h : ∀ x, x ∈ out ↔ x ∈ flatN s ∧ x ≠ []) : ∀ x, x ∈ out ++ [[]] ↔ x ∈ namesS s := by
  intro x
  unfold namesS
  rw [List.mem_append, List.mem_append, h x]
  by_cases hx : x = []
  · subst hx; simp
  · simp [hx]
theorem settled_by {s : SchemaD} {r : RuleD} {out : List (List UInt8)} (h : ∀ x, x ∈ out ↔ x ∈ flatN s ∧ x ≠ []) : settledL s r (out ++ [[]]) = settledB s r := by
  rw [← settledL_names, settledL_same (names_same h)]
/-- How long names are, and how many. -/
theorem name_wt {r : RuleD} {x : List UInt8} (h : x ∈ ruleNames r) : x.length ≤ r.wt := by
  unfold ruleNames at h
  unfold RuleD.wt
  rcases List.mem_append.1 h with h | h
  · simp at h
    rcases h with rfl | rfl | rfl | rfl <;> omega
  · obtain ⟨p, hp, hx⟩ := List.mem_flatMap.1 h
    have := pairsWt_mem hp
    simp at hx
    rcases hx with rfl | rfl <;> omega
theorem flat_wt {s : SchemaD} {x : List UInt8} (h : x ∈ flatN s) : x.length ≤ s.wt := by
  obtain ⟨r, hr, hx⟩ := List.mem_flatMap.1 h
  exact Nat.le_trans (name_wt hx) (allR_wt hr)
theorem names_len (r : RuleD) : (ruleNames r).length ≤ r.wt := by
  have : ∀ l : List PairD, (l.flatMap (fun p => [p.1, p.2.2])).length = 2 * l.length := by
    intro l
    induction l with
    | nil => rfl
    | cons p l ih => rw [List.flatMap_cons, List.length_append, ih]; simp; omega
  have h1 := pairsWt_len r.kids
  unfold ruleNames RuleD.wt
  rw [List.length_append, this]
  simp
  omega
theorem flat_len (s : SchemaD) : (flatN s).length ≤ s.wt := by
  have h : ∀ l : List RuleD, (l.flatMap ruleNames).length ≤ rulesWt l := by
    intro l
    induction l with
    | nil => simp [rulesWt]
    | cons r l ih => have := names_len r; simp only [rulesWt, List.flatMap_cons, List.length_append]; omega
  have h1 := h s.rules
  have h2 := names_len s.els
  unfold SchemaD.wt
  simp only [flatN, allR, List.flatMap_append, List.length_append, List.flatMap_cons, List.flatMap_nil, List.append_nil]
  omega

end Go.Proofs.YtajclfjedlkbcaaGreatDoor
/- Maps from texts to bool, used as sets: made, filled, asked. -/
namespace Go.Proofs.YtajclfjedlkbcaaGreatDoor
open Go.RowKit Go.Redl Go.Maps
set_option linter.unusedVariables false
set_option linter.unusedSimpArgs false

/-- A set as what the map reads as. -/
def setS (acc : List (List UInt8)) : DataW Unit := Maps.setOf (.lit (.bool true)) (acc.map Lit.string)
theorem setS_nil : setS [] = .map [] := rfl
theorem setS_snoc (acc : List (List UInt8)) (k : List UInt8) : setS (acc ++ [k]) = (setS acc).put (.string k) (.lit (.bool true)) := by
  unfold setS
  rw [List.map_append, List.map_cons, List.map_nil, Maps.setOf_snoc]
theorem setS_map (acc : List (List UInt8)) : Maps.IsMap (setS acc) := (Maps.tidy_setOf _ _ (fun x hx => by obtain ⟨s, -, rfl⟩ := List.mem_map.1 hx; trivial)).isMap
theorem setS_has (acc : List (List UInt8)) (k : List UInt8) : Maps.has (setS acc) (.string k) = decide (k ∈ acc) := by
  unfold setS
  rw [Maps.has_setOf _ _ _ (fun x hx => by obtain ⟨s, -, rfl⟩ := List.mem_map.1 hx; trivial), List.any_map]
  by_cases h : k ∈ acc
  · rw [decide_eq_true h, List.any_eq_true]
    exact ⟨k, h, by simp [Lit.sameKey]⟩
  · rw [decide_eq_false h, List.any_eq_false]
    intro x hx
    have : x ≠ k := fun e => h (e ▸ hx)
    simp [Lit.sameKey, this]
theorem setS_at (acc : List (List UInt8)) (k : List UInt8) : (setS acc).atKey (.string k) (.lit (.bool false)) = .lit (.bool (decide (k ∈ acc))) := by
  induction acc using rev_ind with
  | h0 => rfl
  | h1 acc x ih =>
    rw [setS_snoc]
    by_cases h : k = x
    · subst h
      rw [Maps.atKey_put_same (k := .string k) (setS_map acc) trivial]
      simp
    · rw [Maps.atKey_put_other (by simpa using h), ih]
      simp [h]

set_option maxRecDepth 100000
abbrev strLaw : Maps.Keyed Tryz.prog 9 := Maps.string_keyed Tryz.underlying9
/-- Block b is a map of at most n entries that holds just these texts. -/
def SetAt (w : World) (b n : Nat) (acc : List (List UInt8)) : Prop := w.ownsMap Tryz.prog 9 (plainElem (H := Unit) Tryz.prog 4) b n (setS acc)
theorem SetAt.fresh (w : World) : SetAt (w.alloc (.map #[] 0)) w.heap.size 0 [] := World.ownsMap_made w _ _ _
theorem SetAt.lt {w : World} {b n : Nat} {acc : List (List UInt8)} (h : SetAt w b n acc) : b < w.heap.size := World.ownsMap.lt h
theorem SetAt.kept {w w' : World} {b n : Nat} {acc : List (List UInt8)} (h : SetAt w b n acc) (hb : Below w.heap.size w w') : SetAt w' b n acc := World.ownsMap.kept h (grownBy_of_below hb) (by simp)
theorem SetAt.mono {w : World} {b n m : Nat} {acc : List (List UInt8)} (h : SetAt w b n acc) (hm : n ≤ m) : SetAt w b m acc := World.ownsMap.mono h hm
theorem SetAt.setCell {w : World} {b n : Nat} {acc : List (List UInt8)} (h : SetAt w b n acc) {a : Addr} (ha : b ≠ a.block) (u : Value) : SetAt (w.setCell a u) b n acc := World.ownsMap.setCell h ha u
theorem zeroB (w : World) : (zeroValue 4).run Tryz.prog w = .ok (.bool false) w := by kernel_rfl
/-- The map's type, by its number. -/
theorem SetAt.ask {w : World} {b n : Nat} {acc : List (List UInt8)} (h : SetAt w b n acc) (k : List UInt8) (hk : k.length ≤ maxLen) :
    (Instr.lookup 99 (.map (some b)) (strV k) false).run Tryz.prog w = .ok (.bool (decide (k ∈ acc))) w := by
  obtain ⟨v, ps, hrun, hv⟩ := World.ownsMap.lookup h strLaw Tryz.underlying99 (zeroB w) (plainElem_bool Tryz.underlying4 false) (WideMaps.keyOf_string_mk Tryz.underlying9 (s := ⟨k.toArray⟩) hk)
  rw [setS_at] at hv
  have hvv : v = .bool (decide (k ∈ acc)) := by
    unfold plainElem at hv
    rw [Tryz.underlying4] at hv
    cases v with
    | bool b =>
      simp only [Option.some.injEq, Prod.mk.injEq] at hv
      have h1 := hv.1
      injection h1 with h1
      injection h1 with h1
      rw [h1]
    | _ => cases hv
  rw [hrun, hvv]
theorem SetAt.put {w : World} {b n : Nat} {acc : List (List UInt8)} (h : SetAt w b n acc) (hn : n < maxLen) (k : List UInt8) (hk : k.length ≤ maxLen) :
    ∃ w', (Instr.mapUpdate 99 (.map (some b)) (strV k) (.bool true)).run Tryz.prog w = .ok () w' ∧ SetAt w' b (n + 1) (acc ++ [k]) ∧ w.grownBy w' (some b) := by
  obtain ⟨w', hrun, h1, h2⟩ := World.ownsMap.update h strLaw Tryz.underlying99 hn (WideMaps.keyOf_string_mk Tryz.underlying9 (s := ⟨k.toArray⟩) hk) (plainElem_bool Tryz.underlying4 true)
  exact ⟨w', hrun, by unfold SetAt; rw [setS_snoc]; exact h1, h2⟩
/-- A text put in, as one operation of a plain region. -/
theorem wpList_putS {ops : Array Oper} {rest : List Oper} {o : Oper} {a : Act} {w : World} {Q : Exit → Act → World → Prop} (hg : o.guard = none) (m x v : Operand) (ho : o.op = .mapUpdate 99 m x v)
    (b n : Nat) (acc : List (List UInt8)) (k : List UInt8) (hm : a.eval m = .map (some b)) (hx : a.eval x = strV k) (hv : a.eval v = .bool true) (h : SetAt w b n acc) (hn : n < maxLen) (hk : k.length ≤ maxLen)
    (hK : ∀ w', SetAt w' b (n + 1) (acc ++ [k]) → w.grownBy w' (some b) → wpList Tryz.prog ops Q rest (a.put o.dst undef) w') : wpList Tryz.prog ops Q (o :: rest) a w := by
  obtain ⟨w', hrun, r1, r2⟩ := h.put hn k hk
  refine wpList_plain hg fun K' hK' => ?_
  unfold Oper.wp
  simp [execOp, ho, hm, hx, hv, hrun, Result.andThen]
  exact hK' _ _ (hK w' r1 r2)

end Go.Proofs.YtajclfjedlkbcaaGreatDoor
/- Plain words: append onto a full row; what a growing list of rows leaves. -/
namespace Go.Proofs.YtajclfjedlkbcaaGreatDoor
open Go.RowKit Go.Redl
set_option linter.unusedVariables false

theorem _root_.Go.Redl.RowA.full {w : World} {B sz n cap : Nat} {a : Option Addr} {cs : List Value} (h : RowA w B sz a n cap cs) : RowA w B sz a n n cs :=
  ⟨h.len, Nat.le_refl _, Nat.le_trans h.le h.max, h.one, fun e => by have := h.nil e; have := h.le; omega, h.some_⟩
theorem below_of_grown {w w' : World} (h : w.grownBy w' none) : Below w.heap.size w w' := ⟨h.os, h.tape, h.output, h.size, fun i hi => h.block i hi (by simp)⟩
/-- append(p[:n:n], xs...): a row of its own, always. -/
theorem run_grow_full {P : Program} (w : World) (t ty e : TypeId) (i : TypeInfo) (z : Value) (size bytes : Nat) (ht : P.underlying t = some (.slice e)) (hi : P.info? e = some i) (hz : i.zero = some z)
    (hsize : i.size = size) (hby : i.bytes = bytes) (hzs : z.cells.size = size) (hsz : 0 < size)
    (a : Option Addr) (n B : Nat) (xs : List Value) (hr : RowA w B size a n n xs)
    (ad : Addr) (m c : Nat) (news : List Value) (hm : 0 < m) (hl : news.length = m * size) (hnews : ∀ j u, news[j]? = some u → w.cell? (ad.add j) = some u) (h1 : ∀ u ∈ news, u.oneCell' = true)
    (h63 : n + m ≤ maxLen) (hbytes : (n + m) * bytes ≤ 140737488355328) :
    ∃ v' w', (Builtin.append_ #[t, t] ty #[.slice a n n, .slice (some ad) m c]).run P w = .ok v' w' ∧ w'.ownsRow w.heap.size e size v' (n + m) (xs ++ news) ∧ Below w.heap.size w w' := by
  cases a with
  | none =>
    have hn : n = 0 := hr.nil rfl
    subst hn
    have hx : xs = [] := List.eq_nil_of_length_eq_zero (by simpa using hr.len)
    subst hx
    obtain ⟨v', w', h, h2, h3, -⟩ := run_append_own (P := P) w w.heap.size t ty e i z size bytes ht hi hz hsize hby hzs hsz (.slice none 0 0) 0 [] (World.ownsRow_nil _ _ _ _) ad m c news hl hnews h1 h63 hbytes (Nat.le_refl _)
    exact ⟨v', w', h, h2, below_of_grown h3⟩
  | some b =>
    subst hsize
    subst hby
    have h := run_append_grow (P := P) w t ty e i z ht hi hz b n n xs hr.len hr.cells ad m c news hl hnews (by omega) (by unfold maxLen at h63; omega) (growslice_fits (by omega) hbytes)
    have hge := grownCap_ge w (n + m) n e
    have hcm : grownCap w (n + m) n e ≤ maxLen := grownCap_le_maxLen w (n + m) n e h63
    have hlen : (xs ++ news).length = (n + m) * i.size := by rw [List.length_append, hr.len, hl, Nat.add_mul]
    refine ⟨_, _, h, ⟨hlen, .inr ⟨w.heap.size, _, _, rfl, Nat.le_refl _, heap_alloc_new w.drew _, hge, hcm, ?_, ?_⟩⟩, ⟨rfl, rfl, rfl, by simp, fun k hk => heap_alloc_old w.drew _ (show k < w.drew.heap.size from hk)⟩⟩
    · simp only [Array.size_append, List.size_toArray, size_zeroCells, hzs, hr.len, hl, ← Nat.add_mul]
      congr 1
      omega
    · simp only [Array.toList_append, List.append_assoc]
      rw [← List.append_assoc, ← hlen]
      exact List.take_left
/-- The same as one step of a region that draws. -/
theorem step_grow {P : Program} {ops : Array Oper} {o : Oper} {a : Act} {w : World} {K : Act → World → Prop} {Q : Exit → Act → World → Prop} {E : Prop}
    (hg : o.guard = none) (s x : Operand) (t : TypeId) (ho : o.op = .call { callee := .builtin .append, args := #[s, x], argTypes := #[t, t] })
    (e : TypeId) (z : Value) (size bytes : Nat) (ht : P.underlying t = some (.slice e)) (hi : (P.info? e).map (fun i => (i.zero, i.size, i.bytes)) = some (some z, size, bytes))
    (hzs : z.cells.size = size) (hsz : 0 < size)
    (av : Option Addr) (n B0 : Nat) (xs : List Value) (hs : a.eval s = .slice av n n) (hown : RowA w B0 size av n n xs)
    (ad : Addr) (m c B : Nat) (news : List Value) (hx : a.eval x = .slice (some ad) m c) (hr : RowA w B size (some ad) m c news) (hm : 0 < m)
    (h63 : n + m ≤ maxLen) (hbytes : (n + m) * bytes ≤ 140737488355328)
    (h : ∀ v' w', w'.ownsRow w.heap.size e size v' (n + m) (xs ++ news) → Below w.heap.size w w' → K (a.put o.dst v') w') : if Region.wanted o (yielded ops a.tmps) = true then Oper.wp P o a w K Q else E := by
  have hw : Region.wanted o (yielded ops a.tmps) = true := by simp [Region.wanted, hg]
  rw [if_pos hw]
  obtain ⟨i, hi', hz, hsize, hby⟩ := info_parts hi
  obtain ⟨v', w', hrun, h2, h3⟩ := run_grow_full (P := P) w t o.type e i z size bytes ht hi' hz hsize hby hzs hsz av n B0 xs hown ad m c news hm hr.len hr.cells hr.one h63 hbytes
  unfold Oper.wp execOp
  simp only [ho, resolve, invoke, builtin, Sem.run_bind, Sem.run_pure, Result.andThen_ok, List.map_toArray, List.map_cons, List.map_nil, hs, hx, hrun]
  exact h v' w' h2 h3

/-- A box holds a list's row; from v to v' nothing else that was there is written. -/
structure Grew (ob : Nat) (v v' : Value) (w w' : World) : Prop where
  os : w'.os = w.os
  tape : w'.tape = w.tape
  output : w'.output = w.output
  size : w.heap.size ≤ w'.heap.size
  block : ∀ b, b < w.heap.size → b ≠ ob → v.ownBlock ≠ some b → w'.heap[b]? = w.heap[b]?
  where_ : v'.ownBlock = v.ownBlock ∨ ∀ k, v'.ownBlock = some k → w.heap.size ≤ k

theorem Grew.refl (ob : Nat) (v : Value) (w : World) : Grew ob v v w w := ⟨rfl, rfl, rfl, Nat.le_refl _, fun _ _ _ _ => rfl, .inl rfl⟩
theorem Grew.trans {ob : Nat} {v1 v2 v3 : Value} {w1 w2 w3 : World} (h : Grew ob v1 v2 w1 w2) (k : Grew ob v2 v3 w2 w3) : Grew ob v1 v3 w1 w3 := by
  refine ⟨k.os.trans h.os, k.tape.trans h.tape, k.output.trans h.output, Nat.le_trans h.size k.size, fun b hb hne hv => ?_, ?_⟩
  · rw [k.block b (Nat.lt_of_lt_of_le hb h.size) hne ?_, h.block b hb hne hv]
    rcases h.where_ with e | e
    · rw [e]; exact hv
    · intro e2; have := e b e2; omega
  · have := h.size
    rcases k.where_ with e | e
    · rw [e]; exact h.where_
    · exact .inr fun k hk => by have := e k hk; omega
theorem Grew.then {ob : Nat} {v1 v2 : Value} {w1 w2 w3 : World} (h : Grew ob v1 v2 w1 w2) (k : Below w2.heap.size w2 w3) : Grew ob v1 v2 w1 w3 :=
  h.trans ⟨k.os, k.tape, k.output, k.size, fun b hb _ _ => k.block b hb, .inl rfl⟩
theorem Grew.ahead {ob : Nat} {v1 v2 : Value} {w1 w2 w3 : World} (k : Below w1.heap.size w1 w2) (h : Grew ob v1 v2 w2 w3) : Grew ob v1 v2 w1 w3 :=
  Grew.trans ⟨k.os, k.tape, k.output, k.size, fun b hb _ _ => k.block b hb, .inl rfl⟩ h
theorem Grew.stay {ob M : Nat} {v v' : Value} {w w' : World} (h : Grew ob v v' w w') (hob : ob < M) : Stay w w' (fun b => M ≤ b ∧ v.ownBlock ≠ some b) (fun b => M ≤ b ∧ v'.ownBlock ≠ some b) := by
  refine ⟨h.size, fun b hb hlt => h.block b hlt (by omega) hb.2, fun b hb hlt => ⟨hb.1, ?_⟩⟩
  rcases h.where_ with e | e
  · rw [e]; exact hb.2
  · intro e2; have := e b e2; omega
theorem Grew.below {ob B : Nat} {v v' : Value} {w w' : World} (h : Grew ob v v' w w') (hB : B ≤ ob) (hw : B ≤ w.heap.size) (hv : ∀ k, v.ownBlock = some k → B ≤ k) : Below B w w' :=
  ⟨h.os, h.tape, h.output, h.size, fun b hb => h.block b (by omega) (by omega) (fun e => by have := hv b e; omega)⟩
theorem PathsQ.stay {w w' : World} {ok ok' : Nat → Prop} {l : List (List Int)} {cs : List Value} (h : PathsQ w ok l cs) (s : Stay w w' ok ok') : PathsQ w' ok' l cs := h.keep s.size s.block s.let_

end Go.Proofs.YtajclfjedlkbcaaGreatDoor
/- Operations, as far as a repair tells them: how they lie in memory. No program in sight. -/
namespace Go.Redl
open Go.RowKit
set_option linter.unusedVariables false

/-- A reading below a block, as one whose blocks lie there. -/
theorem RowA.q {w : World} {B sz n cap : Nat} {a : Option Addr} {cs : List Value} (h : RowA w B sz a n cap cs) (hB : B ≤ w.heap.size) : RowQ w (fun b => b < B) sz a n cap cs :=
  ⟨h.len, h.le, h.max, h.one, h.nil, fun hne => by
    obtain ⟨b, off, ha, hb, hc⟩ := h.some_ hne
    exact ⟨b, off, ha, hb, Nat.lt_of_lt_of_le hb hB, hc⟩⟩
mutual
theorem NodeC.q {w : World} {B : Nat} (hB : B ≤ w.heap.size) : ∀ (n : NodeD) (cs : List Value), NodeC w B n cs → NodeQ w (fun b => b < B) n cs
  | .mk l ps t ks, cs => by
    intro h
    unfold NodeC at h
    unfold NodeQ
    obtain ⟨ap, cp, at_, ct, ak, ck, css, h1, h2, h3, h4, h5, h6⟩ := h
    exact ⟨ap, cp, at_, ct, ak, ck, css, h1, h2.q hB, h3.q hB, h4, h5.q hB, KidsC.q hB ks css h6⟩
theorem KidsC.q {w : World} {B : Nat} (hB : B ≤ w.heap.size) : ∀ (ks : List NodeD) (css : List Value), KidsC w B ks css → KidsQ w (fun b => b < B) ks css
  | [], css => by intro h; unfold KidsC at h; unfold KidsQ; exact h
  | k :: ks, css => by
    intro h
    unfold KidsC at h
    unfold KidsQ
    obtain ⟨c1, c2, h1, h2, h3⟩ := h
    exact ⟨c1, c2, h1, NodeC.q hB k c1 h2, KidsC.q hB ks c2 h3⟩
end
theorem zero_q (w : World) (ok : Nat → Prop) : NodeQ w ok (.mk false [] [] []) [.bool false, .slice none 0 0, .slice none 0 0, .slice none 0 0] := by
  unfold NodeQ
  exact ⟨none, 0, none, 0, none, 0, [], rfl, RowQ.empty _ _ _, RowQ.empty _ _ _, by simp, RowQ.empty _ _ _, by unfold KidsQ; rfl⟩

end Go.Redl
namespace Go.Proofs.YtajclfjedlkbcaaGreatDoor
open Go.RowKit Go.Redl
set_option linter.unusedVariables false

/-- A path's reading. -/
abbrev PathQ (w : World) (ok : Nat → Prop) (a : Option Addr) (c : Nat) (p : List Int) : Prop := RowQ w ok 1 a p.length c (p.map (Value.int .i64))
/-- The twenty-one cells of an operation. -/
def opCells (o : OpD) (pa : Option Addr) (pc : Nat) (ta : Option Addr) (tc : Nat) (n0 n1 n2 n3 : Value) (oa : Option Addr) (oc : Nat) : List Value :=
  [.int .i64 o.kind, .slice pa o.path.length pc, .slice ta o.dest.length tc, .int .i64 o.pos, n0, n1, n2, n3, .slice oa o.old.length oc, .slice none 0 0, .slice none 0 0,
    .bool false, .slice none 0 0, .int .i64 0, .slice none 0 0, .int .i64 0, .bool false, .slice none 0 0, .int .i64 0, .slice none 0 0, .int .i64 0]
def OpQ (w : World) (ok : Nat → Prop) (o : OpD) (cs : List Value) : Prop :=
  ∃ pa pc ta tc n0 n1 n2 n3 oa oc, cs = opCells o pa pc ta tc n0 n1 n2 n3 oa oc ∧ PathQ w ok pa pc o.path ∧ PathQ w ok ta tc o.dest ∧ NodeQ w ok o.node [n0, n1, n2, n3] ∧ RowQ w ok 2 oa o.old.length oc (propCells o.old)
def OpsQ (w : World) (ok : Nat → Prop) : List OpD → List Value → Prop
  | [], css => css = []
  | o :: os, css => ∃ c1 c2, css = c1 ++ c2 ∧ OpQ w ok o c1 ∧ OpsQ w ok os c2
theorem OpQ.stay {w w' : World} {ok ok' : Nat → Prop} {o : OpD} {cs : List Value} (h : OpQ w ok o cs) (s : Stay w w' ok ok') : OpQ w' ok' o cs := by
  obtain ⟨pa, pc, ta, tc, n0, n1, n2, n3, oa, oc, rfl, h1, h2, h3, h4⟩ := h
  exact ⟨pa, pc, ta, tc, n0, n1, n2, n3, oa, oc, rfl, h1.stay s, h2.stay s, h3.stay s, h4.stay s⟩
theorem OpsQ.stay {w w' : World} {ok ok' : Nat → Prop} (s : Stay w w' ok ok') : ∀ {os : List OpD} {css : List Value}, OpsQ w ok os css → OpsQ w' ok' os css
  | [], css, h => by unfold OpsQ at h ⊢; exact h
  | o :: os, css, h => by
    unfold OpsQ at h ⊢
    obtain ⟨c1, c2, h1, h2, h3⟩ := h
    exact ⟨c1, c2, h1, h2.stay s, OpsQ.stay s h3⟩
theorem OpQ.len {w : World} {ok : Nat → Prop} {o : OpD} {cs : List Value} (h : OpQ w ok o cs) : cs.length = 21 := by
  obtain ⟨pa, pc, ta, tc, n0, n1, n2, n3, oa, oc, rfl, -⟩ := h; rfl
theorem OpQ.one {w : World} {ok : Nat → Prop} {o : OpD} {cs : List Value} (h : OpQ w ok o cs) : ∀ u ∈ cs, u.oneCell' = true := by
  obtain ⟨pa, pc, ta, tc, n0, n1, n2, n3, oa, oc, rfl, -, -, h3, -⟩ := h
  have hn := (NodeQ.node _ _ h3).one
  simp at hn
  obtain ⟨g0, g1, g2, g3⟩ := hn
  intro u hu
  simp only [opCells, List.mem_cons, List.not_mem_nil, or_false] at hu
  rcases hu with h | h | h | h | h | h | h | h | h | h | h | h | h | h | h | h | h | h | h | h | h
  all_goals
    subst h
    first | rfl | assumption
theorem OpsQ.len {w : World} {ok : Nat → Prop} : ∀ {os : List OpD} {css : List Value}, OpsQ w ok os css → css.length = os.length * 21
  | [], css, h => by unfold OpsQ at h; subst h; rfl
  | o :: os, css, h => by
    unfold OpsQ at h
    obtain ⟨c1, c2, rfl, h2, h3⟩ := h
    have a := h2.len; have b := OpsQ.len h3
    simp only [List.length_append, List.length_cons]; omega
theorem OpsQ.one {w : World} {ok : Nat → Prop} : ∀ {os : List OpD} {css : List Value}, OpsQ w ok os css → ∀ u ∈ css, u.oneCell' = true
  | [], css, h => by unfold OpsQ at h; subst h; simp
  | o :: os, css, h => by
    unfold OpsQ at h
    obtain ⟨c1, c2, rfl, h2, h3⟩ := h
    intro u hu
    rcases List.mem_append.1 hu with hu | hu
    · exact h2.one u hu
    · exact OpsQ.one h3 u hu
theorem OpsQ.nil (w : World) (ok : Nat → Prop) : OpsQ w ok [] [] := by unfold OpsQ; rfl
theorem OpsQ.single {w : World} {ok : Nat → Prop} {o : OpD} {c : List Value} (h : OpQ w ok o c) : OpsQ w ok [o] c := by
  unfold OpsQ; exact ⟨c, [], by simp, h, OpsQ.nil _ _⟩
theorem OpsQ.append {w : World} {ok : Nat → Prop} : ∀ {os os' : List OpD} {css css' : List Value}, OpsQ w ok os css → OpsQ w ok os' css' → OpsQ w ok (os ++ os') (css ++ css')
  | [], os', css, css', h, h' => by unfold OpsQ at h; subst h; exact h'
  | o :: os, os', css, css', h, h' => by
    unfold OpsQ at h
    obtain ⟨c1, c2, rfl, h2, h3⟩ := h
    rw [List.cons_append]
    unfold OpsQ
    exact ⟨c1, c2 ++ css', by simp, h2, OpsQ.append h3 h'⟩
/-- One operation's cells. -/
theorem OpsQ.at_ {w : World} {ok : Nat → Prop} : ∀ {os : List OpD} {css : List Value}, OpsQ w ok os css → ∀ (i : Nat) (hi : i < os.length), ∃ c, OpQ w ok os[i] c ∧ ∀ j, j < 21 → css[i * 21 + j]? = c[j]?
  | [], css, h, i, hi => absurd hi (by simp)
  | k :: ks, css, h, 0, hi => by
    unfold OpsQ at h
    obtain ⟨c1, c2, rfl, h2, h3⟩ := h
    refine ⟨c1, h2, fun j hj => ?_⟩
    rw [Nat.zero_mul, Nat.zero_add, List.getElem?_append_left (by rw [h2.len]; exact hj)]
  | k :: ks, css, h, i + 1, hi => by
    unfold OpsQ at h
    obtain ⟨c1, c2, rfl, h2, h3⟩ := h
    obtain ⟨c, hc, hall⟩ := OpsQ.at_ h3 i (by simpa using hi)
    refine ⟨c, by simpa using hc, fun j hj => ?_⟩
    rw [List.getElem?_append_right (by rw [h2.len]; omega), ← hall j hj, h2.len]
    congr 1; omega
/-- A list of operations, as a value. -/
def OpsV (w : World) (l : List OpD) (v : Value) : Prop := ∃ a c css, v = .slice a l.length c ∧ RowA w w.heap.size 21 a l.length c css ∧ OpsQ w (fun _ => True) l css
theorem stay_below {w w' : World} (hb : Below w.heap.size w w') (ok : Nat → Prop) : Stay w w' ok ok := ⟨hb.size, fun b _ hlt => hb.block b hlt, fun _ h _ => h⟩
theorem OpsV.keep {w w' : World} {l : List OpD} {v : Value} (h : OpsV w l v) (hb : Below w.heap.size w w') : OpsV w' l v := by
  obtain ⟨a, c, css, rfl, h1, h2⟩ := h
  exact ⟨a, c, css, rfl, h1.keep hb hb.size, h2.stay (stay_below hb _)⟩
theorem OpsV.nil (w : World) : OpsV w [] (.slice none 0 0) := ⟨none, 0, [], rfl, RowA.empty _ _ _, OpsQ.nil _ _⟩
/-- What an own row holds. -/
theorem OpsV.of_own {w : World} {base e : Nat} {l : List OpD} {v : Value} {css : List Value} {ok : Nat → Prop} (h : w.ownsRow base e 21 v l.length css) (hq : OpsQ w ok l css) : OpsV w l v := by
  obtain ⟨a, c, hv, hr⟩ := row_of_own h hq.one
  exact ⟨a, c, css, hv, hr, hq.stay ⟨Nat.le_refl _, fun _ _ _ => rfl, fun _ _ _ => trivial⟩⟩
/-- An operation in a list of them. -/
theorem OpsV.at_ {w : World} {l : List OpD} {a : Option Addr} {n c : Nat} (h : OpsV w l (.slice a n c)) (i : Nat) (hi : i < l.length) :
    ∃ b off pa pc ta tc n0 n1 n2 n3 oa oc, a = some ⟨b, off, none⟩ ∧ b < w.heap.size ∧ PathQ w (fun _ => True) pa pc l[i].path ∧ PathQ w (fun _ => True) ta tc l[i].dest ∧ NodeQ w (fun _ => True) l[i].node [n0, n1, n2, n3] ∧ RowQ w (fun _ => True) 2 oa l[i].old.length oc (propCells l[i].old) ∧
      ∀ j u, (opCells l[i] pa pc ta tc n0 n1 n2 n3 oa oc)[j]? = some u → w.cell? ⟨b, off + i * 21 + j, none⟩ = some u := by
  obtain ⟨a', c', css, hv, hr, hq⟩ := h
  injection hv with e1 e2 e3; subst e1; subst e2; subst e3
  obtain ⟨cs, hc, hall⟩ := hq.at_ i hi
  obtain ⟨pa, pc, ta, tc, n0, n1, n2, n3, oa, oc, rfl, h1, h2, h3, h4⟩ := hc
  obtain ⟨b, off, ha, hb, hcell⟩ := hr.some_ (by
    intro he
    have := hq.len
    rw [he] at this
    simp at this; omega)
  refine ⟨b, off, pa, pc, ta, tc, n0, n1, n2, n3, oa, oc, ha, hb, h1, h2, h3, h4, fun j u hj => ?_⟩
  have hj21 : j < 21 := by
    have := (List.getElem?_eq_some_iff.1 hj).1
    simpa [opCells] using this
  rw [Nat.add_assoc]
  exact hcell _ _ ((hall j hj21).trans hj)

end Go.Proofs.YtajclfjedlkbcaaGreatDoor
/- Plain words: rows of paths that may be rewritten in place. -/
namespace Go.Proofs.YtajclfjedlkbcaaGreatDoor
open Go.RowKit Go.Redl
set_option linter.unusedVariables false

theorem grown_of_below {w w1 : World} {r : Option Nat} (h : Below w.heap.size w w1) : w.grownBy w1 r := ⟨h.os, h.tape, h.output, h.size, fun i hi _ => h.block i hi⟩
theorem _root_.Go.World.grownBy.then {w w1 w2 : World} {r : Option Nat} (h : w.grownBy w1 r) (k : Below w1.heap.size w1 w2) : w.grownBy w2 r := h.trans (grown_of_below k)
theorem _root_.Go.World.grownBy.set {w w1 : World} {b : Nat} (h : w.grownBy w1 (some b)) (o : Nat) (u : Value) : w.grownBy (w1.setCell ⟨b, o, none⟩ u) (some b) :=
  h.trans ⟨rfl, rfl, rfl, by simp [World.setCell], fun i _ hne => Below.heap_setCell w1 ⟨b, o, none⟩ u i (by intro e; exact hne (by rw [e]))⟩
theorem _root_.Go.World.grownBy.old {w w1 : World} {r : Option Nat} (h : w.grownBy w1 r) {M : Nat} (hM : M ≤ w.heap.size) (hr : ∀ k, r = some k → M ≤ k) : Below M w w1 :=
  (Below.refl M w).grown h hM hr

theorem below_and {w0 w w1 : World} (h : Below w0.heap.size w0 w) (h1 : Below w.heap.size w w1) : Below w0.heap.size w0 w1 := h.trans (h1.mono h.size)
theorem rowq_imp {w : World} {ok ok' : Nat → Prop} {sz n cap : Nat} {a : Option Addr} {cs : List Value} (h : RowQ w ok sz a n cap cs) (f : ∀ b, ok b → ok' b) : RowQ w ok' sz a n cap cs := h.keep (Nat.le_refl _) (fun _ _ _ => rfl) (fun b hb _ => f b hb)
theorem rowq_since {w w' : World} {ok : Nat → Prop} {sz n cap : Nat} {a : Option Addr} {cs : List Value} (h : RowQ w ok sz a n cap cs) (hb : Below w.heap.size w w') : RowQ w' ok sz a n cap cs := h.keep hb.size (fun b _ hlt => hb.block b hlt) (fun _ h _ => h)
/-- A path with where it lies. -/
abbrev PX := List Int × Option Addr × Nat
def pxV (x : PX) : Value := .slice x.2.1 x.1.length x.2.2
abbrev pxs (xs : List PX) : List (List Int) := xs.map (·.1)
theorem pxV_one (x : PX) : (pxV x).oneCell' = true := rfl
abbrev PxQ (w : World) (ok : Nat → Prop) (x : PX) : Prop := PathQ w ok x.2.1 x.2.2 x.1
/-- A row of paths: it lies in no block ahead of M, what its paths lead to in none ahead of L, nor in the row's own. -/
structure RowX (w : World) (M L : Nat) (v : Value) (xs : List PX) : Prop where
  own : w.ownsRow M 47 1 v xs.length (xs.map pxV)
  all : ∀ x ∈ xs, PxQ w (fun b => L ≤ b ∧ v.ownBlock ≠ some b) x
theorem RowX.nil (w : World) (M L : Nat) : RowX w M L (.slice none 0 0) [] := ⟨World.ownsRow_nil _ _ _ _, by simp⟩
/-- It is nil, or lies in a block. -/
theorem RowX.open {w : World} {M L : Nat} {v : Value} {xs : List PX} (h : RowX w M L v xs) :
    v = .slice none 0 0 ∧ xs = [] ∨ ∃ b cap tl, v = .slice (some ⟨b, 0, none⟩) xs.length cap ∧ M ≤ b ∧ At w b (xs.map pxV ++ tl) 47 ∧ xs.length + tl.length = cap ∧ cap ≤ maxLen := by
  obtain ⟨hl, h2⟩ := h.own
  rcases h2 with ⟨rfl, h0⟩ | ⟨g, cap, cur, rfl, hb, hg, hnc, hcm, hcs, htake⟩
  · exact .inl ⟨rfl, List.eq_nil_of_length_eq_zero h0⟩
  · refine .inr ⟨g, cap, cur.toList.drop xs.length, rfl, hb, ?_, ?_, hcm⟩
    · rw [Nat.mul_one] at htake
      rw [← htake, List.take_append_drop]
      simpa [At] using hg
    · simp; omega
theorem RowX.shut {w : World} {M L b cap : Nat} {xs : List PX} {tl : List Value} (hM : M ≤ b) (hA : At w b (xs.map pxV ++ tl) 47) (hl : xs.length + tl.length = cap) (hm : cap ≤ maxLen) (hq : ∀ x ∈ xs, PxQ w (fun k => L ≤ k ∧ k ≠ b) x) :
    RowX w M L (.slice (some ⟨b, 0, none⟩) xs.length cap) xs := by
  refine ⟨⟨by simp, .inr ⟨b, cap, _, rfl, hM, hA, by omega, hm, by simp; omega, ?_⟩⟩, fun x hx => rowq_imp (hq x hx) fun k hk => ⟨hk.1, ?_⟩⟩
  · simp
  · simp only [Value.ownBlock, ne_eq, Option.some.injEq]
    exact fun e => hk.2 e.symm
theorem PxQ.grown {w w' : World} {b L : Nat} {x : PX} (h : PxQ w (fun k => L ≤ k ∧ k ≠ b) x) (hg : w.grownBy w' (some b)) : PxQ w' (fun k => L ≤ k ∧ k ≠ b) x :=
  RowQ.keep h hg.size (fun k hk hlt => hg.block k hlt (fun e => hk.2 (Option.some.inj e))) (fun _ h _ => h)
theorem RowX.below {w w' : World} {M L : Nat} {v : Value} {xs : List PX} (h : RowX w M L v xs) (hb : Below w.heap.size w w') : RowX w' M L v xs :=
  ⟨own_keep h.own hb, fun x hx => rowq_since (h.all x hx) hb⟩
theorem RowX.form {w : World} {M L : Nat} {v : Value} {xs : List PX} (h : RowX w M L v xs) : ∃ a c, v = .slice a xs.length c := by
  rcases h.open with ⟨rfl, rfl⟩ | ⟨b, cap, tl, rfl, -⟩
  · exact ⟨none, 0, rfl⟩
  · exact ⟨_, _, rfl⟩
theorem RowX.ge {w : World} {M L : Nat} {v : Value} {xs : List PX} (h : RowX w M L v xs) : ∀ k, v.ownBlock = some k → M ≤ k := fun k hk => (h.own.lt k hk).1
/-- It may be said to lie further down. -/
theorem RowX.from {w : World} {M L M' L' : Nat} {v : Value} {xs : List PX} (h : RowX w M L v xs) (hM : M' ≤ M) (hL : L' ≤ L) : RowX w M' L' v xs := by
  refine ⟨?_, fun x hx => rowq_imp (h.all x hx) fun k hk => ⟨by omega, hk.2⟩⟩
  obtain ⟨hl, h2⟩ := h.own
  exact ⟨hl, h2.imp id fun ⟨g, cap, cur, hv, hb, hr⟩ => ⟨g, cap, cur, hv, by omega, hr⟩⟩
theorem pathsQ_px {w : World} {ok : Nat → Prop} : ∀ {l : List (List Int)} {cs : List Value}, PathsQ w ok l cs → ∃ xs : List PX, l = pxs xs ∧ cs = xs.map pxV ∧ ∀ x ∈ xs, PxQ w ok x
  | [], cs, h => ⟨[], rfl, h, by simp⟩
  | zs :: l, cs, h => by
    obtain ⟨a, cap, cs', rfl, h2, h3⟩ := h
    obtain ⟨xs, rfl, rfl, h4⟩ := pathsQ_px h3
    refine ⟨(zs, a, cap) :: xs, rfl, rfl, fun x hx => ?_⟩
    rcases List.mem_cons.1 hx with rfl | hx
    · exact h2
    · exact h4 x hx
theorem px_pathsQ {w : World} {ok : Nat → Prop} : ∀ {xs : List PX}, (∀ x ∈ xs, PxQ w ok x) → PathsQ w ok (pxs xs) (xs.map pxV)
  | [], h => rfl
  | x :: xs, h => ⟨x.2.1, x.2.2, _, rfl, h x (by simp), px_pathsQ fun y hy => h y (by simp [hy])⟩
/-- A list of paths, made by the call, its row its own. -/
def ListX (W : World) (L : List (List Int)) (e : Ending) (w' : World) : Prop :=
  ∃ v xs, e = .returned v ∧ RowX w' W.heap.size W.heap.size v xs ∧ pxs xs = L ∧ Below W.heap.size W w'

end Go.Proofs.YtajclfjedlkbcaaGreatDoor
