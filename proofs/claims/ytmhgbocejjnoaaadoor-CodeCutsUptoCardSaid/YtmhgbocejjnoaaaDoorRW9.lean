/- Walks: CodePrints' example; CodePrints. -/
import Derived.Test.YtmhgbocejjnoaaaDoorRW8
namespace Go.Proofs.YtmhgbocejjnoaaaDoor
open Go.RowKit Go.Redl
set_option linter.unusedVariables false

/-- A literal in a new block, behind which more memory lies. -/
theorem row_cells {w w' : World} {E : TypeId} (sz n : Nat) (cs : List Value) (hl : cs.length = n * sz) (hn : n ≤ 1000000) (h1 : ∀ u ∈ cs, u.oneCell' = true) (hb : Below (w.heap.size + 1) (w.alloc (Obj.cells cs.toArray E)) w') : RowA w' w'.heap.size sz (some ⟨w.heap.size, 0, none⟩) n n cs := by
  refine ⟨hl, Nat.le_refl _, by unfold maxLen; omega, h1, (fun h => by cases h), fun _ => ⟨w.heap.size, 0, rfl, ?_, fun j u hj => ?_⟩⟩
  · have := hb.size; simp at this; omega
  · have hg : w'.heap[w.heap.size]? = some (Obj.cells cs.toArray E (0, 0)) := by
      rw [hb.block _ (by omega)]; exact heap_alloc_new w _
    rw [cell_of_row _ w.heap.size (0 + j) _ E (0, 0) hg]
    simpa using hj

/-- "type" -/
def typeL : List UInt8 := [116, 121, 112, 101]
def ElemP (W : World) (s : List UInt8) (a : Option Addr) (c : Nat) (ks : List NodeD) (e : Ending) (w' : World) : Prop :=
  ∃ g, e = .returned (.agg #[.bool false, .slice (some ⟨g, 0, none⟩) 1 1, .slice none 0 0, .slice a ks.length c]) ∧ NodeC w' w'.heap.size (.mk false [(typeL, s)] [] ks) [.bool false, .slice (some ⟨g, 0, none⟩) 1 1, .slice none 0 0, .slice a ks.length c] ∧ Below W.heap.size W w'

set_option maxRecDepth 100000 in
set_option maxHeartbeats 1000000 in
theorem elem_c (x : UInt8) (r : List UInt8) (a : Option Addr) (c : Nat) (ks : List NodeD) (css : List Value) (W : World) (hr : RowA W W.heap.size 4 a ks.length c css) (hk : KidsC W W.heap.size ks css) :
    Calls Tryd.prog 15 #[.string ⟨(x :: r).toArray⟩, .slice a ks.length c] W (ElemP W (x :: r) a c ks) := by
  have hne : ((⟨(x :: r).toArray⟩ : ByteArray).toList.isEmpty) = false := by rw [ByteArray.toList_mk]; rfl
  have hne2 : (!(⟨(x :: r).toArray⟩ : ByteArray).toList.isEmpty) = true := by rw [ByteArray.toList_mk]; rfl
  have Hpc : Hid (propCells [(typeL, x :: r)] = [.string ⟨#[116, 121, 112, 101]⟩, .string ⟨(x :: r).toArray⟩]) := rfl
  obtain ⟨S, hS⟩ : ∃ S, S = (⟨(x :: r).toArray⟩ : ByteArray) := ⟨_, rfl⟩
  rw [← hS] at hne hne2 Hpc ⊢
  have Hr := Lib.hid hr; have Hk := Lib.hid hk
  clear hr hk hS
  go_enter Tryd.func15, Tryd.ntmps15
  go_wp2_with fail
  have hb1 := fun (o1 o2 : Obj) => Lib.hid (below_three W o1 o2 (Obj.cells #[.string ⟨#[116, 121, 112, 101]⟩, .string S] 47))
  refine bodyPost_ret (v := .agg #[.bool false, .slice (some ⟨W.heap.size + 1 + 1, 0, none⟩) 1 1, .slice none 0 0, .slice a ks.length c]) (by simp [results, Tryd.results15, go_sem]) rfl ⟨W.heap.size + 1 + 1, rfl, ?_, (hb1 _ _).out⟩
  unfold NodeC
  refine ⟨some ⟨W.heap.size + 1 + 1, 0, none⟩, 1, none, 0, a, c, css, rfl, ?_, RowA.empty _ _ _, by simp, Hr.out.keep (hb1 _ _).out (hb1 _ _).out.size, KidsC.keep (hb1 _ _).out (hb1 _ _).out.size ks css Hk.out⟩
  rw [Hpc.out]
  have h := row_cells (w := (W.alloc (Obj.cells #[Value.bool false, Value.slice (some ⟨W.heap.size + 1 + 1, 0, none⟩) 1 1, Value.slice none 0 0, Value.slice a ks.length c] 26)).alloc (Obj.cells #[Value.bool false, Value.slice (some ⟨W.heap.size + 1 + 1, 0, none⟩) 1 1, Value.slice none 0 0, Value.slice a ks.length c] 26)) (E := 47) 2 1 [.string ⟨#[116, 121, 112, 101]⟩, .string S] rfl (by omega) (by intro u hu; simp at hu; rcases hu with rfl | rfl <;> rfl) (Below.refl _ _)
  simpa using h

def liveN : NodeD := .mk false [(typeL, [112])] [] [.mk true [([98, 111, 108, 100], [49])] [97] []]
def liveL : List UInt8 := [123, 116, 121, 112, 101, 58, 112, 125, 91, 123, 98, 111, 108, 100, 58, 49, 125, 34, 97, 34, 93]
theorem live_print : printL liveN = liveL := by decide +kernel
theorem live_ok : nodeE liveN = 0 := by decide +kernel

set_option maxRecDepth 100000 in
set_option maxHeartbeats 1000000 in
theorem live_c (w : World) (hT : TabAt w) (hg : 3 < w.heap.size) :
    Calls Tryd.prog 6 #[] w fun e w' => e = .returned (.bool true) ∧ Below w.heap.size w w' := by
  have hpc : propCells [([98, 111, 108, 100], [49])] = [.string ⟨#[98, 111, 108, 100]⟩, .string ⟨#[49]⟩] := rfl
  have hrow := row_cells (w := w) (E := 47) 2 1 (propCells [([98, 111, 108, 100], [49])]) rfl (by omega) (propCells_one _) (Below.refl _ _)
  rw [hpc] at hrow
  have HL := Lib.hid (leaf_c 97 rfl [([98, 111, 108, 100], [49])] (some ⟨w.heap.size, 0, none⟩) 1 (w.alloc (Obj.cells #[.string ⟨#[98, 111, 108, 100]⟩, .string ⟨#[49]⟩] 47)) (by rw [hpc]; exact hrow))
  have hE := fun (w1 : World) (a1 : Option Addr) (n1 : Nat) (cells : List Value) (hc : cells.length = 4) (hn : NodeC w1 w1.heap.size (.mk true [([98, 111, 108, 100], [49])] [97] []) cells) =>
    Lib.hid (elem_c 112 [] (some ⟨w1.heap.size, 0, none⟩) 1 [.mk true [([98, 111, 108, 100], [49])] [97] []] cells (w1.alloc (Obj.cells cells.toArray 26)) (row_cells 4 1 cells hc (by omega) hn.one (Below.refl _ _)) (by
      unfold KidsC
      exact ⟨cells, [], by simp, NodeC.keep (below_new w1 _) (below_new w1 _).size _ _ hn, by unfold KidsC; rfl⟩))
  have HE := Lib.hid hE
  have HP := fun (w2 : World) (v : Value) (hb : Below w.heap.size w w2) (hv : NodeV w2 w2.heap.size liveN v) => Lib.hid (print_ok liveN v w2 (by decide +kernel) hv live_ok (hT.keep hb hg) (Nat.lt_of_lt_of_le hg hb.size))
  rw [live_print] at HP
  have HPh := Lib.hid HP
  have Hb0 := Lib.hid (below_new w (Obj.cells #[.string ⟨#[98, 111, 108, 100]⟩, .string ⟨#[49]⟩] 47))
  clear hrow hpc hT hE HP
  go_enter Tryd.func6, Tryd.ntmps6
  go_wp2_with fail
  refine HL.out.mono ?_
  rintro e w1 ⟨ap, cp, at_, ct, rfl, hnc, hbel⟩
  have Hb1 := Lib.hid (below_then Hb0.out hbel (Nat.le_refl _))
  have HE1 := HE.out w1 none 0 _ rfl hnc
  clear hbel hnc HL HE
  go_wp2_with fail
  refine HE1.out.mono ?_
  rintro e w2 ⟨g, rfl, hnc, hbel⟩
  have Hb2 := Lib.hid (below_then (Hb1.out.alloc Hb1.out.size _) hbel (Nat.le_refl _))
  have HP1 := HPh.out w2 _ Hb2.out ⟨_, rfl, hnc⟩
  clear hbel hnc HE1 HPh
  go_wp2_with fail
  refine HP1.out.mono ?_
  rintro e w3 ⟨rfl, hbel⟩
  have Hb3 := Lib.hid (below_then Hb2.out hbel (Nat.le_refl _))
  clear hbel HP1
  unfold liveL
  go_wp2_with fail
  go_ret
  exact ⟨rfl, Hb3.out⟩

end Go.Proofs.YtmhgbocejjnoaaaDoor
