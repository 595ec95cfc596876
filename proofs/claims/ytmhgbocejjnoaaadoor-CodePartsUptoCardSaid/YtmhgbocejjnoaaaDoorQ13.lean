/- Parts of the proof, one behind the other: RW7, RW8, RW9, RDJ, RCZ, RFB. -/
import Derived.Test.YtmhgbocejjnoaaaDoorQ12
import Derived.Test.YtmhgbocejjnoaaaDoorQ11
import Derived.Laws.IdiomStrings
import Derived.Test.YtmhgbocejjnoaaaDoorQ9
import Derived.Test.YtmhgbocejjnoaaaDoorQ5
import Derived.Test.YtmhgbocejjnoaaaDoorCards
import Derived.Test.YtmhgbocejjnoaaaDoorTie
import Derived.Test.YtmhgbocejjnoaaaDoorQ3
import Derived.Test.YtmhgbocejjnoaaaDoorQ2
import Derived.ProofKit
import Derived.LaidMore
import Derived.OpenShut
import Derived.ShutString
import Derived.ChangeOld
import Derived.Below
import Derived.Stop.Joined
import Derived.Lib.LaidTab
import Derived.Stop.LaidErr
import Derived.Deep.DeepHandedRow
import Derived.Deep.DeepWitnessRowRef
import Derived.JoinedCond
import Derived.Lay
import Derived.SevenTiedAt
/- Walks: code.Print. -/
namespace Go.Proofs.YtmhgbocejjnoaaaDoor
open Go.RowKit Go.Redl
set_option linter.unusedVariables false

theorem printL_ne (n : NodeD) : printL n ≠ [] := by
  obtain ⟨l, ps, t, ks⟩ := n
  rw [printL]
  cases l <;> simp [quoteL]

set_option maxRecDepth 100000 in
set_option maxHeartbeats 1000000 in
theorem print_no (n : NodeD) (v : Value) (W : World) (hn : n.wt ≤ 1048576) (hv : NodeV W W.heap.size n v) (hE : nodeE n ≠ 0) :
    Calls Tryd.prog 8 #[v] W fun e w' => e = .returned (.tuple #[.string ⟨#[]⟩, .int .i64 (nodeE n)]) ∧ Below W.heap.size W w' := by
  have hv0 := hv
  obtain ⟨l, ps, t, ks⟩ := n
  obtain ⟨ap, cp, at_, ct, ak, ck, css, rfl, -, -, -, -⟩ := hv0.open
  generalize NodeD.mk l ps t ks = n at hv hn hE ⊢
  have hB0 := below_new W (Obj.cells #[.bool l, .slice ap ps.length cp, .slice at_ t.length ct, .slice ak ks.length ck] 26)
  have HS := Lib.hid (ncheck_c n _ W.heap.size _ hn (hv.keep hB0 (Nat.le_refl _)) hB0.size)
  have hne : (nodeE n != 0) = true := by simpa using hE
  clear hv0 hv hB0 hn hE
  go_enter Tryd.func8, Tryd.ntmps8
  go_wp2_with fail
  refine HS.out.mono ?_
  rintro e w1 ⟨rfl, hbel⟩
  have Hb1 := Lib.hid (below_unbox (below_box hbel))
  clear hbel HS
  go_wp2_with fail
  go_ret2
  exact ⟨rfl, Hb1.out⟩

set_option maxRecDepth 100000 in
set_option maxHeartbeats 1000000 in
theorem print_ok (n : NodeD) (v : Value) (W : World) (hn : n.wt ≤ 1048576) (hv : NodeV W W.heap.size n v) (hE : nodeE n = 0) (hT : TabAt W) (hg : 3 < W.heap.size) :
    Calls Tryd.prog 8 #[v] W fun e w' => e = .returned (.tuple #[.string ⟨(printL n).toArray⟩, .int .i64 0]) ∧ Below W.heap.size W w' := by
  have hv0 := hv
  obtain ⟨l, ps, t, ks⟩ := n
  obtain ⟨ap, cp, at_, ct, ak, ck, css, rfl, -, -, -, -⟩ := hv0.open
  generalize NodeD.mk l ps t ks = n at hv hn hE ⊢
  have hB0 := below_new W (Obj.cells #[.bool l, .slice ap ps.length cp, .slice at_ t.length ct, .slice ak ks.length ck] 26)
  have HS := Lib.hid (ncheck_c n _ W.heap.size _ hn (hv.keep hB0 (Nat.le_refl _)) hB0.size)
  rw [hE] at HS
  have HW := fun (w1 : World) (hb : Below W.heap.size W w1) => Lib.hid (write_c w1.heap.size w1.heap.size (Nat.le_refl _) (Nat.lt_of_lt_of_le hg hb.size) _ n _ [] (w1.alloc (Obj.cells #[Value.pointer none, Value.slice none 0 0] 52)) (Nat.le_refl _) hn hE (by simp; omega)
    (hv.keep (hb.alloc hb.size _) hb.size) (by simp) (hT.keep (hb.alloc hb.size _) hg) (Lib.fresh_isBuilder 52 5 w1))
  have Hne := Lib.hid (printL_ne n)
  simp only [List.nil_append] at HW
  generalize printL n = P at HW Hne ⊢
  clear hv0 hv hB0 hn hE hT
  go_enter Tryd.func8, Tryd.ntmps8
  go_wp2_with fail
  refine HS.out.mono ?_
  rintro e w1 ⟨rfl, hbel⟩
  obtain ⟨x0, x1, x2, x3⟩ := box_keep (below_box hbel)
  have Hb1 := Lib.hid (below_unbox (below_box hbel))
  have hsz1 : W.heap.size < w1.heap.size := by have := (below_box hbel).size; simp at this; omega
  have HW1 := HW w1 Hb1.out
  clear hbel HS HW
  go_wp2_with fail
  refine HW1.out.mono ?_
  rintro e w2 ⟨rfl, hbld, hsp⟩
  have HS2 := Lib.hid (string_c w1.heap.size w1.heap.size P w2 hbld.bld Hne.out)
  have Hb2 := Lib.hid ((below_new w1 (Obj.cells #[Value.pointer none, Value.slice none 0 0] 52)).trans hsp.below)
  clear hbld hsp HW1 x0 x1 x2 x3
  go_wp2_with fail
  refine HS2.out.mono ?_
  rintro e w3 ⟨rfl, hbel⟩
  have Hb3 := Lib.hid (Hb1.out.trans ((Hb2.out.trans hbel).mono Hb1.out.size))
  clear hbel HS2
  go_wp2_with fail
  go_ret2
  exact ⟨rfl, Hb3.out⟩

end Go.Proofs.YtmhgbocejjnoaaaDoor
/- Walks: CodePrints' example; CodePrints. -/
namespace Go.Proofs.YtmhgbocejjnoaaaDoor
open Go.RowKit Go.Redl
set_option linter.unusedVariables false

/-- A text of one byte, as runes. -/
theorem conv_one (c : UInt8) (hc : Conv.runesFrom ⟨#[c]⟩ 1 0 #[] = #[.int .i32 c.toNat]) (w : World) : ∃ cap w', (convert 9 23 (.string ⟨#[c]⟩)).run Tryd.prog w = .ok (.slice (some ⟨w.heap.size, 0, none⟩) 1 cap) w' ∧
    Below w.heap.size w w' ∧ RowA w' w'.heap.size 1 (some ⟨w.heap.size, 0, none⟩) 1 cap [.int .i32 c.toNat] := by
  have hsz : (Conv.runesFrom ⟨#[c]⟩ (⟨#[c]⟩ : ByteArray).size 0 #[]) = #[.int .i32 c.toNat] := hc
  have h := run_runes_of_string (P := Tryd.prog) w 9 23 21 ⟨#[c]⟩ Tryd.underlying9 Tryd.underlying23 Tryd.underlying21 (by rw [hsz]; simp)
  rw [hsz] at h
  have h1 : (#[Value.int .i32 c.toNat] : Array Value).size = 1 := rfl
  rw [h1] at h
  have hge := grownCap_ge w 1 0 21
  have hcm := grownCap_le_maxLen w 1 0 21 (by unfold maxLen; omega)
  refine ⟨_, _, h, (Below.refl _ _).drew.alloc (Nat.le_refl _) _, ⟨by simp, hge, hcm, by simp; rfl, (fun h => by cases h), fun _ => ⟨w.heap.size, 0, rfl, by simp, fun j u hj => ?_⟩⟩⟩
  have hg := heap_alloc_new w.drew (Obj.cells (#[Value.int .i32 c.toNat] ++ Array.replicate (grownCap w 1 0 21 - 1) (.int .i32 0)) 21)
  have hd : w.drew.heap.size = w.heap.size := rfl
  rw [hd] at hg
  rw [cell_of_row _ w.heap.size (0 + j) _ _ _ hg]
  have hj0 : j = 0 := by
    cases j with
    | zero => rfl
    | succ j => simp at hj
  subst hj0
  simp at hj
  subst hj
  rw [Array.getElem?_append_left (by simp)]
  rfl
/-- A leaf of one byte. -/
def LeafP (W : World) (ps : List PropD) (c : UInt8) (e : Ending) (w' : World) : Prop :=
  ∃ ap cp at_ ct, e = .returned (.agg #[.bool true, .slice ap ps.length cp, .slice at_ 1 ct, .slice none 0 0]) ∧ NodeC w' w'.heap.size (.mk true ps [(c.toNat : Int)] []) [.bool true, .slice ap ps.length cp, .slice at_ 1 ct, .slice none 0 0] ∧ Below W.heap.size W w'

set_option maxRecDepth 100000 in
set_option maxHeartbeats 1000000 in
theorem leaf_c (c : UInt8) (hc : Conv.runesFrom ⟨#[c]⟩ 1 0 #[] = #[.int .i32 c.toNat]) (ps : List PropD) (ap : Option Addr) (cp : Nat) (W : World) (hp : RowA W W.heap.size 2 ap ps.length cp (propCells ps)) :
    Calls Tryd.prog 16 #[.string ⟨#[c]⟩, .slice ap ps.length cp] W (LeafP W ps c) := by
  obtain ⟨cap, w1, h1, h2, h3⟩ := conv_one c hc (W.alloc (Obj.cells #[Value.bool false, Value.slice none 0 0, Value.slice none 0 0, Value.slice none 0 0] 26))
  have hsz0 : (W.alloc (Obj.cells #[Value.bool false, Value.slice none 0 0, Value.slice none 0 0, Value.slice none 0 0] 26)).heap.size = W.heap.size + 1 := by simp
  have hz := h2.size
  rw [hsz0] at h2 hz h3 h1
  have hblk : w1.heap[W.heap.size]? = some (Obj.cells #[Value.bool false, Value.slice none 0 0, Value.slice none 0 0, Value.slice none 0 0] 26 (0, 0)) := by
    rw [h2.block _ (by omega)]; exact heap_alloc_new W _
  have k0 : w1.cell? ⟨W.heap.size, 0, none⟩ = some (.bool false) := by rw [cell_of_row _ _ _ _ _ _ hblk]; rfl
  have k1 : w1.cell? ⟨W.heap.size, 1, none⟩ = some (.slice none 0 0) := by rw [cell_of_row _ _ _ _ _ _ hblk]; rfl
  have k2 : w1.cell? ⟨W.heap.size, 2, none⟩ = some (.slice none 0 0) := by rw [cell_of_row _ _ _ _ _ _ hblk]; rfl
  have k3 : w1.cell? ⟨W.heap.size, 3, none⟩ = some (.slice none 0 0) := by rw [cell_of_row _ _ _ _ _ _ hblk]; rfl
  have f0 : ∀ i, w1.frozen? ⟨W.heap.size, i, none⟩ = false := fun i => by simp [World.frozen?, hblk]
  have Hp := Lib.hid hp; have H2 := Lib.hid h2; have H3 := Lib.hid h3; have Hblk := Lib.hid hblk
  clear hp h2 h3 hsz0 hblk hc
  go_enter Tryd.func16, Tryd.ntmps16
  go_wp2_with fail
  have hz2 : W.heap.size + 1 < w1.heap.size ∨ True := .inr trivial
  refine bodyPost_ret (v := .agg #[.bool true, .slice ap ps.length cp, .slice (some ⟨W.heap.size + 1, 0, none⟩) 1 cap, .slice none 0 0]) (by simp [results, Tryd.results16, go_sem, k0, k1, k2, k3]) rfl ⟨ap, cp, _, cap, rfl, ?_, ?_⟩
  · have hb : Below W.heap.size W w1 := below_unbox H2.out
    have r1 : RowA w1 w1.heap.size 2 ap ps.length cp (propCells ps) := Hp.out.keep hb hb.size
    have hn1 : ∀ b off, ap = some ⟨b, off, none⟩ → propCells ps ≠ [] → b < W.heap.size := fun b off h hne => by
      obtain ⟨b', off', h', hlt, -⟩ := Hp.out.some_ hne
      rw [h] at h'
      cases h'; exact hlt
    unfold NodeC
    refine ⟨ap, cp, _, cap, none, 0, [], rfl, ?_, ?_, ?_, RowA.empty _ _ _, by unfold KidsC; rfl⟩
    · have hlen := propCells_len ps
      by_cases hpe : propCells ps = []
      · have h0 := Hp.out
        exact ⟨h0.len, h0.le, h0.max, h0.one, h0.nil, fun h => absurd hpe h⟩
      · have r2 := (((r1.setCell ⟨W.heap.size, 0, none⟩ (.bool true) (fun b off h => by have := hn1 b off h hpe; simp; omega)).setCell ⟨W.heap.size, 1, none⟩ (.slice ap ps.length cp) (fun b off h => by have := hn1 b off h hpe; simp; omega)).setCell ⟨W.heap.size, 2, none⟩ (.slice (some ⟨W.heap.size + 1, 0, none⟩) 1 cap) (fun b off h => by have := hn1 b off h hpe; simp; omega)).setCell ⟨W.heap.size, 3, none⟩ (.slice none 0 0) (fun b off h => by have := hn1 b off h hpe; simp; omega)
        simpa [World.setCell] using r2
    · have r2 := (((H3.out.setCell ⟨W.heap.size, 0, none⟩ (.bool true) (fun b off h => by cases h; simp)).setCell ⟨W.heap.size, 1, none⟩ (.slice ap ps.length cp) (fun b off h => by cases h; simp)).setCell ⟨W.heap.size, 2, none⟩ (.slice (some ⟨W.heap.size + 1, 0, none⟩) 1 cap) (fun b off h => by cases h; simp)).setCell ⟨W.heap.size, 3, none⟩ (.slice none 0 0) (fun b off h => by cases h; simp)
      simpa [World.setCell] using r2
    · intro z hz
      simp at hz
      subst hz
      have := c.toNat_lt
      have h1 : IntKind.i32.min = -2147483648 := by decide
      have h2 : IntKind.i32.max = 2147483647 := by decide
      simp only [Lit.wf, Bool.and_eq_true, decide_eq_true_eq, h1, h2]
      omega
  · exact ((((below_unbox H2.out).setCell (p := ⟨W.heap.size, 0, none⟩) (Nat.le_refl _) _).setCell (p := ⟨W.heap.size, 1, none⟩) (Nat.le_refl _) _).setCell (p := ⟨W.heap.size, 2, none⟩) (Nat.le_refl _) _).setCell (p := ⟨W.heap.size, 3, none⟩) (Nat.le_refl _) _

end Go.Proofs.YtmhgbocejjnoaaaDoor
/- Walks: CodePrints' example; CodePrints. -/
namespace Go.Proofs.YtmhgbocejjnoaaaDoor
open Go.RowKit Go.Redl
set_option linter.unusedVariables false

/-- A literal in a new block, behind which more memory lies. -/
theorem row_cells {w w' : World} {E : TypeId} (sz n : Nat) (cs : List Value) (hl : cs.length = n * sz) (hn : n ≤ 1000000) (h1 : ∀ u ∈ cs, u.oneCell' = true) (hb : Below (w.heap.size + 1) (w.alloc (Obj.cells cs.toArray E)) w') : RowA w' w'.heap.size sz (some ⟨w.heap.size, 0, none⟩) n n cs := by
  refine ⟨hl, Nat.le_refl _, by unfold maxLen; omega, h1, (fun h => by cases h), fun _ => ⟨w.heap.size, 0, rfl, ?_, fun j u hj => ?_⟩⟩
  · have := hb.size; simp at this; omega
  · have hg : w'.heap[w.heap.size]? = some (Obj.cells cs.toArray E (0, 0)) := by
      rw [hb.block _ (by omega)]; exact heap_alloc_new w _
    rw [cell_of_row _ w.heap.size (0 + j) _ E (0, 0) hg]
    simpa using hj

/-- "type" -/
def typeL : List UInt8 := [116, 121, 112, 101]
def ElemP (W : World) (s : List UInt8) (a : Option Addr) (c : Nat) (ks : List NodeD) (e : Ending) (w' : World) : Prop :=
  ∃ g, e = .returned (.agg #[.bool false, .slice (some ⟨g, 0, none⟩) 1 1, .slice none 0 0, .slice a ks.length c]) ∧ NodeC w' w'.heap.size (.mk false [(typeL, s)] [] ks) [.bool false, .slice (some ⟨g, 0, none⟩) 1 1, .slice none 0 0, .slice a ks.length c] ∧ Below W.heap.size W w'

set_option maxRecDepth 100000 in
set_option maxHeartbeats 1000000 in
theorem elem_c (x : UInt8) (r : List UInt8) (a : Option Addr) (c : Nat) (ks : List NodeD) (css : List Value) (W : World) (hr : RowA W W.heap.size 4 a ks.length c css) (hk : KidsC W W.heap.size ks css) :
    Calls Tryd.prog 15 #[.string ⟨(x :: r).toArray⟩, .slice a ks.length c] W (ElemP W (x :: r) a c ks) := by
  have hne : ((⟨(x :: r).toArray⟩ : ByteArray).toList.isEmpty) = false := by rw [ByteArray.toList_mk]; rfl
  have hne2 : (!(⟨(x :: r).toArray⟩ : ByteArray).toList.isEmpty) = true := by rw [ByteArray.toList_mk]; rfl
  have Hpc : Hid (propCells [(typeL, x :: r)] = [.string ⟨#[116, 121, 112, 101]⟩, .string ⟨(x :: r).toArray⟩]) := rfl
  obtain ⟨S, hS⟩ : ∃ S, S = (⟨(x :: r).toArray⟩ : ByteArray) := ⟨_, rfl⟩
  rw [← hS] at hne hne2 Hpc ⊢
  have Hr := Lib.hid hr; have Hk := Lib.hid hk
  clear hr hk hS
  go_enter Tryd.func15, Tryd.ntmps15
  go_wp2_with fail
  have hb1 := fun (o1 o2 : Obj) => Lib.hid (below_three W o1 o2 (Obj.cells #[.string ⟨#[116, 121, 112, 101]⟩, .string S] 47))
  refine bodyPost_ret (v := .agg #[.bool false, .slice (some ⟨W.heap.size + 1 + 1, 0, none⟩) 1 1, .slice none 0 0, .slice a ks.length c]) (by simp [results, Tryd.results15, go_sem]) rfl ⟨W.heap.size + 1 + 1, rfl, ?_, (hb1 _ _).out⟩
  unfold NodeC
  refine ⟨some ⟨W.heap.size + 1 + 1, 0, none⟩, 1, none, 0, a, c, css, rfl, ?_, RowA.empty _ _ _, by simp, Hr.out.keep (hb1 _ _).out (hb1 _ _).out.size, KidsC.keep (hb1 _ _).out (hb1 _ _).out.size ks css Hk.out⟩
  rw [Hpc.out]
  have h := row_cells (w := (W.alloc (Obj.cells #[Value.bool false, Value.slice (some ⟨W.heap.size + 1 + 1, 0, none⟩) 1 1, Value.slice none 0 0, Value.slice a ks.length c] 26)).alloc (Obj.cells #[Value.bool false, Value.slice (some ⟨W.heap.size + 1 + 1, 0, none⟩) 1 1, Value.slice none 0 0, Value.slice a ks.length c] 26)) (E := 47) 2 1 [.string ⟨#[116, 121, 112, 101]⟩, .string S] rfl (by omega) (by intro u hu; simp at hu; rcases hu with rfl | rfl <;> rfl) (Below.refl _ _)
  simpa using h

def liveN : NodeD := .mk false [(typeL, [112])] [] [.mk true [([98, 111, 108, 100], [49])] [97] []]
def liveL : List UInt8 := [123, 116, 121, 112, 101, 58, 112, 125, 91, 123, 98, 111, 108, 100, 58, 49, 125, 34, 97, 34, 93]
theorem live_print : printL liveN = liveL := by decide +kernel
theorem live_ok : nodeE liveN = 0 := by decide +kernel

set_option maxRecDepth 100000 in
set_option maxHeartbeats 1000000 in
theorem live_c (w : World) (hT : TabAt w) (hg : 3 < w.heap.size) :
    Calls Tryd.prog 6 #[] w fun e w' => e = .returned (.bool true) ∧ Below w.heap.size w w' := by
  have hpc : propCells [([98, 111, 108, 100], [49])] = [.string ⟨#[98, 111, 108, 100]⟩, .string ⟨#[49]⟩] := rfl
  have hrow := row_cells (w := w) (E := 47) 2 1 (propCells [([98, 111, 108, 100], [49])]) rfl (by omega) (propCells_one _) (Below.refl _ _)
  rw [hpc] at hrow
  have HL := Lib.hid (leaf_c 97 rfl [([98, 111, 108, 100], [49])] (some ⟨w.heap.size, 0, none⟩) 1 (w.alloc (Obj.cells #[.string ⟨#[98, 111, 108, 100]⟩, .string ⟨#[49]⟩] 47)) (by rw [hpc]; exact hrow))
  have hE := fun (w1 : World) (a1 : Option Addr) (n1 : Nat) (cells : List Value) (hc : cells.length = 4) (hn : NodeC w1 w1.heap.size (.mk true [([98, 111, 108, 100], [49])] [97] []) cells) =>
    Lib.hid (elem_c 112 [] (some ⟨w1.heap.size, 0, none⟩) 1 [.mk true [([98, 111, 108, 100], [49])] [97] []] cells (w1.alloc (Obj.cells cells.toArray 26)) (row_cells 4 1 cells hc (by omega) hn.one (Below.refl _ _)) (by
      unfold KidsC
      exact ⟨cells, [], by simp, NodeC.keep (below_new w1 _) (below_new w1 _).size _ _ hn, by unfold KidsC; rfl⟩))
  have HE := Lib.hid hE
  have HP := fun (w2 : World) (v : Value) (hb : Below w.heap.size w w2) (hv : NodeV w2 w2.heap.size liveN v) => Lib.hid (print_ok liveN v w2 (by decide +kernel) hv live_ok (hT.keep hb hg) (Nat.lt_of_lt_of_le hg hb.size))
  rw [live_print] at HP
  have HPh := Lib.hid HP
  have Hb0 := Lib.hid (below_new w (Obj.cells #[.string ⟨#[98, 111, 108, 100]⟩, .string ⟨#[49]⟩] 47))
  clear hrow hpc hT hE HP
  go_enter Tryd.func6, Tryd.ntmps6
  go_wp2_with fail
  refine HL.out.mono ?_
  rintro e w1 ⟨ap, cp, at_, ct, rfl, hnc, hbel⟩
  have Hb1 := Lib.hid (below_then Hb0.out hbel (Nat.le_refl _))
  have HE1 := HE.out w1 none 0 _ rfl hnc
  clear hbel hnc HL HE
  go_wp2_with fail
  refine HE1.out.mono ?_
  rintro e w2 ⟨g, rfl, hnc, hbel⟩
  have Hb2 := Lib.hid (below_then (Hb1.out.alloc Hb1.out.size _) hbel (Nat.le_refl _))
  have HP1 := HPh.out w2 _ Hb2.out ⟨_, rfl, hnc⟩
  clear hbel hnc HE1 HPh
  go_wp2_with fail
  refine HP1.out.mono ?_
  rintro e w3 ⟨rfl, hbel⟩
  have Hb3 := Lib.hid (below_then Hb2.out hbel (Nat.le_refl _))
  clear hbel HP1
  unfold liveL
  go_wp2_with fail
  go_ret
  exact ⟨rfl, Hb3.out⟩

end Go.Proofs.YtmhgbocejjnoaaaDoor
/- Plain laws: a tree that is small and may be is written in few bytes. -/
namespace Go.Proofs.YtmhgbocejjnoaaaDoor
open Go.RowKit Go.Redl
set_option linter.unusedVariables false

theorem propsGo_wt : ∀ (ps : List PropD) (last : List UInt8), propsGo last ps = 0 → propsWt ps ≤ 50 * ps.length
  | [], last, _ => by simp [propsWt]
  | p :: qs, last, h => by
    simp only [propsGo] at h
    split at h
    · rename_i hk
      simp only [Bool.and_eq_true] at hk
      split at h
      · cases h
      · have ih := propsGo_wt qs p.1 h
        have h1 := (keyB_low hk.1).2.1
        have h2 := (valB_c hk.2).1
        simp only [propsWt, List.length_cons]; omega
    · cases h
mutual
theorem few_len : ∀ (n : NodeD) (m : Int), nodeE n = 0 → 0 ≤ leftN n m → ((printL n).length : Int) ≤ 60 * (m - leftN n m)
  | .mk l ps t ks, m, h, hm => by
    obtain ⟨ho, hk⟩ := nodeE_ok h
    obtain ⟨hp, ht, hl1, hl2⟩ := ownE_ok ho
    have hw := propsGo_wt ps [] (propsE_ok hp).2
    have h2 := propsL_len ps
    have h3 := quoteL_len t
    unfold leftN at hm ⊢
    split at hm
    · exact absurd hm (by decide)
    · rename_i hc
      rw [if_neg hc]
      have ih := few_lenK ks _ hk hm
      have hpq : (0 : Int) ≤ (propsQ ps : Nat) := by omega
      simp only [printL, List.length_append]
      split
      · omega
      · simp only [List.length_cons, List.length_append, List.length_nil]; omega
theorem few_lenK : ∀ (ks : List NodeD) (m : Int), kidsE ks = 0 → 0 ≤ leftK ks m → ((printK ks).length : Int) ≤ 60 * (m - leftK ks m)
  | [], m, h, hm => by simp [printK, leftK]
  | k :: ks, m, h, hm => by
    obtain ⟨h1, h2⟩ := kidsE_ok h
    unfold leftK at hm ⊢
    split at hm
    · exact absurd hm (by decide)
    · rename_i hc
      rw [if_neg hc]
      have a := few_len k m h1 (by omega)
      have b := few_lenK ks _ h2 hm
      simp only [printK, List.length_append]; omega
end

end Go.Proofs.YtmhgbocejjnoaaaDoor
/- Walk: CodeParts. -/
namespace Go.Proofs.YtmhgbocejjnoaaaDoor
open Go.RowKit Go.Redl
set_option linter.unusedVariables false

theorem PathsQ.at_ {w : World} {ok : Nat → Prop} : ∀ {l : List (List Int)} {cs : List Value}, PathsQ w ok l cs → ∀ (k : Nat) (hk : k < l.length), ∃ a c, cs[k]? = some (.slice a l[k].length c) ∧ RowQ w ok 1 a l[k].length c (l[k].map (Value.int .i64))
  | [], cs, h, k, hk => absurd hk (by simp)
  | zs :: l, cs, h, 0, hk => by
    obtain ⟨a, cap, cs', rfl, h2, h3⟩ := h
    exact ⟨a, cap, rfl, h2⟩
  | zs :: l, cs, h, k + 1, hk => by
    obtain ⟨a, cap, cs', rfl, h2, h3⟩ := h
    obtain ⟨b, c, h4, h5⟩ := PathsQ.at_ h3 k (by simpa using hk)
    exact ⟨b, c, by simpa using h4, by simpa using h5⟩

set_option maxRecDepth 100000 in
set_option maxHeartbeats 4000000 in
theorem parts_walk (n : NodeD) (v : Value) (w : World) (hn : n.wt ≤ 1048576) (hv : NodeV w w.heap.size n v) (hT : TabAt w) (hg : 3 < w.heap.size) :
    Calls Tryd.prog 4 #[v] w fun e w' => e = .returned (.bool true) ∧ Below w.heap.size w w' := by
  have hv0 := hv
  obtain ⟨l, ps, t, ks⟩ := n
  obtain ⟨ap, cp, at_, ct, ak, ck, css, rfl, -, -, -, -⟩ := hv0.open
  generalize NodeD.mk l ps t ks = n at hv hn ⊢
  have hB0 := below_new w (Obj.cells #[.bool l, .slice ap ps.length cp, .slice at_ t.length ct, .slice ak ks.length ck] 26)
  have hA0 := NodeAt.fresh w (.bool l) (.slice ap ps.length cp) (.slice at_ t.length ct) (.slice ak ks.length ck)
  have HL := Lib.hid (live_c _ (hT.keep hB0 hg) (Nat.lt_of_lt_of_le hg hB0.size))
  have HF := fun (w1 : World) (hb : Below w.heap.size w w1) => Lib.hid (rfew_c n _ 120 w1 (by omega) (by omega) (by omega) (hv.keep hb hb.size))
  have HB0 := Lib.hid hB0; have HA0 := Lib.hid hA0
  cases hfew : fewB n 120 with
  | false =>
    rw [hfew] at HF
    clear hv0 hv hB0 hA0 hn hT hfew
    go_enter Tryd.func4, Tryd.ntmps4
    go_wp2_with fail
    refine HL.out.mono ?_
    rintro e w1 ⟨rfl, hbel⟩
    have hA1 := HA0.out.keep (hbel.mono (by simp))
    obtain ⟨x0, x1, x2, x3, -, -⟩ := hA1.facts
    have Hb1 := Lib.hid (HB0.out.trans (hbel.mono HB0.out.size))
    have HF1 := HF _ Hb1.out
    clear hbel HL HF hA1
    go_wp2_with fail
    refine HF1.out.mono ?_
    rintro e w2 ⟨rfl, hbel⟩
    have Hb2 := Lib.hid (Hb1.out.trans (hbel.mono Hb1.out.size))
    clear hbel HF1 x0 x1 x2 x3
    go_wp2_with fail
    go_ret
    exact ⟨rfl, Hb2.out⟩
  | true =>
    rw [hfew] at HF
    by_cases hE : nodeE n = 0
    · have hfl := few_len n 120 hE (by unfold fewB at hfew; simpa using hfew)
      have hfn : 0 ≤ leftN n 120 := by unfold fewB at hfew; simpa using hfew
      have hle : (printL n).length ≤ 7200 := by omega
      have HP := fun (w1 : World) (hb : Below w.heap.size w w1) => Lib.hid (print_ok n _ w1 hn (hv.keep hb hb.size) hE (hT.keep hb hg) (Nat.lt_of_lt_of_le hg hb.size))
      have HPs := fun (w1 : World) (hb : Below w.heap.size w w1) => Lib.hid (all_c n _ w1 (by omega) (hv.keep hb hb.size))
      have HG := Lib.hid (fun (p : List Int) (pa : Option Addr) (pc : Nat) (w1 : World) (hb : Below w.heap.size w w1) => get_c n p _ pa pc w1 (by omega) (hv.keep hb hb.size))
      have HM := Lib.hid (fun (m : NodeD) (v : Value) (w1 : World) (hb : Below w.heap.size w w1) (hm : m.wt ≤ n.wt) (h0 : nodeE m = 0) (hv : NodeV w1 w1.heap.size m v) => print_ok m v w1 (by omega) hv h0 (hT.keep hb hg) (Nat.lt_of_lt_of_le hg hb.size))
      have HQ := Lib.hid (fun (zs : List Int) (v : Value) (w1 : World) (hb : Below w.heap.size w w1) (h0 : checkE zs = 0) (hl : zs.length ≤ n.wt) (hv : Ints .i32 w1 w1.heap.size v zs) => quote_ok v _ zs w1 hv (Nat.le_refl _) h0 (by omega) (hT.keep hb hg) (Nat.lt_of_lt_of_le hg hb.size))
      have hxl := trailN_len n [] 0
      have HX := Lib.hid (fun (k : Nat) (hk : k < (trailN n [] 0).length) => part_at hE (List.getElem_mem hk))
      have HXr := Lib.hid (fun (k : Nat) (hk : k < (trailN n [] 0).length) => rise_from hE hk)
      have hmap := trailN_paths n [] 0
      rw [← hmap] at HPs
      obtain ⟨X, hX⟩ : ∃ X, X = trailN n [] 0 := ⟨_, rfl⟩
      rw [← hX] at HPs hxl HX HXr
      have hsz : (⟨(printL n).toArray⟩ : ByteArray).size = (printL n).length := rfl
      obtain ⟨S, hS⟩ : ∃ S, S = (⟨(printL n).toArray⟩ : ByteArray) := ⟨_, rfl⟩
      rw [← hS] at HP hsz HX
      obtain ⟨L, hL⟩ : ∃ L, L = (printL n).length := ⟨_, rfl⟩
      rw [← hL] at hsz HX hle
      have hwx : n.wt ≤ 1048576 := hn
      clear hv0 hv hB0 hA0 hn hT hfew hE hS hL hfl hfn hmap hX
      go_enter Tryd.func4, Tryd.ntmps4
      go_wp2_with fail
      refine HL.out.mono ?_
      rintro e w1 ⟨rfl, hbel⟩
      have HA1 := Lib.hid (HA0.out.keep (hbel.mono (by simp)))
      obtain ⟨x0, x1, x2, x3, -, xl⟩ := HA1.out.facts
      have Hb1 := Lib.hid (HB0.out.trans (hbel.mono HB0.out.size))
      have HF1 := HF _ Hb1.out
      clear hbel HL HF HA0
      go_wp2_with fail
      refine HF1.out.mono ?_
      rintro e w2 ⟨rfl, hbel⟩
      have Hb2 := Lib.hid (Hb1.out.trans (hbel.mono Hb1.out.size))
      have HA2 := Lib.hid (HA1.out.keep (hbel.mono (by omega)))
      have HP1 := HP _ Hb2.out
      clear hbel HF1 x0 x1 x2 x3 xl HA1 HP
      obtain ⟨x0, x1, x2, x3, -, xl⟩ := HA2.out.facts
      go_wp2_with fail
      refine HP1.out.mono ?_
      rintro e w3 ⟨rfl, hbel⟩
      have Hb3 := Lib.hid (Hb2.out.trans (hbel.mono Hb2.out.size))
      have HA3 := Lib.hid (HA2.out.keep (hbel.mono (by omega)))
      have HPs1 := HPs _ Hb3.out
      clear hbel HP1 x0 x1 x2 x3 xl HA2 HPs
      obtain ⟨x0, x1, x2, x3, -, xl⟩ := HA3.out.facts
      go_wp2_with fail
      refine HPs1.out.mono ?_
      rintro e w4 ⟨ra, rc, rcs, rfl, hrow, hpaths, hbel⟩
      have Hb4 := Lib.hid (Hb3.out.trans (hbel.mono Hb3.out.size))
      have HA4 := Lib.hid (HA3.out.keep (hbel.mono (by omega)))
      have hml : (X.map (·.1)).length = X.length := by simp
      rw [hml] at hrow ⊢
      have Hrow := Lib.hid hrow.row; have Hpaths := Lib.hid hpaths
      have hs4 : w.heap.size < w4.heap.size := HA4.out.facts.2.2.2.2.2
      have hxl2 : X.length ≤ 1048576 := by omega
      clear hbel HPs1 x0 x1 x2 x3 xl HA3 hrow hpaths hml
      go_wp2_with fail
      go_loopg [5, 32] X.length (fun g f i wr => ∃ (k fr : Nat), f = .int .i64 fr ∧ i = .int .i64 k ∧ k + g = X.length ∧ fr ≤ L ∧ (∀ x ∈ X.drop k, fr ≤ x.2.2) ∧ Below w4.heap.size w4 wr)
      case atStart => exact ⟨0, 0, rfl, rfl, by omega, by omega, by intro x _; omega, Below.refl _ _⟩
      case round =>
        obtain ⟨k, fr, rfl, rfl, hg2, hfl, hfr, hbr⟩ := hrel
        by_cases hlt : k < X.length
        · have hlti : (k : Int) < X.length := by omega
          obtain ⟨pa, pc, hpc, hprow⟩ := (Hpaths.out.keep (ok' := fun _ => True) hbr.size (fun b _ hb => hbr.block b hb) (fun _ _ _ => trivial)).at_ k (by simpa using hlt)
          simp only [List.getElem_map] at hpc hprow
          have hrr := Hrow.out.keep hbr (Nat.le_refl _)
          obtain ⟨rb, ro, hrb, -, hrcell⟩ := hrr.some_ (by rintro rfl; simp at hpc)
          subst hrb
          have hcell := hrcell k _ hpc
          have hx := HX.out k hlt
          have hrise := HXr.out k hlt
          have hfx : fr ≤ X[k].2.2 := hfr X[k] (by rw [List.drop_eq_getElem_cons hlt]; exact List.mem_cons_self)
          have Hrise := Lib.hid hrise
          clear hfr hpc hrcell hrr hrise
          generalize X[k] = x at hcell hprow hx hfx Hrise
          obtain ⟨p, m, pos⟩ := x
          obtain ⟨hat, hmE, hpl, hex⟩ := hx
          simp only at hcell hprow hat hmE hpl hex hfx Hrise
          have hmw := atN_wt p n m hat
          have Hbr := Lib.hid (Hb4.out.trans (hbr.mono (by omega)))
          have HAr := Lib.hid (HA4.out.keep (hbr.mono (by omega)))
          have Hbr4 := Lib.hid hbr
          have HG1 := Lib.hid (HG.out p pa pc wr Hbr.out hprow.row)
          rw [hat] at HG1
          clear hat hbr hprow
          obtain ⟨lm, pm, tm, km⟩ := m
          have htm : tm.length ≤ n.wt := by simp only [NodeD.wt] at hmw; omega
          have Hleaf : Hid (lm = true → checkE tm = 0 ∧ (quoteL tm).length ≤ (printL (.mk lm pm tm km)).length ∧ (⟨(printL (.mk lm pm tm km)).toArray⟩ : ByteArray).extract ((printL (.mk lm pm tm km)).length - (quoteL tm).length) (printL (.mk lm pm tm km)).length = ⟨(quoteL tm).toArray⟩) := by
            intro h; subst h; exact leaf_at hmE
          have HM1 := Lib.hid (fun (v : Value) (w1 : World) (hb : Below w.heap.size w w1) (hv : NodeV w1 w1.heap.size (.mk lm pm tm km) v) => HM.out _ v w1 hb hmw hmE hv)
          have hne := printL_ne (.mk lm pm tm km)
          have hTs : (⟨(printL (.mk lm pm tm km)).toArray⟩ : ByteArray).size = (printL (.mk lm pm tm km)).length := rfl
          have hTe : (⟨(printL (.mk lm pm tm km)).toArray⟩ : ByteArray).toList.isEmpty = false := by
            rw [ByteArray.toList_mk]
            cases hp : printL (.mk lm pm tm km) with
            | nil => exact absurd hp hne
            | cons x r => rfl
          obtain ⟨T, hT'⟩ : ∃ T, T = (⟨(printL (.mk lm pm tm km)).toArray⟩ : ByteArray) := ⟨_, rfl⟩
          rw [← hT'] at HM1 hTs hTe hex Hleaf
          obtain ⟨LT, hLT⟩ : ∃ LT, LT = (printL (.mk lm pm tm km)).length := ⟨_, rfl⟩
          rw [← hLT] at hTs hex Hleaf hpl
          obtain ⟨x0, x1, x2, x3, -, xl⟩ := HAr.out.facts
          clear hT' hLT hne hmE hmw
          go_wp2_with fail
          refine HG1.out.mono ?_
          rintro e w5 ⟨csm, rfl, hnode, hbel⟩
          have hnv : NodeV w5 w5.heap.size (.mk lm pm tm km) (.agg csm.toArray) := ⟨csm, rfl, NodeQ.node _ _ hnode⟩
          obtain ⟨mp, mpc, mt, mtc, mk, mkc, mcs, hcs, -, hmt, -, -⟩ := hnv.open
          injection hcs with hcs
          have hcs2 : csm = [.bool lm, .slice mp pm.length mpc, .slice mt tm.length mtc, .slice mk km.length mkc] := by simpa using congrArg Array.toList hcs
          subst hcs2
          have Hb5 := Lib.hid (Hbr.out.trans (hbel.mono Hbr.out.size))
          have hb6 := (Below.refl w5.heap.size w5).alloc (Nat.le_refl _) (Obj.cells #[.bool lm, .slice mp pm.length mpc, .slice mt tm.length mtc, .slice mk km.length mkc] 26)
          have Hb6 := Lib.hid (Hb5.out.trans (hb6.mono Hb5.out.size))
          have HM2 := Lib.hid (HM1.out _ _ Hb6.out (hnv.keep hb6 hb6.size))
          have HA6 := Lib.hid (NodeAt.fresh w5 (.bool lm) (.slice mp pm.length mpc) (.slice mt tm.length mtc) (.slice mk km.length mkc))
          have Hmt := Lib.hid (hmt.keep hb6 (Nat.le_refl _))
          have Hw6 := Lib.hid (Hbr4.out.trans ((hbel.trans (hb6.mono hbel.size)).mono Hbr4.out.size))
          clear hnode hbel hnv hcs hb6 HG1 hmt x0 x1 x2 x3 xl HM1 Hbr Hb5 Hbr4
          go_wp2_with fail
          refine HM2.out.mono ?_
          rintro e w7 ⟨rfl, hbel⟩
          have Hb7 := Lib.hid (Hb6.out.trans (hbel.mono Hb6.out.size))
          have HA7 := Lib.hid (HA6.out.keep (hbel.mono (by simp)))
          have Hmt7 := Lib.hid (Hmt.out.keep (hbel.mono (by simp)) (show w5.heap.size ≤ w7.heap.size by have := hbel.size; simp at this; omega))
          have Hw7 := Lib.hid (Hw6.out.trans (hbel.mono Hw6.out.size))
          obtain ⟨x0, x1, x2, x3, -, xl⟩ := HA7.out.facts
          clear hbel HM2 HA6 Hmt Hb6 Hw6
          go_upto_if 58 with fail
          go_cut [12, 13] (fun q h wx => Below w7.heap.size w7 wx)
          case first =>
            cases lm with
            | false =>
              go_wp2_with fail
              go_meet
              case rel => exact Below.refl _ _
            | true =>
              obtain ⟨hck, hql, hqe⟩ := Hleaf.out rfl
              have HQ1 := Lib.hid (HQ.out tm _ w7 Hb7.out hck htm Hmt7.out)
              have hQs : (⟨(quoteL tm).toArray⟩ : ByteArray).size = (quoteL tm).length := rfl
              obtain ⟨Q, hQ'⟩ : ∃ Q, Q = (⟨(quoteL tm).toArray⟩ : ByteArray) := ⟨_, rfl⟩
              rw [← hQ'] at HQ1 hQs hqe
              obtain ⟨LQ, hLQ⟩ : ∃ LQ, LQ = (quoteL tm).length := ⟨_, rfl⟩
              rw [← hLQ] at hQs hqe hql
              obtain ⟨d, rfl⟩ : ∃ d, LT = d + LQ := ⟨LT - LQ, by omega⟩
              rw [Nat.add_sub_cancel] at hqe
              clear hQ' hLQ hck htm Hleaf hex
              go_wp2_with fail
              refine HQ1.out.mono ?_
              rintro e w8 ⟨rfl, hbel⟩
              have Hbel := Lib.hid hbel
              clear hbel HQ1 x0 x1 x2 x3 xl
              go_wp2_with fail
              go_meet
              case rel => exact Hbel.out
          case rest =>
            have Hwc := Lib.hid (Hw7.out.trans (hcut.mono Hw7.out.size))
            clear hcut x0 x1 x2 x3 xl HA7 Hmt7 Hb7 Hw7 Hleaf
            go_wp2_with fail
            go_loopg [14] (pos - fr) (fun g a w2 => ∃ at_ : Nat, a = .int .i64 at_ ∧ at_ + g = pos ∧ w2 = wc)
            case atStart => exact ⟨fr, rfl, by omega, rfl⟩
            case round =>
              obtain ⟨a, rfl, hga, rfl⟩ := hrel
              by_cases hm : S.extract a (a + LT) = T
              · go_wp2_with fail
                go_roundg (X.length - (k + 1))
                case measure => omega
                case rel => exact ⟨k + 1, a, rfl, by go_num, by omega, by omega, fun y hy => Nat.le_trans (by omega) (Hrise.out y hy), Hwc.out⟩
              · have hlt2 : a < pos := by
                  rcases Nat.lt_or_ge a pos with h | h
                  · exact h
                  · obtain rfl : a = pos := by omega
                    exact absurd hex hm
                have hmf : ((S.extract a (a + LT)).toList == T.toList) = false := by
                  rw [beq_eq_false_iff_ne]
                  intro e
                  rw [ByteArray.toList_eq, ByteArray.toList_eq] at e
                  exact hm (ByteArray.ext (Array.ext' e))
                clear hm
                go_wp2_with fail
                go_roundg (gk - 1)
                case measure => omega
                case rel => exact ⟨a + 1, by go_num, by omega, rfl⟩
        · obtain rfl : k = X.length := by omega
          have Hbr := Lib.hid (Hb4.out.trans (hbr.mono (by omega)))
          clear hfr hbr
          go_wp2_with fail
          go_ret
          exact ⟨rfl, Hbr.out⟩
    · have HP := fun (w1 : World) (hb : Below w.heap.size w w1) => Lib.hid (print_no n _ w1 hn (hv.keep hb hb.size) hE)
      have hx0 : (nodeE n == 0) = false := by simpa using hE
      have hx1 : (nodeE n != 0) = true := by simpa using hE
      generalize nodeE n = x at HP hx0 hx1
      clear hv0 hv hB0 hA0 hn hT hfew hE
      go_enter Tryd.func4, Tryd.ntmps4
      go_wp2_with fail
      refine HL.out.mono ?_
      rintro e w1 ⟨rfl, hbel⟩
      have HA1 := Lib.hid (HA0.out.keep (hbel.mono (by simp)))
      obtain ⟨x0, x1, x2, x3, -, xl⟩ := HA1.out.facts
      have Hb1 := Lib.hid (HB0.out.trans (hbel.mono HB0.out.size))
      have HF1 := HF _ Hb1.out
      clear hbel HL HF HA0
      go_wp2_with fail
      refine HF1.out.mono ?_
      rintro e w2 ⟨rfl, hbel⟩
      have Hb2 := Lib.hid (Hb1.out.trans (hbel.mono Hb1.out.size))
      have HA2 := Lib.hid (HA1.out.keep (hbel.mono (by omega)))
      have HP1 := HP _ Hb2.out
      clear hbel HF1 x0 x1 x2 x3 xl HA1 HP
      obtain ⟨x0, x1, x2, x3, -, xl⟩ := HA2.out.facts
      go_wp2_with fail
      refine HP1.out.mono ?_
      rintro e w3 ⟨rfl, hbel⟩
      have Hb3 := Lib.hid (Hb2.out.trans (hbel.mono Hb2.out.size))
      clear hbel HP1 x0 x1 x2 x3 xl
      go_wp2_with fail
      go_ret
      exact ⟨ret_bool (by simp), Hb3.out⟩

end Go.Proofs.YtmhgbocejjnoaaaDoor
/- The frame of the Upto laws at this seat. -/
namespace Go.Proofs.YtmhgbocejjnoaaaDoor
open Go.ChangeShapes Go.WideShapes Go.ChangeAt Go.WideMaps Go.WideElems Go.RowKit Go.Redl
set_option linter.unusedVariables false

theorem own : ownKnob Tryd.prog.godebug = none := by kernel_rfl
theorem laidOut : laidOutB Tryd.prog = true := by kernel_rfl

def dB64 : List Int := [0, 1, 56, 2, 57, 49, 28, 3, 61, 58, 42, 50, 38, 29, 17, 4, 62, 47, 59, 36, 45, 43, 51, 22, 53, 39, 33, 30, 24, 18, 12, 5, 63, 55, 48, 27, 60, 41, 37, 16, 46, 35, 44, 21, 52, 32, 23, 11, 54, 26, 40, 15, 34, 20, 31, 10, 25, 14, 19, 9, 13, 8, 7, 6]

end Go.Proofs.YtmhgbocejjnoaaaDoor
