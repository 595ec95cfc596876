/- FixDoes, where what is read is of bulk at most 1048576: for every schema, tree and path the law returns true. Conditions: the bulk, and the row's own. -/
import Derived.Test.YtiinmgccjlmoaaaRHC
import Derived.Laws.IdiomStrings
import Derived.Test.YtiinmgccjlmoaaaRN4
import Derived.Deep.MidRow
import Derived.Test.YtiinmgccjlmoaaaRVA
import Derived.Test.YtiinmgccjlmoaaaRHP
import Derived.Test.YtiinmgccjlmoaaaRHR
import Derived.Test.YtiinmgccjlmoaaaRR7
import Derived.Test.YtiinmgccjlmoaaaRVC
import Derived.Test.YtiinmgccjlmoaaaRVE
import Derived.Test.YtiinmgccjlmoaaaRKA
import Derived.Test.YtiinmgccjlmoaaaRows
import Derived.WalkKit
import Derived.ProofKit
import Derived.LaidMore
import Derived.OpenShut
import Derived.ChangeOld
import Derived.Below
import Derived.Stop.Joined
import Derived.Deep.DeepHandedRow
import Derived.Deep.DeepWitnessRowRef
import Derived.JoinedCond
namespace Go.Proofs.Ytiinmgccjlmoaaa
open Go.RowKit Go.Redl
set_option linter.unusedVariables false
set_option linter.unusedSimpArgs false

theorem below_three (W : World) (o1 o2 o3 : Obj) : Below W.heap.size W (((W.alloc o1).alloc o2).alloc o3) :=
  (((Below.refl _ _).alloc (Nat.le_refl _) o1).alloc (by simp) o2).alloc (by simp; omega) o3
/-- A text of one byte, as runes. -/
theorem conv_one (c : UInt8) (hc : Conv.runesFrom ⟨#[c]⟩ 1 0 #[] = #[.int .i32 c.toNat]) (w : World) : ∃ cap w', (convert 9 32 (.string ⟨#[c]⟩)).run Try.prog w = .ok (.slice (some ⟨w.heap.size, 0, none⟩) 1 cap) w' ∧
    Below w.heap.size w w' ∧ RowA w' w'.heap.size 1 (some ⟨w.heap.size, 0, none⟩) 1 cap [.int .i32 c.toNat] := by
  have hsz : (Conv.runesFrom ⟨#[c]⟩ (⟨#[c]⟩ : ByteArray).size 0 #[]) = #[.int .i32 c.toNat] := hc
  have h := run_runes_of_string (P := Try.prog) w 9 32 21 ⟨#[c]⟩ Try.underlying9 Try.underlying32 Try.underlying21 (by rw [hsz]; simp)
  rw [hsz] at h
  have h1 : (#[Value.int .i32 c.toNat] : Array Value).size = 1 := rfl
  rw [h1] at h
  have hge := grownCap_ge w 1 0 21
  have hcm := grownCap_le_maxLen w 1 0 21 (by unfold maxLen; omega)
  refine ⟨_, _, h, (Below.refl _ _).drew.alloc (Nat.le_refl _) _, ⟨by simp, hge, hcm, by simp; rfl, (fun h => by cases h), fun _ => ⟨w.heap.size, 0, rfl, by simp, fun j u hj => ?_⟩⟩⟩
  have hg := heap_alloc_new w.drew (Obj.cells (#[Value.int .i32 c.toNat] ++ Array.replicate (grownCap w 1 0 21 - 1) (.int .i32 0)) 21)
  have hd : w.drew.heap.size = w.heap.size := rfl
  rw [hd] at hg
  rw [cell_of_row _ w.heap.size (0 + j) _ _ _ hg]
  have hj0 : j = 0 := by
    cases j with
    | zero => rfl
    | succ j => simp at hj
  subst hj0
  simp at hj
  subst hj
  rw [Array.getElem?_append_left (by simp)]
  rfl
/-- A leaf of one byte. -/
def LeafP (W : World) (ps : List PropD) (c : UInt8) (e : Ending) (w' : World) : Prop :=
  ∃ ap cp at_ ct, e = .returned (.agg #[.bool true, .slice ap ps.length cp, .slice at_ 1 ct, .slice none 0 0]) ∧ NodeC w' w'.heap.size (.mk true ps [(c.toNat : Int)] []) [.bool true, .slice ap ps.length cp, .slice at_ 1 ct, .slice none 0 0] ∧ Below W.heap.size W w'

set_option maxRecDepth 100000 in
set_option maxHeartbeats 1000000 in
theorem leaf_c (c : UInt8) (hc : Conv.runesFrom ⟨#[c]⟩ 1 0 #[] = #[.int .i32 c.toNat]) (ps : List PropD) (ap : Option Addr) (cp : Nat) (W : World) (hp : RowA W W.heap.size 2 ap ps.length cp (propCells ps)) :
    Calls Try.prog 20 #[.string ⟨#[c]⟩, .slice ap ps.length cp] W (LeafP W ps c) := by
  obtain ⟨cap, w1, h1, h2, h3⟩ := conv_one c hc (W.alloc (Obj.cells #[Value.bool false, Value.slice none 0 0, Value.slice none 0 0, Value.slice none 0 0] 35))
  have hsz0 : (W.alloc (Obj.cells #[Value.bool false, Value.slice none 0 0, Value.slice none 0 0, Value.slice none 0 0] 35)).heap.size = W.heap.size + 1 := by simp
  have hz := h2.size
  rw [hsz0] at h2 hz h3 h1
  have hblk : w1.heap[W.heap.size]? = some (Obj.cells #[Value.bool false, Value.slice none 0 0, Value.slice none 0 0, Value.slice none 0 0] 35 (0, 0)) := by
    rw [h2.block _ (by omega)]; exact heap_alloc_new W _
  have k0 : w1.cell? ⟨W.heap.size, 0, none⟩ = some (.bool false) := by rw [cell_of_row _ _ _ _ _ _ hblk]; rfl
  have k1 : w1.cell? ⟨W.heap.size, 1, none⟩ = some (.slice none 0 0) := by rw [cell_of_row _ _ _ _ _ _ hblk]; rfl
  have k2 : w1.cell? ⟨W.heap.size, 2, none⟩ = some (.slice none 0 0) := by rw [cell_of_row _ _ _ _ _ _ hblk]; rfl
  have k3 : w1.cell? ⟨W.heap.size, 3, none⟩ = some (.slice none 0 0) := by rw [cell_of_row _ _ _ _ _ _ hblk]; rfl
  have f0 : ∀ i, w1.frozen? ⟨W.heap.size, i, none⟩ = false := fun i => by simp [World.frozen?, hblk]
  have Hp := Lib.hid hp; have H2 := Lib.hid h2; have H3 := Lib.hid h3; have Hblk := Lib.hid hblk
  clear hp h2 h3 hsz0 hblk hc
  go_enter Try.func20, Try.ntmps20
  go_wp2_with fail
  have hz2 : W.heap.size + 1 < w1.heap.size ∨ True := .inr trivial
  refine bodyPost_ret (v := .agg #[.bool true, .slice ap ps.length cp, .slice (some ⟨W.heap.size + 1, 0, none⟩) 1 cap, .slice none 0 0]) (by simp [results, Try.results20, go_sem, k0, k1, k2, k3]) rfl ⟨ap, cp, _, cap, rfl, ?_, ?_⟩
  · have hb : Below W.heap.size W w1 := below_unbox H2.out
    have r1 : RowA w1 w1.heap.size 2 ap ps.length cp (propCells ps) := Hp.out.keep hb hb.size
    have hn1 : ∀ b off, ap = some ⟨b, off, none⟩ → propCells ps ≠ [] → b < W.heap.size := fun b off h hne => by
      obtain ⟨b', off', h', hlt, -⟩ := Hp.out.some_ hne
      rw [h] at h'
      cases h'; exact hlt
    unfold NodeC
    refine ⟨ap, cp, _, cap, none, 0, [], rfl, ?_, ?_, ?_, RowA.empty _ _ _, by unfold KidsC; rfl⟩
    · have hlen := propCells_len ps
      by_cases hpe : propCells ps = []
      · have h0 := Hp.out
        exact ⟨h0.len, h0.le, h0.max, h0.one, h0.nil, fun h => absurd hpe h⟩
      · have r2 := (((r1.setCell ⟨W.heap.size, 0, none⟩ (.bool true) (fun b off h => by have := hn1 b off h hpe; simp; omega)).setCell ⟨W.heap.size, 1, none⟩ (.slice ap ps.length cp) (fun b off h => by have := hn1 b off h hpe; simp; omega)).setCell ⟨W.heap.size, 2, none⟩ (.slice (some ⟨W.heap.size + 1, 0, none⟩) 1 cap) (fun b off h => by have := hn1 b off h hpe; simp; omega)).setCell ⟨W.heap.size, 3, none⟩ (.slice none 0 0) (fun b off h => by have := hn1 b off h hpe; simp; omega)
        simpa [World.setCell] using r2
    · have r2 := (((H3.out.setCell ⟨W.heap.size, 0, none⟩ (.bool true) (fun b off h => by cases h; simp)).setCell ⟨W.heap.size, 1, none⟩ (.slice ap ps.length cp) (fun b off h => by cases h; simp)).setCell ⟨W.heap.size, 2, none⟩ (.slice (some ⟨W.heap.size + 1, 0, none⟩) 1 cap) (fun b off h => by cases h; simp)).setCell ⟨W.heap.size, 3, none⟩ (.slice none 0 0) (fun b off h => by cases h; simp)
      simpa [World.setCell] using r2
    · intro z hz
      simp at hz
      subst hz
      have := c.toNat_lt
      have h1 : IntKind.i32.min = -2147483648 := by decide
      have h2 : IntKind.i32.max = 2147483647 := by decide
      simp only [Lit.wf, Bool.and_eq_true, decide_eq_true_eq, h1, h2]
      omega
  · exact ((((below_unbox H2.out).setCell (p := ⟨W.heap.size, 0, none⟩) (Nat.le_refl _) _).setCell (p := ⟨W.heap.size, 1, none⟩) (Nat.le_refl _) _).setCell (p := ⟨W.heap.size, 2, none⟩) (Nat.le_refl _) _).setCell (p := ⟨W.heap.size, 3, none⟩) (Nat.le_refl _) _

/-- A literal in a new block, behind which more memory lies. -/
theorem row_cells {w w' : World} {E : TypeId} (sz n : Nat) (cs : List Value) (hl : cs.length = n * sz) (hn : n ≤ 1000000) (h1 : ∀ u ∈ cs, u.oneCell' = true) (hb : Below (w.heap.size + 1) (w.alloc (Obj.cells cs.toArray E)) w') : RowA w' w'.heap.size sz (some ⟨w.heap.size, 0, none⟩) n n cs := by
  refine ⟨hl, Nat.le_refl _, by unfold maxLen; omega, h1, (fun h => by cases h), fun _ => ⟨w.heap.size, 0, rfl, ?_, fun j u hj => ?_⟩⟩
  · have := hb.size; simp at this; omega
  · have hg : w'.heap[w.heap.size]? = some (Obj.cells cs.toArray E (0, 0)) := by
      rw [hb.block _ (by omega)]; exact heap_alloc_new w _
    rw [cell_of_row _ w.heap.size (0 + j) _ E (0, 0) hg]
    simpa using hj

def ElemP (W : World) (s : List UInt8) (a : Option Addr) (c : Nat) (ks : List NodeD) (e : Ending) (w' : World) : Prop :=
  ∃ g, e = .returned (.agg #[.bool false, .slice (some ⟨g, 0, none⟩) 1 1, .slice none 0 0, .slice a ks.length c]) ∧ NodeC w' w'.heap.size (.mk false [(typeB, s)] [] ks) [.bool false, .slice (some ⟨g, 0, none⟩) 1 1, .slice none 0 0, .slice a ks.length c] ∧ Below W.heap.size W w'

set_option maxRecDepth 100000 in
set_option maxHeartbeats 1000000 in
theorem elem_c (x : UInt8) (r : List UInt8) (a : Option Addr) (c : Nat) (ks : List NodeD) (css : List Value) (W : World) (hr : RowA W W.heap.size 4 a ks.length c css) (hk : KidsC W W.heap.size ks css) :
    Calls Try.prog 19 #[.string ⟨(x :: r).toArray⟩, .slice a ks.length c] W (ElemP W (x :: r) a c ks) := by
  have hne : ((⟨(x :: r).toArray⟩ : ByteArray).toList.isEmpty) = false := by rw [ByteArray.toList_mk]; rfl
  have hne2 : (!(⟨(x :: r).toArray⟩ : ByteArray).toList.isEmpty) = true := by rw [ByteArray.toList_mk]; rfl
  have Hpc : Hid (propCells [(typeB, x :: r)] = [.string ⟨#[116, 121, 112, 101]⟩, .string ⟨(x :: r).toArray⟩]) := rfl
  obtain ⟨S, hS⟩ : ∃ S, S = (⟨(x :: r).toArray⟩ : ByteArray) := ⟨_, rfl⟩
  rw [← hS] at hne hne2 Hpc ⊢
  have Hr := Lib.hid hr; have Hk := Lib.hid hk
  clear hr hk hS
  go_enter Try.func19, Try.ntmps19
  go_wp2_with fail
  have hb1 := fun (o1 o2 : Obj) => Lib.hid (below_three W o1 o2 (Obj.cells #[.string ⟨#[116, 121, 112, 101]⟩, .string S] 89))
  refine bodyPost_ret (v := .agg #[.bool false, .slice (some ⟨W.heap.size + 1 + 1, 0, none⟩) 1 1, .slice none 0 0, .slice a ks.length c]) (by simp [results, Try.results19, go_sem]) rfl ⟨W.heap.size + 1 + 1, rfl, ?_, (hb1 _ _).out⟩
  unfold NodeC
  refine ⟨some ⟨W.heap.size + 1 + 1, 0, none⟩, 1, none, 0, a, c, css, rfl, ?_, RowA.empty _ _ _, by simp, Hr.out.keep (hb1 _ _).out (hb1 _ _).out.size, KidsC.keep (hb1 _ _).out (hb1 _ _).out.size ks css Hk.out⟩
  rw [Hpc.out]
  have h := row_cells (w := (W.alloc (Obj.cells #[Value.bool false, Value.slice (some ⟨W.heap.size + 1 + 1, 0, none⟩) 1 1, Value.slice none 0 0, Value.slice a ks.length c] 35)).alloc (Obj.cells #[Value.bool false, Value.slice (some ⟨W.heap.size + 1 + 1, 0, none⟩) 1 1, Value.slice none 0 0, Value.slice a ks.length c] 35)) (E := 89) 2 1 [.string ⟨#[116, 121, 112, 101]⟩, .string S] rfl (by omega) (by intro u hu; simp at hu; rcases hu with rfl | rfl <;> rfl) (Below.refl _ _)
  simpa using h

end Go.Proofs.Ytiinmgccjlmoaaa
namespace Go.Proofs.Ytiinmgccjlmoaaa
open Go.RowKit Go.Redl
set_option linter.unusedVariables false
set_option linter.unusedSimpArgs false

/-- The schema of the example. -/
def wrapsS : SchemaD := ⟨[⟨[100, 111, 99], (4, [112]), (1, []), [], 0, []⟩], ⟨[], (1, []), (1, []), [], 0, []⟩, [1, 2, 3, 4, 5, 6], 100⟩
def WrapsP (W : World) (e : Ending) (w' : World) : Prop := ∃ v, e = .returned v ∧ SchemaV w' w'.heap.size wrapsS v ∧ Below W.heap.size W w'

/-- The cells of the example's rule, of its schema (whose rule lies in block N). -/
def docC : List Value := [.string ⟨#[100, 111, 99]⟩, .int .i64 4, .string ⟨#[112]⟩, .int .i64 1, .string ⟨#[]⟩, .slice none 0 0, .int .i64 0, .string ⟨#[]⟩]
def wrapsC (N : Nat) : List Value := [.slice (some ⟨N, 0, none⟩) 1 1, .string ⟨#[]⟩, .int .i64 1, .string ⟨#[]⟩, .int .i64 1, .string ⟨#[]⟩, .slice none 0 0, .int .i64 0, .string ⟨#[]⟩, .int .i64 1, .int .i64 2, .int .i64 3, .int .i64 4, .int .i64 5, .int .i64 6, .int .i64 100]
theorem wraps_v {w : World} {N : Nat} (h : At w N docC 27) : SchemaV w w.heap.size wrapsS (.agg (wrapsC N).toArray) := by
  refine ⟨_, rfl, some ⟨N, 0, none⟩, 1, docC, ruleCells wrapsS.els none 0, rfl, ?_, ⟨docC, [], by simp, ⟨none, 0, rfl, RowA.empty _ _ _⟩, rfl⟩, ⟨none, 0, rfl, RowA.empty _ _ _⟩, rfl⟩
  refine ⟨rfl, Nat.le_refl _, by unfold maxLen; decide, by intro u hu; simp [docC] at hu; rcases hu with rfl | rfl | rfl | rfl | rfl | rfl | rfl | rfl <;> rfl, (fun h => by cases h), fun _ => ⟨N, 0, rfl, h.lt, fun j u hj => by rw [Nat.zero_add]; exact h.cell j hj⟩⟩

set_option maxRecDepth 100000 in
set_option maxHeartbeats 2000000 in
theorem wraps_c (W : World) : Calls Try.prog 18 #[] W (WrapsP W) := by
  go_enter Try.func18, Try.ntmps18
  go_wp2_with fail
  obtain ⟨w4, hw4⟩ : ∃ w4, w4 = (((W.alloc (Obj.cells (wrapsC (W.heap.size + 1 + 1 + 1)).toArray 30)).alloc (Obj.cells #[Value.int IntKind.i64 1, Value.string ⟨#[]⟩] 24)).alloc (Obj.cells docC.toArray 27)).alloc (Obj.cells docC.toArray 27) := ⟨_, rfl⟩
  have hA : At w4 W.heap.size (wrapsC (W.heap.size + 1 + 1 + 1)) 30 := by rw [hw4]; exact (((At.fresh _ _ _).alloc _).alloc _).alloc _
  have hD : At w4 (W.heap.size + 1 + 1 + 1) docC 27 := by
    rw [hw4]
    have h := At.fresh (((W.alloc (Obj.cells (wrapsC (W.heap.size + 1 + 1 + 1)).toArray 30)).alloc (Obj.cells #[Value.int IntKind.i64 1, Value.string ⟨#[]⟩] 24)).alloc (Obj.cells docC.toArray 27)) docC 27
    simpa using h
  have hb : Below W.heap.size W w4 := by
    rw [hw4]
    exact (((Below.refl _ _).alloc (Nat.le_refl _) _).alloc (by simp) _ |>.alloc (by simp; omega) _).alloc (by simp; omega) _
  have hld := run_loadVar_mid (P := Try.prog) w4 W.heap.size 0 30 (wrapsC (W.heap.size + 1 + 1 + 1)) _ (fun j v hj => by rw [Nat.zero_add]; exact hA.cell j hj) Try.underlying30 rfl (by kernel_rfl)
  show bodyPost _ _ _ _ _ ((((W.alloc (Obj.cells (wrapsC (W.heap.size + 1 + 1 + 1)).toArray 30)).alloc (Obj.cells #[Value.int IntKind.i64 1, Value.string ⟨#[]⟩] 24)).alloc (Obj.cells docC.toArray 27)).alloc (Obj.cells docC.toArray 27))
  rw [← hw4]
  refine bodyPost_ret (v := .agg (wrapsC (W.heap.size + 1 + 1 + 1)).toArray) (by simp [results, Try.results18, asAddr, hld]) rfl ⟨_, rfl, wraps_v hD, hb⟩

end Go.Proofs.Ytiinmgccjlmoaaa
namespace Go.Proofs.Ytiinmgccjlmoaaa
open Go.RowKit Go.Redl
set_option linter.unusedVariables false
set_option linter.unusedSimpArgs false

def liveD : NodeD := .mk false [(typeB, [100, 111, 99])] [] [.mk true [] [97] []]
def liveO : List OpD := [⟨1, [0], [], 0, elemN [112], []⟩, ⟨5, [1], [0, 0], 0, zeroN, []⟩]
theorem live_fix : fixN wrapsS liveD [] = (liveO, 0) := by kernel_rfl

set_option maxRecDepth 100000 in
set_option maxHeartbeats 2000000 in
theorem live_c (W : World) : Calls Try.prog 6 #[] W fun e w' => e = .returned (.bool true) ∧ Below W.heap.size W w' := by
  have HW := Lib.hid (wraps_c W)
  have HL := Lib.hid (fun (w : World) => leaf_c 97 rfl [] none 0 w (RowA.empty _ _ _))
  have hE := fun (w1 : World) (cells : List Value) (hc : cells.length = 4) (hn : NodeC w1 w1.heap.size (.mk true [] [97] []) cells) =>
    Lib.hid (elem_c 100 [111, 99] (some ⟨w1.heap.size, 0, none⟩) 1 [.mk true [] [97] []] cells (w1.alloc (Obj.cells cells.toArray 35)) (row_cells 4 1 cells hc (by omega) hn.one (Below.refl _ _)) (by
      unfold KidsC
      exact ⟨cells, [], by simp, NodeC.keep (below_new w1 _) (below_new w1 _).size _ _ hn, by unfold KidsC; rfl⟩))
  have HE := Lib.hid hE
  have HO := Lib.hid (fun (sv v : Value) (w1 : World) (hs : SchemaV w1 w1.heap.size wrapsS sv) (hv : NodeV w1 w1.heap.size liveD v) => by
    have h := fixops_c wrapsS sv liveD v [] none 0 w1 (by decide) (by decide) hs hv (RowA.empty _ _ _) (by simp)
    rw [live_fix] at h
    exact h)
  clear hE
  go_enter Try.func6, Try.ntmps6
  go_wp2_with fail
  refine HW.out.mono ?_
  rintro e w1 ⟨sv, rfl, hsv, hbel⟩
  have Hb1 := Lib.hid hbel; have Hsv := Lib.hid hsv
  have HL1 := HL.out w1
  clear hbel hsv HW HL
  go_wp2_with fail
  refine HL1.mono ?_
  rintro e w2 ⟨ap, cp, at_, ct, rfl, hnc, hbel⟩
  have Hb2 := Lib.hid (below_then Hb1.out hbel (Nat.le_refl _))
  have Hsv2 := Lib.hid (Hsv.out.keep hbel hbel.size)
  have HE1 := HE.out w2 _ rfl hnc
  clear hbel hnc HL1 HE Hsv
  go_wp2_with fail
  refine HE1.out.mono ?_
  rintro e w3 ⟨g, rfl, hnc, hbel⟩
  have Hb3 := Lib.hid (below_then (Hb2.out.alloc Hb2.out.size _) hbel (Nat.le_refl _))
  have hb23 := (one_below w2 (Obj.cells #[Value.bool true, Value.slice ap [].length cp, Value.slice at_ 1 ct, Value.slice none 0 0] 35)).trans (hbel.mono (one_below w2 _).size)
  have HO1 := Lib.hid (HO.out sv _ w3 (Hsv2.out.keep hb23 hb23.size) ⟨_, rfl, hnc⟩)
  clear hb23
  clear hbel hnc HE1 Hsv2 HO
  go_wp2_with fail
  refine HO1.out.mono ?_
  rintro e w4 ⟨v, rfl, hv, hbel⟩
  have Hb4 := Lib.hid (below_then Hb3.out hbel (Nat.le_refl _))
  obtain ⟨a, c, css, rfl, -, -⟩ := id hv
  obtain ⟨b, off, pa, pc, ta, tc, n0, n1, n2, n3, oa, oc, rfl, -, -, -, -, -, k0⟩ := hv.at_ 0 (by decide)
  obtain ⟨b', off', pa', pc', ta', tc', n0', n1', n2', n3', oa', oc', e1, hlt, q1, q2, -, -, k1⟩ := hv.at_ 1 (by decide)
  injection e1 with e1; injection e1 with e1 e2; subst e1; subst e2
  have c0 := k0 0 _ rfl
  have c1 := k1 0 _ rfl
  have c2 := k1 1 _ rfl
  have c3 := k1 2 _ rfl
  simp [liveO] at c0 c1 c2 c3
  have hlen : liveO.length = 2 := rfl
  rw [hlen]
  have HQ := Lib.hid (fun (w : World) (hb : Below w4.heap.size w4 w) (p : Option Addr) (hp : RowA w w.heap.size 1 p 1 1 [.int .i64 1]) => rpath_yes [1] pa' p pc' 1 w (q1.row.keep hb hb.size) hp)
  have HT := Lib.hid (fun (w : World) (hb : Below w4.heap.size w4 w) (p : Option Addr) (hp : RowA w w.heap.size 1 p 2 2 [.int .i64 0, .int .i64 0]) => rpath_yes [0, 0] ta' p tc' 2 w (q2.row.keep hb hb.size) hp)
  have Hlt := Lib.hid hlt
  clear hv k0 k1 q1 q2 hbel hlen hlt HO1
  go_wp2_with fail
  refine (HQ.out _ (one_below w4 _) _ (row_cells (E := 3) 1 1 [.int .i64 1] rfl (by omega) (by intro u hu; simp at hu; subst hu; rfl) (Below.refl _ _))).mono ?_
  rintro e w5 ⟨rfl, hbel⟩
  have hb5 := (one_below w4 (Obj.cells #[Value.int .i64 1] 3)).trans (hbel.mono (one_below w4 _).size)
  have d3 := (hb5.cell (by exact Hlt.out)).trans c3
  have Hb5 := Lib.hid hb5
  clear hbel HQ c0 c1 c2 c3 hb5
  go_wp2_with fail
  refine (HT.out _ (Hb5.out.trans ((one_below w5 _).mono Hb5.out.size)) _ (row_cells (E := 3) 1 2 [.int .i64 0, .int .i64 0] rfl (by omega) (by intro u hu; simp at hu; subst hu; rfl) (Below.refl _ _))).mono ?_
  rintro e w6 ⟨rfl, hbel⟩
  have Hb6 := Lib.hid (Hb4.out.trans ((Hb5.out.trans (((one_below w5 (Obj.cells #[Value.int .i64 0, Value.int .i64 0] 3)).trans (hbel.mono (one_below w5 _).size)).mono Hb5.out.size)).mono Hb4.out.size))
  clear hbel HT d3
  go_wp2_with fail
  go_ret
  exact ⟨rfl, Hb6.out⟩

end Go.Proofs.Ytiinmgccjlmoaaa
namespace Go.Proofs.Ytiinmgccjlmoaaa
open Go.RowKit Go.Redl
set_option linter.unusedVariables false
set_option linter.unusedSimpArgs false

theorem info_rule : (Try.prog.info? 27).map (fun i => (i.zero, i.size, i.bytes)) = some (some (.agg #[.string ⟨#[]⟩, .int .i64 0, .string ⟨#[]⟩, .int .i64 0, .string ⟨#[]⟩, .slice none 0 0, .int .i64 0, .string ⟨#[]⟩]), 8, 112) := by kernel_rfl

set_option maxRecDepth 100000 in
set_option maxHeartbeats 2000000 in
theorem rall_c (a : Option Addr) (n c : Nat) (css : List Value) (e1 e3 e5 e8 : List UInt8) (e2 e4 e7 : Int) (ea : Option Addr) (en ec : Nat) (v9 v10 v11 v12 v13 v14 v15 : Value) (W : World) (hr : RowA W W.heap.size 8 a n c css) (hn : n ≤ 100000000) :
    Calls Try.prog 49 #[.agg #[.slice a n c, strV e1, .int .i64 e2, strV e3, .int .i64 e4, strV e5, .slice ea en ec, .int .i64 e7, strV e8, v9, v10, v11, v12, v13, v14, v15]] W (MadeRow W 27 8 (n + 1) (css ++ [strV e1, .int .i64 e2, strV e3, .int .i64 e4, strV e5, .slice ea en ec, .int .i64 e7, strV e8])) := by
  obtain ⟨w0, hw0⟩ : ∃ w0, w0 = W.alloc (Obj.cells #[.slice a n c, strV e1, .int .i64 e2, strV e3, .int .i64 e4, strV e5, .slice ea en ec, .int .i64 e7, strV e8, v9, v10, v11, v12, v13, v14, v15] 30) := ⟨_, rfl⟩
  have hb0 : Below W.heap.size W w0 := by rw [hw0]; exact one_below _ _
  have hB : At w0 W.heap.size [.slice a n c, strV e1, .int .i64 e2, strV e3, .int .i64 e4, strV e5, .slice ea en ec, .int .i64 e7, strV e8, v9, v10, v11, v12, v13, v14, v15] 30 := by rw [hw0]; exact At.fresh _ _ _
  have HR := Lib.hid (fun (w1 : World) (hb : Below w0.heap.size w0 w1) => hr.keep (hb0.trans (hb.mono hb0.size)) (hb0.trans (hb.mono hb0.size)).size)
  have HS9 := Lib.hid (fun (w' : World) (h : At w' W.heap.size [.slice a n c, strV e1, .int .i64 e2, strV e3, .int .i64 e4, strV e5, .slice ea en ec, .int .i64 e7, strV e8, v9, v10, v11, v12, v13, v14, v15] 30) => (show w'.cell? ⟨W.heap.size, 0, none⟩ = some (.slice a n c) ∧ w'.cell? ⟨W.heap.size, 1, none⟩ = some (strV e1) ∧ w'.cell? ⟨W.heap.size, 2, none⟩ = some (.int .i64 e2) ∧ w'.cell? ⟨W.heap.size, 3, none⟩ = some (strV e3) ∧ w'.cell? ⟨W.heap.size, 4, none⟩ = some (.int .i64 e4) ∧ w'.cell? ⟨W.heap.size, 5, none⟩ = some (strV e5) ∧ w'.cell? ⟨W.heap.size, 6, none⟩ = some (.slice ea en ec) ∧ w'.cell? ⟨W.heap.size, 7, none⟩ = some (.int .i64 e7) ∧ w'.cell? ⟨W.heap.size, 8, none⟩ = some (strV e8) by
    obtain ⟨x0, x1, x2, x3, x4, x5, x6, x7, x8, -⟩ := h.f16.1
    exact ⟨x0, x1, x2, x3, x4, x5, x6, x7, x8⟩))
  have HS0 := Lib.hid (fun (w' : World) (hb : Below w0.heap.size w0 w') => HS9.out w' (hB.kept hb))
  have HB := Lib.hid hB
  have Hw0 := Lib.hid hw0; have Hb0 := Lib.hid hb0; have Hone := Lib.hid hr.one
  have hsz : W.heap.size + 1 ≤ w0.heap.size := hB.lt
  clear hw0 hb0 hB hr
  go_enter Try.func49, Try.ntmps49
  go_upto_region 1 with fail
  rw [← Hw0.out]
  clear Hw0
  go_region_held3 (fun w' => w'.cell? ⟨W.heap.size, 0, none⟩ = some (.slice a n c) ∧ w'.cell? ⟨W.heap.size, 1, none⟩ = some (strV e1) ∧ w'.cell? ⟨W.heap.size, 2, none⟩ = some (.int .i64 e2) ∧ w'.cell? ⟨W.heap.size, 3, none⟩ = some (strV e3) ∧ w'.cell? ⟨W.heap.size, 4, none⟩ = some (.int .i64 e4) ∧ w'.cell? ⟨W.heap.size, 5, none⟩ = some (strV e5) ∧ w'.cell? ⟨W.heap.size, 6, none⟩ = some (.slice ea en ec) ∧ w'.cell? ⟨W.heap.size, 7, none⟩ = some (.int .i64 e7) ∧ w'.cell? ⟨W.heap.size, 8, none⟩ = some (strV e8)) (first | with_reducible exact HS2.out | (refine HS0.out _ (by ((repeat (first | with_reducible exact Hb1.out | with_reducible exact Below.refl _ _ | with_reducible refine Below.drew ?_ | with_reducible refine Below.alloc ?_ ?_ _ | with_reducible refine Below.setCell ?_ ?_ _)) <;> (first | with_reducible exact Nat.le_refl _ | with_reducible exact Hb1.out.size | (have hsz := Hb1.out.size; simp [World.setCell]; omega) | (simp; done) | (simp; omega) | omega)))))
    (first
    | (refine step_app rfl _ _ 22 rfl _ 27 _ 8 112 Try.underlying22 info_rule rfl (by decide) (.slice none 0 0) 0 [] ?_ (World.ownsRow_nil _ _ _ _) a n c _ _ ?_ (HR.out _ (by ((repeat (first | with_reducible exact Below.refl _ _ | with_reducible refine Below.drew ?_ | with_reducible refine Below.alloc ?_ ?_ _ | with_reducible refine Below.setCell ?_ ?_ _)) <;> (first | with_reducible exact Nat.le_refl _ | (simp; done) | (simp; omega) | omega)))) ?_ ?_ (Nat.le_refl _) ?_
       · go_simp
       · go_simp
       · unfold maxLen; omega
       · omega
       intro v1 w1 hown hgrow
       have hbel := below_of_grown hgrow
       have Hz1 := Lib.hid hbel.size
       have Hb1 := Lib.hid (Below.and (w0 := w0) (by ((repeat (first | with_reducible exact Below.refl _ _ | with_reducible refine Below.drew ?_ | with_reducible refine Below.alloc ?_ ?_ _ | with_reducible refine Below.setCell ?_ ?_ _)) <;> (first | with_reducible exact Nat.le_refl _ | (simp; done) | (simp; omega) | omega))) hbel)
       rw [Nat.zero_add, List.nil_append] at hown
       have Hown := Lib.hid (own_mono (base := W.heap.size + 1) hown (by simp; omega))
       have HB1 := Lib.hid (HB.out.kept Hb1.out)
       first
         | (refine At.lay (N := ?_) (cs := [strV e1, .int .i64 e2, strV e3, .int .i64 e4, strV e5, .slice ea en ec, .int .i64 e7, strV e8]) (T := 27) (At.kept ?_ hbel) ?_
            rotate_left
            · (repeat (first | with_reducible exact At.second _ _ _ _ | with_reducible exact At.fresh _ _ _ | with_reducible refine At.drew ?_ | with_reducible refine At.alloc ?_ _))
            intro HE1)
         | skip
       clear hown hgrow hbel)
    | (refine step_app rfl _ _ 22 rfl (W.heap.size + 1) 27 _ 8 112 Try.underlying22 info_rule rfl (by decide) v1 n css ?_ (own_keep Hown.out (one_below _ _)) (some ⟨w1.heap.size, 0, none⟩) 1 1 _ [strV e1, .int .i64 e2, strV e3, .int .i64 e4, strV e5, .slice ea en ec, .int .i64 e7, strV e8] ?_ (RowQ.row (ok := fun _ => True) (rowq_at (T := 27) (by (repeat (first | with_reducible exact HE1.out | with_reducible exact At.second _ _ _ _ | with_reducible exact At.fresh _ _ _ | with_reducible refine At.drew ?_ | with_reducible refine At.alloc ?_ _))) 1 8 rfl (by omega) (by intro u hu; simp at hu; rcases hu with rfl | rfl | rfl | rfl | rfl | rfl | rfl | rfl <;> rfl) trivial)) ?_ ?_ ?_ ?_
       · go_simp
       · go_simp
       · unfold maxLen; omega
       · omega
       · have := Hb1.out.size; simp; omega
       intro v2 w2 hown2 hgrow2
       have Hown2 := Lib.hid hown2
       have Hb2 := Lib.hid ((show Below W.heap.size W _ from Hb0.out.trans ((show Below w0.heap.size w0 _ by ((repeat (first | with_reducible exact Hb1.out | with_reducible exact Below.refl _ _ | with_reducible refine Below.drew ?_ | with_reducible refine Below.alloc ?_ ?_ _ | with_reducible refine Below.setCell ?_ ?_ _)) <;> (first | with_reducible exact Nat.le_refl _ | with_reducible exact Hb1.out.size | (have hsz := Hb1.out.size; simp [World.setCell]; omega) | (simp; done) | (simp; omega) | omega))).mono Hb0.out.size)).grown hgrow2 (by have := Hb1.out.size; simp; omega) (fun k hk => by have := (Hown.out.lt k hk).1; omega))
       have HS2 := Lib.hid (HS9.out _ (At.grown (show At _ W.heap.size [.slice a n c, strV e1, .int .i64 e2, strV e3, .int .i64 e4, strV e5, .slice ea en ec, .int .i64 e7, strV e8, v9, v10, v11, v12, v13, v14, v15] 30 by (repeat (first | with_reducible exact HB1.out | with_reducible exact At.second _ _ _ _ | with_reducible exact At.fresh _ _ _ | with_reducible refine At.drew ?_ | with_reducible refine At.alloc ?_ _))) hgrow2 (fun e => by have := (Hown.out.lt _ e).1; omega)))
       clear hown2 hgrow2)
    | (refine step_app rfl _ _ 22 rfl (W.heap.size + 1) 27 _ 8 112 Try.underlying22 info_rule rfl (by decide) v1 n css ?_ Hown.out (some ⟨w0.heap.size, 0, none⟩) 1 1 _ [strV e1, .int .i64 e2, strV e3, .int .i64 e4, strV e5, .slice ea en ec, .int .i64 e7, strV e8] ?_ (RowQ.row (ok := fun _ => True) (rowq_at (T := 27) (by (repeat (first | with_reducible exact HE1.out | with_reducible exact At.second _ _ _ _ | with_reducible exact At.fresh _ _ _ | with_reducible refine At.drew ?_ | with_reducible refine At.alloc ?_ _))) 1 8 rfl (by omega) (by intro u hu; simp at hu; rcases hu with rfl | rfl | rfl | rfl | rfl | rfl | rfl | rfl <;> rfl) trivial)) ?_ ?_ ?_ ?_
       · go_simp
       · go_simp
       · unfold maxLen; omega
       · omega
       · have := Hb1.out.size; simp; omega
       intro v2 w2 hown2 hgrow2
       have Hown2 := Lib.hid hown2
       have Hb2 := Lib.hid ((show Below W.heap.size W _ from Hb0.out.trans ((show Below w0.heap.size w0 _ by ((repeat (first | with_reducible exact Hb1.out | with_reducible exact Below.refl _ _ | with_reducible refine Below.drew ?_ | with_reducible refine Below.alloc ?_ ?_ _ | with_reducible refine Below.setCell ?_ ?_ _)) <;> (first | with_reducible exact Nat.le_refl _ | with_reducible exact Hb1.out.size | (have hsz := Hb1.out.size; simp [World.setCell]; omega) | (simp; done) | (simp; omega) | omega))).mono Hb0.out.size)).grown hgrow2 (by have := Hb1.out.size; simp; omega) (fun k hk => by have := (Hown.out.lt k hk).1; omega))
       have HS2 := Lib.hid (HS9.out _ (At.grown (show At _ W.heap.size [.slice a n c, strV e1, .int .i64 e2, strV e3, .int .i64 e4, strV e5, .slice ea en ec, .int .i64 e7, strV e8, v9, v10, v11, v12, v13, v14, v15] 30 by (repeat (first | with_reducible exact HB1.out | with_reducible exact At.second _ _ _ _ | with_reducible exact At.fresh _ _ _ | with_reducible refine At.drew ?_ | with_reducible refine At.alloc ?_ _))) hgrow2 (fun e => by have := (Hown.out.lt _ e).1; omega)))
       clear hown2 hgrow2)
    )
  all_goals
    go_wp2_with fail
    go_ret
    exact ⟨_, rfl, own_mono Hown2.out (Nat.le_succ _), Hb2.out⟩

end Go.Proofs.Ytiinmgccjlmoaaa
namespace Go.Proofs.Ytiinmgccjlmoaaa
open Go.RowKit Go.Redl
set_option linter.unusedVariables false
set_option linter.unusedSimpArgs false

theorem RulesC.snoc {w : World} {B : Nat} {r : RuleD} {c2 : List Value} (hr : RuleC w B r c2) : ∀ {rs : List RuleD} {css : List Value}, RulesC w B rs css → RulesC w B (rs ++ [r]) (css ++ c2)
  | [], css, h => by
    rw [show css = [] from h]
    exact ⟨c2, [], by simp, hr, rfl⟩
  | q :: rs, css, h => by
    obtain ⟨c1, c3, rfl, h2, h3⟩ := h
    exact ⟨c1, c3 ++ c2, by simp, h2, RulesC.snoc hr h3⟩
theorem all_wt {s : SchemaD} (hw : s.wt ≤ 100000000) : ∀ j (hj : j < (s.rules ++ [s.els]).length), (s.rules ++ [s.els])[j].kids.length ≤ 100000000 := by
  intro j hj
  have hm := List.getElem_mem hj
  have h : (s.rules ++ [s.els])[j].wt ≤ s.wt := by
    unfold SchemaD.wt
    rcases List.mem_append.1 hm with h | h
    · have := rulesWt_mem h; omega
    · rw [List.mem_singleton.1 h]; omega
  have := kids_wt (s.rules ++ [s.els])[j]
  omega
/-- What a pair adds to the count, a rule's head, a rule, a schema: as the walk has them, wraps and all. -/
def pairZ (z : Int) (p : PairD) : Int := wrap64 (z + wrap64 ((wrap64 ((p.1.length : Int) + (p.2.2.length : Int))).tdiv 64))
def headZ (y : Int) (q : RuleD) : Int := wrap64 (y + wrap64 (1 + (q.kids.length : Int) + wrap64 ((wrap64 (wrap64 (wrap64 ((q.type.length : Int) + (q.text.2.length : Int)) + (q.other.2.length : Int)) + (q.fillT.length : Int))).tdiv 64)))
def ruleZ (y : Int) (q : RuleD) : Int := q.kids.foldl pairZ (headZ y q)
def fewZ (l : List RuleD) : Bool := decide (l.foldl ruleZ 0 ≤ 80)

set_option maxRecDepth 100000 in
set_option maxHeartbeats 2000000 in
theorem rfew15_c (s : SchemaD) (v : Value) (W : World) (hw : s.wt ≤ 100000000) (hv : SchemaV W W.heap.size s v) :
    Calls Try.prog 22 #[v] W (fun e w' => e = .returned (.bool (fewZ (s.rules ++ [s.els]))) ∧ Below W.heap.size W w') := by
  have hrl : s.rules.length ≤ 100000000 - 1 := by have := rulesWt_len s.rules; have : 1 ≤ s.els.wt := by { unfold RuleD.wt; omega }; unfold SchemaD.wt at hw; omega
  obtain ⟨a, c, css, ea, ec, o0, o1, o2, o3, o4, o5, rfl, h1, h2, h3, -⟩ := hv.open
  have hkl := all_wt hw
  obtain ⟨rs, ⟨ty, ⟨td, tt⟩, ⟨od, ot⟩, kids, fill, ft⟩, order, scap⟩ := s
  simp only at hrl h1 h2 h3 hkl ⊢
  obtain ⟨w0, hw0⟩ : ∃ w0, w0 = W.alloc (Obj.cells #[.slice a rs.length c, strV ty, .int .i64 td, strV tt, .int .i64 od, strV ot, .slice ea kids.length ec, .int .i64 fill, strV ft, .int .i64 o0, .int .i64 o1, .int .i64 o2, .int .i64 o3, .int .i64 o4, .int .i64 o5, .int .i64 scap] 30) := ⟨_, rfl⟩
  have hb0 : Below W.heap.size W w0 := by rw [hw0]; exact one_below _ _
  have hA : At w0 W.heap.size [.slice a rs.length c, strV ty, .int .i64 td, strV tt, .int .i64 od, strV ot, .slice ea kids.length ec, .int .i64 fill, strV ft, .int .i64 o0, .int .i64 o1, .int .i64 o2, .int .i64 o3, .int .i64 o4, .int .i64 o5, .int .i64 scap] 30 := by rw [hw0]; exact At.fresh _ _ _
  have HC := Lib.hid (rall_c a rs.length c css ty tt ot ft td od fill ea kids.length ec (.int .i64 o0) (.int .i64 o1) (.int .i64 o2) (.int .i64 o3) (.int .i64 o4) (.int .i64 o5) (.int .i64 scap) w0 (h1.keep hb0 hb0.size) (by omega))
  have HR := Lib.hid (fun (w' : World) (hb : Below W.heap.size W w') => RulesC.snoc (r := ⟨ty, (td, tt), (od, ot), kids, fill, ft⟩) (c2 := [strV ty, .int .i64 td, strV tt, .int .i64 od, strV ot, .slice ea kids.length ec, .int .i64 fill, strV ft]) (⟨ea, ec, rfl, h3.keep hb hb.size⟩) (RulesC.keep hb hb.size h2))
  have Hb0 := Lib.hid hb0; have Hw0 := Lib.hid hw0
  obtain ⟨L, hL⟩ : ∃ L : List RuleD, L = rs ++ [⟨ty, (td, tt), (od, ot), kids, fill, ft⟩] := ⟨_, rfl⟩
  have hLn : L.length = rs.length + 1 := by rw [hL]; simp
  rw [← hL] at HR hkl ⊢
  obtain ⟨T, hT⟩ : ∃ T, T = L.foldl ruleZ 0 := ⟨_, rfl⟩
  have HT := Lib.hid hT
  have HF := Lib.hid (show fewZ L = decide (T ≤ 80) by rw [hT]; rfl)
  have Hkl := Lib.hid hkl; have HLn := Lib.hid hLn
  obtain ⟨⟨x0, x1, x2, x3, x4, x5, x6, x7, x8, x9, x10, x11, x12, x13, x14, x15⟩, -, xl⟩ := hA.f16
  clear hw hv h1 h2 h3 hb0 hw0 hA hL hLn hkl hT
  go_enter Try.func22, Try.ntmps22
  go_upto_region 1 with fail
  rw [← Hw0.out]
  clear Hw0
  go_wp2_with fail
  refine HC.out.mono ?_
  rintro e w1 ⟨v1, rfl, hown, hbel⟩
  have hRc := HR.out w1 (Hb0.out.trans (hbel.mono Hb0.out.size))
  obtain ⟨qa, qc, rfl, hq⟩ := rowq_own hown (RulesC.one hRc)
  have Hq := Lib.hid hq.row; have HRc := Lib.hid hRc
  have Hb1 := Lib.hid (Hb0.out.trans (hbel.mono Hb0.out.size))
  have Hsz := Lib.hid (Hb0.out.trans (hbel.mono Hb0.out.size)).size
  clear HC HR hown hbel hRc hq x0 x1 x2 x3 x4 x5 x6 x7 x8 x9 x10 x11 x12 x13 x14 x15 xl Hb0
  rw [← HLn.out] at Hq
  rw [← HLn.out]
  have hlm : L.length ≤ 100000000 := by have := HLn.out; omega
  clear HLn hrl
  go_wp2_with fail
  go_loopg [3, 11] L.length (fun g x i wr => ∃ (k : Nat) (y : Int), x = .int .i64 y ∧ i = .int .i64 k ∧ k + g = L.length ∧ (L.drop k).foldl ruleZ y = T ∧ Below w1.heap.size w1 wr)
  case atStart => exact ⟨0, 0, rfl, rfl, by omega, HT.out.symm, Below.refl _ _⟩
  case round =>
    obtain ⟨k, y, rfl, rfl, hg, hfo, hbr⟩ := hrel
    have Hfo := Lib.hid hfo
    have Hbr := Lib.hid hbr
    by_cases hlt : k < L.length
    · have hlti : (k : Int) < L.length := by omega
      obtain ⟨b, off, ra, rc, rfl, -, hrr, g0, g1, g2, g3, g4, g5, g6, g7⟩ := rule8 (Hq.out.keep hbr hbr.size) (RulesC.keep hbr hbr.size HRc.out) k hlt
      have hkk := Hkl.out k hlt
      have Hrr := Lib.hid (fun (w' : World) (hb : Below wr.heap.size wr w') => hrr.keep hb hb.size)
      rw [List.drop_eq_getElem_cons hlt, List.foldl_cons] at hfo
      have Hfo := Lib.hid hfo
      clear hfo
      generalize L[k] = q at Hfo g0 g1 g2 g3 g4 g5 g6 g7 Hrr hkk
      obtain ⟨Y, hY⟩ : ∃ Y, Y = ruleZ y q := ⟨_, rfl⟩
      rw [← hY] at Hfo
      have HY := Lib.hid hY
      clear hbr hrr Hkl hY
      go_wp2_with fail
      go_loopg [3, 43] q.kids.length (fun g x i w2 => ∃ (j : Nat) (z : Int), x = .int .i64 z ∧ i = .int .i64 j ∧ j + g = q.kids.length ∧ (q.kids.drop j).foldl pairZ z = Y ∧ Below wr.heap.size wr w2)
      case atStart => exact ⟨0, _, rfl, rfl, by omega, HY.out.symm, one_below _ _⟩
      case round =>
        obtain ⟨j, z, rfl, rfl, hg2, hfp, hbr2⟩ := hrel
        have Hbr2 := Lib.hid hbr2
        by_cases hlt2 : j < q.kids.length
        · have hlti2 : (j : Int) < q.kids.length := by omega
          obtain ⟨b2, off2, rfl, -, p0, p1, p2⟩ := (Hrr.out _ hbr2).pair_at j hlt2
          rw [List.drop_eq_getElem_cons hlt2, List.foldl_cons] at hfp
          have Hfp := Lib.hid hfp
          generalize q.kids[j] = pr at Hfp p0 p1 p2
          clear hbr2 hfp
          go_wp2_with fail
          go_roundg (q.kids.length - (j + 1))
          case measure => omega
          case rel => exact ⟨j + 1, _, rfl, by go_num, by omega, Hfp.out, Hbr2.out.alloc Hbr2.out.size _⟩
        · obtain rfl : j = q.kids.length := by omega
          rw [List.drop_length, List.foldl_nil] at hfp
          have Hfp := Lib.hid hfp
          clear hbr2 hfp
          go_wp2_with fail
          go_roundg (L.length - (k + 1))
          case measure => omega
          case rel => exact ⟨k + 1, _, rfl, by go_num, by omega, (congrArg (fun x => (L.drop (k + 1)).foldl ruleZ x) Hfp.out).trans Hfo.out, Hbr.out.trans (Hbr2.out.mono Hbr.out.size)⟩
    · obtain rfl : k = L.length := by omega
      rw [List.drop_length, List.foldl_nil] at hfo
      have Hfo := Lib.hid hfo
      clear hbr hfo
      go_wp2_with fail
      go_ret
      exact ⟨ret_bool (HF.out.trans (by rw [← Hfo.out])).symm, Hb1.out.trans (Hbr.out.mono Hsz.out)⟩

end Go.Proofs.Ytiinmgccjlmoaaa
namespace Go.Proofs.Ytiinmgccjlmoaaa
open Go.RowKit Go.Redl
set_option linter.unusedVariables false
set_option linter.unusedSimpArgs false

theorem rfew15_ent : ∀ args w, (callFunc 22 args).run Try.prog w = .ok (.enter 22 args) w := by intro args w; kernel_rfl
theorem rfew04_ent : ∀ args w, (callFunc 23 args).run Try.prog w = .ok (.enter 23 args) w := by intro args w; kernel_rfl
/-- A call whose guard holds. -/
theorem step_callG {P : Program} {ops : Array Oper} {o : Oper} {a : Act} {w : World} {K : Act → World → Prop} {Q : Exit → Act → World → Prop} {E : Prop}
    (hw : Region.wanted o (yielded ops a.tmps) = true) (f : FuncId) (args : Array Operand) (tys : Array TypeId) (ho : o.op = .call { callee := .value (.func f), args := args, argTypes := tys })
    (he : ∀ args w, (callFunc f args).run P w = .ok (.enter f args) w) (vals : List Value) (hv : args.toList.map a.eval = vals) (R : Ending → World → Prop) (hC : Calls P f vals.toArray w R)
    (h : ∀ e w', R e w' → ∃ v, e = .returned v ∧ K (a.put o.dst v) w') : if Region.wanted o (yielded ops a.tmps) = true then Oper.wp P o a w K Q else E := by
  rw [if_pos hw]
  unfold Oper.wp
  have hv' : args.map a.eval = vals.toArray := by rw [← hv]; apply Array.ext'; simp
  have hr : (execOp a.eval o).run P w = .ok (.enter f vals.toArray) w := by
    simp [execOp, ho, resolve, invoke, Act.eval, Deferred.ofValue, hv', he]
  rw [hr]
  show Calls P f vals.toArray w _
  refine hC.mono fun e w' hR => ?_
  obtain ⟨v, rfl, hk⟩ := h e w' hR
  exact hk

/-- The law's inputs are small. -/
def smallB (s : SchemaD) (n : NodeD) (p : List Int) : Bool := fewZ (s.rules ++ [s.els]) && fewB n 120 && decide (p.length ≤ 40)

set_option maxRecDepth 100000 in
set_option maxHeartbeats 2000000 in
theorem lawfew_c (s : SchemaD) (n : NodeD) (u v : Value) (p : List Int) (pa : Option Addr) (pc : Nat) (W : World) (hs : s.wt ≤ 100000000) (hn : n.wt ≤ 100000000) (hp : p.length ≤ 100000000) (hu : SchemaV W W.heap.size s u) (hv : NodeV W W.heap.size n v) :
    Calls Try.prog 7 #[u, v, .slice pa p.length pc] W (fun e w' => e = .returned (.bool (smallB s n p)) ∧ Below W.heap.size W w') := by
  have hu0 := hu; have hv0 := hv
  obtain ⟨l, ps, t, ks⟩ := n
  obtain ⟨a, c, css, ea, ec, o0, o1, o2, o3, o4, o5, rfl, -, -, -, -⟩ := hu0.open
  obtain ⟨ap, cp, at_, ct, ak, ck, cs4, rfl, -, -, -, -⟩ := hv0.open
  obtain ⟨w0, hw0⟩ : ∃ w0, w0 = (W.alloc (Obj.cells #[.slice a s.rules.length c, strV s.els.type, .int .i64 s.els.text.1, strV s.els.text.2, .int .i64 s.els.other.1, strV s.els.other.2, .slice ea s.els.kids.length ec, .int .i64 s.els.fill, strV s.els.fillT, .int .i64 o0, .int .i64 o1, .int .i64 o2, .int .i64 o3, .int .i64 o4, .int .i64 o5, .int .i64 s.cap] 30)).alloc (Obj.cells #[.bool l, .slice ap ps.length cp, .slice at_ t.length ct, .slice ak ks.length ck] 35) := ⟨_, rfl⟩
  have hb0 : Below W.heap.size W w0 := by rw [hw0]; exact (one_below _ _).trans ((one_below _ _).mono (one_below _ _).size)
  have hA : At w0 W.heap.size [.slice a s.rules.length c, strV s.els.type, .int .i64 s.els.text.1, strV s.els.text.2, .int .i64 s.els.other.1, strV s.els.other.2, .slice ea s.els.kids.length ec, .int .i64 s.els.fill, strV s.els.fillT, .int .i64 o0, .int .i64 o1, .int .i64 o2, .int .i64 o3, .int .i64 o4, .int .i64 o5, .int .i64 s.cap] 30 := by rw [hw0]; exact (At.fresh W _ _).alloc _
  have hN : At w0 (W.heap.size + 1) [.bool l, .slice ap ps.length cp, .slice at_ t.length ct, .slice ak ks.length ck] 35 := by rw [hw0]; exact At.second W _ _ _
  have HS := Lib.hid (fun (w' : World) (hb : Below w0.heap.size w0 w') => rfew15_c s _ w' hs (hu.keep (hb0.trans (hb.mono hb0.size)) (hb0.trans (hb.mono hb0.size)).size))
  have HT := Lib.hid (fun (w' : World) (hb : Below w0.heap.size w0 w') => rfew_c (.mk l ps t ks) _ 120 w' hn (by omega) (by omega) (hv.keep (hb0.trans (hb.mono hb0.size)) (hb0.trans (hb.mono hb0.size)).size))
  obtain ⟨⟨x0, x1, x2, x3, x4, x5, x6, x7, x8, x9, x10, x11, x12, x13, x14, x15⟩, -, xl⟩ := hA.f16
  have HN := Lib.hid hN
  have Hb0 := Lib.hid hb0; have Hw0 := Lib.hid hw0
  unfold smallB
  clear hu hv hu0 hv0 hs hn hb0 hw0 hA hN
  go_enter Try.func7, Try.ntmps7
  go_upto_region 1 with fail
  rw [← Hw0.out]
  clear Hw0
  go_wp2_with fail
  refine (HS.out w0 (Below.refl _ _)).mono ?_
  rintro e w1 ⟨rfl, hbel⟩
  have Hb1 := Lib.hid (hbel)
  have HN1 := Lib.hid (HN.out.kept hbel)
  clear hbel HS HN x0 x1 x2 x3 x4 x5 x6 x7 x8 x9 x10 x11 x12 x13 x14 x15 xl
  obtain ⟨⟨y0, y1, y2, y3⟩, -, yl⟩ := HN1.out.f4
  cases h1 : fewZ (s.rules ++ [s.els]) with
  | false =>
    have H1 := Lib.hid h1
    clear HT h1
    go_wp2_with fail
    go_ret
    exact ⟨ret_bool (by simp [H1.out]), Hb0.out.trans (Hb1.out.mono Hb0.out.size)⟩
  | true =>
    have H1 := Lib.hid h1
    clear h1
    go_wp2_with fail
    refine (HT.out w1 Hb1.out).mono ?_
    rintro e w2 ⟨rfl, hbel⟩
    have Hb2 := Lib.hid (Hb1.out.trans (hbel.mono Hb1.out.size))
    clear hbel HT HN1 y0 y1 y2 y3 yl
    cases h2 : fewB (.mk l ps t ks) 120 with
    | false =>
      have H2 := Lib.hid h2
      clear h2
      go_wp2_with fail
      go_ret
      exact ⟨ret_bool (by simp [H1.out, H2.out]), Hb0.out.trans (Hb2.out.mono Hb0.out.size)⟩
    | true =>
      have H2 := Lib.hid h2
      clear h2
      go_wp2_with fail
      go_ret
      exact ⟨ret_bool (by simp [H1.out, H2.out]; omega), Hb0.out.trans (Hb2.out.mono Hb0.out.size)⟩

end Go.Proofs.Ytiinmgccjlmoaaa
namespace Go.Proofs.Ytiinmgccjlmoaaa
open Go.RowKit Go.Redl
set_option linter.unusedVariables false
set_option linter.unusedSimpArgs false

theorem rsameop_ent : ∀ args w, (callFunc 38 args).run Try.prog w = .ok (.enter 38 args) w := by intro args w; kernel_rfl
/-- An operation of a list, loaded whole. -/
theorem OpsV.load {w : World} {l : List OpD} {a : Option Addr} {n c : Nat} (h : OpsV w l (.slice a n c)) (i : Nat) (hi : i < l.length) :
    ∃ b off pa pc ta tc n0 n1 n2 n3 oa oc, a = some ⟨b, off, none⟩ ∧ b < w.heap.size ∧ PathQ w (fun _ => True) pa pc l[i].path ∧ PathQ w (fun _ => True) ta tc l[i].dest ∧ NodeQ w (fun _ => True) l[i].node [n0, n1, n2, n3] ∧ RowQ w (fun _ => True) 2 oa l[i].old.length oc (propCells l[i].old) ∧
      w.rangeAt b (off + i * 21) (opCells l[i] pa pc ta tc n0 n1 n2 n3 oa oc) := by
  obtain ⟨b, off, pa, pc, ta, tc, n0, n1, n2, n3, oa, oc, h1, h2, h3, h4, h5, h6, h7⟩ := h.at_ i hi
  exact ⟨b, off, pa, pc, ta, tc, n0, n1, n2, n3, oa, oc, h1, h2, h3, h4, h5, h6, fun j v hj => h7 j v hj⟩

theorem range_keep {w w' : World} {b o : Nat} {cs : List Value} (h : w.rangeAt b o cs) (hb : b < w.heap.size) (hw : Below w.heap.size w w') : w'.rangeAt b o cs := fun j v hj => (hw.cell (p := ⟨b, o + j, none⟩) hb).trans (h j v hj)
set_option maxRecDepth 100000 in
set_option maxHeartbeats 2000000 in
theorem rsameall_yes (l : List OpD) (v v' : Value) (W : World) (hv : OpsV W l v) (hv' : OpsV W l v') (hn : l.length ≤ 100000000) : Calls Try.prog 10 #[v, v'] W (YesP W) := by
  obtain ⟨a, c, css, rfl, -, -⟩ := id hv
  obtain ⟨a', c', css', rfl, -, -⟩ := id hv'
  have Hv := Lib.hid hv; have Hv' := Lib.hid hv'
  clear hv hv'
  have hne : (((l.length : Nat) : Int) != (l.length : Int)) = false := by simp
  go_enter Try.func10, Try.ntmps10
  go_wp2_with fail
  go_loopg [13] l.length (fun g i wr => ∃ k : Nat, i = .int .i64 k ∧ k + g = l.length ∧ Below W.heap.size W wr)
  case atStart => exact ⟨0, rfl, by omega, Below.refl _ _⟩
  case round =>
    obtain ⟨k, rfl, hg, hbr⟩ := hrel
    have Hbr := Lib.hid hbr
    by_cases hlt : k < l.length
    · have hlti : (k : Int) < l.length := by omega
      obtain ⟨b, off, pa, pc, ta, tc, n0, n1, n2, n3, oa, oc, rfl, hb, h1, h2, h3, h4, h5⟩ := (Hv.out.keep hbr).load k hlt
      obtain ⟨b', off', pa', pc', ta', tc', n0', n1', n2', n3', oa', oc', rfl, hb', h1', h2', h3', h4', h5'⟩ := (Hv'.out.keep hbr).load k hlt
      have HS := Lib.hid (fun (w1 : World) (hw : Below wr.heap.size wr w1) => rsameop_yes l[k] pa pc ta tc n0 n1 n2 n3 oa oc pa' pc' ta' tc' n0' n1' n2' n3' oa' oc' w1 (h1.since hw) (h2.since hw) (h3.since hw) (h4.since hw) (h1'.since hw) (h2'.since hw) (h3'.since hw) (h4'.since hw))
      obtain ⟨C, hC⟩ : ∃ C, C = opCells l[k] pa pc ta tc n0 n1 n2 n3 oa oc := ⟨_, rfl⟩
      obtain ⟨C', hC'⟩ : ∃ C', C' = opCells l[k] pa' pc' ta' tc' n0' n1' n2' n3' oa' oc' := ⟨_, rfl⟩
      have hcl : C.length = 21 := by rw [hC]; rfl
      have hcl' : C'.length = 21 := by rw [hC']; rfl
      rw [← hC] at h5 HS; rw [← hC'] at h5' HS
      have hl1 := fun (w' : World) (h : w'.rangeAt b (off + k * 21) C) => run_loadAt_mid (P := Try.prog) w' b (off + k * 21) 62 C _ h Try.underlying62 rfl (by rw [hcl]; kernel_rfl)
      have hl2 := fun (w' : World) (h : w'.rangeAt b' (off' + k * 21) C') => run_loadAt_mid (P := Try.prog) w' b' (off' + k * 21) 62 C' _ h Try.underlying62 rfl (by rw [hcl']; kernel_rfl)
      simp [go_sem] at hl1 hl2
      have HS0 := Lib.hid (fun (w' : World) (hw : Below wr.heap.size wr w') => And.intro (range_keep h5 hb hw) (range_keep h5' hb' hw))
      clear hC hC' hcl hcl' h1 h2 h3 h4 h1' h2' h3' h4' h5 h5' hbr
      go_upto_region 6 with fail
      go_region_held3 (fun w' => w'.rangeAt b (off + k * 21) C ∧ w'.rangeAt b' (off' + k * 21) C') (refine HS0.out _ (by ((repeat (first | with_reducible exact Hb1.out | with_reducible exact Below.refl _ _ | with_reducible refine Below.drew ?_ | with_reducible refine Below.alloc ?_ ?_ _ | with_reducible refine Below.setCell ?_ ?_ _)) <;> (first | with_reducible exact Nat.le_refl _ | with_reducible exact Hb1.out.size | (have hsz := Hb1.out.size; simp [World.setCell]; omega) | (simp; done) | (simp; omega) | omega))))
        (first
        | (refine step_call rfl 38 _ _ rfl rsameop_ent [.agg C.toArray, .agg C'.toArray] ?_ _ (HS.out _ (by ((repeat (first | with_reducible exact Below.refl _ _ | with_reducible refine Below.drew ?_ | with_reducible refine Below.alloc ?_ ?_ _ | with_reducible refine Below.setCell ?_ ?_ _)) <;> (first | with_reducible exact Nat.le_refl _ | (simp; done) | (simp; omega) | omega)))) ?_
           · go_simp
           rintro e w1 ⟨rfl, hbel⟩
           refine ⟨_, rfl, ?_⟩
           have Hb1 := Lib.hid (Below.and (w0 := wr) (by ((repeat (first | with_reducible exact Below.refl _ _ | with_reducible refine Below.drew ?_ | with_reducible refine Below.alloc ?_ ?_ _ | with_reducible refine Below.setCell ?_ ?_ _)) <;> (first | with_reducible exact Nat.le_refl _ | (simp; done) | (simp; omega) | omega))) hbel)
           clear hbel))
      all_goals
        clear hl1 hl2
        go_wp2_with fail
        go_roundg (l.length - (k + 1))
        case measure => omega
        case rel => exact ⟨k + 1, by go_num, by omega, Hbr.out.trans (Hb1.out.mono Hbr.out.size)⟩
    · have hnl : decide ((k : Int) < l.length) = false := by simp; omega
      clear hbr
      go_wp2_with fail
      go_ret
      exact ⟨rfl, Hbr.out⟩

end Go.Proofs.Ytiinmgccjlmoaaa
namespace Go.Proofs.Ytiinmgccjlmoaaa
open Go.RowKit Go.Redl
set_option linter.unusedVariables false
set_option linter.unusedSimpArgs false

theorem fixL_len (r : RuleD) (ks : List NodeD) (p : List Int) (f : FindD) (m : Nat) (h1 : wtAll ks ≤ m) (h2 : f.2.2 ≤ (m : Int) + 1) : (fixL r ks p f).length ≤ m + 2 := by
  have hk : (kidsOf (kidAt ks f.2.1.toNat)).length ≤ m := by
    have h3 : (kidAt ks f.2.1.toNat).wt ≤ m + 1 := by
      by_cases hi : f.2.1.toNat < ks.length
      · rw [kid_get hi]; have := wtAll_mem (List.getElem_mem hi); omega
      · rw [show kidAt ks f.2.1.toNat = .mk false [] [] [] from by simp [kidAt, List.getD, List.getElem?_eq_none (show ks.length ≤ f.2.1.toNat by omega)]]
        simp [NodeD.wt, propsWt, wtAll]
    generalize kidAt ks f.2.1.toNat = q at h3 ⊢
    obtain ⟨l, ps, t, ks'⟩ := q
    have := wtAll_len ks'
    simp only [NodeD.wt, kidsOf] at h3 ⊢
    omega
  unfold fixL
  split
  · simp only [List.length_cons, List.length_nil]; omega
  split
  · simp only [List.length_append, List.length_map, List.length_range, List.length_cons, List.length_nil]; omega
  split
  · simp only [List.length_cons, List.length_map, List.length_range]; omega
  split
  · simp only [List.length_cons, List.length_nil]; omega
  · simp only [List.length_cons, List.length_nil]; omega
theorem fixN_len (s : SchemaD) (n : NodeD) (p : List Int) (hn : n.wt ≤ 1048576) : (fixN s n p).1.length ≤ 100000000 := by
  have hw := atN_wt p n
  unfold fixN
  cases hat : atN n p with
  | none => simp
  | some k =>
    have hk := hw k hat
    simp only
    split
    · simp
    split
    · simp
    · have hks : wtAll (kidsOf k) ≤ 1048576 := by
        obtain ⟨l, ps, t, ks'⟩ := k
        simp only [NodeD.wt, kidsOf] at hk ⊢
        omega
      have hl := wtAll_len (kidsOf k)
      have hm : (findN s k).2.2 ≤ ((1048576 : Nat) : Int) + 1 := by
        rcases find_cases s k with hF | ⟨c, j, -, -, -, -, hF, -, -, -⟩
        · rw [hF]; simp
        · rw [hF]
          show ((manyN (ruleOf s (typeN k)) (kidsOf k) c : Nat) : Int) ≤ _
          have : manyN (ruleOf s (typeN k)) (kidsOf k) c ≤ 1 + (kidsOf k).length := by
            unfold manyN
            split
            · unfold runA
              have h1 := List.takeWhile_prefix (l := ((actsOf (ruleOf s (typeN k)) (kidsOf k)).drop ((lookN (ruleOf s (typeN k)) (kidsOf k) c).toNat + 1))) (p := fun a => decide (a = (actsOf (ruleOf s (typeN k)) (kidsOf k)).getD (lookN (ruleOf s (typeN k)) (kidsOf k) c).toNat (0, [])))
              have h2 := h1.length_le
              have h3 : ((actsOf (ruleOf s (typeN k)) (kidsOf k)).drop ((lookN (ruleOf s (typeN k)) (kidsOf k) c).toNat + 1)).length ≤ (kidsOf k).length := by simp [actsOf]
              omega
            · omega
          omega
      have := fixL_len (ruleOf s (typeN k)) (kidsOf k) p (findN s k) 1048576 hks hm
      exact Nat.le_trans this (by omega)

theorem small_path (s : SchemaD) (n : NodeD) (p : List Int) (h : smallB s n p = true) : p.length ≤ 40 := by
  unfold smallB at h
  simp only [Bool.and_eq_true, decide_eq_true_eq] at h
  exact h.2

set_option maxRecDepth 100000 in
set_option maxHeartbeats 4000000 in
theorem fixdoes_walk (s : SchemaD) (n : NodeD) (u v : Value) (p : List Int) (pa : Option Addr) (pc : Nat) (W : World) (hs : s.wt ≤ 1048576) (hn : n.wt ≤ 1048576) (hpl : p.length ≤ 1048576) (hu : SchemaV W W.heap.size s u) (hv : NodeV W W.heap.size n v) (hp : RowA W W.heap.size 1 pa p.length pc (p.map (Value.int .i64))) :
    Calls Try.prog 3 #[u, v, .slice pa p.length pc] W (fun e w' => e = .returned (.bool true) ∧ Below W.heap.size W w') := by
  have hu0 := hu; have hv0 := hv
  obtain ⟨l, ps, t, ks⟩ := n
  obtain ⟨a, c, css, ea, ec, o0, o1, o2, o3, o4, o5, rfl, -, -, -, -⟩ := hu0.open
  obtain ⟨ap, cp, at_, ct, ak, ck, cs4, rfl, -, -, -, -⟩ := hv0.open
  generalize NodeD.mk l ps t ks = n at hn hv ⊢
  obtain ⟨w0, hw0⟩ : ∃ w0, w0 = (W.alloc (Obj.cells #[.slice a s.rules.length c, strV s.els.type, .int .i64 s.els.text.1, strV s.els.text.2, .int .i64 s.els.other.1, strV s.els.other.2, .slice ea s.els.kids.length ec, .int .i64 s.els.fill, strV s.els.fillT, .int .i64 o0, .int .i64 o1, .int .i64 o2, .int .i64 o3, .int .i64 o4, .int .i64 o5, .int .i64 s.cap] 30)).alloc (Obj.cells #[.bool l, .slice ap ps.length cp, .slice at_ t.length ct, .slice ak ks.length ck] 35) := ⟨_, rfl⟩
  have hb0 : Below W.heap.size W w0 := by rw [hw0]; exact (one_below _ _).trans ((one_below _ _).mono (one_below _ _).size)
  have hA : At w0 W.heap.size [.slice a s.rules.length c, strV s.els.type, .int .i64 s.els.text.1, strV s.els.text.2, .int .i64 s.els.other.1, strV s.els.other.2, .slice ea s.els.kids.length ec, .int .i64 s.els.fill, strV s.els.fillT, .int .i64 o0, .int .i64 o1, .int .i64 o2, .int .i64 o3, .int .i64 o4, .int .i64 o5, .int .i64 s.cap] 30 := by rw [hw0]; exact (At.fresh W _ _).alloc _
  have hN : At w0 (W.heap.size + 1) [.bool l, .slice ap ps.length cp, .slice at_ t.length ct, .slice ak ks.length ck] 35 := by rw [hw0]; exact At.second W _ _ _
  have HF := Lib.hid (fun (w' : World) (hb : Below w0.heap.size w0 w') => lawfew_c s n _ _ p pa pc w' (by omega) (by omega) (by omega) (hu.keep (hb0.trans (hb.mono hb0.size)) (hb0.trans (hb.mono hb0.size)).size) (hv.keep (hb0.trans (hb.mono hb0.size)) (hb0.trans (hb.mono hb0.size)).size))
  have HL := Lib.hid (live_c w0)
  have HA := Lib.hid hA; have HN := Lib.hid hN
  have Hb0 := Lib.hid hb0; have Hw0 := Lib.hid hw0
  have hld := fun (w' : World) (h : At w' W.heap.size [.slice a s.rules.length c, strV s.els.type, .int .i64 s.els.text.1, strV s.els.text.2, .int .i64 s.els.other.1, strV s.els.other.2, .slice ea s.els.kids.length ec, .int .i64 s.els.fill, strV s.els.fillT, .int .i64 o0, .int .i64 o1, .int .i64 o2, .int .i64 o3, .int .i64 o4, .int .i64 o5, .int .i64 s.cap] 30) => At.load (P := Try.prog) h Try.underlying30 rfl (by kernel_rfl)
  simp [go_sem] at hld
  cases hsm : smallB s n p with
  | false =>
    rw [hsm] at HF
    clear hu hv hu0 hv0 hs hn hb0 hw0 hA hN hp hpl hsm
    go_enter Try.func3, Try.ntmps3
    go_upto_region 1 with fail
    rw [← Hw0.out]
    clear Hw0
    go_wp2_with fail
    refine HL.out.mono ?_
    rintro e w1 ⟨rfl, hbel⟩
    have Hb1 := Lib.hid hbel
    have hS := hld w1 (HA.out.kept hbel)
    obtain ⟨⟨y0, y1, y2, y3⟩, -, yl⟩ := (HN.out.kept hbel).f4
    have HF1 := Lib.hid (HF.out w1 hbel)
    clear hbel HL HF hld
    go_wp2_with fail
    refine HF1.out.mono ?_
    rintro e w2 ⟨rfl, hbel⟩
    have Hb2 := Lib.hid (Hb0.out.trans ((below_and Hb1.out hbel).mono Hb0.out.size))
    clear hbel HF1 hS y0 y1 y2 y3 yl
    go_wp2_with fail
    go_ret
    exact ⟨rfl, Hb2.out⟩
  | true =>
    rw [hsm] at HF
    have hp40 := small_path s n p hsm
    have HO := Lib.hid (fun (w' : World) (hb : Below w0.heap.size w0 w') => fixops_c s _ n _ p pa pc w' (by omega) (by omega) (hu.keep (hb0.trans (hb.mono hb0.size)) (hb0.trans (hb.mono hb0.size)).size) (hv.keep (hb0.trans (hb.mono hb0.size)) (hb0.trans (hb.mono hb0.size)).size) (hp.keep (hb0.trans (hb.mono hb0.size)) (hb0.trans (hb.mono hb0.size)).size) (by omega))
    have HR := Lib.hid (fun (w' : World) (hb : Below w0.heap.size w0 w') => rfixops_c s _ n _ p pa pc w' (by omega) (by omega) (hu.keep (hb0.trans (hb.mono hb0.size)) (hb0.trans (hb.mono hb0.size)).size) (hv.keep (hb0.trans (hb.mono hb0.size)) (hb0.trans (hb.mono hb0.size)).size) (hp.keep (hb0.trans (hb.mono hb0.size)) (hb0.trans (hb.mono hb0.size)).size) (by omega))
    have HLen := Lib.hid (fixN_len s n p (by omega))
    generalize fixN s n p = R at HO HR HLen
    obtain ⟨L, er⟩ := R
    clear hu hv hu0 hv0 hs hn hb0 hw0 hA hN hp hpl hsm hp40
    go_enter Try.func3, Try.ntmps3
    go_upto_region 1 with fail
    rw [← Hw0.out]
    clear Hw0
    go_wp2_with fail
    refine HL.out.mono ?_
    rintro e w1 ⟨rfl, hbel⟩
    have Hb1 := Lib.hid hbel
    have hS := hld w1 (HA.out.kept hbel)
    obtain ⟨⟨y0, y1, y2, y3⟩, -, yl⟩ := (HN.out.kept hbel).f4
    have HF1 := Lib.hid (HF.out w1 hbel)
    clear hbel HL HF
    go_wp2_with fail
    refine HF1.out.mono ?_
    rintro e w2 ⟨rfl, hbel⟩
    have hb2 := below_and Hb1.out hbel
    have Hb2 := Lib.hid hb2
    clear hbel HF1 hS y0 y1 y2 y3 yl
    have hS := hld w2 (HA.out.kept hb2)
    obtain ⟨⟨y0, y1, y2, y3⟩, -, yl⟩ := (HN.out.kept hb2).f4
    have HO1 := Lib.hid (HO.out w2 hb2)
    clear hb2 HO
    go_wp2_with fail
    refine HO1.out.mono ?_
    rintro e w3 ⟨va, rfl, hva, hbel⟩
    have hb3 := below_and Hb2.out hbel
    have Hb3 := Lib.hid hb3; have Hva := Lib.hid hva
    clear hbel hva HO1 hS y0 y1 y2 y3 yl
    have hS := hld w3 (HA.out.kept hb3)
    obtain ⟨⟨y0, y1, y2, y3⟩, -, yl⟩ := (HN.out.kept hb3).f4
    have HR1 := Lib.hid (HR.out w3 hb3)
    clear hb3 HR
    go_wp2_with fail
    refine HR1.out.mono ?_
    rintro e w4 ⟨vb, rfl, hvb, hbel⟩
    have Hb4 := Lib.hid (below_and Hb3.out hbel)
    have HS1 := Lib.hid (rsameall_yes L va vb w4 (Hva.out.keep hbel) hvb HLen.out)
    obtain ⟨a1, c1, -, rfl, -, -⟩ := Hva.out
    obtain ⟨a2, c2, -, rfl, -, -⟩ := hvb
    clear hbel HR1 hS y0 y1 y2 y3 yl Hva
    go_wp2_with fail
    refine HS1.out.mono ?_
    rintro e w5 ⟨rfl, hbel⟩
    have Hb5 := Lib.hid (Hb0.out.trans ((below_and Hb4.out hbel).mono Hb0.out.size))
    clear hbel HS1
    go_wp2_with fail
    go_ret
    exact ⟨ret_bool (by simp), Hb5.out⟩

end Go.Proofs.Ytiinmgccjlmoaaa
namespace Go.Proofs.Ytiinmgccjlmoaaa
open Go.ChangeShapes Go.WideShapes Go.ChangeAt Go.WideMaps Go.WideElems Go.RowKit Go.Redl Go.Deep
set_option linter.unusedVariables false

theorem own : ownKnob Try.prog.godebug = none := by kernel_rfl
theorem laidOut : laidOutB Try.prog = true := by kernel_rfl

def IntΦ {H : Type} (z : Int) (cs : List Value) (d : DataW H) : Prop := cs = [.int .i64 z] ∧ 1 ≤ Rows.uptoBulk d
theorem elems_path {H : Type} : ∀ {l : List Int} {css : List Value} {ds : List (DataW H)}, Elems IntΦ l css ds → css = l.map (Value.int .i64) ∧ l.length ≤ Rows.uptoBulkAll ds
  | [], css, ds, h => by obtain ⟨rfl, rfl⟩ := h; exact ⟨rfl, by simp⟩
  | z :: l, css, ds, h => by
    obtain ⟨c, cs, d, ds', rfl, rfl, ⟨rfl, hb⟩, hr⟩ := h
    obtain ⟨rfl, h3⟩ := elems_path hr
    exact ⟨rfl, by simp only [List.length_cons, Rows.uptoBulkAll]; omega⟩
theorem path_of_trod {H : Type} {enc : TypeId × Value → H} {W : World} {fuel : Nat} {cs : List Value} {x : DataW H × List MemPlace} (h : DataW.trod enc Try.prog W 0 (fun _ => true) true fuel 36 cs = some x) :
    ∃ a cap zs, cs = [.slice a (List.length zs) cap] ∧ RowA W W.heap.size 1 a (List.length zs) cap (zs.map (Value.int .i64)) ∧ zs.length + 1 ≤ Rows.uptoBulk x.1 := by
  obtain ⟨a, cap, ys, css, ds, rfl, hr, hel, hs⟩ := row_of_trod IntΦ Try.underlying36 (show Try.prog.cellsOf 3 = 1 by kernel_rfl) (by decide)
    (fun m cs x _ hx => by
      obtain ⟨xv, xp⟩ := x
      obtain ⟨z, e0, e1, -⟩ := DataW.trod_int Try.underlying3 hx
      have e2 := (Prod.mk.inj e1).1
      subst e2
      exact ⟨z, e0, by simp [Rows.uptoBulk]⟩) (fun y c d hh => by obtain ⟨rfl, -⟩ := hh; intro u hu; simp at hu; subst hu; rfl) h
  obtain ⟨rfl, hlen⟩ := elems_path hel
  have m0 := slice_bulk (n := 0) (hs.imp (fun h => ⟨h.1, rfl, h.2.2⟩) id)
  exact ⟨a, cap, ys, rfl, hr, by omega⟩

end Go.Proofs.Ytiinmgccjlmoaaa
namespace Go.Proofs.Ytiinmgccjlmoaaa
open Go.ChangeShapes Go.WideShapes Go.ChangeAt Go.RowKit Go.Redl
set_option linter.unusedVariables false
set_option maxRecDepth 100000

theorem fixDoes_contract (H : Type) (enc : TypeId × Value → H) (W : World) (base : Nat) (args : Array Value) (ds gs : List (DataW H)) (before : List MemPlace)
    (hval0 : ∀ (j : Nat) t v, Try.f3.params[j]? = some t → args[j]? = some v → Value.okWide Try.prog W .any base t v)
    (hW : DataW.Whole enc Try.prog Try.f3.params.toList Rows.fixDoesSpec.vars false W args.toList ds gs before) (hk : Rows.uptoSmall H (ds ++ gs) = true) :
    Calls Try.prog 3 args W fun e W' => ∃ v, e = .returned v ∧ Rows.fixDoesSpec.post enc Try.prog Try.f3 false true false false W args v W' := by
  have hval : ∀ (j : Nat) t v, Try.f3.params[j]? = some t → args[j]? = some v → Value.okWide Try.prog W .any base t v := hval0
  have hW' := hW
  obtain ⟨p, q, hA0, hV, rfl, hfz, hnd⟩ := hW
  have hA : DataW.TrodAll enc Try.prog W 0 (fun _ => true) true Try.f3.params.toList args.toList ds p := hA0
  rw [Try.params3] at hA hval
  obtain ⟨v0, vs0, d0, ds0, p0, q0, hargs, rfl, rfl, h0, r0⟩ := trodAll_cons hA
  obtain ⟨v1, vs1, d1, ds1, p1, q1, rfl, rfl, rfl, h1, r1⟩ := trodAll_cons r0
  obtain ⟨v2, vs2, d2, ds2, p2, q2, rfl, rfl, rfl, h2, r2⟩ := trodAll_cons r1
  obtain ⟨rfl, rfl, rfl⟩ := trodAll_nil r2
  obtain rfl : args = #[v0, v1, v2] := by cases args; simp_all
  obtain ⟨rfl, rfl⟩ := trodVars_none hV
  obtain ⟨cs0, rfl, hsz0⟩ := okWide_struct Try.underlying30 (hval 0 30 v0 rfl rfl)
  have k0 := h0
  have lt0 : ∀ x ∈ p0, x.block < W.heap.size := by obtain ⟨m, hm⟩ := k0; exact DataW.trod_lt m _ _ _ hm
  obtain ⟨n0, i0, u0⟩ : ∃ n, SchemaV W W.heap.size n (.agg cs0) ∧ n.wt ≤ Rows.uptoBulk d0 := by
    obtain ⟨fuel, hf⟩ := h0
    obtain ⟨n, h1, h2⟩ := schema_of_trod hf
    exact ⟨n, ⟨cs0.toList, by simp, h1⟩, h2⟩
  obtain ⟨cs1, rfl, hsz1⟩ := okWide_struct Try.underlying35 (hval 1 35 v1 rfl rfl)
  have k1 := h1
  have lt1 : ∀ x ∈ p1, x.block < W.heap.size := by obtain ⟨m, hm⟩ := k1; exact DataW.trod_lt m _ _ _ hm
  obtain ⟨n1, i1, u1⟩ : ∃ n, NodeV W W.heap.size n (.agg cs1) ∧ n.wt ≤ Rows.uptoBulk d1 := by
    obtain ⟨fuel, hf⟩ := h1
    obtain ⟨n, h1, h2⟩ := node_of_trod fuel _ _ hf
    exact ⟨n, ⟨cs1.toList, by simp, h1⟩, h2⟩
  obtain ⟨a2, len2, cap2, rfl⟩ := okWide_slice Try.underlying36 (hval 2 36 v2 rfl rfl)
  have k2 := h2
  have lt2 : ∀ x ∈ p2, x.block < W.heap.size := by obtain ⟨m, hm⟩ := k2; exact DataW.trod_lt m _ _ _ hm
  obtain ⟨n2, hl2, i2, u2⟩ : ∃ zs : List Int, len2 = zs.length ∧ RowA W W.heap.size 1 a2 zs.length cap2 (zs.map (Value.int .i64)) ∧ zs.length + 1 ≤ Rows.uptoBulk d2 := by
    obtain ⟨fuel, hf⟩ := h2
    obtain ⟨a, cap, zs, h0, h1, h2⟩ := path_of_trod hf
    simp [Value.cells] at h0
    obtain ⟨rfl, rfl, rfl⟩ := h0
    exact ⟨zs, rfl, h1, h2⟩
  subst hl2
  have hb : Rows.uptoBulkAll _ ≤ 1048576 := of_decide_eq_true hk
  simp only [List.append_nil, Rows.uptoBulkAll, Nat.add_zero] at hb
  clear hA0 hval0
  refine (fixdoes_walk n0 n1 _ _ n2 _ _ W (by omega) (by omega) (by omega) i0 i1 i2).mono fun e W' ⟨he, bel⟩ => ?_
  subst he
  exact ⟨_, rfl, _, _, _, [], _, [], hW', trodAll_mk1 (shut_bool Try.underlying4 _), (trodAll_cons_mk (Below.trod laidOut (by kernel_rfl) (of_decide_eq_true (by kernel_rfl)) k0 bel lt0) (trodAll_cons_mk (Below.trod laidOut (by kernel_rfl) (of_decide_eq_true (by kernel_rfl)) k1 bel lt1) (trodAll_cons_mk (Below.trod laidOut (by kernel_rfl) (of_decide_eq_true (by kernel_rfl)) k2 bel lt2) trodAll_mk0))), rfl, bel.frame _, fun h => by cases h⟩

theorem fixDoes_lifted (os : Os) (started : os.Started) (H : Type) (enc : TypeId × Value → H) (F : Stop.Interp) :
    ReturnsInHanded {} Try.checked os 3 .any ((Rows.OpenSpec.upto Rows.fixDoesSpec).pre6 enc Try.prog Try.f3 Rows.fixDoesUptoRow.domain false) (((Rows.OpenSpec.upto Rows.fixDoesSpec).at F).post enc Try.prog Try.f3 false true false false) := by
  refine returnsInHanded_of_cond (C := Try.checked) (s := Rows.OpenSpec.upto Rows.fixDoesSpec) (k := Rows.uptoSmall) rfl own started (by kernel_rfl) Try.func3
    (OpenSpec.witness (enc := enc) (C := Try.checked) (s := Rows.OpenSpec.upto Rows.fixDoesSpec) (k := Rows.uptoSmall) rfl false ⟨#[], #[.agg #[.slice none 0 0, .string ⟨#[]⟩, .int .i64 0, .string ⟨#[]⟩, .int .i64 0, .string ⟨#[]⟩, .slice none 0 0, .int .i64 0, .string ⟨#[]⟩, .int .i64 0, .int .i64 0, .int .i64 0, .int .i64 0, .int .i64 0, .int .i64 0, .int .i64 0], .agg #[.bool false, .slice none 0 0, .slice none 0 0, .slice none 0 0], .slice none 0 0], []⟩ 8 (by kernel_rfl) (by kernel_rfl) (by kernel_rfl)
      (x := ([.agg [.nil, .agg [.lit (.string []), .agg [.lit (.int .i64 0), .lit (.string [])], .agg [.lit (.int .i64 0), .lit (.string [])], .nil, .lit (.int .i64 0), .lit (.string [])], .agg [.lit (.int .i64 0), .lit (.int .i64 0), .lit (.int .i64 0), .lit (.int .i64 0), .lit (.int .i64 0), .lit (.int .i64 0)], .lit (.int .i64 0)], .agg [.lit (.bool false), .nil, .nil, .nil], .nil], [], [])) (by kernel_rfl) rfl (by kernel_rfl)) ?_
  intro W base args ds gs before hval hW _ hk _
  exact fixDoes_contract H enc W base args ds gs before hval hW hk

/-- The statement. -/
theorem fixDoes_upto : Rows.FixDoesUptoSaid :=
  OpenClaim.holds_of_cond 3 Try.f3 rfl rfl rfl rfl rfl rfl rfl ⟨rfl, rfl, rfl, rfl, rfl⟩ rfl rfl rfl rfl rfl (by kernel_rfl) Try.func3 (by kernel_rfl)
    (of_decide_eq_true (by kernel_rfl)) (by unfold Func.isWrapper; rw [if_neg (by decide +kernel)]; exact ⟨rfl, rfl⟩)
    (fun os started H enc _ F => fixDoes_lifted os started H enc F)
#print axioms fixDoes_upto

end Go.Proofs.Ytiinmgccjlmoaaa
