/- Walks: CodePrints' example; CodePrints. -/
import Derived.Test.YtmhgbocejjnoaaaDoorRW7
import Derived.Test.YtmhgbocejjnoaaaDoorRR7
import Derived.Laws.IdiomStrings
namespace Go.Proofs.YtmhgbocejjnoaaaDoor
open Go.RowKit Go.Redl
set_option linter.unusedVariables false

/-- A text of one byte, as runes. -/
theorem conv_one (c : UInt8) (hc : Conv.runesFrom ⟨#[c]⟩ 1 0 #[] = #[.int .i32 c.toNat]) (w : World) : ∃ cap w', (convert 9 23 (.string ⟨#[c]⟩)).run Tryd.prog w = .ok (.slice (some ⟨w.heap.size, 0, none⟩) 1 cap) w' ∧
    Below w.heap.size w w' ∧ RowA w' w'.heap.size 1 (some ⟨w.heap.size, 0, none⟩) 1 cap [.int .i32 c.toNat] := by
  have hsz : (Conv.runesFrom ⟨#[c]⟩ (⟨#[c]⟩ : ByteArray).size 0 #[]) = #[.int .i32 c.toNat] := hc
  have h := run_runes_of_string (P := Tryd.prog) w 9 23 21 ⟨#[c]⟩ Tryd.underlying9 Tryd.underlying23 Tryd.underlying21 (by rw [hsz]; simp)
  rw [hsz] at h
  have h1 : (#[Value.int .i32 c.toNat] : Array Value).size = 1 := rfl
  rw [h1] at h
  have hge := grownCap_ge w 1 0 21
  have hcm := grownCap_le_maxLen w 1 0 21 (by unfold maxLen; omega)
  refine ⟨_, _, h, (Below.refl _ _).drew.alloc (Nat.le_refl _) _, ⟨by simp, hge, hcm, by simp; rfl, (fun h => by cases h), fun _ => ⟨w.heap.size, 0, rfl, by simp, fun j u hj => ?_⟩⟩⟩
  have hg := heap_alloc_new w.drew (Obj.cells (#[Value.int .i32 c.toNat] ++ Array.replicate (grownCap w 1 0 21 - 1) (.int .i32 0)) 21)
  have hd : w.drew.heap.size = w.heap.size := rfl
  rw [hd] at hg
  rw [cell_of_row _ w.heap.size (0 + j) _ _ _ hg]
  have hj0 : j = 0 := by
    cases j with
    | zero => rfl
    | succ j => simp at hj
  subst hj0
  simp at hj
  subst hj
  rw [Array.getElem?_append_left (by simp)]
  rfl
/-- A leaf of one byte. -/
def LeafP (W : World) (ps : List PropD) (c : UInt8) (e : Ending) (w' : World) : Prop :=
  ∃ ap cp at_ ct, e = .returned (.agg #[.bool true, .slice ap ps.length cp, .slice at_ 1 ct, .slice none 0 0]) ∧ NodeC w' w'.heap.size (.mk true ps [(c.toNat : Int)] []) [.bool true, .slice ap ps.length cp, .slice at_ 1 ct, .slice none 0 0] ∧ Below W.heap.size W w'

set_option maxRecDepth 100000 in
set_option maxHeartbeats 1000000 in
theorem leaf_c (c : UInt8) (hc : Conv.runesFrom ⟨#[c]⟩ 1 0 #[] = #[.int .i32 c.toNat]) (ps : List PropD) (ap : Option Addr) (cp : Nat) (W : World) (hp : RowA W W.heap.size 2 ap ps.length cp (propCells ps)) :
    Calls Tryd.prog 16 #[.string ⟨#[c]⟩, .slice ap ps.length cp] W (LeafP W ps c) := by
  obtain ⟨cap, w1, h1, h2, h3⟩ := conv_one c hc (W.alloc (Obj.cells #[Value.bool false, Value.slice none 0 0, Value.slice none 0 0, Value.slice none 0 0] 26))
  have hsz0 : (W.alloc (Obj.cells #[Value.bool false, Value.slice none 0 0, Value.slice none 0 0, Value.slice none 0 0] 26)).heap.size = W.heap.size + 1 := by simp
  have hz := h2.size
  rw [hsz0] at h2 hz h3 h1
  have hblk : w1.heap[W.heap.size]? = some (Obj.cells #[Value.bool false, Value.slice none 0 0, Value.slice none 0 0, Value.slice none 0 0] 26 (0, 0)) := by
    rw [h2.block _ (by omega)]; exact heap_alloc_new W _
  have k0 : w1.cell? ⟨W.heap.size, 0, none⟩ = some (.bool false) := by rw [cell_of_row _ _ _ _ _ _ hblk]; rfl
  have k1 : w1.cell? ⟨W.heap.size, 1, none⟩ = some (.slice none 0 0) := by rw [cell_of_row _ _ _ _ _ _ hblk]; rfl
  have k2 : w1.cell? ⟨W.heap.size, 2, none⟩ = some (.slice none 0 0) := by rw [cell_of_row _ _ _ _ _ _ hblk]; rfl
  have k3 : w1.cell? ⟨W.heap.size, 3, none⟩ = some (.slice none 0 0) := by rw [cell_of_row _ _ _ _ _ _ hblk]; rfl
  have f0 : ∀ i, w1.frozen? ⟨W.heap.size, i, none⟩ = false := fun i => by simp [World.frozen?, hblk]
  have Hp := Lib.hid hp; have H2 := Lib.hid h2; have H3 := Lib.hid h3; have Hblk := Lib.hid hblk
  clear hp h2 h3 hsz0 hblk hc
  go_enter Tryd.func16, Tryd.ntmps16
  go_wp2_with fail
  have hz2 : W.heap.size + 1 < w1.heap.size ∨ True := .inr trivial
  refine bodyPost_ret (v := .agg #[.bool true, .slice ap ps.length cp, .slice (some ⟨W.heap.size + 1, 0, none⟩) 1 cap, .slice none 0 0]) (by simp [results, Tryd.results16, go_sem, k0, k1, k2, k3]) rfl ⟨ap, cp, _, cap, rfl, ?_, ?_⟩
  · have hb : Below W.heap.size W w1 := below_unbox H2.out
    have r1 : RowA w1 w1.heap.size 2 ap ps.length cp (propCells ps) := Hp.out.keep hb hb.size
    have hn1 : ∀ b off, ap = some ⟨b, off, none⟩ → propCells ps ≠ [] → b < W.heap.size := fun b off h hne => by
      obtain ⟨b', off', h', hlt, -⟩ := Hp.out.some_ hne
      rw [h] at h'
      cases h'; exact hlt
    unfold NodeC
    refine ⟨ap, cp, _, cap, none, 0, [], rfl, ?_, ?_, ?_, RowA.empty _ _ _, by unfold KidsC; rfl⟩
    · have hlen := propCells_len ps
      by_cases hpe : propCells ps = []
      · have h0 := Hp.out
        exact ⟨h0.len, h0.le, h0.max, h0.one, h0.nil, fun h => absurd hpe h⟩
      · have r2 := (((r1.setCell ⟨W.heap.size, 0, none⟩ (.bool true) (fun b off h => by have := hn1 b off h hpe; simp; omega)).setCell ⟨W.heap.size, 1, none⟩ (.slice ap ps.length cp) (fun b off h => by have := hn1 b off h hpe; simp; omega)).setCell ⟨W.heap.size, 2, none⟩ (.slice (some ⟨W.heap.size + 1, 0, none⟩) 1 cap) (fun b off h => by have := hn1 b off h hpe; simp; omega)).setCell ⟨W.heap.size, 3, none⟩ (.slice none 0 0) (fun b off h => by have := hn1 b off h hpe; simp; omega)
        simpa [World.setCell] using r2
    · have r2 := (((H3.out.setCell ⟨W.heap.size, 0, none⟩ (.bool true) (fun b off h => by cases h; simp)).setCell ⟨W.heap.size, 1, none⟩ (.slice ap ps.length cp) (fun b off h => by cases h; simp)).setCell ⟨W.heap.size, 2, none⟩ (.slice (some ⟨W.heap.size + 1, 0, none⟩) 1 cap) (fun b off h => by cases h; simp)).setCell ⟨W.heap.size, 3, none⟩ (.slice none 0 0) (fun b off h => by cases h; simp)
      simpa [World.setCell] using r2
    · intro z hz
      simp at hz
      subst hz
      have := c.toNat_lt
      have h1 : IntKind.i32.min = -2147483648 := by decide
      have h2 : IntKind.i32.max = 2147483647 := by decide
      simp only [Lit.wf, Bool.and_eq_true, decide_eq_true_eq, h1, h2]
      omega
  · exact ((((below_unbox H2.out).setCell (p := ⟨W.heap.size, 0, none⟩) (Nat.le_refl _) _).setCell (p := ⟨W.heap.size, 1, none⟩) (Nat.le_refl _) _).setCell (p := ⟨W.heap.size, 2, none⟩) (Nat.le_refl _) _).setCell (p := ⟨W.heap.size, 3, none⟩) (Nat.le_refl _) _

end Go.Proofs.YtmhgbocejjnoaaaDoor
