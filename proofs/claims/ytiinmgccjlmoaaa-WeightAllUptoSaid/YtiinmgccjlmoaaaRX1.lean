/- A frame by types: what is not of some types is as it was. No program in sight. -/
import Derived.Test.YtiinmgccjlmoaaaRN1
namespace Go.Redl
open Go.RowKit
set_option linter.unusedVariables false

/-- Below block B all is as it was; from there on, each block that is of none of the types that are let go is. -/
structure Spares (bad : TypeId → Bool) (B : Nat) (w w' : World) : Prop where
  below : Below B w w'
  size : w.heap.size ≤ w'.heap.size
  block : ∀ (i : Nat) (cs : Array Value) (T : TypeId) (fr : Nat × Nat), w.heap[i]? = some (Obj.cells cs T fr) → bad T = false → w'.heap[i]? = some (Obj.cells cs T fr)

section
variable {bad : TypeId → Bool} {B : Nat} {w w' w'' : World}
theorem Spares.refl (hB : B ≤ w.heap.size) : Spares bad B w w := ⟨Below.mono (Below.refl _ _) hB, Nat.le_refl _, fun _ _ _ _ h _ => h⟩
theorem Spares.trans (h : Spares bad B w w') (k : Spares bad B w' w'') : Spares bad B w w'' :=
  ⟨h.below.trans k.below, Nat.le_trans h.size k.size, fun i cs T fr hi hT => k.block i cs T fr (h.block i cs T fr hi hT) hT⟩
theorem Spares.of_below (h : Below w.heap.size w w') (hB : B ≤ w.heap.size) : Spares bad B w w' :=
  ⟨h.mono hB, h.size, fun i cs T fr hi _ => (h.block i (by
    rcases Nat.lt_or_ge i w.heap.size with hlt | hge
    · exact hlt
    · rw [Array.getElem?_eq_none hge] at hi; cases hi)).trans hi⟩
theorem Spares.alloc (h : Spares bad B w w') (hB : B ≤ w.heap.size) (o : Obj) : Spares bad B w (w'.alloc o) :=
  h.trans (Spares.of_below ((Below.refl _ _).alloc (Nat.le_refl _) o) (Nat.le_trans hB h.size))
theorem Spares.more (h : Spares bad B w w') (hb : Below w'.heap.size w' w'') (hB : B ≤ w.heap.size) : Spares bad B w w'' :=
  h.trans (Spares.of_below hb (Nat.le_trans hB h.size))
theorem Spares.box (h : Spares bad B w w') {i : Nat} {c : Value} {T : TypeId} (hi : w.heap[i]? = some (Obj.cells #[c] T (0, 0))) (hT : bad T = false) : w'.cell? ⟨i, 0, none⟩ = some c := by
  rw [cell_of_row _ _ _ _ _ _ (h.block i _ _ _ hi hT)]; rfl
/-- A store into a block whose type is let go. -/
theorem Spares.setCell (h : Spares bad B w w') {b off : Nat} {cs : Array Value} {T : TypeId} {fr : Nat × Nat} (hb : w'.heap[b]? = some (Obj.cells cs T fr)) (hT : bad T = true) (hB : B ≤ b) (v : Value) : Spares bad B w (w'.setCell ⟨b, off, none⟩ v) := by
  refine ⟨h.below.setCell (p := ⟨b, off, none⟩) hB v, by simpa [World.setCell] using h.size, fun i cs' T' fr' hi hT' => ?_⟩
  have hi' := h.block i cs' T' fr' hi hT'
  have hne : i ≠ b := by
    rintro rfl
    rw [hb] at hi'
    injection hi' with e
    injection e with e1 e2 e3
    subst e2
    rw [hT] at hT'; cases hT'
  rw [Below.heap_setCell w' ⟨b, off, none⟩ v i hne]
  exact hi'
/-- Growth of a row of a type that is let go. -/
theorem Spares.grown (h : Spares bad B w w') {base e sz n : Nat} {v : Value} {xs : List Value} (hown : w'.ownsRow base e sz v n xs) (hg : w'.grownBy w'' v.ownBlock) (hT : bad e = true) (hB : B ≤ base) (hBw : B ≤ w.heap.size) : Spares bad B w w'' := by
  refine ⟨h.below.grown hg (Nat.le_trans hBw h.size) (fun k hk => Nat.le_trans hB (hown.lt k hk).1), Nat.le_trans h.size hg.size, fun i cs T fr hi hT' => ?_⟩
  have hi' := h.block i cs T fr hi hT'
  have hlt : i < w'.heap.size := (Array.getElem?_eq_some_iff.1 hi').1
  rw [hg.block i hlt ?_]
  · exact hi'
  · intro hv
    rcases hown.2 with ⟨rfl, _⟩ | ⟨g, cap, cur, rfl, _, hgb, _⟩
    · simp [Value.ownBlock] at hv
    · simp [Value.ownBlock] at hv
      subst hv
      rw [hgb] at hi'
      injection hi' with e1
      injection e1 with e2 e3 e4
      subst e3
      rw [hT] at hT'; cases hT'
end

/-- A box of four cells, behind a frame by types. -/
theorem Spares.box4 {bad : TypeId → Bool} {B : Nat} {w w1 : World} {c0 c1 c2 c3 : Value} {T : TypeId} (hb : Spares bad B (w.alloc (.cells #[c0, c1, c2, c3] T)) w1) (hT : bad T = false) :
    w1.cell? ⟨w.heap.size, 0, none⟩ = some c0 ∧ w1.cell? ⟨w.heap.size, 1, none⟩ = some c1 ∧ w1.cell? ⟨w.heap.size, 2, none⟩ = some c2 ∧ w1.cell? ⟨w.heap.size, 3, none⟩ = some c3 := by
  have h := hb.block w.heap.size _ _ _ (heap_alloc_new w _) hT
  refine ⟨?_, ?_, ?_, ?_⟩ <;> (rw [cell_of_row _ _ _ _ _ _ h]; rfl)

theorem RowA.setCell {w : World} {B sz n cap : Nat} {a : Option Addr} {cs : List Value} (h : RowA w B sz a n cap cs) (p : Addr) (v : Value) (hne : ∀ b off, a = some ⟨b, off, none⟩ → b ≠ p.block) : RowA (w.setCell p v) B sz a n cap cs := by
  refine ⟨h.len, h.le, h.max, h.one, h.nil, fun hc => ?_⟩
  obtain ⟨b, off, ha, hlt, hcell⟩ := h.some_ hc
  refine ⟨b, off, ha, hlt, fun j u hj => ?_⟩
  have h0 := hcell j u hj
  have hb := hne b off ha
  rw [← h0]
  unfold World.cell?
  rw [Below.heap_setCell w p v b hb]

end Go.Redl
