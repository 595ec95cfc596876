/- Trees as plain data; how they lie in memory. No program in sight. -/
import Derived.Test.YtiinmgccjlmoaaaRBase
import Derived.ChangeSlices
import Derived.ChangeArms
import Derived.Deep.Slices
namespace Go.Redl
open Go.RowKit
set_option linter.unusedVariables false

abbrev PropD := List UInt8 × List UInt8
/-- A tree. -/
inductive NodeD where
  | mk (leaf : Bool) (props : List PropD) (text : List Int) (kids : List NodeD)

/-- The cells of properties. -/
def propCells (ps : List PropD) : List Value := ps.flatMap fun p => [.string ⟨p.1.toArray⟩, .string ⟨p.2.toArray⟩]
theorem propCells_len (ps : List PropD) : (propCells ps).length = ps.length * 2 := by
  induction ps with
  | nil => rfl
  | cons p ps ih => simp only [propCells, List.flatMap_cons, List.length_append, List.length_cons, List.length_nil] at *; omega
theorem propCells_one (ps : List PropD) : ∀ u ∈ propCells ps, u.oneCell' = true := by
  intro u hu
  simp only [propCells, List.mem_flatMap] at hu
  obtain ⟨p, -, hp⟩ := hu
  simp at hp
  rcases hp with rfl | rfl <;> rfl
theorem propCells_at : ∀ (ps : List PropD) (i : Nat) (hi : i < ps.length), (propCells ps)[i * 2]? = some (.string ⟨ps[i].1.toArray⟩) ∧ (propCells ps)[i * 2 + 1]? = some (.string ⟨ps[i].2.toArray⟩)
  | [], i, hi => absurd hi (by simp)
  | p :: ps, 0, hi => by simp [propCells]
  | p :: ps, i + 1, hi => by
    have h := propCells_at ps i (by simpa using hi)
    have e : propCells (p :: ps) = .string ⟨p.1.toArray⟩ :: .string ⟨p.2.toArray⟩ :: propCells ps := by simp [propCells]
    rw [e, show (i + 1) * 2 = i * 2 + 1 + 1 by omega]
    simpa using h

/-- How much properties, and a tree, hold. -/
def propsWt : List PropD → Nat
  | [] => 0
  | p :: ps => 2 + p.1.length + p.2.length + propsWt ps
mutual
def NodeD.wt : NodeD → Nat
  | .mk _ ps t ks => 1 + propsWt ps + t.length + wtAll ks
def wtAll : List NodeD → Nat
  | [] => 0
  | k :: ks => k.wt + wtAll ks
end
theorem propsWt_len (ps : List PropD) : 2 * ps.length ≤ propsWt ps := by
  induction ps with
  | nil => simp [propsWt]
  | cons p ps ih => simp only [propsWt, List.length_cons]; omega
theorem propsWt_mem {ps : List PropD} {p : PropD} (h : p ∈ ps) : 2 + p.1.length + p.2.length ≤ propsWt ps := by
  induction ps with
  | nil => cases h
  | cons q ps ih =>
    simp only [propsWt]
    rcases List.mem_cons.1 h with rfl | h
    · omega
    · have := ih h; omega
theorem wt_pos (n : NodeD) : 1 ≤ n.wt := by cases n; simp only [NodeD.wt]; omega
theorem wtAll_len (ks : List NodeD) : ks.length ≤ wtAll ks := by
  induction ks with
  | nil => simp
  | cons k ks ih => have := wt_pos k; simp only [wtAll, List.length_cons]; omega
theorem wtAll_mem {ks : List NodeD} {k : NodeD} (h : k ∈ ks) : k.wt ≤ wtAll ks := by
  induction ks with
  | nil => cases h
  | cons q ks ih =>
    simp only [wtAll]
    rcases List.mem_cons.1 h with rfl | h
    · omega
    · have := ih h; omega
theorem wtAll_take (ks : List NodeD) (i : Nat) : wtAll (ks.take i) ≤ wtAll ks := by
  induction ks generalizing i with
  | nil => simp [wtAll]
  | cons k ks ih =>
    cases i with
    | zero => simp [wtAll]
    | succ i => have := ih i; simp only [List.take_succ_cons, wtAll]; omega
theorem wtAll_append (a b : List NodeD) : wtAll (a ++ b) = wtAll a + wtAll b := by
  induction a with
  | nil => simp [wtAll]
  | cons k ks ih => simp only [List.cons_append, wtAll, ih]; omega

mutual
/-- A tree's cells; all that it leads to lies below block B. -/
def NodeC (w : World) (B : Nat) : NodeD → List Value → Prop
  | .mk l ps t ks, cs => ∃ ap cp at_ ct ak ck css, cs = [.bool l, .slice ap ps.length cp, .slice at_ t.length ct, .slice ak ks.length ck] ∧ RowA w B 2 ap ps.length cp (propCells ps) ∧
      RowA w B 1 at_ t.length ct (t.map (Value.int .i32)) ∧ (∀ z ∈ t, (Lit.int .i32 z).wf = true) ∧ RowA w B 4 ak ks.length ck css ∧ KidsC w B ks css
def KidsC (w : World) (B : Nat) : List NodeD → List Value → Prop
  | [], css => css = []
  | k :: ks, css => ∃ c1 c2, css = c1 ++ c2 ∧ NodeC w B k c1 ∧ KidsC w B ks c2
end

mutual
theorem NodeC.keep {w w' : World} {B B' : Nat} (hb : Below B w w') (hB : B ≤ B') : ∀ (n : NodeD) (cs : List Value), NodeC w B n cs → NodeC w' B' n cs
  | .mk l ps t ks, cs => by
    intro h
    unfold NodeC at h ⊢
    obtain ⟨ap, cp, at_, ct, ak, ck, css, h1, h2, h3, h4, h5, h6⟩ := h
    exact ⟨ap, cp, at_, ct, ak, ck, css, h1, h2.keep hb hB, h3.keep hb hB, h4, h5.keep hb hB, KidsC.keep hb hB ks css h6⟩
theorem KidsC.keep {w w' : World} {B B' : Nat} (hb : Below B w w') (hB : B ≤ B') : ∀ (ks : List NodeD) (css : List Value), KidsC w B ks css → KidsC w' B' ks css
  | [], css => by intro h; unfold KidsC at h ⊢; exact h
  | k :: ks, css => by
    intro h
    unfold KidsC at h ⊢
    obtain ⟨c1, c2, h1, h2, h3⟩ := h
    exact ⟨c1, c2, h1, NodeC.keep hb hB k c1 h2, KidsC.keep hb hB ks c2 h3⟩
end
theorem NodeC.len {w : World} {B : Nat} {n : NodeD} {cs : List Value} (h : NodeC w B n cs) : cs.length = 4 := by
  cases n; unfold NodeC at h; obtain ⟨ap, cp, at_, ct, ak, ck, css, h1, -⟩ := h; subst h1; rfl
theorem NodeC.one {w : World} {B : Nat} {n : NodeD} {cs : List Value} (h : NodeC w B n cs) : ∀ u ∈ cs, u.oneCell' = true := by
  cases n; unfold NodeC at h; obtain ⟨ap, cp, at_, ct, ak, ck, css, h1, -⟩ := h; subst h1
  intro u hu
  simp at hu
  rcases hu with rfl | rfl | rfl | rfl <;> rfl
theorem KidsC.len {w : World} {B : Nat} : ∀ {ks : List NodeD} {css : List Value}, KidsC w B ks css → css.length = ks.length * 4
  | [], css, h => by unfold KidsC at h; subst h; rfl
  | k :: ks, css, h => by
    unfold KidsC at h
    obtain ⟨c1, c2, rfl, h2, h3⟩ := h
    have a := h2.len; have b := KidsC.len h3
    simp only [List.length_append, List.length_cons]; omega
theorem KidsC.one {w : World} {B : Nat} : ∀ {ks : List NodeD} {css : List Value}, KidsC w B ks css → ∀ u ∈ css, u.oneCell' = true
  | [], css, h => by unfold KidsC at h; subst h; simp
  | k :: ks, css, h => by
    unfold KidsC at h
    obtain ⟨c1, c2, rfl, h2, h3⟩ := h
    intro u hu
    rcases List.mem_append.1 hu with hu | hu
    · exact h2.one u hu
    · exact KidsC.one h3 u hu
/-- One child's cells. -/
theorem KidsC.at_ {w : World} {B : Nat} : ∀ {ks : List NodeD} {css : List Value}, KidsC w B ks css → ∀ (i : Nat) (hi : i < ks.length), ∃ c, NodeC w B ks[i] c ∧ ∀ j, j < 4 → css[i * 4 + j]? = c[j]?
  | [], css, h, i, hi => absurd hi (by simp)
  | k :: ks, css, h, 0, hi => by
    unfold KidsC at h
    obtain ⟨c1, c2, rfl, h2, h3⟩ := h
    refine ⟨c1, h2, fun j hj => ?_⟩
    rw [Nat.zero_mul, Nat.zero_add, List.getElem?_append_left (by rw [h2.len]; exact hj)]
  | k :: ks, css, h, i + 1, hi => by
    unfold KidsC at h
    obtain ⟨c1, c2, rfl, h2, h3⟩ := h
    obtain ⟨c, hc, hall⟩ := KidsC.at_ h3 i (by simpa using hi)
    refine ⟨c, by simpa using hc, fun j hj => ?_⟩
    rw [List.getElem?_append_right (by rw [h2.len]; omega), ← hall j hj, h2.len]
    congr 1; omega
theorem KidsC.append {w : World} {B : Nat} : ∀ {ks ks' : List NodeD} {css css' : List Value}, KidsC w B ks css → KidsC w B ks' css' → KidsC w B (ks ++ ks') (css ++ css')
  | [], ks', css, css', h, h' => by unfold KidsC at h; subst h; exact h'
  | k :: ks, ks', css, css', h, h' => by
    unfold KidsC at h
    obtain ⟨c1, c2, rfl, h2, h3⟩ := h
    rw [List.cons_append]
    unfold KidsC
    exact ⟨c1, c2 ++ css', by simp, h2, KidsC.append h3 h'⟩

/-- A tree as a value. -/
def NodeV (w : World) (B : Nat) (n : NodeD) (v : Value) : Prop := ∃ cs, v = .agg cs.toArray ∧ NodeC w B n cs
theorem NodeV.keep {w w' : World} {B B' : Nat} {n : NodeD} {v : Value} (h : NodeV w B n v) (hb : Below B w w') (hB : B ≤ B') : NodeV w' B' n v := by
  obtain ⟨cs, h1, h2⟩ := h
  exact ⟨cs, h1, NodeC.keep hb hB n cs h2⟩
theorem NodeV.open {w : World} {B : Nat} {l : Bool} {ps : List PropD} {t : List Int} {ks : List NodeD} {v : Value} (h : NodeV w B (.mk l ps t ks) v) :
    ∃ ap cp at_ ct ak ck css, v = .agg #[.bool l, .slice ap ps.length cp, .slice at_ t.length ct, .slice ak ks.length ck] ∧ RowA w B 2 ap ps.length cp (propCells ps) ∧
      Ints .i32 w B (.slice at_ t.length ct) t ∧ RowA w B 4 ak ks.length ck css ∧ KidsC w B ks css := by
  obtain ⟨cs, rfl, h⟩ := h
  unfold NodeC at h
  obtain ⟨ap, cp, at_, ct, ak, ck, css, rfl, h2, h3, h4, h5, h6⟩ := h
  exact ⟨ap, cp, at_, ct, ak, ck, css, rfl, h2, ⟨⟨at_, ct, rfl, h3⟩, h4⟩, h5, h6⟩

/-- A property's cells, at an index; a child's. -/
theorem RowA.prop_at {w : World} {B cap : Nat} {a : Option Addr} {ps : List PropD} (h : RowA w B 2 a ps.length cap (propCells ps)) (i : Nat) (hi : i < ps.length) :
    ∃ b off, a = some ⟨b, off, none⟩ ∧ b < B ∧ w.cell? ⟨b, off + i * 2, none⟩ = some (.string ⟨ps[i].1.toArray⟩) ∧ w.cell? ⟨b, off + i * 2 + 1, none⟩ = some (.string ⟨ps[i].2.toArray⟩) := by
  obtain ⟨b, off, ha, hb, hc⟩ := h.some_ (by
    intro he
    have := propCells_len ps
    rw [he] at this
    simp at this; omega)
  obtain ⟨h1, h2⟩ := propCells_at ps i hi
  exact ⟨b, off, ha, hb, hc _ _ h1, by have := hc _ _ h2; rwa [← Nat.add_assoc] at this⟩
theorem NodeC.form {w : World} {B : Nat} {n : NodeD} {cs : List Value} (h : NodeC w B n cs) : ∃ l a1 n1 c1 a2 n2 c2 a3 n3 c3, cs = [.bool l, .slice a1 n1 c1, .slice a2 n2 c2, .slice a3 n3 c3] := by
  cases n; unfold NodeC at h; obtain ⟨ap, cp, at_, ct, ak, ck, css, h1, -⟩ := h
  exact ⟨_, _, _, _, _, _, _, _, _, _, h1⟩
theorem RowA.kid_at {w : World} {B cap : Nat} {a : Option Addr} {ks : List NodeD} {css : List Value} (h : RowA w B 4 a ks.length cap css) (hk : KidsC w B ks css) (i : Nat) (hi : i < ks.length) :
    ∃ b off l a1 n1 c1 a2 n2 c2 a3 n3 c3, a = some ⟨b, off, none⟩ ∧ b < B ∧ NodeC w B ks[i] [.bool l, .slice a1 n1 c1, .slice a2 n2 c2, .slice a3 n3 c3] ∧ w.cell? ⟨b, off + i * 4, none⟩ = some (.bool l) ∧ w.cell? ⟨b, off + i * 4 + 1, none⟩ = some (.slice a1 n1 c1) ∧
      w.cell? ⟨b, off + i * 4 + 2, none⟩ = some (.slice a2 n2 c2) ∧ w.cell? ⟨b, off + i * 4 + 3, none⟩ = some (.slice a3 n3 c3) := by
  obtain ⟨c, hc, hall⟩ := hk.at_ i hi
  obtain ⟨l, a1, n1, c1, a2, n2, c2, a3, n3, c3, rfl⟩ := hc.form
  obtain ⟨b, off, ha, hb, hcell⟩ := h.some_ (by
    intro he
    have := hk.len
    rw [he] at this
    simp at this; omega)
  have g0 := hcell _ _ (hall 0 (by omega))
  have g1 := hcell _ _ (hall 1 (by omega))
  have g2 := hcell _ _ (hall 2 (by omega))
  have g3 := hcell _ _ (hall 3 (by omega))
  simp only [← Nat.add_assoc, Nat.add_zero] at g0 g1 g2 g3
  exact ⟨b, off, l, a1, n1, c1, a2, n2, c2, a3, n3, c3, ha, hb, hc, g0, g1, g2, g3⟩

end Go.Redl
