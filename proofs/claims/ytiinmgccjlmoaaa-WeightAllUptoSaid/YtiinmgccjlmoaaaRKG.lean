/- Plain words: lists of paths in order, none twice; walk: dirty's set. -/
import Derived.Test.YtiinmgccjlmoaaaRKF
namespace Go.Proofs.Ytiinmgccjlmoaaa
open Go.RowKit Go.Redl
set_option linter.unusedVariables false

/-- In order, none twice. -/
abbrev StrictL (l : List (List Int)) : Prop := l.Pairwise fun p q => cmpL p q < 0
def insL (p : List Int) : List (List Int) → List (List Int)
  | [] => [p]
  | q :: l => if cmpL p q < 0 then p :: q :: l else if p = q then q :: l else q :: insL p l
/-- Paths in order, none twice. -/
def setL (l : List (List Int)) : List (List Int) := l.foldr insL []
theorem mem_insL {p x : List Int} : ∀ {l : List (List Int)}, x ∈ insL p l ↔ x = p ∨ x ∈ l
  | [] => by simp [insL]
  | q :: l => by
    unfold insL
    split
    · simp
    split
    · rename_i h; subst h; simp
    · rw [List.mem_cons, mem_insL, List.mem_cons]
      constructor
      · rintro (h | h | h)
        · exact .inr (.inl h)
        · exact .inl h
        · exact .inr (.inr h)
      · rintro (h | h | h)
        · exact .inr (.inl h)
        · exact .inl h
        · exact .inr (.inr h)
theorem insL_strict {p : List Int} : ∀ {l : List (List Int)}, StrictL l → StrictL (insL p l)
  | [], _ => by simp [insL]
  | q :: l, h => by
    obtain ⟨h1, h2⟩ := List.pairwise_cons.1 h
    unfold insL
    split
    · rename_i hlt
      refine List.pairwise_cons.2 ⟨fun x hx => ?_, h⟩
      rcases List.mem_cons.1 hx with rfl | hx
      · exact hlt
      · exact cmpL_trans hlt (h1 x hx)
    split
    · exact h
    · rename_i hn hne
      refine List.pairwise_cons.2 ⟨fun x hx => ?_, insL_strict h2⟩
      rcases mem_insL.1 hx with rfl | hx
      · rcases cmpL_three x q with h | h | h
        · exact absurd h hn
        · exact absurd h hne
        · exact h
      · exact h1 x hx
theorem mem_setL {x : List Int} : ∀ {l : List (List Int)}, x ∈ setL l ↔ x ∈ l
  | [] => by simp [setL]
  | p :: l => by
    show x ∈ insL p (setL l) ↔ _
    rw [mem_insL, mem_setL, List.mem_cons]
theorem setL_strict : ∀ l : List (List Int), StrictL (setL l)
  | [] => by simp [setL]
  | p :: l => insL_strict (setL_strict l)
theorem strict_irr {p : List Int} (h : cmpL p p < 0) : False := by rw [cmpL_self] at h; omega
/-- Two lists in order, none twice, of the same paths are one. -/
theorem strict_unique : ∀ {l l' : List (List Int)}, StrictL l → StrictL l' → (∀ x, x ∈ l ↔ x ∈ l') → l = l'
  | [], [], _, _, _ => rfl
  | [], q :: l', _, _, h => absurd ((h q).2 (by simp)) (by simp)
  | p :: l, [], _, _, h => absurd ((h p).1 (by simp)) (by simp)
  | p :: l, q :: l', h1, h2, h => by
    obtain ⟨a1, a2⟩ := List.pairwise_cons.1 h1
    obtain ⟨b1, b2⟩ := List.pairwise_cons.1 h2
    have hpq : p = q := by
      rcases List.mem_cons.1 ((h p).1 (by simp)) with e | e
      · exact e
      · rcases List.mem_cons.1 ((h q).2 (by simp)) with e' | e'
        · exact e'.symm
        · exact absurd (cmpL_trans (b1 p e) (a1 q e')) fun h => strict_irr h
    subst hpq
    rw [strict_unique a2 b2 fun x => ?_]
    constructor
    · intro hx
      rcases List.mem_cons.1 ((h x).1 (by simp [hx])) with e | e
      · subst e; exact absurd (a1 x hx) fun h => strict_irr h
      · exact e
    · intro hx
      rcases List.mem_cons.1 ((h x).2 (by simp [hx])) with e | e
      · subst e; exact absurd (b1 x hx) fun h => strict_irr h
      · exact e
theorem setL_eq {l r : List (List Int)} (h : StrictL r) (hm : ∀ x, x ∈ r ↔ x ∈ l) : r = setL l :=
  strict_unique h (setL_strict l) fun x => by rw [hm, mem_setL]

theorem pxs_append (a b : List PX) : pxs (a ++ b) = pxs a ++ pxs b := List.map_append
theorem pxs_one (x : PX) : pxs [x] = [x.1] := rfl
/-- What is left of paths in order, those that are as the one ahead struck. -/
theorem compU_sorted (xs : List PX) (hs : SortL (pxs xs)) : ∀ k, k ≤ xs.length → StrictL (pxs (compU (fun x y => decide (x.1 = y.1)) xs k)) ∧ (∀ p, p ∈ pxs (compU (fun x y => decide (x.1 = y.1)) xs k) ↔ p ∈ pxs (xs.take k)) ∧ ∀ x ∈ compU (fun x y => decide (x.1 = y.1)) xs k, x ∈ xs
  | 0, _ => by simp [compU]
  | k + 1, hk => by
    obtain ⟨h1, h2, h3⟩ := compU_sorted xs hs k (by omega)
    have hlt : k < xs.length := by omega
    have htk : xs.take (k + 1) = xs.take k ++ [xs[k]] := List.take_succ_eq_append_getElem hlt
    have hle : ∀ p ∈ pxs (xs.take k), ¬ cmpL xs[k].1 p < 0 := by
      intro p hp
      simp only [List.mem_map] at hp
      obtain ⟨x, hx, rfl⟩ := hp
      obtain ⟨j, hj, rfl⟩ := List.mem_iff_getElem.1 hx
      have hj' : j < k := by simp at hj; omega
      have h := List.pairwise_iff_getElem.1 hs j k (by simp; omega) (by simpa using hlt) hj'
      simpa using h
    by_cases hd : k = 0 ∨ decide (xs[k].1 = (xs[k - 1]'(by omega)).1) = false
    · rw [compU_keep (eq := fun x y => decide (x.1 = y.1)) hlt hd, htk]
      refine ⟨?_, fun p => ?_, fun x hx => ?_⟩
      · rw [pxs_append, pxs_one]
        refine List.pairwise_append.2 ⟨h1, by simp, fun p hp q hq => ?_⟩
        rw [List.mem_singleton.1 hq]
        have hp' := (h2 p).1 hp
        have hn := hle p hp'
        rcases cmpL_three p xs[k].1 with h | h | h
        · exact h
        · exfalso
          rcases hd with h0 | hd
          · subst h0; simp at hp'
          · simp only [decide_eq_false_iff_not] at hd
            apply hd
            -- the one ahead lies between
            have hk0 : k ≠ 0 := by rintro rfl; simp at hp'
            have hb := List.pairwise_iff_getElem.1 hs (k - 1) k (by simp; omega) (by simpa using hlt) (by omega)
            simp only [List.getElem_map] at hb
            simp only [List.mem_map] at hp'
            obtain ⟨x, hx, rfl⟩ := hp'
            obtain ⟨j, hj, rfl⟩ := List.mem_iff_getElem.1 hx
            have hj' : j < k := by simp at hj; omega
            simp only [List.getElem_take] at h hn
            by_cases hjk : j = k - 1
            · subst hjk; exact h.symm
            · have hc := List.pairwise_iff_getElem.1 hs j (k - 1) (by simp; omega) (by simp; omega) (by omega)
              simp only [List.getElem_map] at hc
              rw [h] at hc
              rcases cmpL_three xs[k].1 (xs[k - 1]'(by omega)).1 with h' | h' | h'
              · exact absurd h' hb
              · exact h'
              · exact absurd h' hc
        · exact absurd h hn
      · rw [pxs_append, pxs_append, List.mem_append, List.mem_append, h2]
      · rcases List.mem_append.1 hx with hx | hx
        · exact h3 x hx
        · simp only [List.mem_singleton] at hx; subst hx; exact List.getElem_mem hlt
    · have hk0 : 0 < k := by omega
      have he : decide (xs[k].1 = (xs[k - 1]'(by omega)).1) = true := by
        cases h : decide (xs[k].1 = (xs[k - 1]'(by omega)).1) with
        | true => rfl
        | false => exact absurd (.inr h) hd
      rw [compU_skip (eq := fun x y => decide (x.1 = y.1)) hlt hk0 he, htk]
      refine ⟨h1, fun p => ?_, h3⟩
      rw [h2, pxs_append, pxs_one, List.mem_append]
      constructor
      · exact .inl
      · rintro (h | h)
        · exact h
        · rw [List.mem_singleton.1 h]
          rw [of_decide_eq_true he]
          refine List.mem_map.2 ⟨xs[k - 1]'(by omega), ?_, rfl⟩
          exact List.mem_iff_getElem.2 ⟨k - 1, by simp; omega, by simp⟩

end Go.Proofs.Ytiinmgccjlmoaaa
