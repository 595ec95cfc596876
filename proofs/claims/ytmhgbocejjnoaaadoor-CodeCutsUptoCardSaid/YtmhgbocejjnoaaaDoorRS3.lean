/- Plain laws: what stands first in a text, case by case. No walk. -/
import Derived.Test.YtmhgbocejjnoaaaDoorRS2
import Derived.Lib.IndexLaws
namespace Go.Redl
open Go.RowKit
set_option linter.unusedVariables false

theorem escN_slash {x : UInt8} {r : List UInt8} (h : x ≠ 92) : escN (x :: r) = none := by
  cases he : escN (x :: r) with
  | none => rfl
  | some n =>
    obtain ⟨-, -, rest, h3⟩ := escN_some.1 he
    simp only [escL, List.cons_append, List.cons.injEq] at h3
    exact absurd h3.1.symm h
theorem escN_no59 {t : List UInt8} (h : ∀ c ∈ t, c ≠ 59) : escN t = none := by
  cases he : escN t with
  | none => rfl
  | some n =>
    obtain ⟨-, -, rest, h3⟩ := escN_some.1 he
    have : (59 : UInt8) ∈ t := by rw [← h3]; simp [escL]
    exact absurd rfl (h _ this)
theorem hex_pre {xs ds r1 r2 : List UInt8} (hx : ∀ c ∈ xs, c ≠ 59) (hd : ∀ c ∈ ds, c ≠ 59) (h : xs ++ 59 :: r1 = ds ++ 59 :: r2) : xs = ds := by
  have h1 : (xs ++ 59 :: r1).takeWhile (fun c => c != 59) = xs := by
    rw [List.takeWhile_append_of_pos (by intro c hc; simpa using hx c hc)]; simp
  have h2 : (ds ++ 59 :: r2).takeWhile (fun c => c != 59) = ds := by
    rw [List.takeWhile_append_of_pos (by intro c hc; simpa using hd c hc)]; simp
  rw [← h1, h, h2]
theorem escN_at {ds rest : List UInt8} (hd : ∀ c ∈ ds, c ≠ 59) {n : Nat} (h : escN (92 :: (ds ++ 59 :: rest)) = some n) : validB n = true ∧ plainB n = false ∧ hexL n = ds ∧ parseP ds 0 = some n ∧ ds ≠ [] := by
  obtain ⟨h1, h2, r, h3⟩ := escN_some.1 h
  have hb := valid_bound h1
  simp only [escL, List.cons_append, List.append_assoc, List.cons.injEq, true_and, List.nil_append] at h3
  have := hex_pre (hexL_not59 n) hd h3
  refine ⟨h1, h2, this, ?_, ?_⟩
  · rw [← this]; exact parseP_hexL n (by omega)
  · rintro rfl
    have hp := parseP_hexL n (by omega)
    rw [this] at hp
    simp only [parseP, Option.some.injEq] at hp
    subst hp
    exact absurd this (by decide)
theorem escN_yes {ds rest : List UInt8} {n : Nat} (hv : validB n = true) (hp : plainB n = false) (h : escL n = 92 :: (ds ++ [59])) : escN (92 :: (ds ++ 59 :: rest)) = some n :=
  escN_some.2 ⟨hv, hp, ⟨rest, by rw [h]; simp⟩⟩
theorem firstS_plain {x : UInt8} {r : List UInt8} (h : plainB x.toNat = true) : firstS (x :: r) = ((x.toNat : Int), 1) := by simp [firstS, h]
theorem firstS_none {x : UInt8} {r : List UInt8} (h : plainB x.toNat = false) (he : escN (x :: r) = none) : firstS (x :: r) = (0, 0) := by simp [firstS, h, he]
theorem firstS_some {x : UInt8} {r : List UInt8} {n : Nat} (h : plainB x.toNat = false) (he : escN (x :: r) = some n) : firstS (x :: r) = ((n : Int), (escL n).length) := by simp [firstS, h, he]
/-- Where the first semicolon stands. -/
theorem semi_cases (t : List UInt8) : (Lib.indexByte t 59 = -1 ∧ ∀ c ∈ t, c ≠ 59) ∨ ∃ ds rest, t = ds ++ 59 :: rest ∧ (∀ c ∈ ds, c ≠ 59) ∧ Lib.indexByte t 59 = ds.length := by
  by_cases h : Lib.indexByte t 59 = -1
  · refine .inl ⟨h, fun c hc h59 => ?_⟩
    obtain ⟨k, hk⟩ := List.getElem?_of_mem hc
    exact Lib.indexByte_none h k (by rw [hk, h59])
  · obtain ⟨o, ho⟩ : ∃ o : Nat, Lib.indexByte t 59 = o := by
      have := Lib.indexByte_ge t 59
      exact ⟨(Lib.indexByte t 59).toNat, by omega⟩
    obtain ⟨h1, h2⟩ := Lib.indexByte_some ho
    have hlt : o < t.length := by
      rcases Nat.lt_or_ge o t.length with h | h
      · exact h
      · rw [List.getElem?_eq_none h] at h1; cases h1
    have h3 : t[o] = 59 := by rw [List.getElem?_eq_getElem hlt] at h1; exact Option.some.inj h1
    refine .inr ⟨t.take o, t.drop (o + 1), ?_, ?_, ?_⟩
    · conv => lhs; rw [← List.take_append_drop o t, List.drop_eq_getElem_cons hlt, h3]
    · intro c hc h59
      obtain ⟨k, hk⟩ := List.getElem?_of_mem hc
      have hk2 : k < o := by
        rcases Nat.lt_or_ge k (t.take o).length with h | h
        · simp at h; omega
        · rw [List.getElem?_eq_none h] at hk; cases hk
      rw [List.getElem?_take_of_lt hk2] at hk
      exact h2 k hk2 (by rw [hk, h59])
    · rw [ho, List.length_take, Nat.min_eq_left (Nat.le_of_lt hlt)]

end Go.Redl
