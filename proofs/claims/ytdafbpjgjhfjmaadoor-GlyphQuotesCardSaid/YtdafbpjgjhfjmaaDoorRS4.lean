/- Plain laws: an escape, read digit by digit. No walk. -/
import Derived.Test.YtdafbpjgjhfjmaaDoorRS3
namespace Go.Redl
open Go.RowKit
set_option linter.unusedVariables false

/-- A small hexadecimal digit; its value. -/
def lowhexB (c : UInt8) : Bool := decide (48 ≤ c.toNat ∧ c.toNat ≤ 57) || decide (97 ≤ c.toNat ∧ c.toNat ≤ 102)
def hexVal (c : UInt8) : Nat := if c.toNat ≤ 57 then c.toNat - 48 else c.toNat - 87
theorem dig_low (n : Nat) (h : n < 16) : lowhexB (dig n) = true := by
  have : ∀ m : Fin 16, lowhexB (dig m.1) = true := by decide +kernel
  exact this ⟨n, h⟩
theorem hexF_low : ∀ (f n : Nat), ∀ c ∈ hexF f n, lowhexB c = true
  | 0, n, c, h => by simp [hexF] at h
  | f + 1, n, c, h => by
    unfold hexF at h
    split at h
    · rename_i hn
      simp at h; subst h; exact dig_low n hn
    · rcases List.mem_append.1 h with h | h
      · exact hexF_low f (n / 16) c h
      · simp at h; subst h; exact dig_low _ (Nat.mod_lt _ (by decide))
theorem hexF_short : ∀ (f m n : Nat), n < 16 ^ m → 1 ≤ m → (hexF f n).length ≤ m
  | 0, m, n, h, hm => by simp [hexF]
  | f + 1, m, n, h, hm => by
    unfold hexF
    split
    · simp; omega
    · rename_i hn
      have hm2 : 1 ≤ m - 1 := by
        rcases Nat.lt_or_ge 1 m with h1 | h1
        · omega
        · have : m = 1 := by omega
          subst this; simp at h; omega
      have e : m = (m - 1) + 1 := by omega
      rw [e, Nat.pow_succ] at h
      have := hexF_short f (m - 1) (n / 16) (Nat.div_lt_of_lt_mul (by rw [Nat.mul_comm]; exact h)) hm2
      simp; omega
theorem hexL_six (n : Nat) (h : n ≤ 1114111) : (hexL n).length ≤ 6 := hexF_short 20 6 n (Nat.lt_of_le_of_lt h (by decide)) (by decide)
theorem lowhex_digv {c : UInt8} (h : lowhexB c = true) : digv c = some (hexVal c) ∧ hexVal c < 16 ∧ c ≠ 59 := by
  have : ∀ m : Fin 256, lowhexB (UInt8.ofNat m.1) = true → digv (UInt8.ofNat m.1) = some (hexVal (UInt8.ofNat m.1)) ∧ hexVal (UInt8.ofNat m.1) < 16 ∧ UInt8.ofNat m.1 ≠ 59 := by decide +kernel
  have := this ⟨c.toNat, c.toNat_lt⟩
  simp only [UInt8.ofNat_toNat] at this
  exact this h

/-- The first k bytes are digits; what they say. -/
structure HexTo (t : List UInt8) (k acc : Nat) : Prop where
  le : k ≤ t.length
  low : ∀ c ∈ t.take k, lowhexB c = true
  val : parseP (t.take k) 0 = some acc
  lt : acc < 16 ^ k
  six : k ≤ 6
theorem HexTo.zero (t : List UInt8) : HexTo t 0 0 := ⟨by omega, by simp, by simp [parseP], by simp, by omega⟩
theorem HexTo.small {t : List UInt8} {k acc : Nat} (h : HexTo t k acc) : acc ≤ 16777215 := by
  have h1 := h.lt
  have h2 : 16 ^ k ≤ 16 ^ 6 := Nat.pow_le_pow_right (by decide) h.six
  have h3 : (16 : Nat) ^ 6 = 16777216 := by decide
  omega
theorem HexTo.less {t : List UInt8} {k acc : Nat} (h : HexTo t k acc) (hk : k ≤ 5) : acc ≤ 1048575 := by
  have h1 := h.lt
  have h2 : 16 ^ k ≤ 16 ^ 5 := Nat.pow_le_pow_right (by decide) hk
  have h3 : (16 : Nat) ^ 5 = 1048576 := by decide
  omega
theorem HexTo.step {t : List UInt8} {k acc : Nat} (h : HexTo t k acc) (hk : k < t.length) (h5 : k ≤ 5) (hl : lowhexB t[k] = true) : HexTo t (k + 1) (acc * 16 + hexVal t[k]) := by
  obtain ⟨h1, h2, h3⟩ := lowhex_digv hl
  have hs := h.small
  refine ⟨by omega, ?_, ?_, ?_, by omega⟩
  · intro c hc
    rw [List.take_succ_eq_append_getElem hk] at hc
    rcases List.mem_append.1 hc with hc | hc
    · exact h.low c hc
    · simp at hc; subst hc; exact hl
  · rw [List.take_succ_eq_append_getElem hk]
    exact parseP_snoc _ _ _ _ _ h.val h1 h2 (by omega)
  · have := h.lt
    rw [Nat.pow_succ]; omega
/-- Where an escape's text stands. -/
theorem esc_form {t : List UInt8} {n : Nat} (h : escN (92 :: t) = some n) : validB n = true ∧ plainB n = false ∧ ∃ rest, t = hexL n ++ 59 :: rest := by
  obtain ⟨h1, h2, r, h3⟩ := escN_some.1 h
  refine ⟨h1, h2, r, ?_⟩
  simp only [escL, List.cons_append, List.append_assoc, List.cons.injEq, true_and, List.nil_append] at h3
  exact h3.symm
theorem hexTo_not59 {t : List UInt8} {k acc : Nat} (h : HexTo t k acc) {j : Nat} (hj : j < k) : t[j]? ≠ some 59 := by
  intro he
  have hlt : j < t.length := by have := h.le; omega
  rw [List.getElem?_eq_getElem hlt] at he
  have hm : t[j] ∈ t.take k := List.mem_take_iff_getElem.2 ⟨j, by omega, rfl⟩
  have := (lowhex_digv (h.low _ hm)).2.2
  exact this (Option.some.inj he)
theorem esc_bad {t : List UInt8} {k acc : Nat} (h : HexTo t k acc) (hk : k < t.length) (h59 : t[k] ≠ 59) (hb : lowhexB t[k] = false ∨ k = 6) : escN (92 :: t) = none := by
  cases he : escN (92 :: t) with
  | none => rfl
  | some n =>
    exfalso
    obtain ⟨h1, h2, rest, h3⟩ := esc_form he
    have hv := valid_bound h1
    have h6 := hexL_six n (by omega)
    have hm : t[(hexL n).length]? = some 59 := by rw [h3, List.getElem?_append_right (Nat.le_refl _)]; simp
    rcases Nat.lt_trichotomy k (hexL n).length with hlt | heq | hgt
    · rcases hb with hb | hb
      · have h4 : t[k]? = (hexL n)[k]? := by rw [h3, List.getElem?_append_left hlt]
        rw [List.getElem?_eq_getElem hk, List.getElem?_eq_getElem hlt] at h4
        have h5 := hexF_low 20 n _ (List.getElem_mem hlt)
        have h5 : lowhexB (hexL n)[k] = true := h5
        rw [← Option.some.inj h4] at h5
        rw [hb] at h5; cases h5
      · omega
    · subst heq
      rw [List.getElem?_eq_getElem hk] at hm
      exact h59 (Option.some.inj hm)
    · exact hexTo_not59 h hgt hm
theorem esc_end {t : List UInt8} {acc : Nat} (h : HexTo t t.length acc) : escN (92 :: t) = none := by
  cases he : escN (92 :: t) with
  | none => rfl
  | some n =>
    exfalso
    obtain ⟨h1, h2, rest, h3⟩ := esc_form he
    have hm : t[(hexL n).length]? = some 59 := by rw [h3, List.getElem?_append_right (Nat.le_refl _)]; simp
    have hlt : (hexL n).length < t.length := by
      have := congrArg List.length h3
      simp at this; omega
    exact hexTo_not59 h hlt hm
theorem esc_at {t : List UInt8} {k acc : Nat} (h : HexTo t k acc) (hk : k < t.length) (h59 : t[k] = 59) {n : Nat} (he : escN (92 :: t) = some n) : n = acc ∧ k ≠ 0 ∧ validB acc = true ∧ plainB acc = false ∧ hexL acc = t.take k := by
  have hs : t = t.take k ++ 59 :: t.drop (k + 1) := by
    conv => lhs; rw [← List.take_append_drop k t, List.drop_eq_getElem_cons hk, h59]
  have hn : ∀ c ∈ t.take k, c ≠ 59 := fun c hc => (lowhex_digv (h.low c hc)).2.2
  rw [hs] at he
  obtain ⟨a, b, c, d, e⟩ := escN_at hn he
  have hd : some n = some acc := d.symm.trans h.val
  cases hd
  refine ⟨rfl, ?_, a, b, c⟩
  rintro rfl
  exact e (by simp)
theorem esc_yes {t : List UInt8} {k acc : Nat} (h : HexTo t k acc) (hk : k < t.length) (h59 : t[k] = 59) (hv : validB acc = true) (hp : plainB acc = false) (hx : hexL acc = t.take k) : escN (92 :: t) = some acc := by
  have hs : t = t.take k ++ 59 :: t.drop (k + 1) := by
    conv => lhs; rw [← List.take_append_drop k t, List.drop_eq_getElem_cons hk, h59]
  rw [hs]
  exact escN_yes hv hp (by rw [escL, hx])
theorem esc_no {t : List UInt8} {k acc : Nat} (h : HexTo t k acc) (hk : k < t.length) (h59 : t[k] = 59) (hb : k = 0 ∨ validB acc = false ∨ plainB acc = true ∨ hexL acc ≠ t.take k) : escN (92 :: t) = none := by
  cases he : escN (92 :: t) with
  | none => rfl
  | some n =>
    exfalso
    obtain ⟨rfl, h1, h2, h3, h4⟩ := esc_at h hk h59 he
    rcases hb with hb | hb | hb | hb
    · exact h1 hb
    · rw [h2] at hb; cases hb
    · rw [h3] at hb; cases hb
    · exact hb h4
/-- What the reference's escape answers. -/
def escR (t : List UInt8) : Int × Int × Bool := match escN (92 :: t) with | some n => ((n : Int), ((hexL n).length : Int) + 1, true) | none => (0, 0, false)
theorem escR_none {t : List UInt8} (h : escN (92 :: t) = none) : escR t = (0, 0, false) := by unfold escR; rw [h]
theorem escR_some {t : List UInt8} {n : Nat} (h : escN (92 :: t) = some n) : escR t = ((n : Int), ((hexL n).length : Int) + 1, true) := by unfold escR; rw [h]

end Go.Redl
