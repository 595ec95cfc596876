/- Plain words and laws: reading a quoted text. No walk. -/
import Derived.Test.YtmhgbocejjnoaaaDoorRBase
namespace Go.Redl
open Go.RowKit
set_option linter.unusedVariables false

/-- A digit's value, as ParseUint takes it; none: it is no digit. -/
def digv (c : UInt8) : Option Nat :=
  if 48 ≤ c.toNat ∧ c.toNat ≤ 57 then some (c.toNat - 48)
  else if 97 ≤ (c ||| 32).toNat ∧ (c ||| 32).toNat ≤ 122 then some ((c ||| 32).toNat - 87) else none
/-- What ParseUint makes of digits at base 16 and 32 bits. -/
def parseP : List UInt8 → Nat → Option Nat
  | [], acc => some acc
  | c :: s, acc => match digv c with
    | none => none
    | some d => if 16 ≤ d then none else if 4294967295 < acc * 16 + d then none else parseP s (acc * 16 + d)

theorem digv_dig (n : Nat) (h : n < 16) : digv (dig n) = some n := by
  have : n = 0 ∨ n = 1 ∨ n = 2 ∨ n = 3 ∨ n = 4 ∨ n = 5 ∨ n = 6 ∨ n = 7 ∨ n = 8 ∨ n = 9 ∨ n = 10 ∨ n = 11 ∨ n = 12 ∨ n = 13 ∨ n = 14 ∨ n = 15 := by omega
  rcases this with rfl | rfl | rfl | rfl | rfl | rfl | rfl | rfl | rfl | rfl | rfl | rfl | rfl | rfl | rfl | rfl <;> decide
theorem dig_not59 (n : Nat) (h : n < 16) : dig n ≠ 59 := by
  have : n = 0 ∨ n = 1 ∨ n = 2 ∨ n = 3 ∨ n = 4 ∨ n = 5 ∨ n = 6 ∨ n = 7 ∨ n = 8 ∨ n = 9 ∨ n = 10 ∨ n = 11 ∨ n = 12 ∨ n = 13 ∨ n = 14 ∨ n = 15 := by omega
  rcases this with rfl | rfl | rfl | rfl | rfl | rfl | rfl | rfl | rfl | rfl | rfl | rfl | rfl | rfl | rfl | rfl <;> decide

theorem parseP_snoc : ∀ (xs : List UInt8) (c : UInt8) (acc m d : Nat), parseP xs acc = some m → digv c = some d → d < 16 → m * 16 + d ≤ 4294967295 → parseP (xs ++ [c]) acc = some (m * 16 + d)
  | [], c, acc, m, d, h, hc, hd, hm => by
    simp only [parseP, Option.some.injEq] at h
    subst h
    simp only [List.nil_append, parseP, hc]
    rw [if_neg (by omega), if_neg (by omega)]
  | x :: xs, c, acc, m, d, h, hc, hd, hm => by
    simp only [List.cons_append, parseP] at h ⊢
    cases hx : digv x with
    | none => rw [hx] at h; cases h
    | some e =>
      rw [hx] at h
      simp only at h ⊢
      split at h
      · cases h
      · rename_i h1
        split at h
        · cases h
        · rename_i h2
          rw [if_neg h1, if_neg h2]
          exact parseP_snoc xs c _ m d h hc hd hm
theorem parseP_hexF : ∀ (f n : Nat), n < 16 ^ f → n ≤ 4294967295 → parseP (hexF f n) 0 = some n
  | 0, n, h, _ => by
    have : n = 0 := by simpa using h
    subst this; rfl
  | f + 1, n, h, hb => by
    unfold hexF
    split
    · rename_i hn
      simp only [parseP, digv_dig n hn]
      rw [if_neg (by omega), if_neg (by omega)]
      simp
    · have h1 : n / 16 < 16 ^ f := by
        rw [Nat.pow_succ] at h
        exact Nat.div_lt_of_lt_mul (by rw [Nat.mul_comm]; exact h)
      have := parseP_snoc _ (dig (n % 16)) 0 (n / 16) (n % 16) (parseP_hexF f (n / 16) h1 (by omega)) (digv_dig _ (by omega)) (by omega) (by omega)
      rw [this]
      congr 1; omega
theorem parseP_hexL (n : Nat) (h : n ≤ 4294967295) : parseP (hexL n) 0 = some n := by
  have : (16 : Nat) ^ 20 = 1208925819614629174706176 := by decide
  exact parseP_hexF 20 n (by rw [this]; omega) h
theorem hexF_not59 : ∀ (f n : Nat), ∀ c ∈ hexF f n, c ≠ 59
  | 0, n, c, h => by simp [hexF] at h
  | f + 1, n, c, h => by
    unfold hexF at h
    split at h
    · rename_i hn
      simp at h; subst h; exact dig_not59 n hn
    · simp only [List.mem_append, List.mem_singleton] at h
      rcases h with h | h
      · exact hexF_not59 f _ c h
      · subst h; exact dig_not59 _ (by omega)
theorem hexL_not59 (n : Nat) : ∀ c ∈ hexL n, c ≠ 59 := hexF_not59 20 n
theorem hexL_inj {n m : Nat} (hn : n ≤ 4294967295) (hm : m ≤ 4294967295) (h : hexL n = hexL m) : n = m := by
  have h1 := parseP_hexL n hn
  rw [h, parseP_hexL m hm] at h1
  exact (Option.some.inj h1).symm

/-- The rune that is escaped at the head of a text. -/
def escN (t : List UInt8) : Option Nat :=
  match parseP (t.tail.takeWhile fun c => c != 59) 0 with
  | some n => if validB n && !plainB n && (escL n).isPrefixOf t then some n else none
  | none => none
theorem takeWhile_hex (n : Nat) (rest : List UInt8) : (hexL n ++ 59 :: rest).takeWhile (fun c => c != 59) = hexL n := by
  rw [List.takeWhile_append_of_pos (by intro c hc; simpa using hexL_not59 n c hc)]
  simp
theorem escN_some {t : List UInt8} {n : Nat} : escN t = some n ↔ validB n = true ∧ plainB n = false ∧ escL n <+: t := by
  constructor
  · intro h
    unfold escN at h
    split at h
    · rename_i m hm
      split at h
      · rename_i hc
        cases h
        simp only [Bool.and_eq_true, Bool.not_eq_true', List.isPrefixOf_iff_prefix] at hc
        exact ⟨hc.1.1, hc.1.2, hc.2⟩
      · cases h
    · cases h
  · rintro ⟨h1, h2, h3⟩
    obtain ⟨rest, rfl⟩ := h3
    have hb := valid_bound h1
    unfold escN
    have : ((escL n ++ rest).tail.takeWhile fun c => c != 59) = hexL n := by
      simp only [escL, List.cons_append, List.tail_cons, List.append_assoc]
      exact takeWhile_hex n rest
    rw [this, parseP_hexL n (by omega)]
    simp only
    rw [if_pos]
    simp [h1, h2, List.isPrefixOf_iff_prefix]
/-- The rune that stands first, and how many bytes it has; 0: it is none. -/
def firstS (t : List UInt8) : Int × Nat :=
  match t with
  | [] => (0, 0)
  | c :: _ => if plainB c.toNat then (c.toNat, 1) else match escN t with
    | some n => (n, (escL n).length)
    | none => (0, 0)
/-- Reading on: what is left, what was read, where. -/
def uq : Nat → List UInt8 → List Int → Nat → List Int × Int × Int
  | 0, _, _, at_ => ([], at_, 11)
  | f + 1, t, out, at_ => match t with
    | [] => ([], at_, 11)
    | c :: rest => if c = 34 then (if rest = [] then (out, 0, 0) else ([], at_ + 1, 11))
      else if (firstS t).2 = 0 then ([], at_, 11) else uq f (t.drop (firstS t).2) (out ++ [(firstS t).1]) (at_ + (firstS t).2)
/-- What Unquote answers. -/
def unqL (s : List UInt8) : List Int × Int × Int :=
  match s with
  | [] => ([], 0, 11)
  | c :: rest => if c = 34 then uq (rest.length + 1) rest [] 1 else ([], 0, 11)

end Go.Redl
