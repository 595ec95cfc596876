/- What reading a tree answers: plain functions and their laws. -/
import Derived.Test.YtmhgbocejjnoaaaDoorRDC
namespace Go.Proofs.YtmhgbocejjnoaaaDoor
open Go.RowKit Go.Redl
set_option linter.unusedVariables false

/-- A node's properties. -/
def rdH (s : List UInt8) (a : Nat) : Rd (List PropD) := if standsB s a 123 = true then rdP (s.length + 1) s a [] [] else .ok [] a
mutual
/-- A node; its kids. -/
def rdN : Nat → List UInt8 → Nat → Rd NodeD
  | 0, _, a => .bad a 11
  | f + 1, s, a =>
    match rdH s a with
    | .bad p er => .bad p er
    | .ok ps a1 =>
      if standsB s a1 34 = true then (match rdL s a1 with
        | .bad p er => .bad p er
        | .ok t e => .ok (.mk true ps t []) e)
      else if standsB s a1 91 = false then .bad a1 11
      else (match rdK f s (a1 + 1) [] with
        | .bad p er => .bad p er
        | .ok ks e => .ok (.mk false ps [] ks) e)
def rdK : Nat → List UInt8 → Nat → List NodeD → Rd (List NodeD)
  | 0, _, a, _ => .bad a 11
  | f + 1, s, a, out =>
    if standsB s a 93 = true then .ok out (a + 1)
    else (match rdN f s a with
      | .bad p er => .bad p er
      | .ok k e => rdK f s e (out ++ [k]))
end
theorem rdP_pos : ∀ (f : Nat) (s : List UInt8) (a : Nat) (out : List PropD) (last : List UInt8) (ps : List PropD) (e : Nat), a < s.length → rdP f s a out last = .ok ps e → a < e ∧ e ≤ s.length
  | 0, s, a, out, last, ps, e, ha, h => by unfold rdP at h; cases h
  | f + 1, s, a, out, last, ps, e, ha, h => by
    have hk := keyAt_len s (a + 1) (by omega)
    unfold rdP at h
    generalize keyAt s (a + 1) = key at h hk
    by_cases c1 : key = [] ∨ standsB s (a + 1 + key.length) 58 = false
    · rw [if_pos c1] at h; cases h
    rw [if_neg c1] at h
    have h58 := stands_lt (s := s) (a := a + 1 + key.length) (c := 58) (by
      cases hh : standsB s (a + 1 + key.length) 58 with
      | true => rfl
      | false => exact absurd (.inr hh) c1)
    have hv := valAt_len s (a + 1 + key.length + 1) (by omega)
    generalize valAt s (a + 1 + key.length + 1) = val at h hv
    by_cases c2 : out.length = 16
    · rw [if_pos c2] at h; cases h
    rw [if_neg c2] at h
    by_cases c3 : 16 < key.length ∨ 32 < val.length
    · rw [if_pos c3] at h; cases h
    rw [if_neg c3] at h
    by_cases c4 : leB key last = true
    · rw [if_pos c4] at h; cases h
    rw [if_neg c4] at h
    by_cases c5 : standsB s (a + 1 + key.length + 1 + val.length) 125 = true
    · rw [if_pos c5] at h
      have := stands_lt c5
      injection h with h1 h2
      omega
    rw [if_neg c5] at h
    by_cases c6 : standsB s (a + 1 + key.length + 1 + val.length) 44 = false
    · rw [if_pos c6] at h; cases h
    rw [if_neg c6] at h
    have h44 := stands_lt (s := s) (a := a + 1 + key.length + 1 + val.length) (c := 44) (by simpa using c6)
    have := rdP_pos f s _ _ _ ps e h44 h
    omega
theorem rdH_pos {s : List UInt8} {a e : Nat} {ps : List PropD} (ha : a ≤ s.length) (h : rdH s a = .ok ps e) : a ≤ e ∧ e ≤ s.length := by
  unfold rdH at h
  by_cases c : standsB s a 123 = true
  · rw [if_pos c] at h
    have := rdP_pos _ s a [] [] ps e (stands_lt c) h
    omega
  · rw [if_neg c] at h
    injection h with h1 h2
    omega
theorem rdL_pos {s : List UInt8} {a e : Nat} {t : List Int} (ha : a < s.length) (h : rdL s a = .ok t e) : a < e ∧ e ≤ s.length := by
  have := leafEnd_le s a ha
  unfold rdL at h
  split at h
  · injection h with h1 h2; omega
  · cases h
mutual
theorem rdN_pos : ∀ (f : Nat) (s : List UInt8) (a : Nat) (n : NodeD) (e : Nat), a ≤ s.length → rdN f s a = .ok n e → a < e ∧ e ≤ s.length
  | 0, s, a, n, e, ha, h => by unfold rdN at h; cases h
  | f + 1, s, a, n, e, ha, h => by
    unfold rdN at h
    cases hh : rdH s a with
    | bad p er => rw [hh] at h; cases h
    | ok ps a1 =>
      have h1 := rdH_pos ha hh
      rw [hh] at h
      simp only at h
      by_cases c1 : standsB s a1 34 = true
      · rw [if_pos c1] at h
        cases hl : rdL s a1 with
        | bad p er => rw [hl] at h; cases h
        | ok t e' =>
          have := rdL_pos (stands_lt c1) hl
          rw [hl] at h
          injection h with h1 h2; omega
      rw [if_neg c1] at h
      by_cases c2 : standsB s a1 91 = false
      · rw [if_pos c2] at h; cases h
      rw [if_neg c2] at h
      have h91 := stands_lt (s := s) (a := a1) (c := 91) (by simpa using c2)
      cases hk : rdK f s (a1 + 1) [] with
      | bad p er => rw [hk] at h; cases h
      | ok ks e' =>
        have := rdK_pos f s (a1 + 1) [] ks e' (by omega) hk
        rw [hk] at h
        injection h with h1 h2; omega
theorem rdK_pos : ∀ (f : Nat) (s : List UInt8) (a : Nat) (out ks : List NodeD) (e : Nat), a ≤ s.length → rdK f s a out = .ok ks e → a < e ∧ e ≤ s.length
  | 0, s, a, out, ks, e, ha, h => by unfold rdK at h; cases h
  | f + 1, s, a, out, ks, e, ha, h => by
    unfold rdK at h
    by_cases c1 : standsB s a 93 = true
    · rw [if_pos c1] at h
      have := stands_lt c1
      injection h with h1 h2; omega
    rw [if_neg c1] at h
    cases hn : rdN f s a with
    | bad p er => rw [hn] at h; cases h
    | ok k e' =>
      have h1 := rdN_pos f s a k e' ha hn
      rw [hn] at h
      have := rdK_pos f s e' _ ks e h1.2 h
      omega
end
theorem rdL_wf {s : List UInt8} {a e : Nat} {t : List Int} (h : rdL s a = .ok t e) : ∀ z ∈ t, validB z = true := by
  unfold rdL at h
  generalize (s.take (leafEnd s a)).drop a = q at h
  rcases unq_cases q with ⟨zs, hz, -, hu⟩ | ⟨p, -, hu⟩
  · rw [hu] at h
    simp only [if_pos] at h
    injection h with h1 h2
    subst h1; exact hz
  · rw [hu] at h
    rw [if_neg (by show ¬ ((11 : Int) = 0); decide)] at h
    cases h
theorem rdP_len : ∀ (f : Nat) (s : List UInt8) (a : Nat) (out : List PropD) (last : List UInt8) (ps : List PropD) (e : Nat), out.length ≤ 16 → rdP f s a out last = .ok ps e → ps.length ≤ 16
  | 0, s, a, out, last, ps, e, ho, h => by unfold rdP at h; cases h
  | f + 1, s, a, out, last, ps, e, ho, h => by
    unfold rdP at h
    generalize keyAt s (a + 1) = key at h
    generalize valAt s (a + 1 + key.length + 1) = val at h
    by_cases c1 : key = [] ∨ standsB s (a + 1 + key.length) 58 = false
    · rw [if_pos c1] at h; cases h
    rw [if_neg c1] at h
    by_cases c2 : out.length = 16
    · rw [if_pos c2] at h; cases h
    rw [if_neg c2] at h
    by_cases c3 : 16 < key.length ∨ 32 < val.length
    · rw [if_pos c3] at h; cases h
    rw [if_neg c3] at h
    by_cases c4 : leB key last = true
    · rw [if_pos c4] at h; cases h
    rw [if_neg c4] at h
    by_cases c5 : standsB s (a + 1 + key.length + 1 + val.length) 125 = true
    · rw [if_pos c5] at h
      injection h with h1 h2
      subst h1; simp; omega
    rw [if_neg c5] at h
    by_cases c6 : standsB s (a + 1 + key.length + 1 + val.length) 44 = false
    · rw [if_pos c6] at h; cases h
    rw [if_neg c6] at h
    exact rdP_len f s _ _ _ ps e (by simp; omega) h

end Go.Proofs.YtmhgbocejjnoaaaDoor
