/- Plain laws of texts. No walk. -/
import Derived.Test.YtdafbpjgjhfjmaaDoorRL1
namespace Go.Proofs.YtdafbpjgjhfjmaaDoor
open Go.RowKit Go.Redl
set_option linter.unusedVariables false

theorem checkE_zero {zs : List Int} : checkE zs = 0 ↔ ∀ c ∈ zs, validB c = true := by
  constructor
  · exact check_valid
  · intro h
    unfold checkE
    have : (zs.any fun c => !validB c) = false := by
      rw [List.any_eq_false]; intro c hc; simp [h c hc]
    rw [this]; rfl
theorem asked_mk {r s : List Int} {k : Nat} (h1 : checkE r = 0) (h2 : checkE s = 0) (hk : k ≤ r.length) : askedE r k s = 0 := by
  unfold askedE
  rw [if_neg (by simp [h1, h2]), if_neg (by omega)]
theorem mem_insL {r s : List Int} {k : Nat} {c : Int} (h : c ∈ insL r k s) : c ∈ r ∨ c ∈ s := by
  unfold insL at h
  simp only [List.mem_append] at h
  rcases h with (h | h) | h
  · exact .inl (List.mem_of_mem_take h)
  · exact .inr h
  · exact .inl (List.mem_of_mem_drop h)
theorem mem_remL {r s : List Int} {k : Nat} {c : Int} (h : c ∈ remL r k s) : c ∈ r := by
  unfold remL at h
  simp only [List.mem_append] at h
  rcases h with h | h
  · exact List.mem_of_mem_take h
  · exact List.mem_of_mem_drop h
theorem len_insL {r s : List Int} {k : Nat} (hk : k ≤ r.length) : (insL r k s).length = r.length + s.length := by
  unfold insL; simp; omega

theorem ins_asked {r s : List Int} {k : Nat} (h : askedE r k s = 0) : askedE (insL r k s) k s = 0 := by
  obtain ⟨h1, h2⟩ := asked_zero h
  have hk := (asked_place h).2
  refine asked_mk (checkE_zero.2 fun c hc => ?_) h2 (by rw [len_insL (by omega)]; omega)
  rcases mem_insL hc with hc | hc
  · exact checkE_zero.1 h1 c hc
  · exact checkE_zero.1 h2 c hc
theorem ins_rem {r s : List Int} {k : Nat} (hk : k ≤ r.length) : remR (insL r k s) k s = (r, 0) := by
  have hl : (r.take k).length = k := by simp; omega
  have h1 : (insL r k s).drop k = s ++ r.drop k := by
    unfold insL
    rw [List.append_assoc, List.drop_append_of_le_length (by omega), List.drop_of_length_le (by omega)]
    simp
  rw [remR_yes (by rw [h1]; simp)]
  unfold remL
  have h2 : (insL r k s).take k = r.take k := by
    unfold insL
    rw [List.append_assoc, List.take_append_of_le_length (by omega), List.take_of_length_le (by omega)]
  have h3 : (insL r k s).drop (k + s.length) = r.drop k := by
    rw [← List.drop_drop, h1]; simp
  rw [h2, h3, List.take_append_drop]
theorem rem_asked {r s : List Int} {k : Nat} (h : askedE r k s = 0) (hs : (r.drop k).take s.length = s) : askedE (remL r k s) k s = 0 := by
  obtain ⟨h1, h2⟩ := asked_zero h
  have hk := (asked_place h).2
  have hl := congrArg List.length hs
  simp at hl
  refine asked_mk (checkE_zero.2 fun c hc => checkE_zero.1 h1 c (mem_remL hc)) h2 ?_
  unfold remL; simp; omega
theorem rem_ins {r s : List Int} {k : Nat} (hk : k ≤ r.length) (hs : (r.drop k).take s.length = s) : insL (remL r k s) k s = r := by
  have hl : (r.take k).length = k := by simp; omega
  have h2 : (remL r k s).take k = r.take k := by
    unfold remL
    rw [List.take_append_of_le_length (by omega), List.take_of_length_le (by omega)]
  have h3 : (remL r k s).drop k = r.drop (k + s.length) := by
    unfold remL
    rw [List.drop_append_of_le_length (by omega), List.drop_of_length_le (by omega)]; simp
  unfold insL
  rw [h2, h3]
  have h4 : s ++ r.drop (k + s.length) = r.drop k := by
    conv => rhs; rw [← List.take_append_drop s.length (r.drop k)]
    rw [hs, List.drop_drop]
  rw [List.append_assoc, h4, List.take_append_drop]
theorem insR_yes {r s : List Int} {k : Nat} (h : askedE r k s = 0) : insR r k s = (insL r k s, 0) := by unfold insR; rw [if_pos h]; simp
theorem insR_no {r s : List Int} {at_ : Int} (h : askedE r at_ s ≠ 0) : insR r at_ s = ([], askedE r at_ s) := by unfold insR; rw [if_neg h]
theorem remRR_yes {r s : List Int} {k : Nat} (h : askedE r k s = 0) : remRR r k s = remR r k s := by unfold remRR; rw [if_pos h]; simp
theorem remRR_no {r s : List Int} {at_ : Int} (h : askedE r at_ s ≠ 0) : remRR r at_ s = ([], askedE r at_ s) := by unfold remRR; rw [if_neg h]

theorem asked_cases0' {r : List Int} {at_ : Int} (h : askedE r at_ [] ≠ 0) : checkE r = 4 ∨ (checkE r = 0 ∧ at_ < 0) ∨ (checkE r = 0 ∧ ¬ at_ < 0 ∧ (r.length : Int) < at_) := by
  rcases asked_cases h with ⟨h, _⟩ | ⟨_, h, _⟩ | ⟨h1, _, h2, h3⟩ | ⟨h1, _, h2, h3, h4⟩
  · left; unfold checkE at *; split <;> simp_all
  · exact absurd rfl h
  · exact .inr (.inl ⟨h1, h2⟩)
  · exact .inr (.inr ⟨h1, h2, h3⟩)
theorem cutR_yes {r : List Int} {k : Nat} (h : askedE r k [] = 0) : cutR r k = (r.take k, r.drop k, 0) := by unfold cutR; rw [if_pos h]; simp
theorem cutR_no {r : List Int} {at_ : Int} (h : askedE r at_ [] ≠ 0) : cutR r at_ = ([], [], askedE r at_ []) := by unfold cutR; rw [if_neg h]
theorem cut_ins {r : List Int} {k : Nat} (h : askedE r k [] = 0) : insR (r.take k) (r.take k).length (r.drop k) = (r, 0) := by
  obtain ⟨h1, _⟩ := asked_zero h
  have hk := (asked_place h).2
  have ha : askedE (r.take k) (r.take k).length (r.drop k) = 0 :=
    asked_mk (checkE_zero.2 fun c hc => checkE_zero.1 h1 c (List.mem_of_mem_take hc)) (checkE_zero.2 fun c hc => checkE_zero.1 h1 c (List.mem_of_mem_drop hc)) (Nat.le_refl _)
  rw [insR_yes ha]
  unfold insL
  rw [List.take_of_length_le (Nat.le_refl _), List.drop_of_length_le (Nat.le_refl _), List.append_nil, List.take_append_drop]
theorem cut_rem {r : List Int} {k : Nat} (h : askedE r k [] = 0) : remRR r k (r.drop k) = (r.take k, 0) := by
  obtain ⟨h1, _⟩ := asked_zero h
  have hk := (asked_place h).2
  have ha : askedE r k (r.drop k) = 0 := asked_mk h1 (checkE_zero.2 fun c hc => checkE_zero.1 h1 c (List.mem_of_mem_drop hc)) (by omega)
  rw [remRR_yes ha, remR_yes (List.take_of_length_le (Nat.le_refl _))]
  unfold remL
  rw [List.drop_of_length_le (i := k + (r.drop k).length) (by simp; omega), List.append_nil]

end Go.Proofs.YtdafbpjgjhfjmaaDoor
