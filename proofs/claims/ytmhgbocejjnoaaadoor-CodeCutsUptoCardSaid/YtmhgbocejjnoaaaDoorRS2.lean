/- Plain laws: what is quoted is read again, and the other way round. No walk. -/
import Derived.Test.YtmhgbocejjnoaaaDoorRS1
namespace Go.Redl
open Go.RowKit
set_option linter.unusedVariables false

theorem qb_pos (c : Int) : 1 ≤ (qb c).length := by unfold qb; split <;> simp [escL]
theorem qb_head {c : Int} (hv : validB c = true) : ∃ x r, qb c = x :: r ∧ x ≠ 34 := by
  unfold qb
  split
  · rename_i hp
    refine ⟨_, [], rfl, fun h => ?_⟩
    have h1 := congrArg UInt8.toNat h
    unfold plainB at hp
    simp at hp
    rw [UInt8.toNat_ofNat'] at h1
    have : (34 : UInt8).toNat = 34 := rfl
    rw [this] at h1
    omega
  · exact ⟨92, _, rfl, by decide⟩
theorem firstS_qb {c : Int} (hv : validB c = true) (t : List UInt8) : firstS (qb c ++ t) = (c, (qb c).length) := by
  cases hp : plainB c with
  | true =>
    have hq : qb c = [UInt8.ofNat c.toNat] := by unfold qb; rw [if_pos hp]
    obtain ⟨h0, h1⟩ := plain_bound hp
    have hc : (((UInt8.ofNat c.toNat).toNat : Nat) : Int) = c := by rw [UInt8.toNat_ofNat', Nat.mod_eq_of_lt (by omega)]; omega
    rw [hq]
    simp only [List.cons_append, List.nil_append, firstS, hc, hp, if_true, List.length_cons, List.length_nil]
  | false =>
    obtain ⟨h0, h1⟩ := valid_bound hv
    obtain ⟨n, rfl⟩ := Int.eq_ofNat_of_zero_le h0
    have hq : qb (n : Int) = escL n := by unfold qb; rw [if_neg (by simp [hp])]; simp
    rw [hq]
    have he : escN (escL n ++ t) = some n := escN_some.2 ⟨hv, hp, List.prefix_append _ _⟩
    have hp92 : plainB ((92 : UInt8).toNat : Int) = false := by decide
    unfold firstS
    simp only [escL, List.cons_append, List.append_assoc] at he ⊢
    rw [hp92]
    simp only [Bool.false_eq_true, if_false, he]
theorem firstS_ok {t : List UInt8} (h : (firstS t).2 ≠ 0) : validB (firstS t).1 = true ∧ t = qb (firstS t).1 ++ t.drop (firstS t).2 ∧ (firstS t).2 = (qb (firstS t).1).length := by
  cases t with
  | nil => exact absurd rfl h
  | cons x r =>
    cases hp : plainB x.toNat with
    | true =>
      have hf : firstS (x :: r) = ((x.toNat : Int), 1) := by simp [firstS, hp]
      rw [hf]
      obtain ⟨h0, h1⟩ := plain_bound hp
      have hq : qb (x.toNat : Int) = [x] := by unfold qb; rw [if_pos hp]; simp
      refine ⟨?_, by rw [hq]; simp, by rw [hq]; rfl⟩
      unfold validB; simp; omega
    | false =>
      cases he : escN (x :: r) with
      | none =>
        have hf : firstS (x :: r) = (0, 0) := by simp [firstS, hp, he]
        rw [hf] at h; exact absurd rfl h
      | some n =>
        have hf : firstS (x :: r) = ((n : Int), (escL n).length) := by simp [firstS, hp, he]
        obtain ⟨h1, h2, rest, h3⟩ := escN_some.1 he
        have hq : qb (n : Int) = escL n := by unfold qb; rw [if_neg (by simp [h2])]; simp
        rw [hf]
        refine ⟨h1, ?_, by rw [hq]⟩
        rw [hq]
        simp only
        rw [← h3]
        simp

theorem uq_body : ∀ (zs : List Int) (f : Nat) (t : List UInt8) (out : List Int) (at_ : Nat), (∀ c ∈ zs, validB c = true) → uq (f + zs.length) (bodyL zs ++ t) out at_ = uq f t (out ++ zs) (at_ + (bodyL zs).length)
  | [], f, t, out, at_, h => by simp [bodyL]
  | c :: zs, f, t, out, at_, h => by
    have hv := h c (by simp)
    have hb : bodyL (c :: zs) ++ t = qb c ++ (bodyL zs ++ t) := by simp [bodyL]
    obtain ⟨x, r, hq, hx⟩ := qb_head hv
    rw [hb]
    have h1 := firstS_qb hv (bodyL zs ++ t)
    have hpos := qb_pos c
    rw [show f + (c :: zs).length = (f + zs.length) + 1 by simp; omega]
    have hstep : uq ((f + zs.length) + 1) (qb c ++ (bodyL zs ++ t)) out at_ = uq (f + zs.length) ((qb c ++ (bodyL zs ++ t)).drop (qb c).length) (out ++ [c]) (at_ + (qb c).length) := by
      conv => lhs; rw [hq]
      simp only [List.cons_append, uq]
      rw [if_neg hx]
      rw [hq] at h1
      simp only [List.cons_append] at h1
      rw [h1]
      simp only
      rw [← hq, if_neg (by omega)]
      rw [hq]; rfl
    rw [hstep, List.drop_left, uq_body zs f t _ _ (fun d hd => h d (by simp [hd]))]
    have : (bodyL (c :: zs)).length = (qb c).length + (bodyL zs).length := by simp [bodyL]
    rw [this]
    simp [Nat.add_assoc]
theorem body_long : ∀ zs : List Int, zs.length ≤ (bodyL zs).length
  | [] => by simp
  | c :: zs => by
    have h1 := body_long zs
    have h2 := qb_pos c
    simp only [bodyL, List.flatMap_cons, List.length_append, List.length_cons] at *
    omega
/-- Behind a body: fuel there is. -/
theorem unq_body {zs : List Int} (hv : ∀ c ∈ zs, validB c = true) (t : List UInt8) : ∃ f, t.length ≤ f ∧ unqL (34 :: (bodyL zs ++ t)) = uq (f + 1) t zs (1 + (bodyL zs).length) := by
  have hl := body_long zs
  refine ⟨(bodyL zs).length - zs.length + t.length, by omega, ?_⟩
  have hf : (bodyL zs ++ t).length + 1 = ((bodyL zs).length - zs.length + t.length + 1) + zs.length := by simp; omega
  show uq ((bodyL zs ++ t).length + 1) (bodyL zs ++ t) [] 1 = _
  rw [hf, uq_body zs _ t [] 1 hv]
  simp
theorem unq_quote {zs : List Int} (hv : ∀ c ∈ zs, validB c = true) : unqL (quoteL zs) = (zs, 0, 0) := by
  obtain ⟨f, hf, h⟩ := unq_body hv [34]
  rw [show quoteL zs = 34 :: (bodyL zs ++ [34]) from rfl, h]
  simp [uq]
theorem unq_more {zs : List Int} (hv : ∀ c ∈ zs, validB c = true) (b : UInt8) : unqL (quoteL zs ++ [b]) = ([], ((quoteL zs).length : Int), 11) := by
  obtain ⟨f, hf, h⟩ := unq_body hv [34, b]
  have : quoteL zs ++ [b] = 34 :: (bodyL zs ++ [34, b]) := by simp [quoteL]
  rw [this, h]
  simp [uq, quoteL]
  omega
theorem unq_less {zs : List Int} (hv : ∀ c ∈ zs, validB c = true) : unqL (34 :: bodyL zs) = ([], (1 + (bodyL zs).length : Int), 11) := by
  obtain ⟨f, hf, h⟩ := unq_body hv []
  rw [List.append_nil] at h
  rw [h]
  simp [uq]
theorem uq_cases : ∀ (f : Nat) (t : List UInt8) (out : List Int) (at_ : Nat), t.length ≤ f →
    (∃ zs, (∀ c ∈ zs, validB c = true) ∧ t = bodyL zs ++ [34] ∧ uq (f + 1) t out at_ = (out ++ zs, 0, 0)) ∨ ∃ p : Nat, p ≤ at_ + t.length ∧ uq (f + 1) t out at_ = ([], (p : Int), 11)
  | f, [], out, at_, h => .inr ⟨at_, by simp, by simp [uq]⟩
  | 0, x :: r, out, at_, h => by simp at h
  | f + 1, x :: r, out, at_, h => by
    by_cases hx : x = 34
    · subst hx
      by_cases hr : r = []
      · subst hr
        exact .inl ⟨[], by simp, by simp [bodyL], by simp [uq]⟩
      · refine .inr ⟨at_ + 1, ?_, by simp [uq, hr]⟩
        have : 0 < r.length := List.length_pos_iff.2 hr
        simp only [List.length_cons]; omega
    · by_cases h0 : (firstS (x :: r)).2 = 0
      · refine .inr ⟨at_, by simp, ?_⟩
        simp only [uq]
        rw [if_neg hx, if_pos h0]
      · obtain ⟨h1, h2, h3⟩ := firstS_ok h0
        generalize hc : firstS (x :: r) = q at *
        obtain ⟨c, l⟩ := q
        simp only at h0 h1 h2 h3
        have hl : ((x :: r).drop l).length ≤ f := by
          have := congrArg List.length h2
          simp at this h ⊢
          omega
        have hs : uq (f + 1 + 1) (x :: r) out at_ = uq (f + 1) ((x :: r).drop l) (out ++ [c]) (at_ + l) := by
          rw [uq]
          rw [if_neg hx, hc]
          simp only
          rw [if_neg h0]
        rcases uq_cases f ((x :: r).drop l) (out ++ [c]) (at_ + l) hl with ⟨zs, z1, z2, z3⟩ | ⟨p, p1, p2⟩
        · refine .inl ⟨c :: zs, ?_, ?_, ?_⟩
          · intro d hd
            rcases List.mem_cons.1 hd with rfl | hd
            · exact h1
            · exact z1 d hd
          · rw [h2, z2]; simp [bodyL]
          · rw [hs, z3]; simp
        · refine .inr ⟨p, ?_, by rw [hs, p2]⟩
          have := congrArg List.length h2
          simp at this p1 ⊢
          omega
/-- Whatever is read: it is what some text is quoted as, or none. -/
theorem unq_cases (s : List UInt8) : (∃ zs, (∀ c ∈ zs, validB c = true) ∧ s = quoteL zs ∧ unqL s = (zs, 0, 0)) ∨ ∃ p : Nat, p ≤ s.length ∧ unqL s = ([], (p : Int), 11) := by
  cases s with
  | nil => exact .inr ⟨0, by simp, rfl⟩
  | cons x r =>
    by_cases hx : x = 34
    · subst hx
      have hu : unqL (34 :: r) = uq (r.length + 1) r [] 1 := rfl
      rcases uq_cases r.length r [] 1 (Nat.le_refl _) with ⟨zs, z1, z2, z3⟩ | ⟨p, p1, p2⟩
      · exact .inl ⟨zs, z1, by rw [z2]; rfl, by rw [hu, z3]; simp⟩
      · exact .inr ⟨p, by simp; omega, by rw [hu, p2]⟩
    · exact .inr ⟨0, by simp, by unfold unqL; simp only; rw [if_neg hx]; rfl⟩
theorem unq_ahead {zs : List Int} (b : UInt8) : unqL (b :: quoteL zs) = if b = 34 then ([], 2, 11) else ([], 0, 11) := by
  unfold unqL
  simp only
  split
  · simp [quoteL, uq]
  · rfl

end Go.Redl
