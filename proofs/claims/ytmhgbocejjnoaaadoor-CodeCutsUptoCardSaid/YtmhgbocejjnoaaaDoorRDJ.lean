/- Plain laws: a tree that is small and may be is written in few bytes. -/
import Derived.Test.YtmhgbocejjnoaaaDoorRDG
import Derived.Test.YtmhgbocejjnoaaaDoorRR7
namespace Go.Proofs.YtmhgbocejjnoaaaDoor
open Go.RowKit Go.Redl
set_option linter.unusedVariables false

theorem propsGo_wt : ∀ (ps : List PropD) (last : List UInt8), propsGo last ps = 0 → propsWt ps ≤ 50 * ps.length
  | [], last, _ => by simp [propsWt]
  | p :: qs, last, h => by
    simp only [propsGo] at h
    split at h
    · rename_i hk
      simp only [Bool.and_eq_true] at hk
      split at h
      · cases h
      · have ih := propsGo_wt qs p.1 h
        have h1 := (keyB_low hk.1).2.1
        have h2 := (valB_c hk.2).1
        simp only [propsWt, List.length_cons]; omega
    · cases h
mutual
theorem few_len : ∀ (n : NodeD) (m : Int), nodeE n = 0 → 0 ≤ leftN n m → ((printL n).length : Int) ≤ 60 * (m - leftN n m)
  | .mk l ps t ks, m, h, hm => by
    obtain ⟨ho, hk⟩ := nodeE_ok h
    obtain ⟨hp, ht, hl1, hl2⟩ := ownE_ok ho
    have hw := propsGo_wt ps [] (propsE_ok hp).2
    have h2 := propsL_len ps
    have h3 := quoteL_len t
    unfold leftN at hm ⊢
    split at hm
    · exact absurd hm (by decide)
    · rename_i hc
      rw [if_neg hc]
      have ih := few_lenK ks _ hk hm
      have hpq : (0 : Int) ≤ (propsQ ps : Nat) := by omega
      simp only [printL, List.length_append]
      split
      · omega
      · simp only [List.length_cons, List.length_append, List.length_nil]; omega
theorem few_lenK : ∀ (ks : List NodeD) (m : Int), kidsE ks = 0 → 0 ≤ leftK ks m → ((printK ks).length : Int) ≤ 60 * (m - leftK ks m)
  | [], m, h, hm => by simp [printK, leftK]
  | k :: ks, m, h, hm => by
    obtain ⟨h1, h2⟩ := kidsE_ok h
    unfold leftK at hm ⊢
    split at hm
    · exact absurd hm (by decide)
    · rename_i hc
      rw [if_neg hc]
      have a := few_len k m h1 (by omega)
      have b := few_lenK ks _ h2 hm
      simp only [printK, List.length_append]; omega
end

end Go.Proofs.YtmhgbocejjnoaaaDoor
