/- Parts of the proof, one behind the other: RDG, RCS. -/
import Derived.Test.YtmhgbocejjnoaaaDoorQ8
import Derived.Test.YtmhgbocejjnoaaaDoorQ5
/- Plain laws: a printed tree is read whole wherever it stands. -/
namespace Go.Proofs.YtmhgbocejjnoaaaDoor
open Go.RowKit Go.Redl
set_option linter.unusedVariables false

theorem stands_at (pre post : List UInt8) (x c : UInt8) : standsB (pre ++ x :: post) pre.length c = (x == c) := by
  unfold standsB
  rw [List.getElem?_append_right (Nat.le_refl _)]
  simp
theorem stands_end (s : List UInt8) (c : UInt8) : standsB s s.length c = false := by
  unfold standsB
  rw [List.getElem?_eq_none (Nat.le_refl _)]; rfl
theorem drop_pre (pre post : List UInt8) : (pre ++ post).drop pre.length = post := by simp
theorem takeWhile_stop (p : UInt8 → Bool) : ∀ (l : List UInt8) (x : UInt8) (r : List UInt8), (∀ c ∈ l, p c = true) → p x = false → (l ++ x :: r).takeWhile p = l
  | [], x, r, _, hx => by simp [hx]
  | c :: l, x, r, h, hx => by
    rw [List.cons_append, List.takeWhile_cons_of_pos (h c (by simp)), takeWhile_stop p l x r (fun d hd => h d (by simp [hd])) hx]
theorem takeWhile_all (p : UInt8 → Bool) : ∀ (l : List UInt8), (∀ c ∈ l, p c = true) → l.takeWhile p = l
  | [], _ => rfl
  | c :: l, h => by rw [List.takeWhile_cons_of_pos (h c (by simp)), takeWhile_all p l (fun d hd => h d (by simp [hd]))]

theorem stands_pos {s pre post : List UInt8} {x c : UInt8} {k : Nat} (hs : s = pre ++ x :: post) (hk : k = pre.length) : standsB s k c = (x == c) := by subst hs; subst hk; exact stands_at pre post x c
theorem drop_pos {s pre post : List UInt8} {k : Nat} (hs : s = pre ++ post) (hk : k = pre.length) : s.drop k = post := by subst hs; subst hk; exact drop_pre pre post
theorem keyB_low {k : List UInt8} (h : keyB k = true) : k ≠ [] ∧ k.length ≤ 16 ∧ ∀ c ∈ k, lowB c = true := by
  unfold keyB at h
  simp only [Bool.and_eq_true, decide_eq_true_eq, List.all_eq_true] at h
  exact ⟨by intro e; rw [e] at h; simp at h, h.1.2, h.2⟩
theorem valB_c {k : List UInt8} (h : valB k = true) : k.length ≤ 32 ∧ ∀ c ∈ k, valcB c = true := by
  unfold valB at h
  simp only [Bool.and_eq_true, decide_eq_true_eq, List.all_eq_true] at h
  exact h
/-- Printed properties are read whole. -/
theorem rdP_print : ∀ (ps : List PropD) (pre post : List UInt8) (c : UInt8) (out : List PropD) (last : List UInt8) (f : Nat), ps ≠ [] → propsGo last ps = 0 → out.length + ps.length ≤ 16 → ps.length ≤ f →
    rdP f (pre ++ (propsC c ps ++ 125 :: post)) pre.length out last = .ok (out ++ ps) (pre.length + (propsC c ps).length + 1)
  | [], pre, post, c, out, last, f, h0, _, _, _ => absurd rfl h0
  | p :: qs, pre, post, c, out, last, f, _, hg, hl, hf => by
    obtain ⟨f, rfl⟩ : ∃ g, f = g + 1 := ⟨f - 1, by simp at hf; omega⟩
    simp only [propsGo] at hg
    have hkv : keyB p.1 = true ∧ valB p.2 = true ∧ leB p.1 last = false ∧ propsGo p.1 qs = 0 := by
      split at hg
      · rename_i h
        simp only [Bool.and_eq_true] at h
        split at hg
        · cases hg
        · rename_i h2; exact ⟨h.1, h.2, by simpa using h2, hg⟩
      · cases hg
    obtain ⟨hk, hv, hle, hgo⟩ := hkv
    obtain ⟨hk0, hk1, hk2⟩ := keyB_low hk
    obtain ⟨hv1, hv2⟩ := valB_c hv
    obtain ⟨s, hs⟩ : ∃ s, s = pre ++ (propsC c (p :: qs) ++ 125 :: post) := ⟨_, rfl⟩
    rw [← hs]
    have e1 : s = (pre ++ [c]) ++ (p.1 ++ 58 :: (p.2 ++ (propsC 44 qs ++ 125 :: post))) := by rw [hs]; simp [propsC, propL]
    have e2 : s = (pre ++ [c] ++ p.1) ++ 58 :: (p.2 ++ (propsC 44 qs ++ 125 :: post)) := by rw [e1]; simp
    have e3 : s = (pre ++ [c] ++ p.1 ++ [58]) ++ (p.2 ++ (propsC 44 qs ++ 125 :: post)) := by rw [e1]; simp
    have e4 : s = (pre ++ [c] ++ p.1 ++ [58] ++ p.2) ++ (propsC 44 qs ++ 125 :: post) := by rw [e1]; simp
    have hkey : keyAt s (pre.length + 1) = p.1 := by
      unfold keyAt
      rw [drop_pos e1 (by simp), takeWhile_stop _ _ _ _ hk2 (by decide)]
    have hval : valAt s (pre.length + 1 + p.1.length + 1) = p.2 := by
      unfold valAt
      rw [drop_pos e3 (by simp; omega)]
      cases qs with
      | nil => exact takeWhile_stop _ _ _ _ hv2 (by decide)
      | cons q qs => simp only [propsC, List.cons_append]; exact takeWhile_stop _ _ _ _ hv2 (by decide)
    rw [rdP_step f s pre.length out last p.1 p.2 hkey hval]
    rw [if_neg (by rw [stands_pos (c := 58) e2 (by simp; omega)]; simp [hk0]), if_neg (by simp at hl; omega), if_neg (by omega), if_neg (by rw [hle]; decide)]
    cases qs with
    | nil =>
      rw [if_pos (by rw [stands_pos (c := 125) (x := 125) (post := post) (pre := pre ++ [c] ++ p.1 ++ [58] ++ p.2) (by rw [e4]; simp [propsC]) (by simp; omega)]; rfl)]
      congr 1
      simp [propsC, propL]; omega
    | cons q qs =>
      have hh : ∀ x, standsB s (pre.length + 1 + p.1.length + 1 + p.2.length) x = ((44 : UInt8) == x) := fun x => stands_pos (post := propL q ++ propsC 44 qs ++ 125 :: post) (pre := pre ++ [c] ++ p.1 ++ [58] ++ p.2) (by rw [e4]; simp [propsC]) (by simp; omega)
      rw [if_neg (by rw [hh]; decide), if_neg (by rw [hh]; decide)]
      have hpl : pre.length + 1 + p.1.length + 1 + p.2.length = (pre ++ [c] ++ p.1 ++ [58] ++ p.2).length := by simp; omega
      have ih := rdP_print (q :: qs) (pre ++ [c] ++ p.1 ++ [58] ++ p.2) post 44 (out ++ [(p.1, p.2)]) p.1 f (by simp) hgo (by simp at hl ⊢; omega) (by simp at hf ⊢; omega)
      rw [hpl, e4, ih]
      congr 1
      · simp
      · simp [propsC, propL]; omega

theorem dig_not34 (n : Nat) (h : n < 16) : dig n ≠ 34 := by
  have : n = 0 ∨ n = 1 ∨ n = 2 ∨ n = 3 ∨ n = 4 ∨ n = 5 ∨ n = 6 ∨ n = 7 ∨ n = 8 ∨ n = 9 ∨ n = 10 ∨ n = 11 ∨ n = 12 ∨ n = 13 ∨ n = 14 ∨ n = 15 := by omega
  rcases this with rfl | rfl | rfl | rfl | rfl | rfl | rfl | rfl | rfl | rfl | rfl | rfl | rfl | rfl | rfl | rfl <;> decide
theorem hexF_not34 : ∀ (f n : Nat), ∀ c ∈ hexF f n, c ≠ 34
  | 0, n, c, h => by simp [hexF] at h
  | f + 1, n, c, h => by
    unfold hexF at h
    split at h
    · rename_i hn
      simp at h; subst h; exact dig_not34 n hn
    · simp only [List.mem_append, List.mem_singleton] at h
      rcases h with h | h
      · exact hexF_not34 f _ c h
      · subst h; exact dig_not34 _ (by omega)
theorem qb_not34 (z : Int) : ∀ c ∈ qb z, c ≠ 34 := by
  intro c hc
  unfold qb at hc
  split at hc
  · rename_i hp
    simp at hc
    subst hc
    unfold plainB at hp
    simp only [decide_eq_true_eq] at hp
    intro e
    have := congrArg UInt8.toNat e
    rw [UInt8.toNat_ofNat', Nat.mod_eq_of_lt (by omega)] at this
    have e34 : (34 : UInt8).toNat = 34 := rfl
    omega
  · unfold escL at hc
    simp only [List.mem_cons, List.mem_append, List.not_mem_nil, or_false] at hc
    rcases hc with rfl | hc | rfl
    · decide
    · exact hexF_not34 20 _ c hc
    · decide
theorem body_not34 (zs : List Int) : ∀ c ∈ bodyL zs, c ≠ 34 := by
  intro c hc
  unfold bodyL at hc
  obtain ⟨z, -, hz⟩ := List.mem_flatMap.1 hc
  exact qb_not34 z c hz
theorem index_at : ∀ (l : List UInt8) (c : UInt8) (r : List UInt8), (∀ x ∈ l, x ≠ c) → Lib.indexByte (l ++ c :: r) c = l.length
  | [], c, r, _ => by simp [Lib.indexByte]
  | b :: l, c, r, h => by
    have ih := index_at l c r (fun x hx => h x (by simp [hx]))
    rw [List.cons_append, Lib.indexByte, if_neg (by simpa using h b (by simp)), ih]
    simp
theorem index_no : ∀ (l : List UInt8) (c : UInt8), (∀ x ∈ l, x ≠ c) → Lib.indexByte l c = -1
  | [], c, _ => rfl
  | b :: l, c, h => by
    have ih := index_no l c (fun x hx => h x (by simp [hx]))
    rw [Lib.indexByte, if_neg (by simpa using h b (by simp)), ih]
    rfl
/-- A quoted text is read whole; without its last byte it fails at its end. -/
theorem rdL_print {zs : List Int} (hv : ∀ c ∈ zs, validB c = true) (pre post : List UInt8) : rdL (pre ++ (quoteL zs ++ post)) pre.length = .ok zs (pre.length + (quoteL zs).length) := by
  have hd : (pre ++ (quoteL zs ++ post)).drop (pre.length + 1) = bodyL zs ++ 34 :: post := drop_pos (pre := pre ++ [34]) (by simp [quoteL]) (by simp)
  have he : leafEnd (pre ++ (quoteL zs ++ post)) pre.length = pre.length + (quoteL zs).length := by
    unfold leafEnd
    rw [hd, index_at _ _ _ (body_not34 zs), if_pos (by omega)]
    simp [quoteL]; omega
  have ht : ((pre ++ (quoteL zs ++ post)).take (pre.length + (quoteL zs).length)).drop pre.length = quoteL zs := by
    rw [← List.append_assoc, List.take_left' (by simp)]
    exact drop_pre _ _
  have hu := unq_quote hv
  rw [← ht] at hu
  rw [rdL_eq he hu, if_pos rfl]
theorem rdL_less {zs : List Int} (hv : ∀ c ∈ zs, validB c = true) (pre : List UInt8) : rdL (pre ++ 34 :: bodyL zs) pre.length = .bad (pre.length + 1 + (bodyL zs).length) 11 := by
  have hd : (pre ++ 34 :: bodyL zs).drop (pre.length + 1) = bodyL zs := drop_pos (pre := pre ++ [34]) (by simp) (by simp)
  have he : leafEnd (pre ++ 34 :: bodyL zs) pre.length = (pre ++ 34 :: bodyL zs).length := by
    unfold leafEnd
    rw [hd, index_no _ _ (body_not34 zs), if_neg (by omega)]
  have ht : ((pre ++ 34 :: bodyL zs).take (pre ++ 34 :: bodyL zs).length).drop pre.length = 34 :: bodyL zs := by
    rw [List.take_length]
    exact drop_pre _ _
  have hu := unq_less hv
  rw [← ht] at hu
  rw [rdL_eq he hu, if_neg (by decide)]
  congr 1
  omega

theorem propsE_ok {ps : List PropD} (h : propsE ps = 0) : ps.length ≤ 16 ∧ propsGo [] ps = 0 := by
  unfold propsE at h
  split at h
  · cases h
  · exact ⟨by omega, h⟩
/-- Printed properties ahead of a node's text. -/
theorem rdH_print {ps : List PropD} (h : propsE ps = 0) (pre r : List UInt8) (x : UInt8) (hx : x ≠ 123) : rdH (pre ++ (propsL ps ++ x :: r)) pre.length = .ok ps (pre.length + (propsL ps).length) := by
  obtain ⟨hl, hg⟩ := propsE_ok h
  by_cases h0 : ps.length = 0
  · have : ps = [] := List.eq_nil_of_length_eq_zero h0
    subst this
    have e : propsL [] = [] := rfl
    unfold rdH
    rw [e, List.nil_append, stands_at, if_neg (by simpa using hx)]
    simp
  · have e : pre ++ (propsL ps ++ x :: r) = pre ++ (propsC 123 ps ++ 125 :: (x :: r)) := by unfold propsL; rw [if_neg h0]; simp
    have es : standsB (pre ++ (propsC 123 ps ++ 125 :: (x :: r))) pre.length 123 = true := by
      cases ps with
      | nil => exact absurd rfl h0
      | cons p ps =>
        simp only [propsC, List.cons_append]
        rw [stands_at]; rfl
    unfold rdH
    rw [e, if_pos es, rdP_print ps pre (x :: r) 123 [] [] _ (by intro e; rw [e] at h0; exact h0 rfl) hg (by simpa using hl) (by
      have := propsC_len ps 123
      have := propsWt_len ps
      simp only [List.length_append]; omega)]
    have el : (propsL ps).length = (propsC 123 ps).length + 1 := by unfold propsL; rw [if_neg h0]; simp
    rw [el, List.nil_append, Nat.add_assoc]

theorem ownE_ok {l : Bool} {ps : List PropD} {t : List Int} {m : Nat} (h : ownE l ps t m = 0) : propsE ps = 0 ∧ (∀ c ∈ t, validB c = true) ∧ (l = true → m = 0) ∧ (l = false → t = []) := by
  unfold ownE at h
  split at h
  · rename_i h1; exact absurd h h1
  · rename_i h1
    split at h
    · cases h
    · rename_i h2
      refine ⟨by simpa using h1, ?_, ?_, ?_⟩
      · intro c hc
        unfold checkE at h
        split at h
        · cases h
        · rename_i h3
          simp only [List.any_eq_true, Bool.not_eq_true', not_exists, not_and, Bool.not_eq_false] at h3
          exact h3 c hc
      · intro hl; subst hl; simp at h2; omega
      · intro hl; subst hl; simp at h2; exact h2
theorem nodeE_ok {l : Bool} {ps : List PropD} {t : List Int} {ks : List NodeD} (h : nodeE (.mk l ps t ks) = 0) : ownE l ps t ks.length = 0 ∧ kidsE ks = 0 := by
  unfold nodeE at h
  split at h
  · rename_i h1; exact absurd h h1
  · rename_i h1; exact ⟨by simpa using h1, h⟩
theorem kidsE_ok {k : NodeD} {ks : List NodeD} (h : kidsE (k :: ks) = 0) : nodeE k = 0 ∧ kidsE ks = 0 := by
  unfold kidsE at h
  split at h
  · rename_i h1; exact absurd h h1
  · rename_i h1; exact ⟨by simpa using h1, h⟩
theorem printL_head : ∀ n : NodeD, ∃ x r, printL n = x :: r ∧ x ≠ 93
  | .mk l ps t ks => by
    unfold printL
    cases ps with
    | nil =>
      cases l with
      | true => exact ⟨34, _, rfl, by decide⟩
      | false => exact ⟨91, _, rfl, by decide⟩
    | cons p ps => exact ⟨123, _, rfl, by decide⟩
mutual
/-- A printed tree is read whole wherever it stands. -/
theorem rdN_print : ∀ (n : NodeD) (pre post : List UInt8) (f : Nat), nodeE n = 0 → 2 * ((printL n).length + post.length) + 1 ≤ f → rdN f (pre ++ (printL n ++ post)) pre.length = .ok n (pre.length + (printL n).length)
  | .mk l ps t ks, pre, post, f, h, hf => by
    obtain ⟨f, rfl⟩ : ∃ g, f = g + 1 := ⟨f - 1, by omega⟩
    obtain ⟨ho, hk⟩ := nodeE_ok h
    obtain ⟨hp, ht, hl1, hl2⟩ := ownE_ok ho
    cases l with
    | true =>
      have hk0 : ks = [] := List.eq_nil_of_length_eq_zero (hl1 rfl)
      subst hk0
      have e : pre ++ (printL (.mk true ps t []) ++ post) = pre ++ (propsL ps ++ 34 :: (bodyL t ++ 34 :: post)) := by simp [printL, quoteL]
      have e2 : pre ++ (propsL ps ++ 34 :: (bodyL t ++ 34 :: post)) = (pre ++ propsL ps) ++ (quoteL t ++ post) := by simp [quoteL]
      have e3 : pre ++ (propsL ps ++ 34 :: (bodyL t ++ 34 :: post)) = (pre ++ propsL ps) ++ 34 :: (bodyL t ++ 34 :: post) := by simp
      have el : pre.length + (propsL ps).length = (pre ++ propsL ps).length := by simp
      rw [e]
      unfold rdN
      rw [rdH_print hp pre _ 34 (by decide)]
      simp only
      rw [if_pos (by rw [stands_pos e3 el]; rfl)]
      rw [e2, el, rdL_print ht]
      simp only
      congr 1
      simp [printL]; omega
    | false =>
      have ht0 := hl2 rfl
      subst ht0
      have e : pre ++ (printL (.mk false ps [] ks) ++ post) = pre ++ (propsL ps ++ 91 :: (printK ks ++ 93 :: post)) := by simp [printL]
      have e2 : pre ++ (propsL ps ++ 91 :: (printK ks ++ 93 :: post)) = (pre ++ propsL ps ++ [91]) ++ (printK ks ++ 93 :: post) := by simp
      have e3 : pre ++ (propsL ps ++ 91 :: (printK ks ++ 93 :: post)) = (pre ++ propsL ps) ++ 91 :: (printK ks ++ 93 :: post) := by simp
      have el : pre.length + (propsL ps).length = (pre ++ propsL ps).length := by simp
      have el2 : pre.length + (propsL ps).length + 1 = (pre ++ propsL ps ++ [91]).length := by simp; omega
      have hlen : (printL (.mk false ps [] ks)).length = (propsL ps).length + (printK ks).length + 2 := by simp [printL]; omega
      rw [e]
      unfold rdN
      rw [rdH_print hp pre _ 91 (by decide)]
      simp only
      rw [if_neg (by rw [stands_pos e3 el]; decide), if_neg (by rw [stands_pos e3 el]; decide)]
      rw [e2, el2, rdK_print ks _ post f [] hk (by omega)]
      simp only
      rw [hlen]
      congr 1
      simp; omega
theorem rdK_print : ∀ (ks : List NodeD) (pre post : List UInt8) (f : Nat) (out : List NodeD), kidsE ks = 0 → 2 * ((printK ks).length + 1 + post.length) + 2 ≤ f → rdK f (pre ++ (printK ks ++ 93 :: post)) pre.length out = .ok (out ++ ks) (pre.length + (printK ks).length + 1)
  | [], pre, post, f, out, h, hf => by
    obtain ⟨f, rfl⟩ : ∃ g, f = g + 1 := ⟨f - 1, by omega⟩
    unfold rdK
    rw [if_pos (by rw [stands_pos (pre := pre) (x := 93) (post := post) (by simp [printK]) rfl]; rfl)]
    simp [printK]
  | k :: ks, pre, post, f, out, h, hf => by
    obtain ⟨f, rfl⟩ : ∃ g, f = g + 1 := ⟨f - 1, by omega⟩
    obtain ⟨h1, h2⟩ := kidsE_ok h
    obtain ⟨x, r, hx, hne⟩ := printL_head k
    have e : pre ++ (printK (k :: ks) ++ 93 :: post) = pre ++ (printL k ++ (printK ks ++ 93 :: post)) := by simp [printK]
    have e2 : pre ++ (printL k ++ (printK ks ++ 93 :: post)) = (pre ++ printL k) ++ (printK ks ++ 93 :: post) := by simp
    have e3 : pre ++ (printL k ++ (printK ks ++ 93 :: post)) = pre ++ x :: (r ++ (printK ks ++ 93 :: post)) := by rw [hx]; simp
    have hlen : (printK (k :: ks)).length = (printL k).length + (printK ks).length := by simp [printK]
    have hkl : 1 ≤ (printL k).length := by rw [hx]; simp
    rw [e]
    unfold rdK
    rw [if_neg (by rw [stands_pos e3 rfl]; simpa using hne)]
    rw [rdN_print k pre (printK ks ++ 93 :: post) f h1 (by simp; omega)]
    simp only
    rw [e2, show pre.length + (printL k).length = (pre ++ printL k).length by simp, rdK_print ks (pre ++ printL k) post f (out ++ [k]) h2 (by omega)]
    rw [hlen]
    congr 1
    · simp
    · simp; omega
end

theorem rdN_end (s : List UInt8) (f : Nat) (hf : 1 ≤ f) : rdN f s s.length = .bad s.length 11 := by
  obtain ⟨f, rfl⟩ : ∃ g, f = g + 1 := ⟨f - 1, by omega⟩
  unfold rdN rdH
  rw [if_neg (by rw [stands_end]; decide)]
  simp only
  rw [if_neg (by rw [stands_end]; decide), if_pos (stands_end s 91)]
theorem rdK_less : ∀ (ks : List NodeD) (pre : List UInt8) (f : Nat) (out : List NodeD), kidsE ks = 0 → 2 * (printK ks).length + 2 ≤ f → rdK f (pre ++ printK ks) pre.length out = .bad (pre.length + (printK ks).length) 11
  | [], pre, f, out, h, hf => by
    obtain ⟨f, rfl⟩ : ∃ g, f = g + 1 := ⟨f - 1, by omega⟩
    have e : pre ++ printK [] = pre := by simp [printK]
    have el : (printK []).length = 0 := rfl
    rw [el] at hf
    rw [e, el]
    unfold rdK
    rw [if_neg (by rw [stands_end]; decide), rdN_end pre f (by omega)]
    rfl
  | k :: ks, pre, f, out, h, hf => by
    obtain ⟨f, rfl⟩ : ∃ g, f = g + 1 := ⟨f - 1, by omega⟩
    obtain ⟨h1, h2⟩ := kidsE_ok h
    obtain ⟨x, r, hx, hne⟩ := printL_head k
    have e : pre ++ printK (k :: ks) = pre ++ (printL k ++ printK ks) := by simp [printK]
    have e2 : pre ++ (printL k ++ printK ks) = (pre ++ printL k) ++ printK ks := by simp
    have e3 : pre ++ (printL k ++ printK ks) = pre ++ x :: (r ++ printK ks) := by rw [hx]; simp
    have hlen : (printK (k :: ks)).length = (printL k).length + (printK ks).length := by simp [printK]
    have hkl : 1 ≤ (printL k).length := by rw [hx]; simp
    rw [e]
    unfold rdK
    rw [if_neg (by rw [stands_pos e3 rfl]; simpa using hne)]
    rw [rdN_print k pre (printK ks) f h1 (by omega)]
    simp only
    rw [e2, show pre.length + (printL k).length = (pre ++ printL k).length by simp, rdK_less ks (pre ++ printL k) f (out ++ [k]) h2 (by omega)]
    rw [hlen]
    congr 1
    simp; omega
/-- A printed tree without its last byte fails at its end. -/
theorem rdN_less (n : NodeD) (f : Nat) (h : nodeE n = 0) (hf : 2 * ((printL n).length - 1) + 1 ≤ f) : rdN f (printL n).dropLast 0 = .bad ((printL n).length - 1) 11 := by
  obtain ⟨l, ps, t, ks⟩ := n
  obtain ⟨f, rfl⟩ : ∃ g, f = g + 1 := ⟨f - 1, by omega⟩
  obtain ⟨ho, hk⟩ := nodeE_ok h
  obtain ⟨hp, ht, hl1, hl2⟩ := ownE_ok ho
  cases l with
  | true =>
    have hpr : printL (.mk true ps t ks) = (propsL ps ++ 34 :: bodyL t) ++ [34] := by simp [printL, quoteL]
    rw [hpr, List.dropLast_concat]
    have e3 : propsL ps ++ 34 :: bodyL t = (propsL ps) ++ 34 :: (bodyL t) := rfl
    have hh := rdH_print hp [] (bodyL t) 34 (by decide)
    simp only [List.nil_append, List.length_nil, Nat.zero_add] at hh
    unfold rdN
    rw [hh]
    simp only
    rw [if_pos (by rw [stands_pos e3 rfl]; rfl), rdL_less ht (propsL ps)]
    simp only
    congr 1
    simp; omega
  | false =>
    have hpr : printL (.mk false ps t ks) = (propsL ps ++ 91 :: printK ks) ++ [93] := by simp [printL]
    have hlen : (printL (.mk false ps t ks)).length = (propsL ps).length + (printK ks).length + 2 := by simp [printL]; omega
    rw [hlen, hpr, List.dropLast_concat]
    have e3 : propsL ps ++ 91 :: printK ks = (propsL ps) ++ 91 :: (printK ks) := rfl
    have e4 : propsL ps ++ 91 :: printK ks = (propsL ps ++ [91]) ++ printK ks := by simp
    have hh := rdH_print hp [] (printK ks) 91 (by decide)
    simp only [List.nil_append, List.length_nil, Nat.zero_add] at hh
    unfold rdN
    rw [hh]
    simp only
    rw [if_neg (by rw [stands_pos e3 rfl]; decide), if_neg (by rw [stands_pos e3 rfl]; decide)]
    rw [e4, show (propsL ps).length + 1 = (propsL ps ++ [91]).length by simp, rdK_less ks _ f [] hk (by omega)]
    simp only
    congr 1
    simp; omega

end Go.Proofs.YtmhgbocejjnoaaaDoor
/- Plain laws: where each node's text stands in that of the tree. -/
namespace Go.Proofs.YtmhgbocejjnoaaaDoor
open Go.RowKit Go.Redl
set_option linter.unusedVariables false

abbrev Spot := List Int × NodeD × Nat
mutual
/-- The nodes of a tree in order: path, node, where its text begins. -/
def trailN : NodeD → List Int → Nat → List Spot
  | .mk l ps t ks, p, b => (p, .mk l ps t ks, b) :: trailK ks 0 p (b + (propsL ps).length + 1)
def trailK : List NodeD → Nat → List Int → Nat → List Spot
  | [], _, _, _ => []
  | k :: ks, i, p, b => trailN k (p ++ [(i : Int)]) b ++ trailK ks (i + 1) p (b + (printL k).length)
end
mutual
theorem trailN_paths : ∀ (n : NodeD) (p : List Int) (b : Nat), (trailN n p b).map (·.1) = pathsW (fun _ => true) n p
  | .mk l ps t ks, p, b => by
    unfold trailN pathsW
    simp [trailK_paths ks 0 p]
theorem trailK_paths : ∀ (ks : List NodeD) (i : Nat) (p : List Int) (b : Nat), (trailK ks i p b).map (·.1) = pathsK (fun _ => true) ks i p
  | [], i, p, b => by unfold trailK pathsK; rfl
  | k :: ks, i, p, b => by
    unfold trailK pathsK
    rw [List.map_append, trailN_paths k, trailK_paths ks]
end
mutual
/-- Each text stands there. -/
theorem trailN_text : ∀ (n : NodeD) (p : List Int) (pre post : List UInt8), nodeE n = 0 → ∀ x ∈ trailN n p pre.length, nodeE x.2.1 = 0 ∧ ∃ pre' post', pre ++ (printL n ++ post) = pre' ++ (printL x.2.1 ++ post') ∧ pre'.length = x.2.2
  | .mk l ps t ks, p, pre, post, h => by
    intro x hx
    unfold trailN at hx
    rcases List.mem_cons.1 hx with rfl | hx'
    · exact ⟨h, pre, post, rfl, rfl⟩
    · obtain ⟨ho, hk⟩ := nodeE_ok h
      obtain ⟨hp, ht, hl1, hl2⟩ := ownE_ok ho
      cases l with
      | true =>
        have : ks = [] := List.eq_nil_of_length_eq_zero (hl1 rfl)
        subst this
        unfold trailK at hx'
        simp at hx'
      | false =>
        have e : pre ++ (printL (.mk false ps t ks) ++ post) = (pre ++ propsL ps ++ [91]) ++ (printK ks ++ (93 :: post)) := by simp [printL]
        rw [e]
        exact trailK_text ks 0 p (pre ++ propsL ps ++ [91]) (93 :: post) hk x (by simpa [Nat.add_assoc] using hx')
theorem trailK_text : ∀ (ks : List NodeD) (i : Nat) (p : List Int) (pre post : List UInt8), kidsE ks = 0 → ∀ x ∈ trailK ks i p pre.length, nodeE x.2.1 = 0 ∧ ∃ pre' post', pre ++ (printK ks ++ post) = pre' ++ (printL x.2.1 ++ post') ∧ pre'.length = x.2.2
  | [], i, p, pre, post, h => by intro x hx; unfold trailK at hx; simp at hx
  | k :: ks, i, p, pre, post, h => by
    intro x hx
    obtain ⟨h1, h2⟩ := kidsE_ok h
    unfold trailK at hx
    rcases List.mem_append.1 hx with hx | hx
    · have e : pre ++ (printK (k :: ks) ++ post) = pre ++ (printL k ++ (printK ks ++ post)) := by simp [printK]
      rw [e]
      exact trailN_text k _ pre (printK ks ++ post) h1 x hx
    · have e : pre ++ (printK (k :: ks) ++ post) = (pre ++ printL k) ++ (printK ks ++ post) := by simp [printK]
      rw [e]
      exact trailK_text ks _ p (pre ++ printL k) post h2 x (by simpa using hx)
end
mutual
/-- The places rise. -/
theorem trailN_low : ∀ (n : NodeD) (p : List Int) (b : Nat), ∀ x ∈ trailN n p b, b ≤ x.2.2
  | .mk l ps t ks, p, b => by
    intro x hx
    unfold trailN at hx
    rcases List.mem_cons.1 hx with rfl | hx
    · exact Nat.le_refl _
    · have := trailK_low ks 0 p _ x hx
      omega
theorem trailK_low : ∀ (ks : List NodeD) (i : Nat) (p : List Int) (b : Nat), ∀ x ∈ trailK ks i p b, b ≤ x.2.2
  | [], i, p, b => by intro x hx; unfold trailK at hx; simp at hx
  | k :: ks, i, p, b => by
    intro x hx
    unfold trailK at hx
    rcases List.mem_append.1 hx with hx | hx
    · exact trailN_low k _ b x hx
    · have := trailK_low ks _ p _ x hx
      omega
end

theorem trailN_high {n : NodeD} {p : List Int} {b : Nat} (h : nodeE n = 0) {x : Spot} (hx : x ∈ trailN n p b) : x.2.2 + (printL x.2.1).length ≤ b + (printL n).length := by
  obtain ⟨-, pre', post', he, hl⟩ := trailN_text n p (List.replicate b 0) [] h x (by simpa using hx)
  have := congrArg List.length he
  simp only [List.length_append, List.length_replicate, List.length_nil] at this
  omega
mutual
theorem trailN_rise : ∀ (n : NodeD) (p : List Int) (b : Nat), nodeE n = 0 → (trailN n p b).Pairwise fun x y => x.2.2 ≤ y.2.2
  | .mk l ps t ks, p, b, h => by
    unfold trailN
    refine List.Pairwise.cons (fun y hy => ?_) (trailK_rise ks 0 p _ (nodeE_ok h).2)
    have := trailK_low ks 0 p _ y hy
    show b ≤ y.2.2
    omega
theorem trailK_rise : ∀ (ks : List NodeD) (i : Nat) (p : List Int) (b : Nat), kidsE ks = 0 → (trailK ks i p b).Pairwise fun x y => x.2.2 ≤ y.2.2
  | [], i, p, b, h => by unfold trailK; exact List.Pairwise.nil
  | k :: ks, i, p, b, h => by
    obtain ⟨h1, h2⟩ := kidsE_ok h
    unfold trailK
    refine List.pairwise_append.2 ⟨trailN_rise k _ b h1, trailK_rise ks _ p _ h2, fun x hx y hy => ?_⟩
    have a := trailN_high h1 hx
    have c := trailK_low ks _ p _ y hy
    omega
end
mutual
/-- Each node is found at its path. -/
theorem trailN_at : ∀ (n : NodeD) (p : List Int) (b : Nat), ∀ x ∈ trailN n p b, ∃ r, x.1 = p ++ r ∧ atN n r = some x.2.1
  | .mk l ps t ks, p, b => by
    intro x hx
    unfold trailN at hx
    rcases List.mem_cons.1 hx with rfl | hx'
    · exact ⟨[], by simp, rfl⟩
    · obtain ⟨j, k, r, h1, h2, h3⟩ := trailK_at ks 0 p _ x hx'
      refine ⟨((j : Nat) : Int) :: r, by simpa using h1, ?_⟩
      unfold atN
      rw [if_pos (by omega)]
      simp only [kidsOf, Int.toNat_natCast, h2]
      exact h3
theorem trailK_at : ∀ (ks : List NodeD) (i : Nat) (p : List Int) (b : Nat), ∀ x ∈ trailK ks i p b, ∃ (j : Nat) (k : NodeD) (r : List Int), x.1 = p ++ ((i + j : Nat) : Int) :: r ∧ ks[j]? = some k ∧ atN k r = some x.2.1
  | [], i, p, b => by intro x hx; unfold trailK at hx; simp at hx
  | k :: ks, i, p, b => by
    intro x hx
    unfold trailK at hx
    rcases List.mem_append.1 hx with hx' | hx'
    · obtain ⟨r, h1, h2⟩ := trailN_at k _ b x hx'
      exact ⟨0, k, r, by rw [h1]; simp, rfl, h2⟩
    · obtain ⟨j, k', r, h1, h2, h3⟩ := trailK_at ks _ p _ x hx'
      exact ⟨j + 1, k', r, by rw [h1]; congr 3; omega, by simpa using h2, h3⟩
end

end Go.Proofs.YtmhgbocejjnoaaaDoor
