/- Parts of the proof, one behind the other: RDG, RDH, RDL, RDI, RDJ, RSC. -/
import Derived.Test.YtmhgbocejjnoaaaGreatDoorPK5
import Derived.Test.YtmhgbocejjnoaaaGreatDoorPK3
/- Plain laws: a printed tree is read whole wherever it stands. -/
namespace Go.Proofs.YtmhgbocejjnoaaaGreatDoor
open Go.RowKit Go.Redl
set_option linter.unusedVariables false

theorem stands_at (pre post : List UInt8) (x c : UInt8) : standsB (pre ++ x :: post) pre.length c = (x == c) := by
  unfold standsB
  rw [List.getElem?_append_right (Nat.le_refl _)]
  simp
theorem stands_end (s : List UInt8) (c : UInt8) : standsB s s.length c = false := by
  unfold standsB
  rw [List.getElem?_eq_none (Nat.le_refl _)]; rfl
theorem drop_pre (pre post : List UInt8) : (pre ++ post).drop pre.length = post := by simp
theorem takeWhile_stop (p : UInt8 → Bool) : ∀ (l : List UInt8) (x : UInt8) (r : List UInt8), (∀ c ∈ l, p c = true) → p x = false → (l ++ x :: r).takeWhile p = l
  | [], x, r, _, hx => by simp [hx]
  | c :: l, x, r, h, hx => by
    rw [List.cons_append, List.takeWhile_cons_of_pos (h c (by simp)), takeWhile_stop p l x r (fun d hd => h d (by simp [hd])) hx]
theorem takeWhile_all (p : UInt8 → Bool) : ∀ (l : List UInt8), (∀ c ∈ l, p c = true) → l.takeWhile p = l
  | [], _ => rfl
  | c :: l, h => by rw [List.takeWhile_cons_of_pos (h c (by simp)), takeWhile_all p l (fun d hd => h d (by simp [hd]))]

theorem stands_pos {s pre post : List UInt8} {x c : UInt8} {k : Nat} (hs : s = pre ++ x :: post) (hk : k = pre.length) : standsB s k c = (x == c) := by subst hs; subst hk; exact stands_at pre post x c
theorem drop_pos {s pre post : List UInt8} {k : Nat} (hs : s = pre ++ post) (hk : k = pre.length) : s.drop k = post := by subst hs; subst hk; exact drop_pre pre post
theorem keyB_low {k : List UInt8} (h : keyB k = true) : k ≠ [] ∧ k.length ≤ 16 ∧ ∀ c ∈ k, lowB c = true := by
  unfold keyB at h
  simp only [Bool.and_eq_true, decide_eq_true_eq, List.all_eq_true] at h
  exact ⟨by intro e; rw [e] at h; simp at h, h.1.2, h.2⟩
theorem valB_c {k : List UInt8} (h : valB k = true) : k.length ≤ 32 ∧ ∀ c ∈ k, valcB c = true := by
  unfold valB at h
  simp only [Bool.and_eq_true, decide_eq_true_eq, List.all_eq_true] at h
  exact h
/-- Printed properties are read whole. -/
theorem rdP_print : ∀ (ps : List PropD) (pre post : List UInt8) (c : UInt8) (out : List PropD) (last : List UInt8) (f : Nat), ps ≠ [] → propsGo last ps = 0 → out.length + ps.length ≤ 16 → ps.length ≤ f →
    rdP f (pre ++ (propsC c ps ++ 125 :: post)) pre.length out last = .ok (out ++ ps) (pre.length + (propsC c ps).length + 1)
  | [], pre, post, c, out, last, f, h0, _, _, _ => absurd rfl h0
  | p :: qs, pre, post, c, out, last, f, _, hg, hl, hf => by
    obtain ⟨f, rfl⟩ : ∃ g, f = g + 1 := ⟨f - 1, by simp at hf; omega⟩
    simp only [propsGo] at hg
    have hkv : keyB p.1 = true ∧ valB p.2 = true ∧ leB p.1 last = false ∧ propsGo p.1 qs = 0 := by
      split at hg
      · rename_i h
        simp only [Bool.and_eq_true] at h
        split at hg
        · cases hg
        · rename_i h2; exact ⟨h.1, h.2, by simpa using h2, hg⟩
      · cases hg
    obtain ⟨hk, hv, hle, hgo⟩ := hkv
    obtain ⟨hk0, hk1, hk2⟩ := keyB_low hk
    obtain ⟨hv1, hv2⟩ := valB_c hv
    obtain ⟨s, hs⟩ : ∃ s, s = pre ++ (propsC c (p :: qs) ++ 125 :: post) := ⟨_, rfl⟩
    rw [← hs]
    have e1 : s = (pre ++ [c]) ++ (p.1 ++ 58 :: (p.2 ++ (propsC 44 qs ++ 125 :: post))) := by rw [hs]; simp [propsC, propL]
    have e2 : s = (pre ++ [c] ++ p.1) ++ 58 :: (p.2 ++ (propsC 44 qs ++ 125 :: post)) := by rw [e1]; simp
    have e3 : s = (pre ++ [c] ++ p.1 ++ [58]) ++ (p.2 ++ (propsC 44 qs ++ 125 :: post)) := by rw [e1]; simp
    have e4 : s = (pre ++ [c] ++ p.1 ++ [58] ++ p.2) ++ (propsC 44 qs ++ 125 :: post) := by rw [e1]; simp
    have hkey : keyAt s (pre.length + 1) = p.1 := by
      unfold keyAt
      rw [drop_pos e1 (by simp), takeWhile_stop _ _ _ _ hk2 (by decide)]
    have hval : valAt s (pre.length + 1 + p.1.length + 1) = p.2 := by
      unfold valAt
      rw [drop_pos e3 (by simp; omega)]
      cases qs with
      | nil => exact takeWhile_stop _ _ _ _ hv2 (by decide)
      | cons q qs => simp only [propsC, List.cons_append]; exact takeWhile_stop _ _ _ _ hv2 (by decide)
    rw [rdP_step f s pre.length out last p.1 p.2 hkey hval]
    rw [if_neg (by rw [stands_pos (c := 58) e2 (by simp; omega)]; simp [hk0]), if_neg (by simp at hl; omega), if_neg (by omega), if_neg (by rw [hle]; decide)]
    cases qs with
    | nil =>
      rw [if_pos (by rw [stands_pos (c := 125) (x := 125) (post := post) (pre := pre ++ [c] ++ p.1 ++ [58] ++ p.2) (by rw [e4]; simp [propsC]) (by simp; omega)]; rfl)]
      congr 1
      simp [propsC, propL]; omega
    | cons q qs =>
      have hh : ∀ x, standsB s (pre.length + 1 + p.1.length + 1 + p.2.length) x = ((44 : UInt8) == x) := fun x => stands_pos (post := propL q ++ propsC 44 qs ++ 125 :: post) (pre := pre ++ [c] ++ p.1 ++ [58] ++ p.2) (by rw [e4]; simp [propsC]) (by simp; omega)
      rw [if_neg (by rw [hh]; decide), if_neg (by rw [hh]; decide)]
      have hpl : pre.length + 1 + p.1.length + 1 + p.2.length = (pre ++ [c] ++ p.1 ++ [58] ++ p.2).length := by simp; omega
      have ih := rdP_print (q :: qs) (pre ++ [c] ++ p.1 ++ [58] ++ p.2) post 44 (out ++ [(p.1, p.2)]) p.1 f (by simp) hgo (by simp at hl ⊢; omega) (by simp at hf ⊢; omega)
      rw [hpl, e4, ih]
      congr 1
      · simp
      · simp [propsC, propL]; omega

theorem dig_not34 (n : Nat) (h : n < 16) : dig n ≠ 34 := by
  have : n = 0 ∨ n = 1 ∨ n = 2 ∨ n = 3 ∨ n = 4 ∨ n = 5 ∨ n = 6 ∨ n = 7 ∨ n = 8 ∨ n = 9 ∨ n = 10 ∨ n = 11 ∨ n = 12 ∨ n = 13 ∨ n = 14 ∨ n = 15 := by omega
  rcases this with rfl | rfl | rfl | rfl | rfl | rfl | rfl | rfl | rfl | rfl | rfl | rfl | rfl | rfl | rfl | rfl <;> decide
theorem hexF_not34 : ∀ (f n : Nat), ∀ c ∈ hexF f n, c ≠ 34
  | 0, n, c, h => by simp [hexF] at h
  | f + 1, n, c, h => by
    unfold hexF at h
    split at h
    · rename_i hn
      simp at h; subst h; exact dig_not34 n hn
    · simp only [List.mem_append, List.mem_singleton] at h
      rcases h with h | h
      · exact hexF_not34 f _ c h
      · subst h; exact dig_not34 _ (by omega)
theorem qb_not34 (z : Int) : ∀ c ∈ qb z, c ≠ 34 := by
  intro c hc
  unfold qb at hc
  split at hc
  · rename_i hp
    simp at hc
    subst hc
    unfold plainB at hp
    simp only [decide_eq_true_eq] at hp
    intro e
    have := congrArg UInt8.toNat e
    rw [UInt8.toNat_ofNat', Nat.mod_eq_of_lt (by omega)] at this
    have e34 : (34 : UInt8).toNat = 34 := rfl
    omega
  · unfold escL at hc
    simp only [List.mem_cons, List.mem_append, List.not_mem_nil, or_false] at hc
    rcases hc with rfl | hc | rfl
    · decide
    · exact hexF_not34 20 _ c hc
    · decide
theorem body_not34 (zs : List Int) : ∀ c ∈ bodyL zs, c ≠ 34 := by
  intro c hc
  unfold bodyL at hc
  obtain ⟨z, -, hz⟩ := List.mem_flatMap.1 hc
  exact qb_not34 z c hz
theorem index_at : ∀ (l : List UInt8) (c : UInt8) (r : List UInt8), (∀ x ∈ l, x ≠ c) → Lib.indexByte (l ++ c :: r) c = l.length
  | [], c, r, _ => by simp [Lib.indexByte]
  | b :: l, c, r, h => by
    have ih := index_at l c r (fun x hx => h x (by simp [hx]))
    rw [List.cons_append, Lib.indexByte, if_neg (by simpa using h b (by simp)), ih]
    simp
theorem index_no : ∀ (l : List UInt8) (c : UInt8), (∀ x ∈ l, x ≠ c) → Lib.indexByte l c = -1
  | [], c, _ => rfl
  | b :: l, c, h => by
    have ih := index_no l c (fun x hx => h x (by simp [hx]))
    rw [Lib.indexByte, if_neg (by simpa using h b (by simp)), ih]
    rfl
/-- A quoted text is read whole; without its last byte it fails at its end. -/
theorem rdL_print {zs : List Int} (hv : ∀ c ∈ zs, validB c = true) (pre post : List UInt8) : rdL (pre ++ (quoteL zs ++ post)) pre.length = .ok zs (pre.length + (quoteL zs).length) := by
  have hd : (pre ++ (quoteL zs ++ post)).drop (pre.length + 1) = bodyL zs ++ 34 :: post := drop_pos (pre := pre ++ [34]) (by simp [quoteL]) (by simp)
  have he : leafEnd (pre ++ (quoteL zs ++ post)) pre.length = pre.length + (quoteL zs).length := by
    unfold leafEnd
    rw [hd, index_at _ _ _ (body_not34 zs), if_pos (by omega)]
    simp [quoteL]; omega
  have ht : ((pre ++ (quoteL zs ++ post)).take (pre.length + (quoteL zs).length)).drop pre.length = quoteL zs := by
    rw [← List.append_assoc, List.take_left' (by simp)]
    exact drop_pre _ _
  have hu := unq_quote hv
  rw [← ht] at hu
  rw [rdL_eq he hu, if_pos rfl]
theorem rdL_less {zs : List Int} (hv : ∀ c ∈ zs, validB c = true) (pre : List UInt8) : rdL (pre ++ 34 :: bodyL zs) pre.length = .bad (pre.length + 1 + (bodyL zs).length) 11 := by
  have hd : (pre ++ 34 :: bodyL zs).drop (pre.length + 1) = bodyL zs := drop_pos (pre := pre ++ [34]) (by simp) (by simp)
  have he : leafEnd (pre ++ 34 :: bodyL zs) pre.length = (pre ++ 34 :: bodyL zs).length := by
    unfold leafEnd
    rw [hd, index_no _ _ (body_not34 zs), if_neg (by omega)]
  have ht : ((pre ++ 34 :: bodyL zs).take (pre ++ 34 :: bodyL zs).length).drop pre.length = 34 :: bodyL zs := by
    rw [List.take_length]
    exact drop_pre _ _
  have hu := unq_less hv
  rw [← ht] at hu
  rw [rdL_eq he hu, if_neg (by decide)]
  congr 1
  omega

theorem propsE_ok {ps : List PropD} (h : propsE ps = 0) : ps.length ≤ 16 ∧ propsGo [] ps = 0 := by
  unfold propsE at h
  split at h
  · cases h
  · exact ⟨by omega, h⟩
/-- Printed properties ahead of a node's text. -/
theorem rdH_print {ps : List PropD} (h : propsE ps = 0) (pre r : List UInt8) (x : UInt8) (hx : x ≠ 123) : rdH (pre ++ (propsL ps ++ x :: r)) pre.length = .ok ps (pre.length + (propsL ps).length) := by
  obtain ⟨hl, hg⟩ := propsE_ok h
  by_cases h0 : ps.length = 0
  · have : ps = [] := List.eq_nil_of_length_eq_zero h0
    subst this
    have e : propsL [] = [] := rfl
    unfold rdH
    rw [e, List.nil_append, stands_at, if_neg (by simpa using hx)]
    simp
  · have e : pre ++ (propsL ps ++ x :: r) = pre ++ (propsC 123 ps ++ 125 :: (x :: r)) := by unfold propsL; rw [if_neg h0]; simp
    have es : standsB (pre ++ (propsC 123 ps ++ 125 :: (x :: r))) pre.length 123 = true := by
      cases ps with
      | nil => exact absurd rfl h0
      | cons p ps =>
        simp only [propsC, List.cons_append]
        rw [stands_at]; rfl
    unfold rdH
    rw [e, if_pos es, rdP_print ps pre (x :: r) 123 [] [] _ (by intro e; rw [e] at h0; exact h0 rfl) hg (by simpa using hl) (by
      have := propsC_len ps 123
      have := propsWt_len ps
      simp only [List.length_append]; omega)]
    have el : (propsL ps).length = (propsC 123 ps).length + 1 := by unfold propsL; rw [if_neg h0]; simp
    rw [el, List.nil_append, Nat.add_assoc]

theorem ownE_ok {l : Bool} {ps : List PropD} {t : List Int} {m : Nat} (h : ownE l ps t m = 0) : propsE ps = 0 ∧ (∀ c ∈ t, validB c = true) ∧ (l = true → m = 0) ∧ (l = false → t = []) := by
  unfold ownE at h
  split at h
  · rename_i h1; exact absurd h h1
  · rename_i h1
    split at h
    · cases h
    · rename_i h2
      refine ⟨by simpa using h1, ?_, ?_, ?_⟩
      · intro c hc
        unfold checkE at h
        split at h
        · cases h
        · rename_i h3
          simp only [List.any_eq_true, Bool.not_eq_true', not_exists, not_and, Bool.not_eq_false] at h3
          exact h3 c hc
      · intro hl; subst hl; simp at h2; omega
      · intro hl; subst hl; simp at h2; exact h2
theorem nodeE_ok {l : Bool} {ps : List PropD} {t : List Int} {ks : List NodeD} (h : nodeE (.mk l ps t ks) = 0) : ownE l ps t ks.length = 0 ∧ kidsE ks = 0 := by
  unfold nodeE at h
  split at h
  · rename_i h1; exact absurd h h1
  · rename_i h1; exact ⟨by simpa using h1, h⟩
theorem kidsE_ok {k : NodeD} {ks : List NodeD} (h : kidsE (k :: ks) = 0) : nodeE k = 0 ∧ kidsE ks = 0 := by
  unfold kidsE at h
  split at h
  · rename_i h1; exact absurd h h1
  · rename_i h1; exact ⟨by simpa using h1, h⟩
theorem printL_head : ∀ n : NodeD, ∃ x r, printL n = x :: r ∧ x ≠ 93
  | .mk l ps t ks => by
    unfold printL
    cases ps with
    | nil =>
      cases l with
      | true => exact ⟨34, _, rfl, by decide⟩
      | false => exact ⟨91, _, rfl, by decide⟩
    | cons p ps => exact ⟨123, _, rfl, by decide⟩
mutual
/-- A printed tree is read whole wherever it stands. -/
theorem rdN_print : ∀ (n : NodeD) (pre post : List UInt8) (f : Nat), nodeE n = 0 → 2 * ((printL n).length + post.length) + 1 ≤ f → rdN f (pre ++ (printL n ++ post)) pre.length = .ok n (pre.length + (printL n).length)
  | .mk l ps t ks, pre, post, f, h, hf => by
    obtain ⟨f, rfl⟩ : ∃ g, f = g + 1 := ⟨f - 1, by omega⟩
    obtain ⟨ho, hk⟩ := nodeE_ok h
    obtain ⟨hp, ht, hl1, hl2⟩ := ownE_ok ho
    cases l with
    | true =>
      have hk0 : ks = [] := List.eq_nil_of_length_eq_zero (hl1 rfl)
      subst hk0
      have e : pre ++ (printL (.mk true ps t []) ++ post) = pre ++ (propsL ps ++ 34 :: (bodyL t ++ 34 :: post)) := by simp [printL, quoteL]
      have e2 : pre ++ (propsL ps ++ 34 :: (bodyL t ++ 34 :: post)) = (pre ++ propsL ps) ++ (quoteL t ++ post) := by simp [quoteL]
      have e3 : pre ++ (propsL ps ++ 34 :: (bodyL t ++ 34 :: post)) = (pre ++ propsL ps) ++ 34 :: (bodyL t ++ 34 :: post) := by simp
      have el : pre.length + (propsL ps).length = (pre ++ propsL ps).length := by simp
      rw [e]
      unfold rdN
      rw [rdH_print hp pre _ 34 (by decide)]
      simp only
      rw [if_pos (by rw [stands_pos e3 el]; rfl)]
      rw [e2, el, rdL_print ht]
      simp only
      congr 1
      simp [printL]; omega
    | false =>
      have ht0 := hl2 rfl
      subst ht0
      have e : pre ++ (printL (.mk false ps [] ks) ++ post) = pre ++ (propsL ps ++ 91 :: (printK ks ++ 93 :: post)) := by simp [printL]
      have e2 : pre ++ (propsL ps ++ 91 :: (printK ks ++ 93 :: post)) = (pre ++ propsL ps ++ [91]) ++ (printK ks ++ 93 :: post) := by simp
      have e3 : pre ++ (propsL ps ++ 91 :: (printK ks ++ 93 :: post)) = (pre ++ propsL ps) ++ 91 :: (printK ks ++ 93 :: post) := by simp
      have el : pre.length + (propsL ps).length = (pre ++ propsL ps).length := by simp
      have el2 : pre.length + (propsL ps).length + 1 = (pre ++ propsL ps ++ [91]).length := by simp; omega
      have hlen : (printL (.mk false ps [] ks)).length = (propsL ps).length + (printK ks).length + 2 := by simp [printL]; omega
      rw [e]
      unfold rdN
      rw [rdH_print hp pre _ 91 (by decide)]
      simp only
      rw [if_neg (by rw [stands_pos e3 el]; decide), if_neg (by rw [stands_pos e3 el]; decide)]
      rw [e2, el2, rdK_print ks _ post f [] hk (by omega)]
      simp only
      rw [hlen]
      congr 1
      simp; omega
theorem rdK_print : ∀ (ks : List NodeD) (pre post : List UInt8) (f : Nat) (out : List NodeD), kidsE ks = 0 → 2 * ((printK ks).length + 1 + post.length) + 2 ≤ f → rdK f (pre ++ (printK ks ++ 93 :: post)) pre.length out = .ok (out ++ ks) (pre.length + (printK ks).length + 1)
  | [], pre, post, f, out, h, hf => by
    obtain ⟨f, rfl⟩ : ∃ g, f = g + 1 := ⟨f - 1, by omega⟩
    unfold rdK
    rw [if_pos (by rw [stands_pos (pre := pre) (x := 93) (post := post) (by simp [printK]) rfl]; rfl)]
    simp [printK]
  | k :: ks, pre, post, f, out, h, hf => by
    obtain ⟨f, rfl⟩ : ∃ g, f = g + 1 := ⟨f - 1, by omega⟩
    obtain ⟨h1, h2⟩ := kidsE_ok h
    obtain ⟨x, r, hx, hne⟩ := printL_head k
    have e : pre ++ (printK (k :: ks) ++ 93 :: post) = pre ++ (printL k ++ (printK ks ++ 93 :: post)) := by simp [printK]
    have e2 : pre ++ (printL k ++ (printK ks ++ 93 :: post)) = (pre ++ printL k) ++ (printK ks ++ 93 :: post) := by simp
    have e3 : pre ++ (printL k ++ (printK ks ++ 93 :: post)) = pre ++ x :: (r ++ (printK ks ++ 93 :: post)) := by rw [hx]; simp
    have hlen : (printK (k :: ks)).length = (printL k).length + (printK ks).length := by simp [printK]
    have hkl : 1 ≤ (printL k).length := by rw [hx]; simp
    rw [e]
    unfold rdK
    rw [if_neg (by rw [stands_pos e3 rfl]; simpa using hne)]
    rw [rdN_print k pre (printK ks ++ 93 :: post) f h1 (by simp; omega)]
    simp only
    rw [e2, show pre.length + (printL k).length = (pre ++ printL k).length by simp, rdK_print ks (pre ++ printL k) post f (out ++ [k]) h2 (by omega)]
    rw [hlen]
    congr 1
    · simp
    · simp; omega
end

theorem rdN_end (s : List UInt8) (f : Nat) (hf : 1 ≤ f) : rdN f s s.length = .bad s.length 11 := by
  obtain ⟨f, rfl⟩ : ∃ g, f = g + 1 := ⟨f - 1, by omega⟩
  unfold rdN rdH
  rw [if_neg (by rw [stands_end]; decide)]
  simp only
  rw [if_neg (by rw [stands_end]; decide), if_pos (stands_end s 91)]
theorem rdK_less : ∀ (ks : List NodeD) (pre : List UInt8) (f : Nat) (out : List NodeD), kidsE ks = 0 → 2 * (printK ks).length + 2 ≤ f → rdK f (pre ++ printK ks) pre.length out = .bad (pre.length + (printK ks).length) 11
  | [], pre, f, out, h, hf => by
    obtain ⟨f, rfl⟩ : ∃ g, f = g + 1 := ⟨f - 1, by omega⟩
    have e : pre ++ printK [] = pre := by simp [printK]
    have el : (printK []).length = 0 := rfl
    rw [el] at hf
    rw [e, el]
    unfold rdK
    rw [if_neg (by rw [stands_end]; decide), rdN_end pre f (by omega)]
    rfl
  | k :: ks, pre, f, out, h, hf => by
    obtain ⟨f, rfl⟩ : ∃ g, f = g + 1 := ⟨f - 1, by omega⟩
    obtain ⟨h1, h2⟩ := kidsE_ok h
    obtain ⟨x, r, hx, hne⟩ := printL_head k
    have e : pre ++ printK (k :: ks) = pre ++ (printL k ++ printK ks) := by simp [printK]
    have e2 : pre ++ (printL k ++ printK ks) = (pre ++ printL k) ++ printK ks := by simp
    have e3 : pre ++ (printL k ++ printK ks) = pre ++ x :: (r ++ printK ks) := by rw [hx]; simp
    have hlen : (printK (k :: ks)).length = (printL k).length + (printK ks).length := by simp [printK]
    have hkl : 1 ≤ (printL k).length := by rw [hx]; simp
    rw [e]
    unfold rdK
    rw [if_neg (by rw [stands_pos e3 rfl]; simpa using hne)]
    rw [rdN_print k pre (printK ks) f h1 (by omega)]
    simp only
    rw [e2, show pre.length + (printL k).length = (pre ++ printL k).length by simp, rdK_less ks (pre ++ printL k) f (out ++ [k]) h2 (by omega)]
    rw [hlen]
    congr 1
    simp; omega
/-- A printed tree without its last byte fails at its end. -/
theorem rdN_less (n : NodeD) (f : Nat) (h : nodeE n = 0) (hf : 2 * ((printL n).length - 1) + 1 ≤ f) : rdN f (printL n).dropLast 0 = .bad ((printL n).length - 1) 11 := by
  obtain ⟨l, ps, t, ks⟩ := n
  obtain ⟨f, rfl⟩ : ∃ g, f = g + 1 := ⟨f - 1, by omega⟩
  obtain ⟨ho, hk⟩ := nodeE_ok h
  obtain ⟨hp, ht, hl1, hl2⟩ := ownE_ok ho
  cases l with
  | true =>
    have hpr : printL (.mk true ps t ks) = (propsL ps ++ 34 :: bodyL t) ++ [34] := by simp [printL, quoteL]
    rw [hpr, List.dropLast_concat]
    have e3 : propsL ps ++ 34 :: bodyL t = (propsL ps) ++ 34 :: (bodyL t) := rfl
    have hh := rdH_print hp [] (bodyL t) 34 (by decide)
    simp only [List.nil_append, List.length_nil, Nat.zero_add] at hh
    unfold rdN
    rw [hh]
    simp only
    rw [if_pos (by rw [stands_pos e3 rfl]; rfl), rdL_less ht (propsL ps)]
    simp only
    congr 1
    simp; omega
  | false =>
    have hpr : printL (.mk false ps t ks) = (propsL ps ++ 91 :: printK ks) ++ [93] := by simp [printL]
    have hlen : (printL (.mk false ps t ks)).length = (propsL ps).length + (printK ks).length + 2 := by simp [printL]; omega
    rw [hlen, hpr, List.dropLast_concat]
    have e3 : propsL ps ++ 91 :: printK ks = (propsL ps) ++ 91 :: (printK ks) := rfl
    have e4 : propsL ps ++ 91 :: printK ks = (propsL ps ++ [91]) ++ printK ks := by simp
    have hh := rdH_print hp [] (printK ks) 91 (by decide)
    simp only [List.nil_append, List.length_nil, Nat.zero_add] at hh
    unfold rdN
    rw [hh]
    simp only
    rw [if_neg (by rw [stands_pos e3 rfl]; decide), if_neg (by rw [stands_pos e3 rfl]; decide)]
    rw [e4, show (propsL ps).length + 1 = (propsL ps ++ [91]).length by simp, rdK_less ks _ f [] hk (by omega)]
    simp only
    congr 1
    simp; omega

end Go.Proofs.YtmhgbocejjnoaaaGreatDoor
/- Plain laws: what Parse makes of a printed tree, of one cut short, of one made longer. -/
namespace Go.Proofs.YtmhgbocejjnoaaaGreatDoor
open Go.RowKit Go.Redl
set_option linter.unusedVariables false

theorem parse_whole {n : NodeD} (h : nodeE n = 0) : parseL (printL n) = .ok n (printL n).length := by
  have := rdN_print n [] [] (2 * (printL n).length + 1) h (by simp)
  simp only [List.nil_append, List.append_nil, List.length_nil, Nat.zero_add] at this
  unfold parseL
  rw [this]
  simp
theorem parse_less {n : NodeD} (h : nodeE n = 0) : parseL (printL n).dropLast = .bad ((printL n).length - 1) 11 := by
  have := rdN_less n (2 * (printL n).dropLast.length + 1) h (by simp)
  unfold parseL
  rw [this]
theorem parse_more {n : NodeD} (h : nodeE n = 0) (b : UInt8) : parseL (printL n ++ [b]) = .bad (printL n).length 11 := by
  have := rdN_print n [] [b] (2 * (printL n ++ [b]).length + 1) h (by simp)
  simp only [List.nil_append, List.length_nil, Nat.zero_add] at this
  unfold parseL
  rw [this]
  simp

end Go.Proofs.YtmhgbocejjnoaaaGreatDoor
/- Plain laws: what is read is written so; where an error stands; a tree that is read is small. -/
namespace Go.Proofs.YtmhgbocejjnoaaaGreatDoor
open Go.RowKit Go.Redl
set_option linter.unusedVariables false

theorem stands_drop {s : List UInt8} {a : Nat} {c : UInt8} (h : standsB s a c = true) : s.drop a = c :: s.drop (a + 1) := by
  have hl := stands_lt h
  unfold standsB at h
  rw [List.drop_eq_getElem_cons hl]
  rw [List.getElem?_eq_getElem hl] at h
  simp at h
  rw [h]
theorem drop_run (p : UInt8 → Bool) : ∀ l : List UInt8, l.dropWhile p = l.drop (l.takeWhile p).length
  | [] => rfl
  | x :: l => by
    rw [List.dropWhile_cons, List.takeWhile_cons]
    cases h : p x with
    | true => simp [drop_run p l]
    | false => simp
theorem run_drop (p : UInt8 → Bool) (s : List UInt8) (a : Nat) : s.drop a = (s.drop a).takeWhile p ++ s.drop (a + ((s.drop a).takeWhile p).length) := by
  conv => lhs; rw [← List.takeWhile_append_dropWhile (p := p) (l := s.drop a), drop_run p, List.drop_drop]
theorem takeRun_all (p : UInt8 → Bool) (l : List UInt8) : (l.takeWhile p).all p = true := by
  induction l with
  | nil => rfl
  | cons x l ih =>
    rw [List.takeWhile_cons]
    cases h : p x with
    | true => simp only [if_true, List.all_cons, h, Bool.true_and]; exact ih
    | false => simp
theorem rdP_back : ∀ (f : Nat) (s : List UInt8) (a : Nat) (out : List PropD) (last : List UInt8) (ps : List PropD) (e : Nat), rdP f s a out last = .ok ps e →
    ∃ p qs, ps = out ++ p :: qs ∧ s.drop (a + 1) = propL p ++ (propsC 44 qs ++ 125 :: s.drop e) ∧ propsGo last (p :: qs) = 0
  | 0, s, a, out, last, ps, e, h => by unfold rdP at h; cases h
  | f + 1, s, a, out, last, ps, e, h => by
    have hkd := run_drop lowB s (a + 1)
    have hka := takeRun_all lowB (s.drop (a + 1))
    have hke : (s.drop (a + 1)).takeWhile lowB = keyAt s (a + 1) := rfl
    rw [hke] at hkd hka
    unfold rdP at h
    generalize keyAt s (a + 1) = key at h hkd hka
    by_cases c1 : key = [] ∨ standsB s (a + 1 + key.length) 58 = false
    · rw [if_pos c1] at h; cases h
    rw [if_neg c1] at h
    have h58 := stands_drop (s := s) (a := a + 1 + key.length) (c := 58) (by
      cases hh : standsB s (a + 1 + key.length) 58 with
      | true => rfl
      | false => exact absurd (.inr hh) c1)
    have hvd := run_drop valcB s (a + 1 + key.length + 1)
    have hva := takeRun_all valcB (s.drop (a + 1 + key.length + 1))
    have hve : (s.drop (a + 1 + key.length + 1)).takeWhile valcB = valAt s (a + 1 + key.length + 1) := rfl
    rw [hve] at hvd hva
    generalize valAt s (a + 1 + key.length + 1) = val at h hvd hva
    by_cases c2 : out.length = 16
    · rw [if_pos c2] at h; cases h
    rw [if_neg c2] at h
    by_cases c3 : 16 < key.length ∨ 32 < val.length
    · rw [if_pos c3] at h; cases h
    rw [if_neg c3] at h
    by_cases c4 : leB key last = true
    · rw [if_pos c4] at h; cases h
    rw [if_neg c4] at h
    have hne : key ≠ [] := fun e => c1 (.inl e)
    have hpos : 1 ≤ key.length := List.length_pos_iff.2 hne
    have hkb : keyB key = true := by unfold keyB; simp only [Bool.and_eq_true, decide_eq_true_eq]; exact ⟨⟨hpos, by omega⟩, hka⟩
    have hvb : valB val = true := by unfold valB; simp only [Bool.and_eq_true, decide_eq_true_eq]; exact ⟨by omega, hva⟩
    have hg : ∀ qs, propsGo last ((key, val) :: qs) = propsGo key qs := by
      intro qs
      simp only [propsGo, hkb, hvb, Bool.and_self, if_true]
      rw [if_neg c4]
    by_cases c5 : standsB s (a + 1 + key.length + 1 + val.length) 125 = true
    · rw [if_pos c5] at h
      have h125 := stands_drop c5
      injection h with h1 h2
      refine ⟨(key, val), [], h1.symm, ?_, by rw [hg]; rfl⟩
      rw [hkd, h58, hvd, h125, ← h2]
      simp [propL, propsC]
    rw [if_neg c5] at h
    by_cases c6 : standsB s (a + 1 + key.length + 1 + val.length) 44 = false
    · rw [if_pos c6] at h; cases h
    rw [if_neg c6] at h
    have h44 := stands_drop (s := s) (a := a + 1 + key.length + 1 + val.length) (c := 44) (by simpa using c6)
    obtain ⟨p, qs, h1, h2, h3⟩ := rdP_back f s _ _ _ ps e h
    refine ⟨(key, val), p :: qs, by rw [h1]; simp, ?_, by rw [hg]; exact h3⟩
    rw [hkd, h58, hvd, h44, h2]
    simp [propL, propsC]
theorem rdH_back {s : List UInt8} {a e : Nat} {ps : List PropD} (h : rdH s a = .ok ps e) : s.drop a = propsL ps ++ s.drop e ∧ propsE ps = 0 := by
  unfold rdH at h
  by_cases c : standsB s a 123 = true
  · rw [if_pos c] at h
    have hl := rdP_len _ s a [] [] ps e (by simp) h
    obtain ⟨p, qs, h1, h2, h3⟩ := rdP_back _ s a [] [] ps e h
    rw [List.nil_append] at h1
    subst h1
    refine ⟨?_, ?_⟩
    · rw [stands_drop c, h2]
      unfold propsL
      rw [if_neg (by simp)]
      simp [propsC]
    · unfold propsE
      rw [if_neg (by omega)]
      exact h3
  · rw [if_neg c] at h
    injection h with h1 h2
    subst h1; subst h2
    exact ⟨by simp [propsL], by unfold propsE; simp [propsGo]⟩
theorem rdL_back {s : List UInt8} {a e : Nat} {t : List Int} (ha : a < s.length) (h : rdL s a = .ok t e) : s.drop a = quoteL t ++ s.drop e ∧ (∀ z ∈ t, validB z = true) := by
  obtain ⟨hl1, hl2⟩ := leafEnd_le s a ha
  have hw := rdL_wf h
  unfold rdL at h
  have hq : s.drop a = (s.take (leafEnd s a)).drop a ++ s.drop (leafEnd s a) := by
    have := List.take_append_drop (leafEnd s a - a) (s.drop a)
    rw [List.drop_drop, show a + (leafEnd s a - a) = leafEnd s a by omega] at this
    rw [List.drop_take]
    exact this.symm
  generalize leafEnd s a = e' at h hq
  generalize (s.take e').drop a = q at h hq
  rcases unq_cases q with ⟨zs, hz, hqe, hu⟩ | ⟨p, -, hu⟩
  · rw [hu] at h
    simp only [if_pos] at h
    injection h with h1 h2
    subst h1; subst h2
    rw [hqe] at hq
    exact ⟨hq, hw⟩
  · rw [hu] at h
    rw [if_neg (by show ¬ ((11 : Int) = 0); decide)] at h
    cases h
theorem kidsE_snoc : ∀ (ks : List NodeD) (k : NodeD), kidsE ks = 0 → nodeE k = 0 → kidsE (ks ++ [k]) = 0
  | [], k, _, h => by rw [List.nil_append]; unfold kidsE; rw [if_neg (by rw [h]; simp)]; rfl
  | x :: ks, k, h, h2 => by
    obtain ⟨h3, h4⟩ := kidsE_ok h
    have := kidsE_snoc ks k h4 h2
    rw [List.cons_append]
    unfold kidsE
    rw [if_neg (by rw [h3]; simp)]
    exact this
theorem checkE_of {t : List Int} (h : ∀ c ∈ t, validB c = true) : checkE t = 0 := by
  unfold checkE
  rw [if_neg]
  simp only [List.any_eq_true, not_exists, not_and]
  intro x hx
  simp [h x hx]
mutual
/-- What is read is written so, and may be. -/
theorem rdN_back : ∀ (f : Nat) (s : List UInt8) (a : Nat) (n : NodeD) (e : Nat), a ≤ s.length → rdN f s a = .ok n e → s.drop a = printL n ++ s.drop e ∧ nodeE n = 0
  | 0, s, a, n, e, ha, h => by unfold rdN at h; cases h
  | f + 1, s, a, n, e, ha, h => by
    unfold rdN at h
    cases hh : rdH s a with
    | bad p er => rw [hh] at h; cases h
    | ok ps a1 =>
      have h1 := rdH_pos ha hh
      obtain ⟨hd, hp⟩ := rdH_back hh
      rw [hh] at h
      simp only at h
      by_cases c1 : standsB s a1 34 = true
      · rw [if_pos c1] at h
        cases hl : rdL s a1 with
        | bad p er => rw [hl] at h; cases h
        | ok t e' =>
          obtain ⟨hq, hv⟩ := rdL_back (stands_lt c1) hl
          rw [hl] at h
          injection h with h1 h2
          subst h1; subst h2
          refine ⟨by rw [hd, hq]; simp [printL], ?_⟩
          unfold nodeE ownE
          simp [hp, checkE_of hv, kidsE]
      rw [if_neg c1] at h
      by_cases c2 : standsB s a1 91 = false
      · rw [if_pos c2] at h; cases h
      rw [if_neg c2] at h
      have h91 : standsB s a1 91 = true := by simpa using c2
      have hlt := stands_lt h91
      cases hk : rdK f s (a1 + 1) [] with
      | bad p er => rw [hk] at h; cases h
      | ok ks e' =>
        obtain ⟨ks', hks, hq, hv⟩ := rdK_back f s (a1 + 1) [] ks e' (by omega) rfl hk
        rw [List.nil_append] at hks
        subst hks
        rw [hk] at h
        injection h with h1 h2
        subst h1; subst h2
        refine ⟨by rw [hd, stands_drop h91, hq]; simp [printL], ?_⟩
        unfold nodeE ownE
        simp [hp, checkE, hv]
theorem rdK_back : ∀ (f : Nat) (s : List UInt8) (a : Nat) (out ks : List NodeD) (e : Nat), a ≤ s.length → kidsE out = 0 → rdK f s a out = .ok ks e → ∃ ks', ks = out ++ ks' ∧ s.drop a = printK ks' ++ 93 :: s.drop e ∧ kidsE ks = 0
  | 0, s, a, out, ks, e, ha, ho, h => by unfold rdK at h; cases h
  | f + 1, s, a, out, ks, e, ha, ho, h => by
    unfold rdK at h
    by_cases c1 : standsB s a 93 = true
    · rw [if_pos c1] at h
      injection h with h1 h2
      subst h1; subst h2
      exact ⟨[], by simp, by rw [stands_drop c1]; simp [printK], ho⟩
    rw [if_neg c1] at h
    cases hn : rdN f s a with
    | bad p er => rw [hn] at h; cases h
    | ok k e' =>
      have h1 := rdN_pos f s a k e' ha hn
      obtain ⟨hd, hv⟩ := rdN_back f s a k e' ha hn
      rw [hn] at h
      obtain ⟨ks', h2, h3, h4⟩ := rdK_back f s e' _ ks e h1.2 (kidsE_snoc _ _ ho hv) h
      refine ⟨k :: ks', by rw [h2]; simp, ?_, h4⟩
      rw [hd, h3]
      simp [printK]
end
theorem parse_back {s : List UInt8} {n : NodeD} {e : Nat} (h : parseL s = .ok n e) : s = printL n ∧ nodeE n = 0 := by
  unfold parseL at h
  cases hr : rdN (2 * s.length + 1) s 0 with
  | bad p er => rw [hr] at h; cases h
  | ok m e' =>
    rw [hr] at h
    simp only at h
    have hp := rdN_pos _ s 0 m e' (by omega) hr
    obtain ⟨h1, h2⟩ := rdN_back _ s 0 m e' (by omega) hr
    split at h
    · cases h
    · injection h with h3 h4
      subst h3
      refine ⟨?_, h2⟩
      have : e' = s.length := by omega
      subst this
      simpa using h1

/-- Where an error stands. -/
theorem rdP_bad : ∀ (f : Nat) (s : List UInt8) (a : Nat) (out : List PropD) (last : List UInt8) (p : Nat) (er : Int), a < s.length → rdP f s a out last = .bad p er → p ≤ s.length
  | 0, s, a, out, last, p, er, ha, h => by unfold rdP at h; injection h with h1 h2; omega
  | f + 1, s, a, out, last, p, er, ha, h => by
    have hk := keyAt_len s (a + 1) (by omega)
    unfold rdP at h
    generalize keyAt s (a + 1) = key at h hk
    by_cases c1 : key = [] ∨ standsB s (a + 1 + key.length) 58 = false
    · rw [if_pos c1] at h; injection h with h1 h2; omega
    rw [if_neg c1] at h
    have h58 := stands_lt (s := s) (a := a + 1 + key.length) (c := 58) (by
      cases hh : standsB s (a + 1 + key.length) 58 with
      | true => rfl
      | false => exact absurd (.inr hh) c1)
    have hv := valAt_len s (a + 1 + key.length + 1) (by omega)
    generalize valAt s (a + 1 + key.length + 1) = val at h hv
    by_cases c2 : out.length = 16
    · rw [if_pos c2] at h; injection h with h1 h2; omega
    rw [if_neg c2] at h
    by_cases c3 : 16 < key.length ∨ 32 < val.length
    · rw [if_pos c3] at h; injection h with h1 h2; omega
    rw [if_neg c3] at h
    by_cases c4 : leB key last = true
    · rw [if_pos c4] at h; injection h with h1 h2; omega
    rw [if_neg c4] at h
    by_cases c5 : standsB s (a + 1 + key.length + 1 + val.length) 125 = true
    · rw [if_pos c5] at h; cases h
    rw [if_neg c5] at h
    by_cases c6 : standsB s (a + 1 + key.length + 1 + val.length) 44 = false
    · rw [if_pos c6] at h; injection h with h1 h2; omega
    rw [if_neg c6] at h
    have h44 := stands_lt (s := s) (a := a + 1 + key.length + 1 + val.length) (c := 44) (by simpa using c6)
    exact rdP_bad f s _ _ _ p er h44 h
theorem rdH_bad {s : List UInt8} {a p : Nat} {er : Int} (h : rdH s a = .bad p er) : p ≤ s.length := by
  unfold rdH at h
  by_cases c : standsB s a 123 = true
  · rw [if_pos c] at h
    exact rdP_bad _ s a [] [] p er (stands_lt c) h
  · rw [if_neg c] at h; cases h
theorem rdL_bad {s : List UInt8} {a p : Nat} {er : Int} (ha : a < s.length) (h : rdL s a = .bad p er) : p ≤ s.length := by
  obtain ⟨hl1, hl2⟩ := leafEnd_le s a ha
  unfold rdL at h
  rcases unq_cases ((s.take (leafEnd s a)).drop a) with ⟨zs, hz, hqe, hu⟩ | ⟨q, hq, hu⟩
  · rw [hu] at h; cases h
  · rw [hu] at h
    rw [if_neg (by show ¬ ((11 : Int) = 0); decide)] at h
    injection h with h1 h2
    simp only [List.length_drop, List.length_take] at hq
    simp only [Int.toNat_natCast] at h1
    omega
mutual
theorem rdN_bad : ∀ (f : Nat) (s : List UInt8) (a p : Nat) (er : Int), a ≤ s.length → rdN f s a = .bad p er → p ≤ s.length
  | 0, s, a, p, er, ha, h => by unfold rdN at h; injection h with h1 h2; omega
  | f + 1, s, a, p, er, ha, h => by
    unfold rdN at h
    cases hh : rdH s a with
    | bad q er' => have := rdH_bad hh; rw [hh] at h; injection h with h1 h2; omega
    | ok ps a1 =>
      have h1 := rdH_pos ha hh
      rw [hh] at h
      simp only at h
      by_cases c1 : standsB s a1 34 = true
      · rw [if_pos c1] at h
        cases hl : rdL s a1 with
        | bad q er' => have := rdL_bad (stands_lt c1) hl; rw [hl] at h; injection h with h1 h2; omega
        | ok t e' => rw [hl] at h; cases h
      rw [if_neg c1] at h
      by_cases c2 : standsB s a1 91 = false
      · rw [if_pos c2] at h; injection h with h1 h2; omega
      rw [if_neg c2] at h
      have hlt := stands_lt (s := s) (a := a1) (c := 91) (by simpa using c2)
      cases hk : rdK f s (a1 + 1) [] with
      | bad q er' => have := rdK_bad f s (a1 + 1) [] q er' (by omega) hk; rw [hk] at h; injection h with h1 h2; omega
      | ok ks e' => rw [hk] at h; cases h
theorem rdK_bad : ∀ (f : Nat) (s : List UInt8) (a : Nat) (out : List NodeD) (p : Nat) (er : Int), a ≤ s.length → rdK f s a out = .bad p er → p ≤ s.length
  | 0, s, a, out, p, er, ha, h => by unfold rdK at h; injection h with h1 h2; omega
  | f + 1, s, a, out, p, er, ha, h => by
    unfold rdK at h
    by_cases c1 : standsB s a 93 = true
    · rw [if_pos c1] at h; cases h
    rw [if_neg c1] at h
    cases hn : rdN f s a with
    | bad q er' => have := rdN_bad f s a q er' ha hn; rw [hn] at h; injection h with h1 h2; omega
    | ok k e' =>
      have h1 := rdN_pos f s a k e' ha hn
      rw [hn] at h
      exact rdK_bad f s e' _ p er h1.2 h
end
theorem parse_bad {s : List UInt8} {p : Nat} {er : Int} (h : parseL s = .bad p er) : p ≤ s.length := by
  unfold parseL at h
  cases hr : rdN (2 * s.length + 1) s 0 with
  | bad q er' => have := rdN_bad _ s 0 q er' (by omega) hr; rw [hr] at h; injection h with h1 h2; omega
  | ok m e' =>
    rw [hr] at h
    simp only at h
    split at h
    · injection h with h1 h2; omega
    · cases h

/-- A tree that may be holds no more than its text. -/
theorem propsQ_zero : ∀ (ps : List PropD) (last : List UInt8), propsGo last ps = 0 → propsQ ps = 0 ∧ 3 * ps.length ≤ propsWt ps
  | [], last, _ => by simp [propsQ]
  | p :: qs, last, h => by
    simp only [propsGo] at h
    split at h
    · rename_i hk
      simp only [Bool.and_eq_true] at hk
      split at h
      · cases h
      · have ih := propsQ_zero qs p.1 h
        obtain ⟨h1, h2⟩ := hk
        unfold keyB at h1
        unfold valB at h2
        simp only [Bool.and_eq_true, decide_eq_true_eq] at h1 h2
        simp only [propsQ, propsWt, List.length_cons]
        omega
    · cases h
theorem qb_pos (z : Int) : 1 ≤ (qb z).length := by
  unfold qb
  split
  · simp
  · simp [escL]
theorem body_pos (zs : List Int) : zs.length ≤ (bodyL zs).length := by
  induction zs with
  | nil => simp
  | cons z zs ih =>
    have := qb_pos z
    simp only [bodyL, List.flatMap_cons, List.length_append, List.length_cons] at *
    omega
mutual
theorem left_ge : ∀ (n : NodeD) (m : Int), nodeE n = 0 → ((printL n).length : Int) ≤ m → m - ((printL n).length : Int) ≤ leftN n m
  | .mk l ps t ks, m, h, hm => by
    obtain ⟨ho, hk⟩ := nodeE_ok h
    obtain ⟨hp, ht, hl1, hl2⟩ := ownE_ok ho
    obtain ⟨hq, hw⟩ := propsQ_zero ps [] (propsE_ok hp).2
    have hpl : ps.length ≤ (propsL ps).length := by
      unfold propsL
      split
      · omega
      · simp [propsC_len]; omega
    have hb := body_pos t
    unfold leftN
    rw [hq]
    cases l with
    | true =>
      have : ks = [] := List.eq_nil_of_length_eq_zero (hl1 rfl)
      subst this
      have e : (printL (.mk true ps t [])).length = (propsL ps).length + (bodyL t).length + 2 := by simp [printL, quoteL]; omega
      rw [e] at hm ⊢
      rw [if_neg (by omega)]
      simp only [leftK]
      omega
    | false =>
      have ht0 := hl2 rfl
      subst ht0
      have e : (printL (.mk false ps [] ks)).length = (propsL ps).length + (printK ks).length + 2 := by simp [printL]; omega
      rw [e] at hm ⊢
      have ih := leftK_ge ks (m - (1 + ([] : List Int).length + ps.length : Nat) - (0 : Nat)) hk (by simp; omega)
      rw [if_neg (by simp; omega)]
      simp only [List.length_nil] at ih ⊢
      omega
theorem leftK_ge : ∀ (ks : List NodeD) (m : Int), kidsE ks = 0 → ((printK ks).length : Int) ≤ m → m - ((printK ks).length : Int) ≤ leftK ks m
  | [], m, h, hm => by simp [leftK, printK]
  | k :: ks, m, h, hm => by
    obtain ⟨h1, h2⟩ := kidsE_ok h
    simp only [printK, List.length_append] at hm ⊢
    have a := left_ge k m h1 (by omega)
    have b := leftK_ge ks (leftN k m) h2 (by omega)
    unfold leftK
    rw [if_neg (by omega)]
    omega
end
theorem few_read {n : NodeD} {m : Int} (h : nodeE n = 0) (hm : ((printL n).length : Int) ≤ m) : fewB n m = true := by
  have := left_ge n m h hm
  unfold fewB
  simp; omega

/-- Kids in brackets. -/
theorem parse_kids {a b : NodeD} (ha : nodeE a = 0) (hb : nodeE b = 0) : parseL (91 :: (printL a ++ (printL b ++ [93]))) = .ok (.mk false [] [] [a, b]) (91 :: (printL a ++ (printL b ++ [93]))).length := by
  have hn : nodeE (.mk false [] [] [a, b]) = 0 := by
    unfold nodeE ownE
    simp [propsE, propsGo, checkE, kidsE, ha, hb]
  have h := parse_whole hn
  have e : printL (.mk false [] [] [a, b]) = 91 :: (printL a ++ (printL b ++ [93])) := by simp [printL, propsL, printK]
  rwa [e] at h
theorem parse_two {a b : NodeD} (ha : nodeE a = 0) : parseL (printL a ++ printL b) = .bad (printL a).length 11 := by
  have h := rdN_print a [] (printL b) (2 * (printL a ++ printL b).length + 1) ha (by simp)
  obtain ⟨x, r, hx, -⟩ := printL_head b
  simp only [List.nil_append, List.length_nil, Nat.zero_add] at h
  unfold parseL
  rw [h]
  simp only
  rw [if_pos (by rw [hx]; simp)]
theorem parse_open {a b : NodeD} (ha : nodeE a = 0) (hb : nodeE b = 0) : parseL (91 :: (printL a ++ printL b)) = .bad (1 + (printL a).length + (printL b).length) 11 := by
  have hn : nodeE (.mk false [] [] [a, b]) = 0 := by
    unfold nodeE ownE
    simp [propsE, propsGo, checkE, kidsE, ha, hb]
  have h := parse_less hn
  have e : printL (.mk false [] [] [a, b]) = (91 :: (printL a ++ printL b)) ++ [93] := by simp [printL, propsL, printK]
  rw [e, List.dropLast_concat] at h
  rw [h]
  congr 1
  simp; omega

end Go.Proofs.YtmhgbocejjnoaaaGreatDoor
/- Walks: the reference's Same at two empty rows, at two zero nodes. -/
namespace Go.Proofs.YtmhgbocejjnoaaaGreatDoor
open Go.RowKit Go.Redl
set_option linter.unusedVariables false

set_option maxRecDepth 100000 in
set_option maxHeartbeats 1000000 in
theorem same01_nil (W : World) : Calls Tryz.prog 20 #[.slice none 0 0, .slice none 0 0] W fun e w' => e = .returned (.bool true) ∧ W = w' := by
  go_enter Tryz.func20, Tryz.ntmps20
  go_wp2_with fail
  go_loopw [13] (fun i wr => i = .int .i64 0 ∧ W = wr) (fun _ _ => 0)
  case atStart => exact ⟨rfl, rfl⟩
  case round =>
    obtain ⟨rfl, rfl⟩ := hrel
    go_wp2_with fail
    go_ret
    exact ⟨rfl, rfl⟩
set_option maxRecDepth 100000 in
set_option maxHeartbeats 1000000 in
theorem same03_nil (W : World) : Calls Tryz.prog 21 #[.slice none 0 0, .slice none 0 0] W fun e w' => e = .returned (.bool true) ∧ W = w' := by
  go_enter Tryz.func21, Tryz.ntmps21
  go_wp2_with fail
  go_loopw [13] (fun i wr => i = .int .i64 0 ∧ W = wr) (fun _ _ => 0)
  case atStart => exact ⟨rfl, rfl⟩
  case round =>
    obtain ⟨rfl, rfl⟩ := hrel
    go_wp2_with fail
    go_ret
    exact ⟨rfl, rfl⟩

set_option maxRecDepth 100000 in
set_option maxHeartbeats 2000000 in
theorem same04_zero (W : World) : Calls Tryz.prog 9 #[.agg #[.bool false, .slice none 0 0, .slice none 0 0, .slice none 0 0], .agg #[.bool false, .slice none 0 0, .slice none 0 0, .slice none 0 0]] W
    fun e w' => e = .returned (.bool true) ∧ Below W.heap.size W w' := by
  have H1 := fun W => Lib.hid (same01_nil W)
  have H3 := fun W => Lib.hid (same03_nil W)
  have hb : Below W.heap.size W ((W.alloc (.cells #[.bool false, .slice none 0 0, .slice none 0 0, .slice none 0 0] 27)).alloc (.cells #[.bool false, .slice none 0 0, .slice none 0 0, .slice none 0 0] 27)) := ((Below.refl _ _).alloc (Nat.le_refl _) _).alloc (by simp) _
  have Hb := Lib.hid hb
  clear hb
  go_enter Tryz.func9, Tryz.ntmps9
  go_wp2_with fail
  refine (H1 _).out.mono ?_
  rintro e w1 ⟨rfl, rfl⟩
  go_wp2_with fail
  refine (H3 _).out.mono ?_
  rintro e w1 ⟨rfl, rfl⟩
  clear H1 H3
  go_wp2_with fail
  go_loopw [39] (fun i wr => i = .int .i64 0 ∧ wr = ((W.alloc (.cells #[.bool false, .slice none 0 0, .slice none 0 0, .slice none 0 0] 27)).alloc (.cells #[.bool false, .slice none 0 0, .slice none 0 0, .slice none 0 0] 27))) (fun _ _ => 0)
  case atStart => exact ⟨rfl, rfl⟩
  case round =>
    obtain ⟨rfl, rfl⟩ := hrel
    go_wp2_with fail
    go_ret
    exact ⟨rfl, Hb.out⟩

end Go.Proofs.YtmhgbocejjnoaaaGreatDoor
/- Plain laws: a tree that is small and may be is written in few bytes. -/
namespace Go.Proofs.YtmhgbocejjnoaaaGreatDoor
open Go.RowKit Go.Redl
set_option linter.unusedVariables false

theorem propsGo_wt : ∀ (ps : List PropD) (last : List UInt8), propsGo last ps = 0 → propsWt ps ≤ 50 * ps.length
  | [], last, _ => by simp [propsWt]
  | p :: qs, last, h => by
    simp only [propsGo] at h
    split at h
    · rename_i hk
      simp only [Bool.and_eq_true] at hk
      split at h
      · cases h
      · have ih := propsGo_wt qs p.1 h
        have h1 := (keyB_low hk.1).2.1
        have h2 := (valB_c hk.2).1
        simp only [propsWt, List.length_cons]; omega
    · cases h
mutual
theorem few_len : ∀ (n : NodeD) (m : Int), nodeE n = 0 → 0 ≤ leftN n m → ((printL n).length : Int) ≤ 60 * (m - leftN n m)
  | .mk l ps t ks, m, h, hm => by
    obtain ⟨ho, hk⟩ := nodeE_ok h
    obtain ⟨hp, ht, hl1, hl2⟩ := ownE_ok ho
    have hw := propsGo_wt ps [] (propsE_ok hp).2
    have h2 := propsL_len ps
    have h3 := quoteL_len t
    unfold leftN at hm ⊢
    split at hm
    · exact absurd hm (by decide)
    · rename_i hc
      rw [if_neg hc]
      have ih := few_lenK ks _ hk hm
      have hpq : (0 : Int) ≤ (propsQ ps : Nat) := by omega
      simp only [printL, List.length_append]
      split
      · omega
      · simp only [List.length_cons, List.length_append, List.length_nil]; omega
theorem few_lenK : ∀ (ks : List NodeD) (m : Int), kidsE ks = 0 → 0 ≤ leftK ks m → ((printK ks).length : Int) ≤ 60 * (m - leftK ks m)
  | [], m, h, hm => by simp [printK, leftK]
  | k :: ks, m, h, hm => by
    obtain ⟨h1, h2⟩ := kidsE_ok h
    unfold leftK at hm ⊢
    split at hm
    · exact absurd hm (by decide)
    · rename_i hc
      rw [if_neg hc]
      have a := few_len k m h1 (by omega)
      have b := few_lenK ks _ h2 hm
      simp only [printK, List.length_append]; omega
end

end Go.Proofs.YtmhgbocejjnoaaaGreatDoor
/- Walks: CodeBack. -/
namespace Go.Proofs.YtmhgbocejjnoaaaGreatDoor
open Go.RowKit Go.Redl
set_option linter.unusedVariables false

mutual
/-- A tree that may be holds no more than its text. -/
theorem wt_print : ∀ n : NodeD, nodeE n = 0 → n.wt ≤ (printL n).length
  | .mk l ps t ks, h => by
    obtain ⟨ho, hk⟩ := nodeE_ok h
    obtain ⟨hp, ht, hl1, hl2⟩ := ownE_ok ho
    have hb := body_pos t
    have hpl : propsWt ps ≤ (propsL ps).length := by
      unfold propsL
      split
      · rename_i h0
        have : ps = [] := List.eq_nil_of_length_eq_zero h0
        subst this; simp [propsWt]
      · simp [propsC_len]
    cases l with
    | true =>
      have : ks = [] := List.eq_nil_of_length_eq_zero (hl1 rfl)
      subst this
      simp [NodeD.wt, printL, quoteL, wtAll]; omega
    | false =>
      have ht0 := hl2 rfl
      subst ht0
      have ih := wtAll_print ks hk
      simp [NodeD.wt, printL]; omega
theorem wtAll_print : ∀ ks : List NodeD, kidsE ks = 0 → wtAll ks ≤ (printK ks).length
  | [], h => by simp [wtAll, printK]
  | k :: ks, h => by
    obtain ⟨h1, h2⟩ := kidsE_ok h
    have a := wt_print k h1
    have b := wtAll_print ks h2
    simp only [wtAll, printK, List.length_append]; omega
end
theorem hn3_lt {w : World} {N : Nat} {c0 c1 c2 c3 : Value} (h : NodeAt w N c0 c1 c2 c3) : N < w.heap.size := h.facts.2.2.2.2.2

set_option maxRecDepth 100000 in
set_option maxHeartbeats 4000000 in
theorem cback_okbad (n : NodeD) (v : Value) (s : List UInt8) (w : World) (hn : n.wt ≤ 1048576) (hv : NodeV w w.heap.size n v) (hT : TabAt w) (hEr : ErrsAt w) (hg : 7 < w.heap.size) (hfew : fewB n 200 = true) (hs : s.length ≤ 300) (hE : nodeE n = 0) (p : Nat) (er : Int) (hp : parseL s = .bad p er) :
    Calls Tryz.prog 4 #[v, .string ⟨s.toArray⟩] w fun e w' => e = .returned (.bool true) ∧ Below w.heap.size w w' := by
  have hv0 := hv
  obtain ⟨l, ps, t, ks⟩ := n
  obtain ⟨ap, cp, at_, ct, ak, ck, css, rfl, -, -, -, -⟩ := hv0.open
  generalize NodeD.mk l ps t ks = n at hv hn hfew hE ⊢
  have hB0 := below_new w (Obj.cells #[.bool l, .slice ap ps.length cp, .slice at_ t.length ct, .slice ak ks.length ck] 27)
  have HL := Lib.hid (live_c _ (hT.keep hB0 hg) (Nat.lt_of_lt_of_le hg hB0.size))
  have HF := fun (w1 : World) (hb : Below w.heap.size w w1) => Lib.hid (rfew_c n _ 200 w1 (by omega) (by omega) (by omega) (hv.keep hb hb.size))
  rw [hfew] at HF
  have hss : (⟨s.toArray⟩ : ByteArray).size = s.length := rfl
  have HQ2 := fun (w1 : World) (hb : Below w.heap.size w w1) => parseT_c s w1 (by omega) (hEr.keep hb) (hT.keep hb hg) (Nat.lt_of_lt_of_le hg hb.size)
  have hfl := few_len n 200 hE (by unfold fewB at hfew; simpa using hfew)
  have hfn : 0 ≤ leftN n 200 := by unfold fewB at hfew; simpa using hfew
  have HP := fun (w1 : World) (hb : Below w.heap.size w w1) => Lib.hid (print_ok n _ w1 hn (hv.keep hb hb.size) hE (hT.keep hb hg) (Nat.lt_of_lt_of_le hg hb.size))
  have HQ1 := fun (w1 : World) (hb : Below w.heap.size w w1) => parseT_c (printL n) w1 (by omega) (hEr.keep hb) (hT.keep hb hg) (Nat.lt_of_lt_of_le hg hb.size)
  rw [parse_whole hE] at HQ1
  have HF2 := fun (w1 : World) (cs : List Value) (h : NodeC w1 w1.heap.size n cs) => Lib.hid (rfew_c n (.agg cs.toArray) 200 w1 (by omega) (by omega) (by omega) ⟨cs, rfl, h⟩)
  rw [hfew] at HF2
  have HS := fun (w1 : World) (cs : List Value) (h : NodeC w1 w1.heap.size n cs) (hb : Below w.heap.size w w1) => Lib.hid (same_c n.wt n n (.agg cs.toArray) _ w1 (Nat.le_refl _) ⟨cs, rfl, h⟩ (hv.keep hb hb.size))
  rw [sameN_self] at HS
  obtain ⟨S, hS⟩ : ∃ S, S = (⟨(printL n).toArray⟩ : ByteArray) := ⟨_, rfl⟩
  rw [← hS] at HP HQ1
  clear hfl hfn hS hE
  rw [hp] at HQ2
  have hpl := parse_bad hp
  have hpi : (p : Int) ≤ s.length := by omega
  have HSZ := fun (w1 : World) => Lib.hid (same04_zero w1)
  obtain ⟨S2, hS2⟩ : ∃ S, S = (⟨s.toArray⟩ : ByteArray) := ⟨_, rfl⟩
  rw [← hS2] at HQ2 hss ⊢
  clear hS2 hp
  have HQ2 := Lib.hid HQ2
  clear hv0 hv hB0 hn hT hEr hfew
  go_enter Tryz.func4, Tryz.ntmps4
  go_wp2_with fail
  refine HL.out.mono ?_
  rintro e w1 ⟨rfl, hbel⟩
  have Hb1 := Lib.hid (below_unbox (below_box hbel))
  have hn1 := (NodeAt.fresh w (.bool l) (.slice ap ps.length cp) (.slice at_ t.length ct) (.slice ak ks.length ck)).keep (below_box hbel)
  obtain ⟨x0, x1, x2, x3, -, hw1⟩ := hn1.facts
  have Hn1 := Lib.hid hn1
  have HF1 := HF _ Hb1.out
  clear hbel HL HF hn1
  go_wp2_with fail
  refine HF1.out.mono ?_
  rintro e w2 ⟨rfl, hbel⟩
  have Hb2 := Lib.hid (below_then Hb1.out hbel (Nat.le_refl _))
  have hn2 := Hn1.out.keep (hbel.mono (by omega))
  clear x0 x1 x2 x3 hw1
  obtain ⟨x0, x1, x2, x3, -, hw2⟩ := hn2.facts
  have Hn2 := Lib.hid hn2
  have HP1 := HP _ Hb2.out
  clear hbel HF1 HP Hn1 hn2
  go_wp2_with fail
  refine HP1.out.mono ?_
  rintro e w3 ⟨rfl, hbel⟩
  have Hb3 := Lib.hid (below_then Hb2.out hbel (Nat.le_refl _))
  have hn3 := Hn2.out.keep (hbel.mono (by omega))
  have Hn3 := Lib.hid hn3
  clear x0 x1 x2 x3 hw2 HP1 Hn2 hbel
  have HQ3 := Lib.hid (HQ1 w3 Hb3.out)
  clear HQ1 hn3
  go_wp2_with fail
  refine HQ3.out.mono ?_
  rintro e w4 ⟨cs, rfl, hnode, hbel⟩
  have Hb4 := Lib.hid (below_then Hb3.out hbel (Nat.le_refl _))
  have hs4 := hbel.size
  have hw3 := (hn3_lt Hn3.out)
  have hn4 := Hn3.out.keep (hbel.mono (by omega))
  obtain ⟨l1, a1, n1, c1, a2, n2, c2, a3, n3, c3, rfl⟩ := hnode.form
  have hnc := NodeQ.node _ _ hnode
  have hb5 := (Below.refl w4.heap.size w4).alloc (Nat.le_refl _) (Obj.cells #[.bool l1, .slice a1 n1 c1, .slice a2 n2 c2, .slice a3 n3 c3] 27)
  have Hnc := Lib.hid (NodeC.keep hb5 hb5.size _ _ hnc)
  have Hb5 := Lib.hid (below_then Hb4.out hb5 (Nat.le_refl _))
  have hn5 := hn4.alloc (Obj.cells #[.bool l1, .slice a1 n1 c1, .slice a2 n2 c2, .slice a3 n3 c3] 27)
  have hm5 := NodeAt.fresh w4 (.bool l1) (.slice a1 n1 c1) (.slice a2 n2 c2) (.slice a3 n3 c3)
  have HF5 := HF2 _ _ Hnc.out
  have Hn5 := Lib.hid hn5; have Hm5 := Lib.hid hm5
  have hw4 : w.heap.size < w4.heap.size := by omega
  clear hbel hnode hnc hb5 HF2 HQ3 hn4 hn5 hm5 Hn3
  go_wp2_with fail
  refine HF5.out.mono ?_
  rintro e w6 ⟨rfl, hbel⟩
  have Hb6 := Lib.hid (below_then Hb5.out hbel (Nat.le_refl _))
  have hn6 := Hn5.out.keep (hbel.mono (by simp; omega))
  have hm6 := Hm5.out.keep (hbel.mono (by simp))
  have HS6 := HS _ _ (NodeC.keep hbel hbel.size _ _ Hnc.out) Hb6.out
  obtain ⟨x0, x1, x2, x3, -, hw6⟩ := hn6.facts
  obtain ⟨y0, y1, y2, y3, -, -⟩ := hm6.facts
  have Hn6 := Lib.hid hn6
  clear hbel HF5 HS hn6 hm6 Hn5 Hm5 Hnc
  go_wp2_with fail
  refine HS6.out.mono ?_
  rintro e w7 ⟨rfl, hbel⟩
  have Hb7 := Lib.hid (below_then Hb6.out hbel (Nat.le_refl _))
  clear hbel HS6 x0 x1 x2 x3 y0 y1 y2 y3 Hn6
  have HQ4 := Lib.hid (HQ2.out w7 Hb7.out)
  clear HQ2
  go_wp2_with fail
  refine HQ4.out.mono ?_
  rintro e w8 ⟨rfl, her, hbel⟩
  have her0 : (er != 0) = true := by simpa using her
  have Hb8 := Lib.hid (below_then Hb7.out hbel (Nat.le_refl _))
  have Hb9 := Lib.hid (Hb8.out.alloc Hb8.out.size (Obj.cells #[.bool false, .slice none 0 0, .slice none 0 0, .slice none 0 0] 27))
  clear hbel HQ4 her
  go_wp2_with fail
  refine (HSZ _).out.mono ?_
  rintro e w10 ⟨rfl, hbel⟩
  have Hb10 := Lib.hid (below_then Hb9.out hbel (Nat.le_refl _))
  clear hbel HSZ
  go_wp2_with fail
  go_ret
  exact ⟨ret_bool (by simp), Hb10.out⟩


set_option maxRecDepth 100000 in
set_option maxHeartbeats 4000000 in
theorem cback_nobad (n : NodeD) (v : Value) (s : List UInt8) (w : World) (hn : n.wt ≤ 1048576) (hv : NodeV w w.heap.size n v) (hT : TabAt w) (hEr : ErrsAt w) (hg : 7 < w.heap.size) (hfew : fewB n 200 = true) (hs : s.length ≤ 300) (hE : nodeE n ≠ 0) (p : Nat) (er : Int) (hp : parseL s = .bad p er) :
    Calls Tryz.prog 4 #[v, .string ⟨s.toArray⟩] w fun e w' => e = .returned (.bool true) ∧ Below w.heap.size w w' := by
  have hv0 := hv
  obtain ⟨l, ps, t, ks⟩ := n
  obtain ⟨ap, cp, at_, ct, ak, ck, css, rfl, -, -, -, -⟩ := hv0.open
  generalize NodeD.mk l ps t ks = n at hv hn hfew hE ⊢
  have hB0 := below_new w (Obj.cells #[.bool l, .slice ap ps.length cp, .slice at_ t.length ct, .slice ak ks.length ck] 27)
  have HL := Lib.hid (live_c _ (hT.keep hB0 hg) (Nat.lt_of_lt_of_le hg hB0.size))
  have HF := fun (w1 : World) (hb : Below w.heap.size w w1) => Lib.hid (rfew_c n _ 200 w1 (by omega) (by omega) (by omega) (hv.keep hb hb.size))
  rw [hfew] at HF
  have hss : (⟨s.toArray⟩ : ByteArray).size = s.length := rfl
  have HQ2 := fun (w1 : World) (hb : Below w.heap.size w w1) => parseT_c s w1 (by omega) (hEr.keep hb) (hT.keep hb hg) (Nat.lt_of_lt_of_le hg hb.size)
  have HP := fun (w1 : World) (hb : Below w.heap.size w w1) => Lib.hid (print_no n _ w1 hn (hv.keep hb hb.size) hE)
  have HC := fun (w1 : World) (hb : Below w.heap.size w w1) => Lib.hid (ncheck_c n _ _ w1 hn (hv.keep hb hb.size) (Nat.le_refl _))
  have hx0 : (nodeE n == 0) = false := by simpa using hE
  generalize nodeE n = x at HP HC hx0
  clear hE
  rw [hp] at HQ2
  have hpl := parse_bad hp
  have hpi : (p : Int) ≤ s.length := by omega
  have HSZ := fun (w1 : World) => Lib.hid (same04_zero w1)
  obtain ⟨S2, hS2⟩ : ∃ S, S = (⟨s.toArray⟩ : ByteArray) := ⟨_, rfl⟩
  rw [← hS2] at HQ2 hss ⊢
  clear hS2 hp
  have HQ2 := Lib.hid HQ2
  clear hv0 hv hB0 hn hT hEr hfew
  go_enter Tryz.func4, Tryz.ntmps4
  go_wp2_with fail
  refine HL.out.mono ?_
  rintro e w1 ⟨rfl, hbel⟩
  have Hb1 := Lib.hid (below_unbox (below_box hbel))
  have hn1 := (NodeAt.fresh w (.bool l) (.slice ap ps.length cp) (.slice at_ t.length ct) (.slice ak ks.length ck)).keep (below_box hbel)
  obtain ⟨x0, x1, x2, x3, -, hw1⟩ := hn1.facts
  have Hn1 := Lib.hid hn1
  have HF1 := HF _ Hb1.out
  clear hbel HL HF hn1
  go_wp2_with fail
  refine HF1.out.mono ?_
  rintro e w2 ⟨rfl, hbel⟩
  have Hb2 := Lib.hid (below_then Hb1.out hbel (Nat.le_refl _))
  have hn2 := Hn1.out.keep (hbel.mono (by omega))
  clear x0 x1 x2 x3 hw1
  obtain ⟨x0, x1, x2, x3, -, hw2⟩ := hn2.facts
  have Hn2 := Lib.hid hn2
  have HP1 := HP _ Hb2.out
  clear hbel HF1 HP Hn1 hn2
  go_wp2_with fail
  refine HP1.out.mono ?_
  rintro e w3 ⟨rfl, hbel⟩
  have Hb3 := Lib.hid (below_then Hb2.out hbel (Nat.le_refl _))
  have hn3 := Hn2.out.keep (hbel.mono (by omega))
  have Hn3 := Lib.hid hn3
  clear x0 x1 x2 x3 hw2 HP1 Hn2 hbel
  obtain ⟨x0, x1, x2, x3, -, hw3⟩ := hn3.facts
  have HC1 := HC _ Hb3.out
  clear HC hn3
  go_wp2_with fail
  refine HC1.out.mono ?_
  rintro e w7 ⟨rfl, hbel⟩
  have Hb7 := Lib.hid (below_then Hb3.out hbel (Nat.le_refl _))
  clear hbel HC1 x0 x1 x2 x3 Hn3
  have HQ4 := Lib.hid (HQ2.out w7 Hb7.out)
  clear HQ2
  go_wp2_with fail
  refine HQ4.out.mono ?_
  rintro e w8 ⟨rfl, her, hbel⟩
  have her0 : (er != 0) = true := by simpa using her
  have Hb8 := Lib.hid (below_then Hb7.out hbel (Nat.le_refl _))
  have Hb9 := Lib.hid (Hb8.out.alloc Hb8.out.size (Obj.cells #[.bool false, .slice none 0 0, .slice none 0 0, .slice none 0 0] 27))
  clear hbel HQ4 her
  go_wp2_with fail
  refine (HSZ _).out.mono ?_
  rintro e w10 ⟨rfl, hbel⟩
  have Hb10 := Lib.hid (below_then Hb9.out hbel (Nat.le_refl _))
  clear hbel HSZ
  go_wp2_with fail
  go_ret
  exact ⟨ret_bool (by simp), Hb10.out⟩


set_option maxRecDepth 100000 in
set_option maxHeartbeats 4000000 in
theorem cback_okok (n : NodeD) (v : Value) (s : List UInt8) (w : World) (hn : n.wt ≤ 1048576) (hv : NodeV w w.heap.size n v) (hT : TabAt w) (hEr : ErrsAt w) (hg : 7 < w.heap.size) (hfew : fewB n 200 = true) (hs : s.length ≤ 300) (hE : nodeE n = 0) (m : NodeD) (me : Nat) (hp : parseL s = .ok m me) :
    Calls Tryz.prog 4 #[v, .string ⟨s.toArray⟩] w fun e w' => e = .returned (.bool true) ∧ Below w.heap.size w w' := by
  have hv0 := hv
  obtain ⟨l, ps, t, ks⟩ := n
  obtain ⟨ap, cp, at_, ct, ak, ck, css, rfl, -, -, -, -⟩ := hv0.open
  generalize NodeD.mk l ps t ks = n at hv hn hfew hE ⊢
  have hB0 := below_new w (Obj.cells #[.bool l, .slice ap ps.length cp, .slice at_ t.length ct, .slice ak ks.length ck] 27)
  have HL := Lib.hid (live_c _ (hT.keep hB0 hg) (Nat.lt_of_lt_of_le hg hB0.size))
  have HF := fun (w1 : World) (hb : Below w.heap.size w w1) => Lib.hid (rfew_c n _ 200 w1 (by omega) (by omega) (by omega) (hv.keep hb hb.size))
  rw [hfew] at HF
  have hss : (⟨s.toArray⟩ : ByteArray).size = s.length := rfl
  have HQ2 := fun (w1 : World) (hb : Below w.heap.size w w1) => parseT_c s w1 (by omega) (hEr.keep hb) (hT.keep hb hg) (Nat.lt_of_lt_of_le hg hb.size)
  have hfl := few_len n 200 hE (by unfold fewB at hfew; simpa using hfew)
  have hfn : 0 ≤ leftN n 200 := by unfold fewB at hfew; simpa using hfew
  have HP := fun (w1 : World) (hb : Below w.heap.size w w1) => Lib.hid (print_ok n _ w1 hn (hv.keep hb hb.size) hE (hT.keep hb hg) (Nat.lt_of_lt_of_le hg hb.size))
  have HQ1 := fun (w1 : World) (hb : Below w.heap.size w w1) => parseT_c (printL n) w1 (by omega) (hEr.keep hb) (hT.keep hb hg) (Nat.lt_of_lt_of_le hg hb.size)
  rw [parse_whole hE] at HQ1
  have HF2 := fun (w1 : World) (cs : List Value) (h : NodeC w1 w1.heap.size n cs) => Lib.hid (rfew_c n (.agg cs.toArray) 200 w1 (by omega) (by omega) (by omega) ⟨cs, rfl, h⟩)
  rw [hfew] at HF2
  have HS := fun (w1 : World) (cs : List Value) (h : NodeC w1 w1.heap.size n cs) (hb : Below w.heap.size w w1) => Lib.hid (same_c n.wt n n (.agg cs.toArray) _ w1 (Nat.le_refl _) ⟨cs, rfl, h⟩ (hv.keep hb hb.size))
  rw [sameN_self] at HS
  obtain ⟨S, hS⟩ : ∃ S, S = (⟨(printL n).toArray⟩ : ByteArray) := ⟨_, rfl⟩
  rw [← hS] at HP HQ1
  clear hfl hfn hS hE
  rw [hp] at HQ2
  obtain ⟨hsm, hm⟩ := parse_back hp
  have hmw : m.wt ≤ 300 := by have := wt_print m hm; rw [hsm] at hs; omega
  have hmf : fewB m 1000 = true := few_read hm (by rw [← hsm]; omega)
  have HF3 := fun (w1 : World) (cs : List Value) (h : NodeC w1 w1.heap.size m cs) => Lib.hid (rfew_c m (.agg cs.toArray) 1000 w1 (by omega) (by omega) (by omega) ⟨cs, rfl, h⟩)
  rw [hmf] at HF3
  have HC3 := fun (w1 : World) (cs : List Value) (h : NodeC w1 w1.heap.size m cs) => Lib.hid (ncheck_c m (.agg cs.toArray) _ w1 (by omega) ⟨cs, rfl, h⟩ (Nat.le_refl _))
  rw [hm] at HC3
  have HP3 := fun (w1 : World) (cs : List Value) (h : NodeC w1 w1.heap.size m cs) (hb : Below w.heap.size w w1) => Lib.hid (print_ok m (.agg cs.toArray) w1 (by omega) ⟨cs, rfl, h⟩ hm (hT.keep hb hg) (Nat.lt_of_lt_of_le hg hb.size))
  rw [← hsm] at HP3
  obtain ⟨S2, hS2⟩ : ∃ S, S = (⟨s.toArray⟩ : ByteArray) := ⟨_, rfl⟩
  rw [← hS2] at HP3 HQ2 hss ⊢
  clear hsm hm hmw hmf hS2 hp
  have HQ2 := Lib.hid HQ2
  clear hv0 hv hB0 hn hT hEr hfew
  go_enter Tryz.func4, Tryz.ntmps4
  go_wp2_with fail
  refine HL.out.mono ?_
  rintro e w1 ⟨rfl, hbel⟩
  have Hb1 := Lib.hid (below_unbox (below_box hbel))
  have hn1 := (NodeAt.fresh w (.bool l) (.slice ap ps.length cp) (.slice at_ t.length ct) (.slice ak ks.length ck)).keep (below_box hbel)
  obtain ⟨x0, x1, x2, x3, -, hw1⟩ := hn1.facts
  have Hn1 := Lib.hid hn1
  have HF1 := HF _ Hb1.out
  clear hbel HL HF hn1
  go_wp2_with fail
  refine HF1.out.mono ?_
  rintro e w2 ⟨rfl, hbel⟩
  have Hb2 := Lib.hid (below_then Hb1.out hbel (Nat.le_refl _))
  have hn2 := Hn1.out.keep (hbel.mono (by omega))
  clear x0 x1 x2 x3 hw1
  obtain ⟨x0, x1, x2, x3, -, hw2⟩ := hn2.facts
  have Hn2 := Lib.hid hn2
  have HP1 := HP _ Hb2.out
  clear hbel HF1 HP Hn1 hn2
  go_wp2_with fail
  refine HP1.out.mono ?_
  rintro e w3 ⟨rfl, hbel⟩
  have Hb3 := Lib.hid (below_then Hb2.out hbel (Nat.le_refl _))
  have hn3 := Hn2.out.keep (hbel.mono (by omega))
  have Hn3 := Lib.hid hn3
  clear x0 x1 x2 x3 hw2 HP1 Hn2 hbel
  have HQ3 := Lib.hid (HQ1 w3 Hb3.out)
  clear HQ1 hn3
  go_wp2_with fail
  refine HQ3.out.mono ?_
  rintro e w4 ⟨cs, rfl, hnode, hbel⟩
  have Hb4 := Lib.hid (below_then Hb3.out hbel (Nat.le_refl _))
  have hs4 := hbel.size
  have hw3 := (hn3_lt Hn3.out)
  have hn4 := Hn3.out.keep (hbel.mono (by omega))
  obtain ⟨l1, a1, n1, c1, a2, n2, c2, a3, n3, c3, rfl⟩ := hnode.form
  have hnc := NodeQ.node _ _ hnode
  have hb5 := (Below.refl w4.heap.size w4).alloc (Nat.le_refl _) (Obj.cells #[.bool l1, .slice a1 n1 c1, .slice a2 n2 c2, .slice a3 n3 c3] 27)
  have Hnc := Lib.hid (NodeC.keep hb5 hb5.size _ _ hnc)
  have Hb5 := Lib.hid (below_then Hb4.out hb5 (Nat.le_refl _))
  have hn5 := hn4.alloc (Obj.cells #[.bool l1, .slice a1 n1 c1, .slice a2 n2 c2, .slice a3 n3 c3] 27)
  have hm5 := NodeAt.fresh w4 (.bool l1) (.slice a1 n1 c1) (.slice a2 n2 c2) (.slice a3 n3 c3)
  have HF5 := HF2 _ _ Hnc.out
  have Hn5 := Lib.hid hn5; have Hm5 := Lib.hid hm5
  have hw4 : w.heap.size < w4.heap.size := by omega
  clear hbel hnode hnc hb5 HF2 HQ3 hn4 hn5 hm5 Hn3
  go_wp2_with fail
  refine HF5.out.mono ?_
  rintro e w6 ⟨rfl, hbel⟩
  have Hb6 := Lib.hid (below_then Hb5.out hbel (Nat.le_refl _))
  have hn6 := Hn5.out.keep (hbel.mono (by simp; omega))
  have hm6 := Hm5.out.keep (hbel.mono (by simp))
  have HS6 := HS _ _ (NodeC.keep hbel hbel.size _ _ Hnc.out) Hb6.out
  obtain ⟨x0, x1, x2, x3, -, hw6⟩ := hn6.facts
  obtain ⟨y0, y1, y2, y3, -, -⟩ := hm6.facts
  have Hn6 := Lib.hid hn6
  clear hbel HF5 HS hn6 hm6 Hn5 Hm5 Hnc
  go_wp2_with fail
  refine HS6.out.mono ?_
  rintro e w7 ⟨rfl, hbel⟩
  have Hb7 := Lib.hid (below_then Hb6.out hbel (Nat.le_refl _))
  clear hbel HS6 x0 x1 x2 x3 y0 y1 y2 y3 Hn6
  have HQ4 := Lib.hid (HQ2.out w7 Hb7.out)
  clear HQ2
  go_wp2_with fail
  refine HQ4.out.mono ?_
  rintro e w8 ⟨cs, rfl, hnode, hbel⟩
  have Hb8 := Lib.hid (below_then Hb7.out hbel (Nat.le_refl _))
  obtain ⟨l1, a1, n1, c1, a2, n2, c2, a3, n3, c3, rfl⟩ := hnode.form
  have hnc := NodeQ.node _ _ hnode
  have hb9 := (Below.refl w8.heap.size w8).alloc (Nat.le_refl _) (Obj.cells #[.bool l1, .slice a1 n1 c1, .slice a2 n2 c2, .slice a3 n3 c3] 27)
  have Hnc := Lib.hid (NodeC.keep hb9 hb9.size _ _ hnc)
  have Hb9 := Lib.hid (below_then Hb8.out hb9 (Nat.le_refl _))
  have Hm9 := Lib.hid (NodeAt.fresh w8 (.bool l1) (.slice a1 n1 c1) (.slice a2 n2 c2) (.slice a3 n3 c3))
  have HF9 := HF3 _ _ Hnc.out
  clear hbel hnode hnc hb9 HF3 HQ4
  go_wp2_with fail
  refine HF9.out.mono ?_
  rintro e w10 ⟨rfl, hbel⟩
  have Hb10 := Lib.hid (below_then Hb9.out hbel (Nat.le_refl _))
  have hm10 := Hm9.out.keep (hbel.mono (by simp))
  have hnc10 := NodeC.keep hbel hbel.size _ _ Hnc.out
  have HC10 := HC3 _ _ hnc10
  have Hnc10 := Lib.hid hnc10
  obtain ⟨y0, y1, y2, y3, -, hw10⟩ := hm10.facts
  have Hm10 := Lib.hid hm10
  clear hbel HF9 HC3 hm10 hnc10 Hm9 Hnc
  go_wp2_with fail
  refine HC10.out.mono ?_
  rintro e w11 ⟨rfl, hbel⟩
  have Hb11 := Lib.hid (below_then Hb10.out hbel (Nat.le_refl _))
  have hm11 := Hm10.out.keep (hbel.mono (by omega))
  have HP11 := HP3 _ _ (NodeC.keep hbel hbel.size _ _ Hnc10.out) Hb11.out
  clear y0 y1 y2 y3
  obtain ⟨y0, y1, y2, y3, -, hw11⟩ := hm11.facts
  clear hbel HC10 HP3 hm11 Hm10 Hnc10
  go_wp2_with fail
  refine HP11.out.mono ?_
  rintro e w12 ⟨rfl, hbel⟩
  have Hb12 := Lib.hid (below_then Hb11.out hbel (Nat.le_refl _))
  clear hbel HP11 y0 y1 y2 y3
  go_wp2_with fail
  go_ret
  exact ⟨ret_bool (by simp), Hb12.out⟩


set_option maxRecDepth 100000 in
set_option maxHeartbeats 4000000 in
theorem cback_nook (n : NodeD) (v : Value) (s : List UInt8) (w : World) (hn : n.wt ≤ 1048576) (hv : NodeV w w.heap.size n v) (hT : TabAt w) (hEr : ErrsAt w) (hg : 7 < w.heap.size) (hfew : fewB n 200 = true) (hs : s.length ≤ 300) (hE : nodeE n ≠ 0) (m : NodeD) (me : Nat) (hp : parseL s = .ok m me) :
    Calls Tryz.prog 4 #[v, .string ⟨s.toArray⟩] w fun e w' => e = .returned (.bool true) ∧ Below w.heap.size w w' := by
  have hv0 := hv
  obtain ⟨l, ps, t, ks⟩ := n
  obtain ⟨ap, cp, at_, ct, ak, ck, css, rfl, -, -, -, -⟩ := hv0.open
  generalize NodeD.mk l ps t ks = n at hv hn hfew hE ⊢
  have hB0 := below_new w (Obj.cells #[.bool l, .slice ap ps.length cp, .slice at_ t.length ct, .slice ak ks.length ck] 27)
  have HL := Lib.hid (live_c _ (hT.keep hB0 hg) (Nat.lt_of_lt_of_le hg hB0.size))
  have HF := fun (w1 : World) (hb : Below w.heap.size w w1) => Lib.hid (rfew_c n _ 200 w1 (by omega) (by omega) (by omega) (hv.keep hb hb.size))
  rw [hfew] at HF
  have hss : (⟨s.toArray⟩ : ByteArray).size = s.length := rfl
  have HQ2 := fun (w1 : World) (hb : Below w.heap.size w w1) => parseT_c s w1 (by omega) (hEr.keep hb) (hT.keep hb hg) (Nat.lt_of_lt_of_le hg hb.size)
  have HP := fun (w1 : World) (hb : Below w.heap.size w w1) => Lib.hid (print_no n _ w1 hn (hv.keep hb hb.size) hE)
  have HC := fun (w1 : World) (hb : Below w.heap.size w w1) => Lib.hid (ncheck_c n _ _ w1 hn (hv.keep hb hb.size) (Nat.le_refl _))
  have hx0 : (nodeE n == 0) = false := by simpa using hE
  generalize nodeE n = x at HP HC hx0
  clear hE
  rw [hp] at HQ2
  obtain ⟨hsm, hm⟩ := parse_back hp
  have hmw : m.wt ≤ 300 := by have := wt_print m hm; rw [hsm] at hs; omega
  have hmf : fewB m 1000 = true := few_read hm (by rw [← hsm]; omega)
  have HF3 := fun (w1 : World) (cs : List Value) (h : NodeC w1 w1.heap.size m cs) => Lib.hid (rfew_c m (.agg cs.toArray) 1000 w1 (by omega) (by omega) (by omega) ⟨cs, rfl, h⟩)
  rw [hmf] at HF3
  have HC3 := fun (w1 : World) (cs : List Value) (h : NodeC w1 w1.heap.size m cs) => Lib.hid (ncheck_c m (.agg cs.toArray) _ w1 (by omega) ⟨cs, rfl, h⟩ (Nat.le_refl _))
  rw [hm] at HC3
  have HP3 := fun (w1 : World) (cs : List Value) (h : NodeC w1 w1.heap.size m cs) (hb : Below w.heap.size w w1) => Lib.hid (print_ok m (.agg cs.toArray) w1 (by omega) ⟨cs, rfl, h⟩ hm (hT.keep hb hg) (Nat.lt_of_lt_of_le hg hb.size))
  rw [← hsm] at HP3
  obtain ⟨S2, hS2⟩ : ∃ S, S = (⟨s.toArray⟩ : ByteArray) := ⟨_, rfl⟩
  rw [← hS2] at HP3 HQ2 hss ⊢
  clear hsm hm hmw hmf hS2 hp
  have HQ2 := Lib.hid HQ2
  clear hv0 hv hB0 hn hT hEr hfew
  go_enter Tryz.func4, Tryz.ntmps4
  go_wp2_with fail
  refine HL.out.mono ?_
  rintro e w1 ⟨rfl, hbel⟩
  have Hb1 := Lib.hid (below_unbox (below_box hbel))
  have hn1 := (NodeAt.fresh w (.bool l) (.slice ap ps.length cp) (.slice at_ t.length ct) (.slice ak ks.length ck)).keep (below_box hbel)
  obtain ⟨x0, x1, x2, x3, -, hw1⟩ := hn1.facts
  have Hn1 := Lib.hid hn1
  have HF1 := HF _ Hb1.out
  clear hbel HL HF hn1
  go_wp2_with fail
  refine HF1.out.mono ?_
  rintro e w2 ⟨rfl, hbel⟩
  have Hb2 := Lib.hid (below_then Hb1.out hbel (Nat.le_refl _))
  have hn2 := Hn1.out.keep (hbel.mono (by omega))
  clear x0 x1 x2 x3 hw1
  obtain ⟨x0, x1, x2, x3, -, hw2⟩ := hn2.facts
  have Hn2 := Lib.hid hn2
  have HP1 := HP _ Hb2.out
  clear hbel HF1 HP Hn1 hn2
  go_wp2_with fail
  refine HP1.out.mono ?_
  rintro e w3 ⟨rfl, hbel⟩
  have Hb3 := Lib.hid (below_then Hb2.out hbel (Nat.le_refl _))
  have hn3 := Hn2.out.keep (hbel.mono (by omega))
  have Hn3 := Lib.hid hn3
  clear x0 x1 x2 x3 hw2 HP1 Hn2 hbel
  obtain ⟨x0, x1, x2, x3, -, hw3⟩ := hn3.facts
  have HC1 := HC _ Hb3.out
  clear HC hn3
  go_wp2_with fail
  refine HC1.out.mono ?_
  rintro e w7 ⟨rfl, hbel⟩
  have Hb7 := Lib.hid (below_then Hb3.out hbel (Nat.le_refl _))
  clear hbel HC1 x0 x1 x2 x3 Hn3
  have HQ4 := Lib.hid (HQ2.out w7 Hb7.out)
  clear HQ2
  go_wp2_with fail
  refine HQ4.out.mono ?_
  rintro e w8 ⟨cs, rfl, hnode, hbel⟩
  have Hb8 := Lib.hid (below_then Hb7.out hbel (Nat.le_refl _))
  obtain ⟨l1, a1, n1, c1, a2, n2, c2, a3, n3, c3, rfl⟩ := hnode.form
  have hnc := NodeQ.node _ _ hnode
  have hb9 := (Below.refl w8.heap.size w8).alloc (Nat.le_refl _) (Obj.cells #[.bool l1, .slice a1 n1 c1, .slice a2 n2 c2, .slice a3 n3 c3] 27)
  have Hnc := Lib.hid (NodeC.keep hb9 hb9.size _ _ hnc)
  have Hb9 := Lib.hid (below_then Hb8.out hb9 (Nat.le_refl _))
  have Hm9 := Lib.hid (NodeAt.fresh w8 (.bool l1) (.slice a1 n1 c1) (.slice a2 n2 c2) (.slice a3 n3 c3))
  have HF9 := HF3 _ _ Hnc.out
  clear hbel hnode hnc hb9 HF3 HQ4
  go_wp2_with fail
  refine HF9.out.mono ?_
  rintro e w10 ⟨rfl, hbel⟩
  have Hb10 := Lib.hid (below_then Hb9.out hbel (Nat.le_refl _))
  have hm10 := Hm9.out.keep (hbel.mono (by simp))
  have hnc10 := NodeC.keep hbel hbel.size _ _ Hnc.out
  have HC10 := HC3 _ _ hnc10
  have Hnc10 := Lib.hid hnc10
  obtain ⟨y0, y1, y2, y3, -, hw10⟩ := hm10.facts
  have Hm10 := Lib.hid hm10
  clear hbel HF9 HC3 hm10 hnc10 Hm9 Hnc
  go_wp2_with fail
  refine HC10.out.mono ?_
  rintro e w11 ⟨rfl, hbel⟩
  have Hb11 := Lib.hid (below_then Hb10.out hbel (Nat.le_refl _))
  have hm11 := Hm10.out.keep (hbel.mono (by omega))
  have HP11 := HP3 _ _ (NodeC.keep hbel hbel.size _ _ Hnc10.out) Hb11.out
  clear y0 y1 y2 y3
  obtain ⟨y0, y1, y2, y3, -, hw11⟩ := hm11.facts
  clear hbel HC10 HP3 hm11 Hm10 Hnc10
  go_wp2_with fail
  refine HP11.out.mono ?_
  rintro e w12 ⟨rfl, hbel⟩
  have Hb12 := Lib.hid (below_then Hb11.out hbel (Nat.le_refl _))
  clear hbel HP11 y0 y1 y2 y3
  go_wp2_with fail
  go_ret
  exact ⟨ret_bool (by simp), Hb12.out⟩



set_option maxRecDepth 100000 in
set_option maxHeartbeats 2000000 in
theorem cback_walk (n : NodeD) (v : Value) (s : List UInt8) (w : World) (hn : n.wt ≤ 1048576) (hv : NodeV w w.heap.size n v) (hT : TabAt w) (hEr : ErrsAt w) (hg : 7 < w.heap.size) (hsl : s.length ≤ 9223372036854775807) :
    Calls Tryz.prog 4 #[v, .string ⟨s.toArray⟩] w fun e w' => e = .returned (.bool true) ∧ Below w.heap.size w w' := by
  by_cases hall : fewB n 200 = true ∧ s.length ≤ 300
  · obtain ⟨hf, hs⟩ := hall
    cases hp : parseL s with
    | ok m me =>
      by_cases hE : nodeE n = 0
      · exact cback_okok n v s w hn hv hT hEr hg hf hs hE m me hp
      · exact cback_nook n v s w hn hv hT hEr hg hf hs hE m me hp
    | bad p er =>
      by_cases hE : nodeE n = 0
      · exact cback_okbad n v s w hn hv hT hEr hg hf hs hE p er hp
      · exact cback_nobad n v s w hn hv hT hEr hg hf hs hE p er hp
  · have hv0 := hv
    obtain ⟨l, ps, t, ks⟩ := n
    obtain ⟨ap, cp, at_, ct, ak, ck, css, rfl, -, -, -, -⟩ := hv0.open
    generalize NodeD.mk l ps t ks = n at hv hn hall ⊢
    have hB0 := below_new w (Obj.cells #[.bool l, .slice ap ps.length cp, .slice at_ t.length ct, .slice ak ks.length ck] 27)
    have HL := Lib.hid (live_c _ (hT.keep hB0 hg) (Nat.lt_of_lt_of_le hg hB0.size))
    have HF := fun (w1 : World) (hb : Below w.heap.size w w1) => Lib.hid (rfew_c n _ 200 w1 (by omega) (by omega) (by omega) (hv.keep hb hb.size))
    have hss : (⟨s.toArray⟩ : ByteArray).size = s.length := rfl
    generalize (⟨s.toArray⟩ : ByteArray) = S at hss ⊢
    have hbig : fewB n 200 = true → 300 < (s.length : Int) := fun h => by
      have : ¬ s.length ≤ 300 := fun h' => hall ⟨h, h'⟩
      omega
    clear hall
    cases hfew : fewB n 200 with
    | false =>
      rw [hfew] at HF
      clear hv0 hv hB0 hn hT hfew hbig
      go_enter Tryz.func4, Tryz.ntmps4
      go_wp2_with fail
      refine HL.out.mono ?_
      rintro e w1 ⟨rfl, hbel⟩
      obtain ⟨x0, x1, x2, x3⟩ := box_keep (below_box hbel)
      have Hb1 := Lib.hid (below_unbox (below_box hbel))
      have HF1 := HF _ Hb1.out
      clear hbel HL HF
      go_wp2_with fail
      refine HF1.out.mono ?_
      rintro e w2 ⟨rfl, hbel⟩
      have Hb2 := Lib.hid (below_then Hb1.out hbel (Nat.le_refl _))
      clear hbel HF1 x0 x1 x2 x3
      go_wp2_with fail
      go_ret
      exact ⟨rfl, Hb2.out⟩
    | true =>
      rw [hfew] at HF
      have hbig := hbig hfew
      clear hv0 hv hB0 hn hT hfew
      go_enter Tryz.func4, Tryz.ntmps4
      go_wp2_with fail
      refine HL.out.mono ?_
      rintro e w1 ⟨rfl, hbel⟩
      obtain ⟨x0, x1, x2, x3⟩ := box_keep (below_box hbel)
      have Hb1 := Lib.hid (below_unbox (below_box hbel))
      have HF1 := HF _ Hb1.out
      clear hbel HL HF
      go_wp2_with fail
      refine HF1.out.mono ?_
      rintro e w2 ⟨rfl, hbel⟩
      have Hb2 := Lib.hid (below_then Hb1.out hbel (Nat.le_refl _))
      clear hbel HF1 x0 x1 x2 x3
      go_wp2_with fail
      go_ret
      exact ⟨rfl, Hb2.out⟩

end Go.Proofs.YtmhgbocejjnoaaaGreatDoor
