/- Parts of the proof, one behind the other: RR7, RDL, RCV, RW3, RW4. -/
import Derived.Test.YtmhgbocejjnoaaaDoorQ4
import Derived.Test.YtmhgbocejjnoaaaDoorQ10
import Derived.Test.YtmhgbocejjnoaaaDoorQ9
import Derived.Test.YtmhgbocejjnoaaaDoorQ1
/- Walks: the reference of node: left, Few. -/
namespace Go.Proofs.YtmhgbocejjnoaaaDoor
open Go.RowKit Go.Redl
set_option linter.unusedVariables false

/-- What properties' lengths count. -/
def propsQ : List PropD → Nat
  | [] => 0
  | p :: ps => p.1.length / 64 + p.2.length / 64 + propsQ ps
mutual
/-- How many more there might be. -/
def leftN : NodeD → Int → Int
  | .mk _ ps t ks, m => if m - (1 + t.length + ps.length : Nat) - (propsQ ps : Nat) < 0 then -1 else leftK ks (m - (1 + t.length + ps.length : Nat) - (propsQ ps : Nat))
def leftK : List NodeD → Int → Int
  | [], m => m
  | k :: ks, m => if leftN k m < 0 then -1 else leftK ks (leftN k m)
end
def fewB (n : NodeD) (m : Int) : Bool := decide (0 ≤ leftN n m)
theorem propsQ_append (a b : List PropD) : propsQ (a ++ b) = propsQ a + propsQ b := by
  induction a with
  | nil => simp [propsQ]
  | cons p ps ih => simp only [List.cons_append, propsQ, ih]; omega
theorem propsQ_succ {ps : List PropD} {k : Nat} (h : k < ps.length) : propsQ (ps.take (k + 1)) = propsQ (ps.take k) + (ps[k].1.length / 64 + ps[k].2.length / 64) := by
  rw [List.take_succ_eq_append_getElem h, propsQ_append]; simp [propsQ]
theorem propsQ_le (ps : List PropD) : propsQ ps ≤ propsWt ps := by
  induction ps with
  | nil => simp [propsQ]
  | cons p ps ih => simp only [propsQ, propsWt]; omega
mutual
theorem leftN_le : ∀ (n : NodeD) (m : Int), 0 ≤ m → -1 ≤ leftN n m ∧ leftN n m ≤ m
  | .mk l ps t ks, m, h => by
    simp only [leftN]
    split
    · omega
    · have := leftK_le ks (m - (1 + t.length + ps.length : Nat) - (propsQ ps : Nat)) (by omega)
      omega
theorem leftK_le : ∀ (ks : List NodeD) (m : Int), 0 ≤ m → -1 ≤ leftK ks m ∧ leftK ks m ≤ m
  | [], m, h => by simp only [leftK]; omega
  | k :: ks, m, h => by
    simp only [leftK]
    have h1 := leftN_le k m h
    split
    · omega
    · have := leftK_le ks (leftN k m) (by omega)
      omega
end
theorem leftK_step {ks : List NodeD} {k : Nat} {m : Int} (h : k < ks.length) : leftK (ks.drop k) m = if leftN ks[k] m < 0 then -1 else leftK (ks.drop (k + 1)) (leftN ks[k] m) := by
  conv => lhs; rw [List.drop_eq_getElem_cons h]
  simp only [leftK]
theorem div64 (n : Nat) : ((n : Int)).tdiv 64 = ((n / 64 : Nat) : Int) := by rw [Int.tdiv_eq_ediv_of_nonneg (by omega)]; omega
theorem left_eq {z : Int} {ks : List NodeD} {l : Bool} {ps : List PropD} {t : List Int} {most : Int} (hz : z = most - (1 + t.length + ps.length : Nat) - (propsQ ps : Nat)) :
    leftN (.mk l ps t ks) most = if z < 0 then -1 else leftK ks z := by subst hz; rfl

set_option maxRecDepth 100000 in
set_option maxHeartbeats 2000000 in
theorem rleft_c (m : Nat) : ∀ (n : NodeD) (v : Value) (most : Int) (w : World), n.wt ≤ m → n.wt ≤ 100000000 → 0 ≤ most → most ≤ 1000000 → NodeV w w.heap.size n v →
    Calls Tryd.prog 17 #[v, .int .i64 most] w fun e w' => e = .returned (.int .i64 (leftN n most)) ∧ Below w.heap.size w w' := by
  induction m with
  | zero => intro n v most w hm; have := wt_pos n; omega
  | succ m ih =>
    intro n v most w hm hn hm0 hm1 hv
    obtain ⟨l, ps, t, ks⟩ := n
    obtain ⟨ap, cp, at_, ct, ak, ck, css, rfl, hp, ht, hk, hc⟩ := hv.open
    have IH := Lib.hid ih
    have hwt : 1 + propsWt ps + t.length + wtAll ks = (NodeD.mk l ps t ks).wt := rfl
    have hw2 : wtAll ks ≤ 100000000 := by omega
    have hw3 : wtAll ks ≤ m := by omega
    have hw4 : propsWt ps ≤ 100000000 := by omega
    have hkl := wtAll_len ks
    have htl : t.length ≤ 100000000 := by omega
    have hpl := propsWt_len ps
    have Hl := fun z (hz : z = most - (1 + t.length + ps.length : Nat) - (propsQ ps : Nat)) => Lib.hid (left_eq (l := l) (ks := ks) hz)
    clear ih hv hwt hm hn ht
    go_enter Tryd.func17, Tryd.ntmps17
    go_wp2_with fail
    go_loopw [1, 22] (fun s i wr => ∃ k : Nat, k ≤ ps.length ∧ i = .int .i64 k ∧ s = .int .i64 (most - (1 + t.length + ps.length : Nat) - (propsQ (ps.take k) : Nat)) ∧ Below (w.heap.size + 1) (w.alloc (Obj.cells #[.bool l, .slice ap ps.length cp, .slice at_ t.length ct, .slice ak ks.length ck] 26)) wr) (fun _ i _ => ps.length - (intOf i).toNat)
    case atStart => exact ⟨0, Nat.zero_le _, rfl, by simp [propsQ], Below.refl _ _⟩
    case round =>
      obtain ⟨k, hkn, rfl, rfl, hbel⟩ := hrel
      have hr2 := hp.keep (below_unbox hbel) (below_unbox hbel).size
      have hcl := propsQ_le (ps.take k)
      have hck := propsWt_take ps k
      by_cases hlt : k < ps.length
      · have Hb := Lib.hid hbel
        have Hss := Lib.hid (propsQ_succ hlt)
        have hcw := propsWt_mem (List.getElem_mem hlt)
        obtain ⟨b, off, rfl, hb, g0, g1⟩ := hr2.prop_at k hlt
        generalize ps[k] = p at hcw g0 g1 Hss
        obtain ⟨p1, p2⟩ := p
        simp only at hcw g0 g1 Hss
        generalize propsQ (ps.take k) = T at hcl Hss ⊢
        have hTl : T ≤ 100000000 := by omega
        have hl1 : p1.length ≤ 100000000 := by omega
        have hl2 : p2.length ≤ 100000000 := by omega
        have hb2 : (⟨p1.toArray⟩ : ByteArray).size = p1.length := rfl
        clear hbel hcl hck hcw
        go_wp2_with fail
        go_roundw
        case rel => exact ⟨k + 1, by omega, by go_num, by rw [Hss.out]; go_num, below_box_more Hb.out⟩
        case measure => simp [intOf]; omega
      · obtain rfl : k = ps.length := by omega
        rw [List.take_length] at hcl ⊢
        obtain ⟨x0, x1, x2, x3⟩ := box_keep hbel
        have Hb := Lib.hid (below_unbox hbel)
        have Hl1 := Hl _ rfl
        have hz1 : most - (1 + t.length + ps.length : Nat) - (propsQ ps : Nat) ≤ 1000000 := by omega
        generalize most - (1 + t.length + ps.length : Nat) - (propsQ ps : Nat) = z at Hl1 hz1 ⊢
        clear hbel hcl hck Hl
        by_cases hz : z < 0
        · go_wp2_with fail
          go_ret
          exact ⟨ret_int (by rw [Hl1.out, if_pos hz]), Hb.out⟩
        · have Hl2 : Hid (leftN (.mk l ps t ks) most = leftK ks z) := by
            show leftN _ _ = _
            rw [Hl1.out, if_neg hz]
          have hz0 : 0 ≤ z := by omega
          clear hz Hl1
          go_wp2_with fail
          go_loopw [1, 43] (fun s i wr => ∃ (k : Nat) (y : Int), k ≤ ks.length ∧ 0 ≤ y ∧ y ≤ 1000000 ∧ i = .int .i64 k ∧ s = .int .i64 y ∧ leftK (ks.drop k) y = leftK ks z ∧ Below w.heap.size w wr) (fun _ i _ => ks.length - (intOf i).toNat)
          case atStart => exact ⟨0, z, Nat.zero_le _, hz0, hz1, rfl, rfl, by simp, Hb.out⟩
          case round =>
            obtain ⟨k, y, hkn, hy0, hy1, rfl, rfl, hke, hbel⟩ := hrel
            have hr2 := hk.keep hbel hbel.size
            have hc2 := KidsC.keep hbel hbel.size ks css hc
            have Hb2 := Lib.hid hbel
            have Hke := Lib.hid hke
            clear hbel hke x0 x1 x2 x3
            by_cases hlt : k < ks.length
            · have Hss := Lib.hid (leftK_step (m := y) hlt)
              have hkw := wtAll_mem (List.getElem_mem hlt)
              obtain ⟨b, off, l', a1, n1, c1, a2, n2, c2, a3, n3, c3, rfl, hb, hnc, g0, g1, g2, g3⟩ := hr2.kid_at hc2 k hlt
              generalize ks[k] = q at hnc hkw Hss
              have hB := (((Below.refl wr.heap.size wr).alloc (Nat.le_refl _) (Obj.cells #[.bool l', .slice a1 n1 c1, .slice a2 n2 c2, .slice a3 n3 c3] 26)))
              have HC := Lib.hid (IH.out q (.agg #[.bool l', .slice a1 n1 c1, .slice a2 n2 c2, .slice a3 n3 c3]) y _ (by omega) (by omega) hy0 hy1 ⟨_, rfl, NodeC.keep hB hB.size _ _ hnc⟩)
              have hql := leftN_le q y hy0
              generalize leftN q y = x at HC Hss hql
              obtain ⟨hq0, hq1⟩ := hql
              by_cases hx : x < 0
              · have Hr : Hid (leftN (.mk l ps t ks) most = -1) := by
                  show leftN _ _ = _
                  rw [Hl2.out, ← Hke.out, Hss.out, if_pos hx]
                go_wp2_with fail
                refine HC.out.mono ?_
                rintro e w2 ⟨rfl, hbel⟩
                have Hb3 := Lib.hid ((Hb2.out.alloc Hb2.out.size _).trans (hbel.mono (by simp; have := Hb2.out.size; omega)))
                clear hbel
                go_wp2_with fail
                go_ret
                exact ⟨ret_int Hr.out.symm, Hb3.out⟩
              · have Hr : Hid (leftK (ks.drop (k + 1)) x = leftK ks z) := by
                  show leftK _ _ = _
                  rw [← Hke.out, Hss.out, if_neg hx]
                go_wp2_with fail
                refine HC.out.mono ?_
                rintro e w2 ⟨rfl, hbel⟩
                have Hb3 := Lib.hid ((Hb2.out.alloc Hb2.out.size _).trans (hbel.mono (by simp; have := Hb2.out.size; omega)))
                clear hbel
                go_wp2_with fail
                go_roundw
                case rel => exact ⟨k + 1, x, by omega, by omega, by omega, by go_num, rfl, Hr.out, Hb3.out⟩
                case measure => simp [intOf]; omega
            · obtain rfl : k = ks.length := by omega
              go_wp2_with fail
              go_ret
              exact ⟨ret_int (by rw [Hl2.out, ← Hke.out, List.drop_length]; rfl), Hb2.out⟩

set_option maxRecDepth 100000 in
set_option maxHeartbeats 1000000 in
theorem rfew_c (n : NodeD) (v : Value) (most : Int) (w : World) (hn : n.wt ≤ 100000000) (h0 : 0 ≤ most) (h1 : most ≤ 1000000) (hv : NodeV w w.heap.size n v) :
    Calls Tryd.prog 7 #[v, .int .i64 most] w fun e w' => e = .returned (.bool (fewB n most)) ∧ Below w.heap.size w w' := by
  have hv0 := hv
  obtain ⟨l, ps, t, ks⟩ := n
  obtain ⟨ap, cp, at_, ct, ak, ck, css, rfl, -, -, -, -⟩ := hv0.open
  generalize NodeD.mk l ps t ks = n at hv hn ⊢
  have hB0 := ((Below.refl w.heap.size w).alloc (Nat.le_refl _) (Obj.cells #[.bool l, .slice ap ps.length cp, .slice at_ t.length ct, .slice ak ks.length ck] 26))
  have HS := Lib.hid (rleft_c _ n _ most _ (Nat.le_refl _) hn h0 h1 (hv.keep hB0 hB0.size))
  have Hf : Hid (fewB n most = decide (0 ≤ leftN n most)) := rfl
  generalize leftN n most = x at HS Hf
  clear hv0 hv hB0 hn
  go_enter Tryd.func7, Tryd.ntmps7
  go_wp2_with fail
  refine HS.out.mono ?_
  rintro e w1 ⟨rfl, hbel⟩
  have Hb1 := Lib.hid (below_unbox (below_box hbel))
  clear hbel HS
  go_wp2_with fail
  go_ret
  exact ⟨ret_bool Hf.out.symm, Hb1.out⟩

end Go.Proofs.YtmhgbocejjnoaaaDoor
/- Plain laws: what is read is written so; where an error stands; a tree that is read is small. -/
namespace Go.Proofs.YtmhgbocejjnoaaaDoor
open Go.RowKit Go.Redl
set_option linter.unusedVariables false

theorem stands_drop {s : List UInt8} {a : Nat} {c : UInt8} (h : standsB s a c = true) : s.drop a = c :: s.drop (a + 1) := by
  have hl := stands_lt h
  unfold standsB at h
  rw [List.drop_eq_getElem_cons hl]
  rw [List.getElem?_eq_getElem hl] at h
  simp at h
  rw [h]
theorem drop_run (p : UInt8 → Bool) : ∀ l : List UInt8, l.dropWhile p = l.drop (l.takeWhile p).length
  | [] => rfl
  | x :: l => by
    rw [List.dropWhile_cons, List.takeWhile_cons]
    cases h : p x with
    | true => simp [drop_run p l]
    | false => simp
theorem run_drop (p : UInt8 → Bool) (s : List UInt8) (a : Nat) : s.drop a = (s.drop a).takeWhile p ++ s.drop (a + ((s.drop a).takeWhile p).length) := by
  conv => lhs; rw [← List.takeWhile_append_dropWhile (p := p) (l := s.drop a), drop_run p, List.drop_drop]
theorem takeRun_all (p : UInt8 → Bool) (l : List UInt8) : (l.takeWhile p).all p = true := by
  induction l with
  | nil => rfl
  | cons x l ih =>
    rw [List.takeWhile_cons]
    cases h : p x with
    | true => simp only [if_true, List.all_cons, h, Bool.true_and]; exact ih
    | false => simp
theorem rdP_back : ∀ (f : Nat) (s : List UInt8) (a : Nat) (out : List PropD) (last : List UInt8) (ps : List PropD) (e : Nat), rdP f s a out last = .ok ps e →
    ∃ p qs, ps = out ++ p :: qs ∧ s.drop (a + 1) = propL p ++ (propsC 44 qs ++ 125 :: s.drop e) ∧ propsGo last (p :: qs) = 0
  | 0, s, a, out, last, ps, e, h => by unfold rdP at h; cases h
  | f + 1, s, a, out, last, ps, e, h => by
    have hkd := run_drop lowB s (a + 1)
    have hka := takeRun_all lowB (s.drop (a + 1))
    have hke : (s.drop (a + 1)).takeWhile lowB = keyAt s (a + 1) := rfl
    rw [hke] at hkd hka
    unfold rdP at h
    generalize keyAt s (a + 1) = key at h hkd hka
    by_cases c1 : key = [] ∨ standsB s (a + 1 + key.length) 58 = false
    · rw [if_pos c1] at h; cases h
    rw [if_neg c1] at h
    have h58 := stands_drop (s := s) (a := a + 1 + key.length) (c := 58) (by
      cases hh : standsB s (a + 1 + key.length) 58 with
      | true => rfl
      | false => exact absurd (.inr hh) c1)
    have hvd := run_drop valcB s (a + 1 + key.length + 1)
    have hva := takeRun_all valcB (s.drop (a + 1 + key.length + 1))
    have hve : (s.drop (a + 1 + key.length + 1)).takeWhile valcB = valAt s (a + 1 + key.length + 1) := rfl
    rw [hve] at hvd hva
    generalize valAt s (a + 1 + key.length + 1) = val at h hvd hva
    by_cases c2 : out.length = 16
    · rw [if_pos c2] at h; cases h
    rw [if_neg c2] at h
    by_cases c3 : 16 < key.length ∨ 32 < val.length
    · rw [if_pos c3] at h; cases h
    rw [if_neg c3] at h
    by_cases c4 : leB key last = true
    · rw [if_pos c4] at h; cases h
    rw [if_neg c4] at h
    have hne : key ≠ [] := fun e => c1 (.inl e)
    have hpos : 1 ≤ key.length := List.length_pos_iff.2 hne
    have hkb : keyB key = true := by unfold keyB; simp only [Bool.and_eq_true, decide_eq_true_eq]; exact ⟨⟨hpos, by omega⟩, hka⟩
    have hvb : valB val = true := by unfold valB; simp only [Bool.and_eq_true, decide_eq_true_eq]; exact ⟨by omega, hva⟩
    have hg : ∀ qs, propsGo last ((key, val) :: qs) = propsGo key qs := by
      intro qs
      simp only [propsGo, hkb, hvb, Bool.and_self, if_true]
      rw [if_neg c4]
    by_cases c5 : standsB s (a + 1 + key.length + 1 + val.length) 125 = true
    · rw [if_pos c5] at h
      have h125 := stands_drop c5
      injection h with h1 h2
      refine ⟨(key, val), [], h1.symm, ?_, by rw [hg]; rfl⟩
      rw [hkd, h58, hvd, h125, ← h2]
      simp [propL, propsC]
    rw [if_neg c5] at h
    by_cases c6 : standsB s (a + 1 + key.length + 1 + val.length) 44 = false
    · rw [if_pos c6] at h; cases h
    rw [if_neg c6] at h
    have h44 := stands_drop (s := s) (a := a + 1 + key.length + 1 + val.length) (c := 44) (by simpa using c6)
    obtain ⟨p, qs, h1, h2, h3⟩ := rdP_back f s _ _ _ ps e h
    refine ⟨(key, val), p :: qs, by rw [h1]; simp, ?_, by rw [hg]; exact h3⟩
    rw [hkd, h58, hvd, h44, h2]
    simp [propL, propsC]
theorem rdH_back {s : List UInt8} {a e : Nat} {ps : List PropD} (h : rdH s a = .ok ps e) : s.drop a = propsL ps ++ s.drop e ∧ propsE ps = 0 := by
  unfold rdH at h
  by_cases c : standsB s a 123 = true
  · rw [if_pos c] at h
    have hl := rdP_len _ s a [] [] ps e (by simp) h
    obtain ⟨p, qs, h1, h2, h3⟩ := rdP_back _ s a [] [] ps e h
    rw [List.nil_append] at h1
    subst h1
    refine ⟨?_, ?_⟩
    · rw [stands_drop c, h2]
      unfold propsL
      rw [if_neg (by simp)]
      simp [propsC]
    · unfold propsE
      rw [if_neg (by omega)]
      exact h3
  · rw [if_neg c] at h
    injection h with h1 h2
    subst h1; subst h2
    exact ⟨by simp [propsL], by unfold propsE; simp [propsGo]⟩
theorem rdL_back {s : List UInt8} {a e : Nat} {t : List Int} (ha : a < s.length) (h : rdL s a = .ok t e) : s.drop a = quoteL t ++ s.drop e ∧ (∀ z ∈ t, validB z = true) := by
  obtain ⟨hl1, hl2⟩ := leafEnd_le s a ha
  have hw := rdL_wf h
  unfold rdL at h
  have hq : s.drop a = (s.take (leafEnd s a)).drop a ++ s.drop (leafEnd s a) := by
    have := List.take_append_drop (leafEnd s a - a) (s.drop a)
    rw [List.drop_drop, show a + (leafEnd s a - a) = leafEnd s a by omega] at this
    rw [List.drop_take]
    exact this.symm
  generalize leafEnd s a = e' at h hq
  generalize (s.take e').drop a = q at h hq
  rcases unq_cases q with ⟨zs, hz, hqe, hu⟩ | ⟨p, -, hu⟩
  · rw [hu] at h
    simp only [if_pos] at h
    injection h with h1 h2
    subst h1; subst h2
    rw [hqe] at hq
    exact ⟨hq, hw⟩
  · rw [hu] at h
    rw [if_neg (by show ¬ ((11 : Int) = 0); decide)] at h
    cases h
theorem kidsE_snoc : ∀ (ks : List NodeD) (k : NodeD), kidsE ks = 0 → nodeE k = 0 → kidsE (ks ++ [k]) = 0
  | [], k, _, h => by rw [List.nil_append]; unfold kidsE; rw [if_neg (by rw [h]; simp)]; rfl
  | x :: ks, k, h, h2 => by
    obtain ⟨h3, h4⟩ := kidsE_ok h
    have := kidsE_snoc ks k h4 h2
    rw [List.cons_append]
    unfold kidsE
    rw [if_neg (by rw [h3]; simp)]
    exact this
theorem checkE_of {t : List Int} (h : ∀ c ∈ t, validB c = true) : checkE t = 0 := by
  unfold checkE
  rw [if_neg]
  simp only [List.any_eq_true, not_exists, not_and]
  intro x hx
  simp [h x hx]
mutual
/-- What is read is written so, and may be. -/
theorem rdN_back : ∀ (f : Nat) (s : List UInt8) (a : Nat) (n : NodeD) (e : Nat), a ≤ s.length → rdN f s a = .ok n e → s.drop a = printL n ++ s.drop e ∧ nodeE n = 0
  | 0, s, a, n, e, ha, h => by unfold rdN at h; cases h
  | f + 1, s, a, n, e, ha, h => by
    unfold rdN at h
    cases hh : rdH s a with
    | bad p er => rw [hh] at h; cases h
    | ok ps a1 =>
      have h1 := rdH_pos ha hh
      obtain ⟨hd, hp⟩ := rdH_back hh
      rw [hh] at h
      simp only at h
      by_cases c1 : standsB s a1 34 = true
      · rw [if_pos c1] at h
        cases hl : rdL s a1 with
        | bad p er => rw [hl] at h; cases h
        | ok t e' =>
          obtain ⟨hq, hv⟩ := rdL_back (stands_lt c1) hl
          rw [hl] at h
          injection h with h1 h2
          subst h1; subst h2
          refine ⟨by rw [hd, hq]; simp [printL], ?_⟩
          unfold nodeE ownE
          simp [hp, checkE_of hv, kidsE]
      rw [if_neg c1] at h
      by_cases c2 : standsB s a1 91 = false
      · rw [if_pos c2] at h; cases h
      rw [if_neg c2] at h
      have h91 : standsB s a1 91 = true := by simpa using c2
      have hlt := stands_lt h91
      cases hk : rdK f s (a1 + 1) [] with
      | bad p er => rw [hk] at h; cases h
      | ok ks e' =>
        obtain ⟨ks', hks, hq, hv⟩ := rdK_back f s (a1 + 1) [] ks e' (by omega) rfl hk
        rw [List.nil_append] at hks
        subst hks
        rw [hk] at h
        injection h with h1 h2
        subst h1; subst h2
        refine ⟨by rw [hd, stands_drop h91, hq]; simp [printL], ?_⟩
        unfold nodeE ownE
        simp [hp, checkE, hv]
theorem rdK_back : ∀ (f : Nat) (s : List UInt8) (a : Nat) (out ks : List NodeD) (e : Nat), a ≤ s.length → kidsE out = 0 → rdK f s a out = .ok ks e → ∃ ks', ks = out ++ ks' ∧ s.drop a = printK ks' ++ 93 :: s.drop e ∧ kidsE ks = 0
  | 0, s, a, out, ks, e, ha, ho, h => by unfold rdK at h; cases h
  | f + 1, s, a, out, ks, e, ha, ho, h => by
    unfold rdK at h
    by_cases c1 : standsB s a 93 = true
    · rw [if_pos c1] at h
      injection h with h1 h2
      subst h1; subst h2
      exact ⟨[], by simp, by rw [stands_drop c1]; simp [printK], ho⟩
    rw [if_neg c1] at h
    cases hn : rdN f s a with
    | bad p er => rw [hn] at h; cases h
    | ok k e' =>
      have h1 := rdN_pos f s a k e' ha hn
      obtain ⟨hd, hv⟩ := rdN_back f s a k e' ha hn
      rw [hn] at h
      obtain ⟨ks', h2, h3, h4⟩ := rdK_back f s e' _ ks e h1.2 (kidsE_snoc _ _ ho hv) h
      refine ⟨k :: ks', by rw [h2]; simp, ?_, h4⟩
      rw [hd, h3]
      simp [printK]
end
theorem parse_back {s : List UInt8} {n : NodeD} {e : Nat} (h : parseL s = .ok n e) : s = printL n ∧ nodeE n = 0 := by
  unfold parseL at h
  cases hr : rdN (2 * s.length + 1) s 0 with
  | bad p er => rw [hr] at h; cases h
  | ok m e' =>
    rw [hr] at h
    simp only at h
    have hp := rdN_pos _ s 0 m e' (by omega) hr
    obtain ⟨h1, h2⟩ := rdN_back _ s 0 m e' (by omega) hr
    split at h
    · cases h
    · injection h with h3 h4
      subst h3
      refine ⟨?_, h2⟩
      have : e' = s.length := by omega
      subst this
      simpa using h1

/-- Where an error stands. -/
theorem rdP_bad : ∀ (f : Nat) (s : List UInt8) (a : Nat) (out : List PropD) (last : List UInt8) (p : Nat) (er : Int), a < s.length → rdP f s a out last = .bad p er → p ≤ s.length
  | 0, s, a, out, last, p, er, ha, h => by unfold rdP at h; injection h with h1 h2; omega
  | f + 1, s, a, out, last, p, er, ha, h => by
    have hk := keyAt_len s (a + 1) (by omega)
    unfold rdP at h
    generalize keyAt s (a + 1) = key at h hk
    by_cases c1 : key = [] ∨ standsB s (a + 1 + key.length) 58 = false
    · rw [if_pos c1] at h; injection h with h1 h2; omega
    rw [if_neg c1] at h
    have h58 := stands_lt (s := s) (a := a + 1 + key.length) (c := 58) (by
      cases hh : standsB s (a + 1 + key.length) 58 with
      | true => rfl
      | false => exact absurd (.inr hh) c1)
    have hv := valAt_len s (a + 1 + key.length + 1) (by omega)
    generalize valAt s (a + 1 + key.length + 1) = val at h hv
    by_cases c2 : out.length = 16
    · rw [if_pos c2] at h; injection h with h1 h2; omega
    rw [if_neg c2] at h
    by_cases c3 : 16 < key.length ∨ 32 < val.length
    · rw [if_pos c3] at h; injection h with h1 h2; omega
    rw [if_neg c3] at h
    by_cases c4 : leB key last = true
    · rw [if_pos c4] at h; injection h with h1 h2; omega
    rw [if_neg c4] at h
    by_cases c5 : standsB s (a + 1 + key.length + 1 + val.length) 125 = true
    · rw [if_pos c5] at h; cases h
    rw [if_neg c5] at h
    by_cases c6 : standsB s (a + 1 + key.length + 1 + val.length) 44 = false
    · rw [if_pos c6] at h; injection h with h1 h2; omega
    rw [if_neg c6] at h
    have h44 := stands_lt (s := s) (a := a + 1 + key.length + 1 + val.length) (c := 44) (by simpa using c6)
    exact rdP_bad f s _ _ _ p er h44 h
theorem rdH_bad {s : List UInt8} {a p : Nat} {er : Int} (h : rdH s a = .bad p er) : p ≤ s.length := by
  unfold rdH at h
  by_cases c : standsB s a 123 = true
  · rw [if_pos c] at h
    exact rdP_bad _ s a [] [] p er (stands_lt c) h
  · rw [if_neg c] at h; cases h
theorem rdL_bad {s : List UInt8} {a p : Nat} {er : Int} (ha : a < s.length) (h : rdL s a = .bad p er) : p ≤ s.length := by
  obtain ⟨hl1, hl2⟩ := leafEnd_le s a ha
  unfold rdL at h
  rcases unq_cases ((s.take (leafEnd s a)).drop a) with ⟨zs, hz, hqe, hu⟩ | ⟨q, hq, hu⟩
  · rw [hu] at h; cases h
  · rw [hu] at h
    rw [if_neg (by show ¬ ((11 : Int) = 0); decide)] at h
    injection h with h1 h2
    simp only [List.length_drop, List.length_take] at hq
    simp only [Int.toNat_natCast] at h1
    omega
mutual
theorem rdN_bad : ∀ (f : Nat) (s : List UInt8) (a p : Nat) (er : Int), a ≤ s.length → rdN f s a = .bad p er → p ≤ s.length
  | 0, s, a, p, er, ha, h => by unfold rdN at h; injection h with h1 h2; omega
  | f + 1, s, a, p, er, ha, h => by
    unfold rdN at h
    cases hh : rdH s a with
    | bad q er' => have := rdH_bad hh; rw [hh] at h; injection h with h1 h2; omega
    | ok ps a1 =>
      have h1 := rdH_pos ha hh
      rw [hh] at h
      simp only at h
      by_cases c1 : standsB s a1 34 = true
      · rw [if_pos c1] at h
        cases hl : rdL s a1 with
        | bad q er' => have := rdL_bad (stands_lt c1) hl; rw [hl] at h; injection h with h1 h2; omega
        | ok t e' => rw [hl] at h; cases h
      rw [if_neg c1] at h
      by_cases c2 : standsB s a1 91 = false
      · rw [if_pos c2] at h; injection h with h1 h2; omega
      rw [if_neg c2] at h
      have hlt := stands_lt (s := s) (a := a1) (c := 91) (by simpa using c2)
      cases hk : rdK f s (a1 + 1) [] with
      | bad q er' => have := rdK_bad f s (a1 + 1) [] q er' (by omega) hk; rw [hk] at h; injection h with h1 h2; omega
      | ok ks e' => rw [hk] at h; cases h
theorem rdK_bad : ∀ (f : Nat) (s : List UInt8) (a : Nat) (out : List NodeD) (p : Nat) (er : Int), a ≤ s.length → rdK f s a out = .bad p er → p ≤ s.length
  | 0, s, a, out, p, er, ha, h => by unfold rdK at h; injection h with h1 h2; omega
  | f + 1, s, a, out, p, er, ha, h => by
    unfold rdK at h
    by_cases c1 : standsB s a 93 = true
    · rw [if_pos c1] at h; cases h
    rw [if_neg c1] at h
    cases hn : rdN f s a with
    | bad q er' => have := rdN_bad f s a q er' ha hn; rw [hn] at h; injection h with h1 h2; omega
    | ok k e' =>
      have h1 := rdN_pos f s a k e' ha hn
      rw [hn] at h
      exact rdK_bad f s e' _ p er h1.2 h
end
theorem parse_bad {s : List UInt8} {p : Nat} {er : Int} (h : parseL s = .bad p er) : p ≤ s.length := by
  unfold parseL at h
  cases hr : rdN (2 * s.length + 1) s 0 with
  | bad q er' => have := rdN_bad _ s 0 q er' (by omega) hr; rw [hr] at h; injection h with h1 h2; omega
  | ok m e' =>
    rw [hr] at h
    simp only at h
    split at h
    · injection h with h1 h2; omega
    · cases h

/-- A tree that may be holds no more than its text. -/
theorem propsQ_zero : ∀ (ps : List PropD) (last : List UInt8), propsGo last ps = 0 → propsQ ps = 0 ∧ 3 * ps.length ≤ propsWt ps
  | [], last, _ => by simp [propsQ]
  | p :: qs, last, h => by
    simp only [propsGo] at h
    split at h
    · rename_i hk
      simp only [Bool.and_eq_true] at hk
      split at h
      · cases h
      · have ih := propsQ_zero qs p.1 h
        obtain ⟨h1, h2⟩ := hk
        unfold keyB at h1
        unfold valB at h2
        simp only [Bool.and_eq_true, decide_eq_true_eq] at h1 h2
        simp only [propsQ, propsWt, List.length_cons]
        omega
    · cases h
theorem qb_pos (z : Int) : 1 ≤ (qb z).length := by
  unfold qb
  split
  · simp
  · simp [escL]
theorem body_pos (zs : List Int) : zs.length ≤ (bodyL zs).length := by
  induction zs with
  | nil => simp
  | cons z zs ih =>
    have := qb_pos z
    simp only [bodyL, List.flatMap_cons, List.length_append, List.length_cons] at *
    omega
mutual
theorem left_ge : ∀ (n : NodeD) (m : Int), nodeE n = 0 → ((printL n).length : Int) ≤ m → m - ((printL n).length : Int) ≤ leftN n m
  | .mk l ps t ks, m, h, hm => by
    obtain ⟨ho, hk⟩ := nodeE_ok h
    obtain ⟨hp, ht, hl1, hl2⟩ := ownE_ok ho
    obtain ⟨hq, hw⟩ := propsQ_zero ps [] (propsE_ok hp).2
    have hpl : ps.length ≤ (propsL ps).length := by
      unfold propsL
      split
      · omega
      · simp [propsC_len]; omega
    have hb := body_pos t
    unfold leftN
    rw [hq]
    cases l with
    | true =>
      have : ks = [] := List.eq_nil_of_length_eq_zero (hl1 rfl)
      subst this
      have e : (printL (.mk true ps t [])).length = (propsL ps).length + (bodyL t).length + 2 := by simp [printL, quoteL]; omega
      rw [e] at hm ⊢
      rw [if_neg (by omega)]
      simp only [leftK]
      omega
    | false =>
      have ht0 := hl2 rfl
      subst ht0
      have e : (printL (.mk false ps [] ks)).length = (propsL ps).length + (printK ks).length + 2 := by simp [printL]; omega
      rw [e] at hm ⊢
      have ih := leftK_ge ks (m - (1 + ([] : List Int).length + ps.length : Nat) - (0 : Nat)) hk (by simp; omega)
      rw [if_neg (by simp; omega)]
      simp only [List.length_nil] at ih ⊢
      omega
theorem leftK_ge : ∀ (ks : List NodeD) (m : Int), kidsE ks = 0 → ((printK ks).length : Int) ≤ m → m - ((printK ks).length : Int) ≤ leftK ks m
  | [], m, h, hm => by simp [leftK, printK]
  | k :: ks, m, h, hm => by
    obtain ⟨h1, h2⟩ := kidsE_ok h
    simp only [printK, List.length_append] at hm ⊢
    have a := left_ge k m h1 (by omega)
    have b := leftK_ge ks (leftN k m) h2 (by omega)
    unfold leftK
    rw [if_neg (by omega)]
    omega
end
theorem few_read {n : NodeD} {m : Int} (h : nodeE n = 0) (hm : ((printL n).length : Int) ≤ m) : fewB n m = true := by
  have := left_ge n m h hm
  unfold fewB
  simp; omega

/-- Kids in brackets. -/
theorem parse_kids {a b : NodeD} (ha : nodeE a = 0) (hb : nodeE b = 0) : parseL (91 :: (printL a ++ (printL b ++ [93]))) = .ok (.mk false [] [] [a, b]) (91 :: (printL a ++ (printL b ++ [93]))).length := by
  have hn : nodeE (.mk false [] [] [a, b]) = 0 := by
    unfold nodeE ownE
    simp [propsE, propsGo, checkE, kidsE, ha, hb]
  have h := parse_whole hn
  have e : printL (.mk false [] [] [a, b]) = 91 :: (printL a ++ (printL b ++ [93])) := by simp [printL, propsL, printK]
  rwa [e] at h
theorem parse_two {a b : NodeD} (ha : nodeE a = 0) : parseL (printL a ++ printL b) = .bad (printL a).length 11 := by
  have h := rdN_print a [] (printL b) (2 * (printL a ++ printL b).length + 1) ha (by simp)
  obtain ⟨x, r, hx, -⟩ := printL_head b
  simp only [List.nil_append, List.length_nil, Nat.zero_add] at h
  unfold parseL
  rw [h]
  simp only
  rw [if_pos (by rw [hx]; simp)]
theorem parse_open {a b : NodeD} (ha : nodeE a = 0) (hb : nodeE b = 0) : parseL (91 :: (printL a ++ printL b)) = .bad (1 + (printL a).length + (printL b).length) 11 := by
  have hn : nodeE (.mk false [] [] [a, b]) = 0 := by
    unfold nodeE ownE
    simp [propsE, propsGo, checkE, kidsE, ha, hb]
  have h := parse_less hn
  have e : printL (.mk false [] [] [a, b]) = (91 :: (printL a ++ printL b)) ++ [93] := by simp [printL, propsL, printK]
  rw [e, List.dropLast_concat] at h
  rw [h]
  congr 1
  simp; omega

end Go.Proofs.YtmhgbocejjnoaaaDoor
/- Plain laws: each node's text in that of the tree, as the law looks for it. -/
namespace Go.Proofs.YtmhgbocejjnoaaaDoor
open Go.RowKit Go.Redl
set_option linter.unusedVariables false

theorem extract_list (l : List UInt8) (a b : Nat) : (⟨l.toArray⟩ : ByteArray).extract a b = ⟨((l.take b).drop a).toArray⟩ := by
  rw [ByteArray.extract_mk]
  simp [List.drop_take]
/-- A node on the trail: it is found, may be printed, and its text stands there. -/
theorem part_at {n : NodeD} (h : nodeE n = 0) {x : Spot} (hx : x ∈ trailN n [] 0) : atN n x.1 = some x.2.1 ∧ nodeE x.2.1 = 0 ∧ x.2.2 + (printL x.2.1).length ≤ (printL n).length ∧
    (⟨(printL n).toArray⟩ : ByteArray).extract x.2.2 (x.2.2 + (printL x.2.1).length) = ⟨(printL x.2.1).toArray⟩ := by
  obtain ⟨r, h1, h2⟩ := trailN_at n [] 0 x hx
  obtain ⟨h3, pre, post, h4, h5⟩ := trailN_text n [] [] [] h x (by simpa using hx)
  have h6 := trailN_high h hx
  simp only [List.nil_append, List.append_nil] at h1 h4
  refine ⟨by rw [h1]; exact h2, h3, by omega, ?_⟩
  rw [extract_list, h4, ← h5]
  congr 2
  rw [← List.append_assoc, show pre.length + (printL x.2.1).length = (pre ++ printL x.2.1).length by simp, List.take_left, List.drop_left]
/-- A leaf's text ends with what it says, quoted. -/
theorem leaf_at {ps : List PropD} {t : List Int} {ks : List NodeD} (h : nodeE (.mk true ps t ks) = 0) : checkE t = 0 ∧ (quoteL t).length ≤ (printL (.mk true ps t ks)).length ∧
    (⟨(printL (.mk true ps t ks)).toArray⟩ : ByteArray).extract ((printL (.mk true ps t ks)).length - (quoteL t).length) (printL (.mk true ps t ks)).length = ⟨(quoteL t).toArray⟩ := by
  obtain ⟨ho, -⟩ := nodeE_ok h
  obtain ⟨-, ht, -, -⟩ := ownE_ok ho
  have e : printL (.mk true ps t ks) = propsL ps ++ quoteL t := by simp [printL]
  refine ⟨checkE_of ht, by rw [e]; simp, ?_⟩
  rw [extract_list, List.take_length, e]
  congr 2
  rw [show (propsL ps ++ quoteL t).length - (quoteL t).length = (propsL ps).length by simp, List.drop_left]
mutual
/-- How many there are. -/
theorem trailN_len : ∀ (n : NodeD) (p : List Int) (b : Nat), (trailN n p b).length ≤ n.wt
  | .mk l ps t ks, p, b => by
    unfold trailN
    have := trailK_len ks 0 p (b + (propsL ps).length + 1)
    simp only [List.length_cons, NodeD.wt]
    omega
theorem trailK_len : ∀ (ks : List NodeD) (i : Nat) (p : List Int) (b : Nat), (trailK ks i p b).length ≤ wtAll ks
  | [], i, p, b => by unfold trailK; simp
  | k :: ks, i, p, b => by
    unfold trailK
    have h1 := trailN_len k (p ++ [(i : Int)]) b
    have h2 := trailK_len ks (i + 1) p (b + (printL k).length)
    simp only [List.length_append, wtAll]
    omega
end
/-- From a place on no text behind begins ahead of it. -/
theorem rise_from {n : NodeD} (h : nodeE n = 0) {k : Nat} (hk : k < (trailN n [] 0).length) : ∀ x ∈ (trailN n [] 0).drop (k + 1), (trailN n [] 0)[k].2.2 ≤ x.2.2 := by
  have h1 := trailN_rise n [] 0 h
  have h2 := h1.sublist (List.drop_sublist k _)
  rw [List.drop_eq_getElem_cons hk] at h2
  exact (List.pairwise_cons.1 h2).1

end Go.Proofs.YtmhgbocejjnoaaaDoor
/- Walks: node's own. -/
namespace Go.Proofs.YtmhgbocejjnoaaaDoor
open Go.RowKit Go.Redl
set_option linter.unusedVariables false

set_option maxRecDepth 100000 in
set_option maxHeartbeats 2000000 in
theorem own_c (l : Bool) (ps : List PropD) (t : List Int) (ks : List NodeD) (v : Value) (B : Nat) (w : World) (hB : B ≤ w.heap.size) (hn : (NodeD.mk l ps t ks).wt ≤ 100000000) (hv : NodeV w B (.mk l ps t ks) v) :
    Calls Tryd.prog 40 #[v] w fun e w' => e = .returned (.int .i64 (ownE l ps t ks.length)) ∧ Below w.heap.size w w' := by
  obtain ⟨ap, cp, at_, ct, ak, ck, css, rfl, hp, ht, hk, hc⟩ := hv.open
  have hwt : 1 + propsWt ps + t.length + wtAll ks = (NodeD.mk l ps t ks).wt := rfl
  have hw4 : propsWt ps ≤ 1000000000 := by omega
  have hkl := wtAll_len ks
  have htl : t.length ≤ 100000000 := by omega
  have hkl2 : ks.length ≤ 100000000 := by omega
  have hB0 := ((Below.refl w.heap.size w).alloc (Nat.le_refl _) (Obj.cells #[.bool l, .slice ap ps.length cp, .slice at_ t.length ct, .slice ak ks.length ck] 26))
  have HP := Lib.hid (pcheck_c (.slice ap ps.length cp) w.heap.size ps (w.alloc (Obj.cells #[.bool l, .slice ap ps.length cp, .slice at_ t.length ct, .slice ak ks.length ck] 26)) ⟨ap, cp, rfl, hp.keep (hB0.mono hB) hB⟩ (by simp) hw4)
  have HT := fun W (hW : Below w.heap.size w W) => Lib.hid (check_c _ _ t W (ht.keep (hW.mono hB) (Nat.le_refl _)))
  have Ho := Lib.hid (ownE_cases l ps t ks.length)
  clear hv hp ht hwt hn hB0 hk hc
  by_cases hpe : propsE ps ≠ 0
  · have Hr : Hid (ownE l ps t ks.length = propsE ps) := by
      show ownE l ps t ks.length = _
      rw [Ho.out, if_pos hpe]
    have hne : (propsE ps != 0) = true := by simpa using hpe
    clear hpe
    go_enter Tryd.func40, Tryd.ntmps40
    go_wp2_with fail
    refine HP.out.mono ?_
    rintro e w1 ⟨rfl, hbel⟩
    have Hb := Lib.hid (below_unbox (below_box hbel))
    clear hbel HP
    go_wp2_with fail
    go_ret
    exact ⟨ret_int Hr.out.symm, Hb.out⟩
  · have hpe : propsE ps = 0 := by simpa using hpe
    rw [hpe] at HP
    cases hbad : (l && decide (0 < ks.length)) || (!l && decide (0 < t.length)) with
    | true =>
      have Hr : Hid (ownE l ps t ks.length = 7) := by
        show ownE l ps t ks.length = _
        rw [Ho.out, hpe, hbad]; rfl
      clear hpe
      cases l with
      | true =>
        have hb2 : 0 < ks.length := by simpa using hbad
        clear hbad
        go_enter Tryd.func40, Tryd.ntmps40
        go_wp2_with fail
        refine HP.out.mono ?_
        rintro e w1 ⟨rfl, hbel⟩
        obtain ⟨x0, x1, x2, x3⟩ := box_keep (below_box hbel)
        have Hb := Lib.hid (below_unbox (below_box hbel))
        clear hbel HP
        go_wp2_with fail
        go_ret
        exact ⟨ret_int Hr.out.symm, Hb.out⟩
      | false =>
        have hb2 : 0 < t.length := by simpa using hbad
        clear hbad
        go_enter Tryd.func40, Tryd.ntmps40
        go_wp2_with fail
        refine HP.out.mono ?_
        rintro e w1 ⟨rfl, hbel⟩
        obtain ⟨x0, x1, x2, x3⟩ := box_keep (below_box hbel)
        have Hb := Lib.hid (below_unbox (below_box hbel))
        clear hbel HP
        go_wp2_with fail
        go_ret
        exact ⟨ret_int Hr.out.symm, Hb.out⟩
    | false =>
      have Hr : Hid (ownE l ps t ks.length = checkE t) := by
        show ownE l ps t ks.length = _
        rw [Ho.out, hpe, hbad]; rfl
      clear hpe
      cases l with
      | true =>
        have hb2 : ks.length ≤ 0 := by simp at hbad; simp [hbad]
        clear hbad
        go_enter Tryd.func40, Tryd.ntmps40
        go_wp2_with fail
        refine HP.out.mono ?_
        rintro e w1 ⟨rfl, hbel⟩
        obtain ⟨x0, x1, x2, x3⟩ := box_keep (below_box hbel)
        have Hb := Lib.hid (below_unbox (below_box hbel))
        clear hbel HP
        go_wp2_with fail
        refine (HT _ Hb.out).out.mono ?_
        rintro e w2 ⟨rfl, rfl⟩
        go_wp2_with fail
        go_ret
        exact ⟨ret_int Hr.out.symm, Hb.out⟩
      | false =>
        have hb2 : t.length ≤ 0 := by simp at hbad; simp [hbad]
        clear hbad
        go_enter Tryd.func40, Tryd.ntmps40
        go_wp2_with fail
        refine HP.out.mono ?_
        rintro e w1 ⟨rfl, hbel⟩
        obtain ⟨x0, x1, x2, x3⟩ := box_keep (below_box hbel)
        have Hb := Lib.hid (below_unbox (below_box hbel))
        clear hbel HP
        go_wp2_with fail
        refine (HT _ Hb.out).out.mono ?_
        rintro e w2 ⟨rfl, rfl⟩
        go_wp2_with fail
        go_ret
        exact ⟨ret_int Hr.out.symm, Hb.out⟩

end Go.Proofs.YtmhgbocejjnoaaaDoor
/- Walks: node's walk: a function asked at each node, in order, till it says no. -/
namespace Go.Proofs.YtmhgbocejjnoaaaDoor
open Go.RowKit Go.Redl
set_option linter.unusedVariables false

section
variable {S : Type} (go : NodeD → Bool) (st : NodeD → S → S)
mutual
/-- What such a walk answers, and the state that it leaves. -/
def eachS : NodeD → S → Bool × S
  | .mk l ps t ks, s => if go (.mk l ps t ks) then kidsS ks (st (.mk l ps t ks) s) else (false, st (.mk l ps t ks) s)
def kidsS : List NodeD → S → Bool × S
  | [], s => (true, s)
  | k :: ks, s => if (eachS k s).1 then kidsS ks (eachS k s).2 else (false, (eachS k s).2)
end
theorem kidsS_step {ks : List NodeD} {k : Nat} {s : S} (h : k < ks.length) : kidsS go st (ks.drop k) s = if (eachS go st ks[k] s).1 then kidsS go st (ks.drop (k + 1)) (eachS go st ks[k] s).2 else (false, (eachS go st ks[k] s).2) := by
  conv => lhs; rw [List.drop_eq_getElem_cons h]
  simp only [kidsS]
end

/-- The asked function's contract. -/
def AskC {S : Type} (Φ : S → World → Prop) (bad : TypeId → Bool) (B cb : Nat) (caps : Array Value) (go : NodeD → Bool) (st : NodeD → S → S) (M : Nat) : Prop :=
  ∀ (n : NodeD) (v : Value) (s : S) (W : World), n.wt ≤ M → NodeV W B n v → B ≤ W.heap.size → Φ s W →
    Calls Tryd.prog cb (#[v] ++ caps) W fun e w' => e = .returned (.bool (go n)) ∧ Φ (st n s) w' ∧ Spares bad B W w'
/-- The walk's two variables. -/
def EnvAt (W : World) (tb eb cb : Nat) (caps : Array Value) : Prop :=
  W.heap[tb]? = some (Obj.cells #[.func (.func cb) #[] caps] 32 (0, 0)) ∧ W.heap[eb]? = some (Obj.cells #[.func (.func 59) #[] #[.pointer (some ⟨tb, 0, none⟩), .pointer (some ⟨eb, 0, none⟩)]] 32 (0, 0))
theorem EnvAt.keep {W W' : World} {tb eb cb B : Nat} {caps : Array Value} {bad : TypeId → Bool} (h : EnvAt W tb eb cb caps) (hs : Spares bad B W W') (hb : bad 32 = false) : EnvAt W' tb eb cb caps :=
  ⟨hs.block _ _ _ _ h.1 hb, hs.block _ _ _ _ h.2 hb⟩
theorem EnvAt.cells {W : World} {tb eb cb : Nat} {caps : Array Value} (h : EnvAt W tb eb cb caps) :
    W.cell? ⟨tb, 0, none⟩ = some (.func (.func cb) #[] caps) ∧ W.cell? ⟨eb, 0, none⟩ = some (.func (.func 59) #[] #[.pointer (some ⟨tb, 0, none⟩), .pointer (some ⟨eb, 0, none⟩)]) ∧ tb < W.heap.size ∧ eb < W.heap.size :=
  ⟨by rw [cell_of_row _ _ _ _ _ _ h.1]; rfl, by rw [cell_of_row _ _ _ _ _ _ h.2]; rfl, (Array.getElem?_eq_some_iff.1 h.1).1, (Array.getElem?_eq_some_iff.1 h.2).1⟩
/-- What a call of the walk's own function leaves. -/
def EachP {S : Type} (Φ : S → World → Prop) (bad : TypeId → Bool) (B : Nat) (W : World) (b : Bool) (s : S) (e : Ending) (w' : World) : Prop := e = .returned (.bool b) ∧ Φ s w' ∧ Spares bad B W w'
/-- What IndexFunc leaves there. -/
def IdxP {S : Type} (Φ : S → World → Prop) (bad : TypeId → Bool) (B : Nat) (W : World) (b : Bool) (s : S) (e : Ending) (w' : World) : Prop := ∃ i : Int, e = .returned (.int .i64 i) ∧ decide (0 ≤ i) = !b ∧ Φ s w' ∧ Spares bad B W w'

section
variable {S : Type} {Φ : S → World → Prop} {bad : TypeId → Bool} {B tb eb cb : Nat} {caps : Array Value} {go : NodeD → Bool} {st : NodeD → S → S} {M : Nat}

set_option maxRecDepth 100000 in
set_option maxHeartbeats 1000000 in
theorem kid_c (hΦ : ∀ s W W', Φ s W → Below W.heap.size W W' → Φ s W') (hbad : bad 32 = false) (q : NodeD) (v : Value) (s : S) (W : World) (hE : EnvAt W tb eb cb caps) (hv : NodeV W B q v) (hB : B ≤ W.heap.size) (hs : Φ s W)
    (hC : ∀ W', NodeV W' B q v → B ≤ W'.heap.size → EnvAt W' tb eb cb caps → Φ s W' → Calls Tryd.prog 59 #[v, .pointer (some ⟨tb, 0, none⟩), .pointer (some ⟨eb, 0, none⟩)] W' (EachP Φ bad B W' (eachS go st q s).1 (eachS go st q s).2)) :
    Calls Tryd.prog 61 #[v, .pointer (some ⟨eb, 0, none⟩)] W (EachP Φ bad B W (!(eachS go st q s).1) (eachS go st q s).2) := by
  have hv0 := hv
  obtain ⟨l, ps, t, ks⟩ := q
  obtain ⟨ap, cp, at_, ct, ak, ck, css, rfl, -, -, -, -⟩ := hv0.open
  generalize NodeD.mk l ps t ks = q at hv hC ⊢
  generalize eachS go st q s = r at hC ⊢
  obtain ⟨b, s'⟩ := r
  have hS0 : Spares bad B W (W.alloc (Obj.cells #[.bool l, .slice ap ps.length cp, .slice at_ t.length ct, .slice ak ks.length ck] 26)) := (Spares.refl hB).alloc hB _
  have HC := Lib.hid (hC _ (hv.keep hS0.below (Nat.le_refl _)) (Nat.le_trans hB hS0.size) (hE.keep hS0 hbad) (hΦ _ _ _ hs ((Below.refl _ _).alloc (Nat.le_refl _) _)))
  obtain ⟨e1, e2, l1, l2⟩ := hE.cells
  have HS0 := Lib.hid hS0
  clear hC hv0 hv hE hs hS0 e1
  go_enter Tryd.func61, Tryd.ntmps61
  go_wp2_with fail
  refine HC.out.mono ?_
  rintro e w1 ⟨rfl, hφ, hsp⟩
  have Hφ := Lib.hid hφ
  have HS := Lib.hid (HS0.out.trans hsp)
  clear hφ hsp HC
  go_wp2_with fail
  go_ret
  exact ⟨rfl, Hφ.out, HS.out⟩

set_option maxRecDepth 100000 in
set_option maxHeartbeats 1000000 in
theorem idxKids_c (ks : List NodeD) (a : Option Addr) (cap : Nat) (css : List Value) (s : S) (W : World) (hE : EnvAt W tb eb cb caps) (hbad : bad 32 = false) (hr : RowA W B 4 a ks.length cap css) (hk : KidsC W B ks css) (hB : B ≤ W.heap.size) (hs : Φ s W)
    (hC : ∀ (q : NodeD) (v : Value) (s : S) (W' : World), q ∈ ks → NodeV W' B q v → B ≤ W'.heap.size → EnvAt W' tb eb cb caps → Φ s W' → Calls Tryd.prog 61 #[v, .pointer (some ⟨eb, 0, none⟩)] W' (EachP Φ bad B W' (!(eachS go st q s).1) (eachS go st q s).2)) :
    Calls Tryd.prog 74 #[.slice a ks.length cap, .func (.func 61) #[] #[.pointer (some ⟨eb, 0, none⟩)]] W (IdxP Φ bad B W (kidsS go st ks s).1 (kidsS go st ks s).2) := by
  have HC := Lib.hid hC; have HE := Lib.hid hE
  have hm := props_len hr
  have Hst := fun (s' : S) (W' : World) (h : Φ s' W') => h
  have Hs := Lib.hid hs
  obtain ⟨R, hR⟩ : ∃ R, R = kidsS go st ks s := ⟨_, rfl⟩
  rw [← hR]
  have HR := Lib.hid hR
  clear hC hE hs Hst hR
  go_enter Tryd.func74, Tryd.ntmps74
  go_wp2_with fail
  go_loopw [8] (fun i wr => ∃ (k : Nat) (s' : S), k ≤ ks.length ∧ i = .int .i64 k ∧ kidsS go st (ks.drop k) s' = R ∧ Φ s' wr ∧ Spares bad B W wr) (fun i _ => ks.length - (intOf i).toNat)
  case atStart => exact ⟨0, s, Nat.zero_le _, rfl, HR.out.symm, Hs.out, Spares.refl hB⟩
  case round =>
    obtain ⟨k, s', hkn, rfl, hke, hφ, hsp⟩ := hrel
    have hr2 := hr.keep hsp.below (Nat.le_refl _)
    have hc2 := KidsC.keep hsp.below (Nat.le_refl _) ks css hk
    have Hke := Lib.hid hke; have Hφ := Lib.hid hφ; have Hsp := Lib.hid hsp
    clear hke hφ hsp
    by_cases hlt : k < ks.length
    · have Hss := Lib.hid (kidsS_step go st (s := s') hlt)
      have hmem := List.getElem_mem hlt
      obtain ⟨b, off, l', a1, n1, c1, a2, n2, c2, a3, n3, c3, rfl, hb, hnc, g0, g1, g2, g3⟩ := hr2.kid_at hc2 k hlt
      generalize ks[k] = q at hnc hmem Hss
      have HC1 := Lib.hid (HC.out q (.agg #[.bool l', .slice a1 n1 c1, .slice a2 n2 c2, .slice a3 n3 c3]) s' wr hmem ⟨_, rfl, hnc⟩ (Nat.le_trans hB Hsp.out.size) (HE.out.keep Hsp.out hbad) Hφ.out)
      have he : ∀ args w, (callFunc 61 args).run Tryd.prog w = .ok (.enter 61 args) w := by intro args w; kernel_rfl
      generalize eachS go st q s' = r at HC1 Hss
      obtain ⟨b', s2⟩ := r
      clear hmem hnc hr2 hc2
      cases b' with
      | true =>
        have HR2 : Hid (kidsS go st (ks.drop (k + 1)) s2 = R) := by
          show kidsS go st _ _ = R
          rw [← Hke.out, Hss.out]; rfl
        go_wp2_with fail
        refine HC1.out.mono ?_
        rintro e w1 ⟨rfl, hφ, hsp⟩
        have Hφ2 := Lib.hid hφ; have Hsp2 := Lib.hid (Hsp.out.trans hsp)
        clear hφ hsp
        go_wp2_with fail
        go_roundw
        case rel => exact ⟨k + 1, s2, by omega, by go_num, HR2.out, Hφ2.out, Hsp2.out⟩
        case measure => simp [intOf]; omega
      | false =>
        have HR2 : Hid ((false, s2) = R) := by
          show _ = R
          rw [← Hke.out, Hss.out]; rfl
        go_wp2_with fail
        refine HC1.out.mono ?_
        rintro e w1 ⟨rfl, hφ, hsp⟩
        have Hφ2 := Lib.hid hφ; have Hsp2 := Lib.hid (Hsp.out.trans hsp)
        clear hφ hsp
        go_wp2_with fail
        go_ret
        refine ⟨(k : Int), rfl, ?_, ?_, Hsp2.out⟩
        · rw [← HR2.out]; simp
        · rw [← HR2.out]; exact Hφ2.out
    · obtain rfl : k = ks.length := by omega
      have HR2 : Hid ((true, s') = R) := by
        show _ = R
        rw [← Hke.out, List.drop_length]; rfl
      go_wp2_with fail
      go_ret
      refine ⟨-1, rfl, ?_, ?_, Hsp.out⟩
      · rw [← HR2.out]; rfl
      · rw [← HR2.out]; exact Hφ.out

set_option maxRecDepth 100000 in
set_option maxHeartbeats 1000000 in
theorem hasKids_c (a : Option Addr) (n cap : Nat) (b : Bool) (s' : S) (W : World) (f : Value)
    (hC : Calls Tryd.prog 74 #[.slice a n cap, f] W (IdxP Φ bad B W b s')) :
    Calls Tryd.prog 60 #[.slice a n cap, f] W (EachP Φ bad B W (!b) s') := by
  have HC := Lib.hid hC
  clear hC
  go_enter Tryd.func60, Tryd.ntmps60
  go_wp2_with fail
  refine HC.out.mono ?_
  rintro e w1 ⟨i, rfl, hi, hφ, hsp⟩
  have Hφ := Lib.hid hφ; have Hsp := Lib.hid hsp; have Hi := Lib.hid hi
  clear hφ hsp hi HC
  go_wp2_with fail
  go_ret
  exact ⟨ret_bool Hi.out, Hφ.out, Hsp.out⟩

set_option maxRecDepth 100000 in
set_option maxHeartbeats 2000000 in
theorem each_c (hΦ : ∀ s W W', Φ s W → Below W.heap.size W W' → Φ s W') (hb1 : bad 32 = false) (hb2 : bad 26 = false) (hcb : ∀ args w, (callFunc cb args).run Tryd.prog w = .ok (.enter cb args) w) (hA : AskC Φ bad B cb caps go st M) (m : Nat) :
    ∀ (n : NodeD) (v : Value) (s : S) (W : World), n.wt ≤ m → n.wt ≤ M → NodeV W B n v → B ≤ W.heap.size → EnvAt W tb eb cb caps → Φ s W →
      Calls Tryd.prog 59 #[v, .pointer (some ⟨tb, 0, none⟩), .pointer (some ⟨eb, 0, none⟩)] W (EachP Φ bad B W (eachS go st n s).1 (eachS go st n s).2) := by
  induction m with
  | zero => intro n v s W hm; have := wt_pos n; omega
  | succ m ih =>
    intro n v s W hm hM hv hB hE hs
    have IH := Lib.hid ih
    have hv0 := hv
    obtain ⟨l, ps, t, ks⟩ := n
    obtain ⟨ap, cp, at_, ct, ak, ck, css, rfl, hp, ht, hk, hc⟩ := hv0.open
    have hwt : 1 + propsWt ps + t.length + wtAll ks = (NodeD.mk l ps t ks).wt := rfl
    have hw3 : ∀ q ∈ ks, q.wt ≤ m ∧ q.wt ≤ M := fun q hq => by have := wtAll_mem hq; omega
    have Hw3 := Lib.hid hw3
    have hR : Hid (eachS go st (.mk l ps t ks) s = if go (.mk l ps t ks) then kidsS go st ks (st (.mk l ps t ks) s) else (false, st (.mk l ps t ks) s)) := rfl
    have hS0 : Spares bad B W (W.alloc (Obj.cells #[.bool l, .slice ap ps.length cp, .slice at_ t.length ct, .slice ak ks.length ck] 26)) := (Spares.refl hB).alloc hB _
    have HA := Lib.hid (hA (.mk l ps t ks) _ s _ hM (hv.keep hS0.below (Nat.le_refl _)) (Nat.le_trans hB hS0.size) (hΦ _ _ _ hs ((Below.refl _ _).alloc (Nat.le_refl _) _)))
    obtain ⟨e1, e2, l1, l2⟩ := hE.cells
    have HS0 := Lib.hid hS0; have HE := Lib.hid hE
    have Hk := Lib.hid hk; have Hc := Lib.hid hc
    generalize st (.mk l ps t ks) s = s1 at HA hR
    obtain ⟨R, hRR⟩ : ∃ R, R = eachS go st (.mk l ps t ks) s := ⟨_, rfl⟩
    rw [← hRR]
    have HR : Hid (R = if go (.mk l ps t ks) then kidsS go st ks s1 else (false, s1)) := by
      show R = _
      rw [hRR, hR.out]
    clear hv0 hv hE hs hS0 hp ht hk hc hwt hw3 hm hM hR hRR ih hA
    cases hgo : go (.mk l ps t ks) with
    | false =>
      rw [hgo] at HA HR
      go_enter Tryd.func59, Tryd.ntmps59
      go_wp2_with fail
      refine HA.out.mono ?_
      rintro e w1 ⟨rfl, hφ, hsp⟩
      have Hφ := Lib.hid hφ; have HS := Lib.hid (HS0.out.trans hsp)
      clear hφ hsp HA
      go_wp2_with fail
      go_ret
      refine ⟨?_, ?_, HS.out⟩
      · rw [HR.out]; rfl
      · rw [HR.out]; exact Hφ.out
    | true =>
      rw [hgo] at HA HR
      have HK := fun (w1 : World) (hφ : Φ s1 w1) (hs : Spares bad B W w1) => Lib.hid (hasKids_c _ _ _ _ _ _ _ (idxKids_c (go := go) (st := st) ks ak ck css s1 w1 (HE.out.keep hs hb1) hb1 (Hk.out.keep hs.below (Nat.le_refl _)) (KidsC.keep hs.below (Nat.le_refl _) ks css Hc.out) (Nat.le_trans hB hs.size) hφ
        (fun q v s W' hq hv hB' hE' hφ' => kid_c hΦ hb1 q v s W' hE' hv hB' hφ' (fun W2 hv2 hB2 hE2 hφ2 => IH.out q v s W2 (Hw3.out q hq).1 (Hw3.out q hq).2 hv2 hB2 hE2 hφ2))))
      have HR2 : Hid (R = kidsS go st ks s1) := by
        show R = _
        rw [HR.out]; rfl
      generalize kidsS go st ks s1 = r at HK HR2
      obtain ⟨b, s2⟩ := r
      clear HR Hw3 IH Hk Hc HE
      have hmf : ∀ (fn : Fn) (first cap : Array Value) (w : World), (Instr.makeFunc fn first cap).run Tryd.prog w = .ok (.func fn first cap) w := fun _ _ _ _ => rfl
      go_enter Tryd.func59, Tryd.ntmps59
      go_wp2_with fail
      refine HA.out.mono ?_
      rintro e w1 ⟨rfl, hφ, hsp⟩
      obtain ⟨x0, x1, x2, x3⟩ := hsp.box4 hb2
      have HS := Lib.hid (HS0.out.trans hsp)
      have HK1 := HK w1 hφ HS.out
      clear hφ hsp HA HK
      go_wp2_with fail
      refine HK1.out.mono ?_
      rintro e w2 ⟨rfl, hφ, hsp⟩
      have Hφ := Lib.hid hφ; have HS2 := Lib.hid (HS.out.trans hsp)
      clear hφ hsp HK1 x0 x1 x2 x3
      cases b <;> (
        go_wp2_with fail
        go_ret
        refine ⟨?_, ?_, HS2.out⟩
        · rw [HR2.out]; rfl
        · rw [HR2.out]; exact Hφ.out)
end

end Go.Proofs.YtmhgbocejjnoaaaDoor
