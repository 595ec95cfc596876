/- Walks: the reference's writing of a tree. -/
import Derived.Test.YtmhgbocejjnoaaaDoorRR5
namespace Go.Proofs.YtmhgbocejjnoaaaDoor
open Go.RowKit Go.Redl
set_option linter.unusedVariables false

theorem str_prop (T K V : List UInt8) (c : UInt8) : ((⟨T.toArray⟩ : ByteArray) ++ ⟨#[c]⟩) ++ (((⟨K.toArray⟩ : ByteArray) ++ ⟨#[58]⟩) ++ ⟨V.toArray⟩) = ⟨(T ++ c :: propL (K, V)).toArray⟩ := by
  rw [show (⟨#[c]⟩ : ByteArray) = ⟨[c].toArray⟩ from rfl, show (⟨#[58]⟩ : ByteArray) = ⟨[58].toArray⟩ from rfl, bytes_append, bytes_append, bytes_append, bytes_append]
  simp [propL]
theorem str_snoc (T : List UInt8) (c : UInt8) : ((⟨T.toArray⟩ : ByteArray) ++ ⟨#[c]⟩) = ⟨(T ++ [c]).toArray⟩ := by
  rw [show (⟨#[c]⟩ : ByteArray) = ⟨[c].toArray⟩ from rfl, bytes_append]
theorem nodeE_zero {l : Bool} {ps : List PropD} {t : List Int} {ks : List NodeD} (h : nodeE (.mk l ps t ks) = 0) : propsE ps = 0 ∧ checkE t = 0 ∧ kidsE ks = 0 ∧ (l = true → ks = []) ∧ (l = false → t = []) := by
  simp only [nodeE] at h
  split at h
  · contradiction
  · rename_i h0
    have h0 : ownE l ps t ks.length = 0 := by simpa using h0
    unfold ownE at h0
    split at h0
    · contradiction
    · rename_i h1
      have h1 : propsE ps = 0 := by simpa using h1
      split at h0
      · cases h0
      · rename_i h2
        refine ⟨h1, h0, h, fun hl => ?_, fun hl => ?_⟩
        · subst hl; simp at h2; exact h2
        · subst hl; simp at h2; exact h2
theorem kidsE_mem {ks : List NodeD} (h : kidsE ks = 0) : ∀ k ∈ ks, nodeE k = 0 := by
  induction ks with
  | nil => simp
  | cons q ks ih =>
    simp only [kidsE] at h
    split at h
    · contradiction
    · rename_i h0
      have h0 : nodeE q = 0 := by simpa using h0
      intro k hk
      rcases List.mem_cons.1 hk with rfl | hk
      · exact h0
      · exact ih h k hk

set_option maxRecDepth 100000 in
set_option maxHeartbeats 4000000 in
theorem rtext_c (m : Nat) : ∀ (n : NodeD) (v : Value) (w : World), n.wt ≤ m → n.wt ≤ 1048576 → nodeE n = 0 → NodeV w w.heap.size n v →
    Calls Tryd.prog 22 #[v] w fun e w' => e = .returned (.string ⟨(printL n).toArray⟩) ∧ Below w.heap.size w w' := by
  induction m with
  | zero => intro n v w hm; have := wt_pos n; omega
  | succ m ih =>
    intro n v w hm hn hE hv
    obtain ⟨l, ps, t, ks⟩ := n
    obtain ⟨ap, cp, at_, ct, ak, ck, css, rfl, hp, ht, hk, hc⟩ := hv.open
    obtain ⟨-, hte, hke, hlk, hlt0⟩ := nodeE_zero hE
    have IH := Lib.hid ih
    have hwt : 1 + propsWt ps + t.length + wtAll ks = (NodeD.mk l ps t ks).wt := rfl
    have hw2 : wtAll ks ≤ 1048576 := by omega
    have hw3 : wtAll ks ≤ m := by omega
    have hw4 : propsWt ps ≤ 1048576 := by omega
    have hkl := wtAll_len ks
    have htl : t.length ≤ 1048576 := by omega
    have hpl := propsWt_len ps
    have Hpr : Hid (printL (.mk l ps t ks) = propsL ps ++ (if l then quoteL t else 91 :: (printK ks ++ [93]))) := rfl
    have HQ := fun W (hW : Below w.heap.size w W) => Lib.hid (rquote_ok _ _ t W (ht.keep hW hW.size) (Nat.le_refl _) hte (by omega))
    have HKe := Lib.hid (kidsE_mem hke)
    have hpm := propsC_len ps 123
    have Hpe : Hid (propsL ps = if ps.length = 0 then [] else propsC 123 ps ++ [125]) := rfl
    clear ih hv ht hwt hm hn hte hke hlk hlt0 hE
    go_enter Tryd.func22, Tryd.ntmps22
    go_wp2_with fail
    go_loopw [3, 13] (fun s i wr => ∃ k : Nat, k ≤ ps.length ∧ i = .int .i64 k ∧ s = .string ⟨(propsC 123 (ps.take k)).toArray⟩ ∧ Below (w.heap.size + 1) (w.alloc (Obj.cells #[.bool l, .slice ap ps.length cp, .slice at_ t.length ct, .slice ak ks.length ck] 26)) wr) (fun _ i _ => ps.length - (intOf i).toNat)
    case atStart => exact ⟨0, Nat.zero_le _, rfl, rfl, Below.refl _ _⟩
    case round =>
      obtain ⟨k, hkn, rfl, rfl, hbel⟩ := hrel
      have hr2 := hp.keep (below_unbox hbel) (below_unbox hbel).size
      have hcl := propsC_len (ps.take k) 123
      have hck := propsWt_take ps k
      by_cases hlt : k < ps.length
      · have Hb := Lib.hid hbel
        have Hss := Lib.hid (propsC_succ ps 123 k hlt)
        have hcw := propsWt_mem (List.getElem_mem hlt)
        obtain ⟨b, off, rfl, hb, g0, g1⟩ := hr2.prop_at k hlt
        generalize ps[k] = p at hcw g0 g1 Hss
        obtain ⟨p1, p2⟩ := p
        simp only at hcw g0 g1 Hss
        generalize propsC 123 (ps.take k) = T at hcl Hss ⊢
        have hTl : T.length ≤ 1048576 := by omega
        have hl1 : p1.length ≤ 1048576 := by omega
        have hl2 : p2.length ≤ 1048576 := by omega
        clear hbel hcl hck hcw
        cases k with
        | zero =>
          rw [Nat.zero_mul, Nat.add_zero] at g0 g1
          go_wp2_with fail
          go_roundw
          case rel => exact ⟨1, by omega, by go_num, by rw [Hss.out]; exact congrArg Value.string (str_prop _ _ _ _), below_box_more Hb.out⟩
          case measure => simp [intOf]; omega
        | succ j =>
          have hj0 : (((j + 1 : Nat) : Int) == 0) = false := by simp only [beq_eq_false_iff_ne, ne_eq]; omega
          have hj1 : (((j : Int) + 1) == 0) = false := by simp only [beq_eq_false_iff_ne, ne_eq]; omega
          go_wp2_with fail
          go_roundw
          case rel => exact ⟨j + 1 + 1, by omega, by go_num, by rw [Hss.out]; exact congrArg Value.string (str_prop _ _ _ _), below_box_more Hb.out⟩
          case measure => simp [intOf]; omega
      · obtain rfl : k = ps.length := by omega
        rw [List.take_length] at hcl ⊢
        obtain ⟨x0, x1, x2, x3⟩ := box_keep hbel
        have Hb := Lib.hid hbel
        clear hbel hcl hck
        generalize hT : propsC 123 ps = T at hpm Hpe ⊢
        have hTl : T.length ≤ 1048576 := by omega
        have Hb1 := Lib.hid (below_unbox Hb.out)
        have hpm2 : T.length = propsWt ps → T.length ≤ propsWt ps := by omega
        have hTp := hpm2 hpm
        clear hpm2
        have hT0 : 0 < ps.length ∨ T.length ≤ 0 := by
          rcases Nat.eq_zero_or_pos ps.length with h | h
          · right; rw [← hT, List.eq_nil_of_length_eq_zero h]; simp [propsC]
          · exact .inl h
        clear hT hpm
        by_cases hp0 : 0 < ps.length
        · have Hnz := Lib.hid hp0
          cases l with
          | true =>
            have HQ1 := HQ _ Hb1.out
            have hql := quoteL_len t
            go_wp2_with fail
            refine HQ1.out.mono ?_
            rintro e w2 ⟨rfl, hbel⟩
            have Hb2 := Lib.hid (Hb1.out.trans (hbel.mono Hb1.out.size))
            clear hbel HQ1
            go_wp2_with fail
            go_ret
            refine ⟨congrArg (fun s => Ending.returned (Value.string s)) ?_, Hb2.out⟩
            rw [str_snoc, bytes_append, Hpr.out, Hpe.out, if_neg (by have := Hnz.out; omega)]; rfl
          | false =>
            go_wp2_with fail
            go_loopw [3, 55] (fun s i wr => ∃ k : Nat, k ≤ ks.length ∧ i = .int .i64 k ∧ s = .string ⟨(T ++ [125] ++ 91 :: printK (ks.take k)).toArray⟩ ∧ Below w.heap.size w wr) (fun _ i _ => ks.length - (intOf i).toNat)
            case atStart => exact ⟨0, Nat.zero_le _, rfl, congrArg Value.string (by rw [str_snoc, str_snoc]; simp [printK]), Hb1.out⟩
            case round =>
              obtain ⟨k, hkn, rfl, rfl, hbel⟩ := hrel
              have hr2 := hk.keep hbel hbel.size
              have hc2 := KidsC.keep hbel hbel.size ks css hc
              have hcl := printK_take_len ks k
              obtain ⟨X, hX⟩ : ∃ X, X = T ++ [125] ++ 91 :: printK (ks.take k) := ⟨_, rfl⟩
              have hXl : X.length ≤ 30000000 := by rw [hX]; simp only [List.length_append, List.length_cons, List.length_nil]; omega
              rw [← hX]
              have HX := Lib.hid hX
              have Hb2 := Lib.hid hbel
              clear hbel hX hcl x0 x1 x2 x3
              by_cases hlt : k < ks.length
              · have Hss := Lib.hid (printK_succ hlt)
                have hkw := wtAll_mem (List.getElem_mem hlt)
                have hqe := HKe.out ks[k] (List.getElem_mem hlt)
                obtain ⟨b, off, l', a1, n1, c1, a2, n2, c2, a3, n3, c3, rfl, hb, hnc, g0, g1, g2, g3⟩ := hr2.kid_at hc2 k hlt
                generalize ks[k] = q at hnc hkw Hss hqe
                have hB := (((Below.refl wr.heap.size wr).alloc (Nat.le_refl _) (Obj.cells #[.bool l', .slice a1 n1 c1, .slice a2 n2 c2, .slice a3 n3 c3] 26)))
                have HC := Lib.hid (IH.out q (.agg #[.bool l', .slice a1 n1 c1, .slice a2 n2 c2, .slice a3 n3 c3]) _ (by omega) (by omega) hqe ⟨_, rfl, NodeC.keep hB hB.size _ _ hnc⟩)
                have hql : (printL q).length ≤ 25000000 := by have := printL_len q; omega
                clear hqe hB
                go_wp2_with fail
                refine HC.out.mono ?_
                rintro e w2 ⟨rfl, hbel⟩
                have Hb3 := Lib.hid ((Hb2.out.alloc Hb2.out.size _).trans (hbel.mono (by simp; have := Hb2.out.size; omega)))
                clear hbel
                go_wp2_with fail
                go_roundw
                case rel => exact ⟨k + 1, by omega, by go_num, congrArg Value.string (by rw [Hss.out, bytes_append, HX.out]; simp), Hb3.out⟩
                case measure => simp [intOf]; omega
              · obtain rfl : k = ks.length := by omega
                go_wp2_with fail
                go_ret
                refine ⟨congrArg (fun s => Ending.returned (Value.string s)) ?_, Hb2.out⟩
                rw [str_snoc, HX.out, List.take_length, Hpr.out, Hpe.out, if_neg (by have := Hnz.out; omega)]
                simp
        · have Hz : Hid (ps.length = 0 ∧ T = []) := by
            show ps.length = 0 ∧ T = []
            exact ⟨by omega, by apply List.eq_nil_of_length_eq_zero; omega⟩
          have hp1 : ps.length ≤ 0 := by omega
          have hpd : decide ((0 : Int) < (ps.length : Int)) = false := decide_eq_false (by omega)
          have hpd2 : decide (0 < ps.length) = false := decide_eq_false (by omega)
          clear hp0
          cases l with
          | true =>
            have HQ1 := HQ _ Hb1.out
            have hql := quoteL_len t
            go_wp2_with fail
            refine HQ1.out.mono ?_
            rintro e w2 ⟨rfl, hbel⟩
            have Hb2 := Lib.hid (Hb1.out.trans (hbel.mono Hb1.out.size))
            clear hbel HQ1
            go_wp2_with fail
            go_ret
            refine ⟨congrArg (fun s => Ending.returned (Value.string s)) ?_, Hb2.out⟩
            rw [bytes_append, Hpr.out, Hpe.out, if_pos Hz.out.1, Hz.out.2]; rfl
          | false =>
            go_wp2_with fail
            go_loopw [3, 55] (fun s i wr => ∃ k : Nat, k ≤ ks.length ∧ i = .int .i64 k ∧ s = .string ⟨(T ++ 91 :: printK (ks.take k)).toArray⟩ ∧ Below w.heap.size w wr) (fun _ i _ => ks.length - (intOf i).toNat)
            case atStart => exact ⟨0, Nat.zero_le _, rfl, congrArg Value.string (by rw [str_snoc]; rfl), Hb1.out⟩
            case round =>
              obtain ⟨k, hkn, rfl, rfl, hbel⟩ := hrel
              have hr2 := hk.keep hbel hbel.size
              have hc2 := KidsC.keep hbel hbel.size ks css hc
              have hcl := printK_take_len ks k
              obtain ⟨X, hX⟩ : ∃ X, X = T ++ 91 :: printK (ks.take k) := ⟨_, rfl⟩
              have hXl : X.length ≤ 30000000 := by rw [hX]; simp only [List.length_append, List.length_cons]; omega
              rw [← hX]
              have HX := Lib.hid hX
              have Hb2 := Lib.hid hbel
              clear hbel hX hcl x0 x1 x2 x3
              by_cases hlt : k < ks.length
              · have Hss := Lib.hid (printK_succ hlt)
                have hkw := wtAll_mem (List.getElem_mem hlt)
                have hqe := HKe.out ks[k] (List.getElem_mem hlt)
                obtain ⟨b, off, l', a1, n1, c1, a2, n2, c2, a3, n3, c3, rfl, hb, hnc, g0, g1, g2, g3⟩ := hr2.kid_at hc2 k hlt
                generalize ks[k] = q at hnc hkw Hss hqe
                have hB := (((Below.refl wr.heap.size wr).alloc (Nat.le_refl _) (Obj.cells #[.bool l', .slice a1 n1 c1, .slice a2 n2 c2, .slice a3 n3 c3] 26)))
                have HC := Lib.hid (IH.out q (.agg #[.bool l', .slice a1 n1 c1, .slice a2 n2 c2, .slice a3 n3 c3]) _ (by omega) (by omega) hqe ⟨_, rfl, NodeC.keep hB hB.size _ _ hnc⟩)
                have hql : (printL q).length ≤ 25000000 := by have := printL_len q; omega
                clear hqe hB
                go_wp2_with fail
                refine HC.out.mono ?_
                rintro e w2 ⟨rfl, hbel⟩
                have Hb3 := Lib.hid ((Hb2.out.alloc Hb2.out.size _).trans (hbel.mono (by simp; have := Hb2.out.size; omega)))
                clear hbel
                go_wp2_with fail
                go_roundw
                case rel => exact ⟨k + 1, by omega, by go_num, congrArg Value.string (by rw [Hss.out, bytes_append, HX.out]; simp), Hb3.out⟩
                case measure => simp [intOf]; omega
              · obtain rfl : k = ks.length := by omega
                go_wp2_with fail
                go_ret
                refine ⟨congrArg (fun s => Ending.returned (Value.string s)) ?_, Hb2.out⟩
                rw [str_snoc, HX.out, List.take_length, Hpr.out, Hpe.out, if_pos Hz.out.1, Hz.out.2]
                simp

set_option maxRecDepth 100000 in
set_option maxHeartbeats 1000000 in
theorem rprint_no (n : NodeD) (v : Value) (w : World) (hn : n.wt ≤ 1048576) (hv : NodeV w w.heap.size n v) (hE : nodeE n ≠ 0) :
    Calls Tryd.prog 9 #[v] w fun e w' => e = .returned (.tuple #[.string ⟨#[]⟩, .int .i64 (nodeE n)]) ∧ Below w.heap.size w w' := by
  have hv0 := hv
  obtain ⟨l, ps, t, ks⟩ := n
  obtain ⟨ap, cp, at_, ct, ak, ck, css, rfl, -, -, -, -⟩ := hv0.open
  generalize NodeD.mk l ps t ks = n at hv hn hE ⊢
  have hB0 := ((Below.refl w.heap.size w).alloc (Nat.le_refl _) (Obj.cells #[.bool l, .slice ap ps.length cp, .slice at_ t.length ct, .slice ak ks.length ck] 26))
  have HS := Lib.hid (rnCheck_c n _ _ hn (hv.keep hB0 hB0.size))
  have hne : (nodeE n != 0) = true := by simpa using hE
  clear hv0 hv hB0 hn hE
  go_enter Tryd.func9, Tryd.ntmps9
  go_wp2_with fail
  refine HS.out.mono ?_
  rintro e w1 ⟨rfl, hbel⟩
  have Hb1 := Lib.hid (below_unbox (below_box hbel))
  clear hbel HS
  go_wp2_with fail
  go_ret2
  exact ⟨rfl, Hb1.out⟩

set_option maxRecDepth 100000 in
set_option maxHeartbeats 1000000 in
theorem rprint_ok (n : NodeD) (v : Value) (w : World) (hn : n.wt ≤ 1048576) (hv : NodeV w w.heap.size n v) (hE : nodeE n = 0) :
    Calls Tryd.prog 9 #[v] w fun e w' => e = .returned (.tuple #[.string ⟨(printL n).toArray⟩, .int .i64 0]) ∧ Below w.heap.size w w' := by
  have hv0 := hv
  obtain ⟨l, ps, t, ks⟩ := n
  obtain ⟨ap, cp, at_, ct, ak, ck, css, rfl, -, -, -, -⟩ := hv0.open
  generalize NodeD.mk l ps t ks = n at hv hn hE ⊢
  have hB0 := ((Below.refl w.heap.size w).alloc (Nat.le_refl _) (Obj.cells #[.bool l, .slice ap ps.length cp, .slice at_ t.length ct, .slice ak ks.length ck] 26))
  have HS := Lib.hid (rnCheck_c n _ _ hn (hv.keep hB0 hB0.size))
  have HT := fun W (hW : Below w.heap.size w W) => Lib.hid (rtext_c _ n _ W (Nat.le_refl _) hn hE (hv.keep hW hW.size))
  rw [hE] at HS
  clear hv0 hv hB0 hn hE
  go_enter Tryd.func9, Tryd.ntmps9
  go_wp2_with fail
  refine HS.out.mono ?_
  rintro e w1 ⟨rfl, hbel⟩
  obtain ⟨x0, x1, x2, x3⟩ := box_keep (below_box hbel)
  have Hb1 := Lib.hid (below_unbox (below_box hbel))
  have HT1 := HT _ Hb1.out
  clear hbel HS HT
  go_wp2_with fail
  refine HT1.out.mono ?_
  rintro e w2 ⟨rfl, hbel⟩
  have Hb2 := Lib.hid (Hb1.out.trans (hbel.mono Hb1.out.size))
  clear hbel HT1
  go_wp2_with fail
  go_ret2
  exact ⟨rfl, Hb2.out⟩

end Go.Proofs.YtmhgbocejjnoaaaDoor
