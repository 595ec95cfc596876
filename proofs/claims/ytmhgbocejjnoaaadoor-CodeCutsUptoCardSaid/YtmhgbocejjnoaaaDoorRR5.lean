/- Walks: the reference of node: check, Check. -/
import Derived.Test.YtmhgbocejjnoaaaDoorRR4
namespace Go.Proofs.YtmhgbocejjnoaaaDoor
open Go.RowKit Go.Redl
set_option linter.unusedVariables false

/-- A box of four cells, behind more memory. -/
theorem box_keep {w w1 : World} {c0 c1 c2 c3 : Value} {T : TypeId} (hb : Below (w.heap.size + 1) (w.alloc (.cells #[c0, c1, c2, c3] T)) w1) :
    w1.cell? ⟨w.heap.size, 0, none⟩ = some c0 ∧ w1.cell? ⟨w.heap.size, 1, none⟩ = some c1 ∧ w1.cell? ⟨w.heap.size, 2, none⟩ = some c2 ∧ w1.cell? ⟨w.heap.size, 3, none⟩ = some c3 := by
  have h : w1.heap[w.heap.size]? = some (.cells #[c0, c1, c2, c3] T (0, 0)) := by
    rw [hb.block w.heap.size (by omega)]
    exact heap_alloc_new w _
  refine ⟨?_, ?_, ?_, ?_⟩ <;> (rw [cell_of_row _ _ _ _ _ _ h]; rfl)
theorem below_box {w w1 : World} {o : Obj} (hb : Below (w.alloc o).heap.size (w.alloc o) w1) : Below (w.heap.size + 1) (w.alloc o) w1 := by
  have : (w.alloc o).heap.size = w.heap.size + 1 := by simp
  rwa [this] at hb
theorem below_unbox {w w1 : World} {o : Obj} (hb : Below (w.heap.size + 1) (w.alloc o) w1) : Below w.heap.size w w1 :=
  ((Below.refl w.heap.size w).alloc (Nat.le_refl _) o).trans (hb.mono (by omega))
theorem below_box_more {w w1 : World} {o o' : Obj} (hb : Below (w.heap.size + 1) (w.alloc o) w1) : Below (w.heap.size + 1) (w.alloc o) (w1.alloc o') :=
  hb.alloc (by have := hb.size; simp at this; omega) o'
theorem ownE_cases (l : Bool) (ps : List PropD) (t : List Int) (m : Nat) : ownE l ps t m = if propsE ps ≠ 0 then propsE ps else if (l && decide (0 < m)) || (!l && decide (0 < t.length)) then 7 else checkE t := rfl

set_option maxRecDepth 100000 in
set_option maxHeartbeats 2000000 in
theorem rncheck_c (m : Nat) : ∀ (n : NodeD) (v : Value) (w : World), n.wt ≤ m → n.wt ≤ 100000000 → NodeV w w.heap.size n v →
    Calls Tryd.prog 42 #[v] w fun e w' => e = .returned (.int .i64 (nodeE n)) ∧ Below w.heap.size w w' := by
  induction m with
  | zero => intro n v w hm; have := wt_pos n; omega
  | succ m ih =>
    intro n v w hm hn hv
    obtain ⟨l, ps, t, ks⟩ := n
    obtain ⟨ap, cp, at_, ct, ak, ck, css, rfl, hp, ht, hk, hc⟩ := hv.open
    have IH := Lib.hid ih
    have hwt : 1 + propsWt ps + t.length + wtAll ks = (NodeD.mk l ps t ks).wt := rfl
    have hw2 : wtAll ks ≤ 100000000 := by omega
    have hw3 : wtAll ks ≤ m := by omega
    have hw4 : propsWt ps ≤ 1000000000 := by omega
    have hkl := wtAll_len ks
    have htl : t.length ≤ 100000000 := by omega
    have hB0 := ((Below.refl w.heap.size w).alloc (Nat.le_refl _) (Obj.cells #[.bool l, .slice ap ps.length cp, .slice at_ t.length ct, .slice ak ks.length ck] 26))
    have HP := Lib.hid (rpcheck_c (.slice ap ps.length cp) w.heap.size ps (w.alloc (Obj.cells #[.bool l, .slice ap ps.length cp, .slice at_ t.length ct, .slice ak ks.length ck] 26)) ⟨ap, cp, rfl, hp.keep hB0 (Nat.le_refl _)⟩ (by simp) hw4)
    have Hn : Hid (nodeE (.mk l ps t ks) = if ownE l ps t ks.length ≠ 0 then ownE l ps t ks.length else kidsE ks) := rfl
    have Ho := Lib.hid (ownE_cases l ps t ks.length)
    by_cases hpe : propsE ps ≠ 0
    · have Hpe := Lib.hid hpe
      have Hr : Hid (nodeE (.mk l ps t ks) = propsE ps) := by
        show nodeE _ = _
        have : ownE l ps t ks.length = propsE ps := by rw [Ho.out, if_pos hpe]
        rw [Hn.out, this, if_pos hpe]
      have hne : (propsE ps != 0) = true := by simpa using hpe
      clear ih hv hp ht hwt hm hn hpe hB0
      go_enter Tryd.func42, Tryd.ntmps42
      go_wp2_with fail
      refine HP.out.mono ?_
      rintro e w1 ⟨rfl, hbel⟩
      have Hb := Lib.hid (below_unbox (below_box hbel))
      clear hbel HP
      go_wp2_with fail
      go_ret
      exact ⟨ret_int Hr.out.symm, Hb.out⟩
    · have hpe : propsE ps = 0 := by simpa using hpe
      rw [hpe] at HP
      cases hbad : (l && decide (0 < ks.length)) || (!l && decide (0 < t.length)) with
      | true =>
        have Hr : Hid (nodeE (.mk l ps t ks) = 7) := by
          show nodeE _ = _
          have : ownE l ps t ks.length = 7 := by rw [Ho.out, hpe, hbad]; rfl
          rw [Hn.out, this]; rfl
        clear ih hv hp ht hwt hm hn hpe hB0
        cases l with
        | true =>
          have hb2 : 0 < ks.length := by simpa using hbad
          clear hbad
          go_enter Tryd.func42, Tryd.ntmps42
          go_wp2_with fail
          refine HP.out.mono ?_
          rintro e w1 ⟨rfl, hbel⟩
          obtain ⟨x0, x1, x2, x3⟩ := box_keep (below_box hbel)
          have Hb := Lib.hid (below_unbox (below_box hbel))
          clear hbel HP
          go_wp2_with fail
          go_ret
          exact ⟨ret_int Hr.out.symm, Hb.out⟩
        | false =>
          have hb2 : 0 < t.length := by simpa using hbad
          clear hbad
          go_enter Tryd.func42, Tryd.ntmps42
          go_wp2_with fail
          refine HP.out.mono ?_
          rintro e w1 ⟨rfl, hbel⟩
          obtain ⟨x0, x1, x2, x3⟩ := box_keep (below_box hbel)
          have Hb := Lib.hid (below_unbox (below_box hbel))
          clear hbel HP
          go_wp2_with fail
          go_ret
          exact ⟨ret_int Hr.out.symm, Hb.out⟩
      | false =>
        have Hown : Hid (ownE l ps t ks.length = checkE t) := by
          show ownE l ps t ks.length = _
          rw [Ho.out, hpe, hbad]; rfl
        by_cases hte : checkE t ≠ 0
        · have Hr : Hid (nodeE (.mk l ps t ks) = checkE t) := by
            show nodeE _ = _
            rw [Hn.out, Hown.out, if_pos hte]
          have HT := fun W (hW : Below w.heap.size w W) => Lib.hid (rcheck_c _ _ t W (ht.keep hW hW.size))
          have hne : (checkE t != 0) = true := by simpa using hte
          clear ih hv hp ht hwt hm hn hpe hB0 hte
          cases l with
          | true =>
            have hb2 : ks.length ≤ 0 := by simp at hbad; simp [hbad]
            clear hbad
            go_enter Tryd.func42, Tryd.ntmps42
            go_wp2_with fail
            refine HP.out.mono ?_
            rintro e w1 ⟨rfl, hbel⟩
            obtain ⟨x0, x1, x2, x3⟩ := box_keep (below_box hbel)
            have Hb := Lib.hid (below_unbox (below_box hbel))
            clear hbel HP
            go_wp2_with fail
            refine (HT _ Hb.out).out.mono ?_
            rintro e w2 ⟨rfl, rfl⟩
            go_wp2_with fail
            go_ret
            exact ⟨ret_int Hr.out.symm, Hb.out⟩
          | false =>
            have hb2 : t.length ≤ 0 := by simp at hbad; simp [hbad]
            clear hbad
            go_enter Tryd.func42, Tryd.ntmps42
            go_wp2_with fail
            refine HP.out.mono ?_
            rintro e w1 ⟨rfl, hbel⟩
            obtain ⟨x0, x1, x2, x3⟩ := box_keep (below_box hbel)
            have Hb := Lib.hid (below_unbox (below_box hbel))
            clear hbel HP
            go_wp2_with fail
            refine (HT _ Hb.out).out.mono ?_
            rintro e w2 ⟨rfl, rfl⟩
            go_wp2_with fail
            go_ret
            exact ⟨ret_int Hr.out.symm, Hb.out⟩
        · have hte : checkE t = 0 := by simpa using hte
          have Hr : Hid (nodeE (.mk l ps t ks) = kidsE ks) := by
            show nodeE _ = _
            rw [Hn.out, Hown.out, hte]; rfl
          have HT := fun W (hW : Below w.heap.size w W) => Lib.hid (rcheck_c _ _ t W (ht.keep hW hW.size))
          rw [hte] at HT
          clear ih hv hp ht hwt hm hn hpe hB0 hte
          cases l with
          | true =>
            have hb2 : ks.length ≤ 0 := by simp at hbad; simp [hbad]
            clear hbad
            go_enter Tryd.func42, Tryd.ntmps42
            go_wp2_with fail
            refine HP.out.mono ?_
            rintro e w1 ⟨rfl, hbel⟩
            obtain ⟨x0, x1, x2, x3⟩ := box_keep (below_box hbel)
            have Hb1 := Lib.hid (below_unbox (below_box hbel))
            clear hbel HP
            go_wp2_with fail
            refine (HT _ Hb1.out).out.mono ?_
            rintro e w2 ⟨rfl, rfl⟩
            go_wp2_with fail
            go_loopw [42] (fun i wr => ∃ k : Nat, k ≤ ks.length ∧ i = .int .i64 k ∧ kidsE (ks.drop k) = kidsE ks ∧ Below w.heap.size w wr) (fun i _ => ks.length - (intOf i).toNat)
            case atStart => exact ⟨0, Nat.zero_le _, rfl, by simp, Hb1.out⟩
            case round =>
              obtain ⟨k, hkn, rfl, hke, hbel⟩ := hrel
              have hr2 := hk.keep hbel hbel.size
              have hc2 := KidsC.keep hbel hbel.size ks css hc
              have Hb := Lib.hid hbel
              have Hke := Lib.hid hke
              clear hbel hke x0 x1 x2 x3
              by_cases hlt : k < ks.length
              · omega
              · obtain rfl : k = ks.length := by omega
                have Hr2 : Hid (nodeE (.mk true ps t ks) = 0) := by
                  show nodeE _ = _
                  rw [Hr.out, ← Hke.out, List.drop_length]; rfl
                go_wp2_with fail
                go_ret
                exact ⟨ret_int Hr2.out.symm, Hb.out⟩
          | false =>
            have hb2 : t.length ≤ 0 := by simp at hbad; simp [hbad]
            clear hbad
            go_enter Tryd.func42, Tryd.ntmps42
            go_wp2_with fail
            refine HP.out.mono ?_
            rintro e w1 ⟨rfl, hbel⟩
            obtain ⟨x0, x1, x2, x3⟩ := box_keep (below_box hbel)
            have Hb1 := Lib.hid (below_unbox (below_box hbel))
            clear hbel HP
            go_wp2_with fail
            refine (HT _ Hb1.out).out.mono ?_
            rintro e w2 ⟨rfl, rfl⟩
            go_wp2_with fail
            go_loopw [42] (fun i wr => ∃ k : Nat, k ≤ ks.length ∧ i = .int .i64 k ∧ kidsE (ks.drop k) = kidsE ks ∧ Below w.heap.size w wr) (fun i _ => ks.length - (intOf i).toNat)
            case atStart => exact ⟨0, Nat.zero_le _, rfl, by simp, Hb1.out⟩
            case round =>
              obtain ⟨k, hkn, rfl, hke, hbel⟩ := hrel
              have hr2 := hk.keep hbel hbel.size
              have hc2 := KidsC.keep hbel hbel.size ks css hc
              have Hb := Lib.hid hbel
              have Hke := Lib.hid hke
              clear hbel hke x0 x1 x2 x3
              by_cases hlt : k < ks.length
              · have Hss := Lib.hid (kidsE_step hlt)
                have hkw := wtAll_mem (List.getElem_mem hlt)
                obtain ⟨b, off, l', a1, n1, c1, a2, n2, c2, a3, n3, c3, rfl, hb, hnc, g0, g1, g2, g3⟩ := hr2.kid_at hc2 k hlt
                generalize ks[k] = q at hnc hkw Hss
                have hB := (((Below.refl wr.heap.size wr).alloc (Nat.le_refl _) (Obj.cells #[.bool l', .slice a1 n1 c1, .slice a2 n2 c2, .slice a3 n3 c3] 26)))
                have HC := Lib.hid (IH.out q (.agg #[.bool l', .slice a1 n1 c1, .slice a2 n2 c2, .slice a3 n3 c3]) _ (by omega) (by omega) ⟨_, rfl, NodeC.keep hB hB.size _ _ hnc⟩)
                by_cases hqe : nodeE q ≠ 0
                · have hne : (nodeE q != 0) = true := by simpa using hqe
                  have Hr2 : Hid (nodeE (.mk false ps t ks) = nodeE q) := by
                    show nodeE _ = _
                    rw [Hr.out, ← Hke.out, Hss.out, if_pos hqe]
                  clear hqe
                  go_wp2_with fail
                  refine HC.out.mono ?_
                  rintro e w2 ⟨rfl, hbel⟩
                  have Hb2 := Lib.hid ((Hb.out.alloc Hb.out.size _).trans (hbel.mono (by simp; have := Hb.out.size; omega)))
                  clear hbel
                  go_wp2_with fail
                  go_ret
                  exact ⟨ret_int Hr2.out.symm, Hb2.out⟩
                · have hq0 : nodeE q = 0 := by simpa using hqe
                  have Hk2 : Hid (kidsE (ks.drop (k + 1)) = kidsE ks) := by
                    show kidsE _ = _
                    rw [← Hke.out, Hss.out, if_neg hqe]
                  rw [hq0] at HC
                  clear hqe hq0
                  go_wp2_with fail
                  refine HC.out.mono ?_
                  rintro e w2 ⟨rfl, hbel⟩
                  have Hb2 := Lib.hid ((Hb.out.alloc Hb.out.size _).trans (hbel.mono (by simp; have := Hb.out.size; omega)))
                  clear hbel
                  go_wp2_with fail
                  go_roundw
                  case rel => exact ⟨k + 1, by omega, by go_num, Hk2.out, Hb2.out⟩
                  case measure => simp [intOf]; omega
              · obtain rfl : k = ks.length := by omega
                have Hr2 : Hid (nodeE (.mk false ps t ks) = 0) := by
                  show nodeE _ = _
                  rw [Hr.out, ← Hke.out, List.drop_length]; rfl
                go_wp2_with fail
                go_ret
                exact ⟨ret_int Hr2.out.symm, Hb.out⟩

set_option maxRecDepth 100000 in
set_option maxHeartbeats 1000000 in
/-- What is wrong with a tree that is not too great. -/
theorem rnCheck_c (n : NodeD) (v : Value) (w : World) (hn : n.wt ≤ 1048576) (hv : NodeV w w.heap.size n v) :
    Calls Tryd.prog 21 #[v] w fun e w' => e = .returned (.int .i64 (nodeE n)) ∧ Below w.heap.size w w' := by
  have hv0 := hv
  obtain ⟨l, ps, t, ks⟩ := n
  obtain ⟨ap, cp, at_, ct, ak, ck, css, rfl, -, -, -, -⟩ := hv0.open
  have hsz := sizeN_le (.mk l ps t ks)
  generalize NodeD.mk l ps t ks = n at hv hn hsz ⊢
  have hB0 := ((Below.refl w.heap.size w).alloc (Nat.le_refl _) (Obj.cells #[.bool l, .slice ap ps.length cp, .slice at_ t.length ct, .slice ak ks.length ck] 26))
  have HS := Lib.hid (rsize_c _ n _ _ (Nat.le_refl _) (by omega) (hv.keep hB0 hB0.size))
  have HC := fun W (hW : Below w.heap.size w W) => Lib.hid (rncheck_c _ n _ W (Nat.le_refl _) (by omega) (hv.keep hW hW.size))
  have hs2 : sizeN n ≤ 1048576 := by omega
  clear hv0 hv hB0 hsz hn
  go_enter Tryd.func21, Tryd.ntmps21
  go_wp2_with fail
  refine HS.out.mono ?_
  rintro e w1 ⟨rfl, hbel⟩
  obtain ⟨x0, x1, x2, x3⟩ := box_keep (below_box hbel)
  have Hb1 := Lib.hid (below_unbox (below_box hbel))
  have HC1 := HC _ Hb1.out
  clear hbel HS HC
  go_wp2_with fail
  refine HC1.out.mono ?_
  rintro e w2 ⟨rfl, hbel⟩
  have Hb2 := Lib.hid (Hb1.out.trans (hbel.mono Hb1.out.size))
  clear hbel HC1
  go_wp2_with fail
  go_ret
  exact ⟨rfl, Hb2.out⟩

end Go.Proofs.YtmhgbocejjnoaaaDoor
