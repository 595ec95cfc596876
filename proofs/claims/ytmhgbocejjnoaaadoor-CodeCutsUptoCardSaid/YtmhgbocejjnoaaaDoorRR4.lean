/- Walks: the reference of node: Size. -/
import Derived.Test.YtmhgbocejjnoaaaDoorRR3
import Derived.Test.YtmhgbocejjnoaaaDoorRR1
namespace Go.Proofs.YtmhgbocejjnoaaaDoor
open Go.RowKit Go.Redl
set_option linter.unusedVariables false

set_option maxRecDepth 100000 in
set_option maxHeartbeats 1000000 in
theorem rsize_c (m : Nat) : ∀ (n : NodeD) (v : Value) (w : World), n.wt ≤ m → n.wt ≤ 100000000 → NodeV w w.heap.size n v →
    Calls Tryd.prog 41 #[v] w fun e w' => e = .returned (.int .i64 (sizeN n)) ∧ Below w.heap.size w w' := by
  induction m with
  | zero => intro n v w hm; have := wt_pos n; omega
  | succ m ih =>
    intro n v w hm hn hv
    obtain ⟨l, ps, t, ks⟩ := n
    obtain ⟨ap, cp, at_, ct, ak, ck, css, rfl, hp, ht, hk, hc⟩ := hv.open
    have IH := Lib.hid ih
    have hwt : 1 + propsWt ps + t.length + wtAll ks = (NodeD.mk l ps t ks).wt := rfl
    have hw1 : t.length ≤ 100000000 := by omega
    have hw2 : wtAll ks ≤ 100000000 := by omega
    have hw3 : wtAll ks ≤ m := by omega
    have hkl := wtAll_len ks
    have hs0 : sizeK ks ≤ wtAll ks := sizeK_le ks
    have Hsz : Hid (sizeN (.mk l ps t ks) = 1 + t.length + sizeK ks) := rfl
    clear ih hv hp ht hwt hm hn
    go_enter Tryd.func41, Tryd.ntmps41
    go_wp2_with fail
    go_loopw [3, 13] (fun s i wr => ∃ k : Nat, k ≤ ks.length ∧ i = .int .i64 k ∧ s = .int .i64 ((1 + t.length + sizeK (ks.take k) : Nat) : Int) ∧ Below w.heap.size w wr) (fun _ i _ => ks.length - (intOf i).toNat)
    case atStart => exact ⟨0, Nat.zero_le _, rfl, by simp [sizeK], (Below.refl _ _).alloc (Nat.le_refl _) _⟩
    case round =>
      obtain ⟨k, hkn, rfl, rfl, hbel⟩ := hrel
      have hr2 := hk.keep hbel hbel.size
      have hc2 := KidsC.keep hbel hbel.size ks css hc
      have Hb := Lib.hid hbel
      clear hbel
      by_cases hlt : k < ks.length
      · have Hss := Lib.hid (sizeK_succ hlt)
        have hkw := wtAll_mem (List.getElem_mem hlt)
        obtain ⟨b, off, l', a1, n1, c1, a2, n2, c2, a3, n3, c3, rfl, hb, hnc, g0, g1, g2, g3⟩ := hr2.kid_at hc2 k hlt
        have hsl : sizeK (ks.take (k + 1)) ≤ 100000000 := by
          have := sizeK_le (ks.take (k + 1)); have := wtAll_take ks (k + 1); omega
        generalize ks[k] = q at hnc hkw Hss
        rw [Hss.out] at hsl
        have hB := (((Below.refl wr.heap.size wr).alloc (Nat.le_refl _) (Obj.cells #[.bool l', .slice a1 n1 c1, .slice a2 n2 c2, .slice a3 n3 c3] 26)))
        have HC := Lib.hid (IH.out q (.agg #[.bool l', .slice a1 n1 c1, .slice a2 n2 c2, .slice a3 n3 c3]) _ (by omega) (by omega) ⟨_, rfl, NodeC.keep hB hB.size _ _ hnc⟩)
        go_wp2_with fail
        refine HC.out.mono ?_
        rintro e w2 ⟨rfl, hbel⟩
        have Hb2 := Lib.hid ((Hb.out.alloc Hb.out.size _).trans (hbel.mono (by simp; have := Hb.out.size; omega)))
        clear hbel
        go_wp2_with fail
        go_roundw
        case rel => exact ⟨k + 1, by omega, by go_num, by rw [Hss.out]; go_num, Hb2.out⟩
        case measure => simp [intOf]; omega
      · obtain rfl : k = ks.length := by omega
        go_wp2_with fail
        go_ret
        exact ⟨ret_int (by rw [Hsz.out, List.take_length]), Hb.out⟩

end Go.Proofs.YtmhgbocejjnoaaaDoor
