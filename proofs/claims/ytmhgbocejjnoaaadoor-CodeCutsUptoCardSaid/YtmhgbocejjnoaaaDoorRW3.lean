/- Walks: node's own. -/
import Derived.Test.YtmhgbocejjnoaaaDoorRW2
import Derived.Test.YtmhgbocejjnoaaaDoorRX1
namespace Go.Proofs.YtmhgbocejjnoaaaDoor
open Go.RowKit Go.Redl
set_option linter.unusedVariables false

set_option maxRecDepth 100000 in
set_option maxHeartbeats 2000000 in
theorem own_c (l : Bool) (ps : List PropD) (t : List Int) (ks : List NodeD) (v : Value) (B : Nat) (w : World) (hB : B ≤ w.heap.size) (hn : (NodeD.mk l ps t ks).wt ≤ 100000000) (hv : NodeV w B (.mk l ps t ks) v) :
    Calls Tryd.prog 40 #[v] w fun e w' => e = .returned (.int .i64 (ownE l ps t ks.length)) ∧ Below w.heap.size w w' := by
  obtain ⟨ap, cp, at_, ct, ak, ck, css, rfl, hp, ht, hk, hc⟩ := hv.open
  have hwt : 1 + propsWt ps + t.length + wtAll ks = (NodeD.mk l ps t ks).wt := rfl
  have hw4 : propsWt ps ≤ 1000000000 := by omega
  have hkl := wtAll_len ks
  have htl : t.length ≤ 100000000 := by omega
  have hkl2 : ks.length ≤ 100000000 := by omega
  have hB0 := ((Below.refl w.heap.size w).alloc (Nat.le_refl _) (Obj.cells #[.bool l, .slice ap ps.length cp, .slice at_ t.length ct, .slice ak ks.length ck] 26))
  have HP := Lib.hid (pcheck_c (.slice ap ps.length cp) w.heap.size ps (w.alloc (Obj.cells #[.bool l, .slice ap ps.length cp, .slice at_ t.length ct, .slice ak ks.length ck] 26)) ⟨ap, cp, rfl, hp.keep (hB0.mono hB) hB⟩ (by simp) hw4)
  have HT := fun W (hW : Below w.heap.size w W) => Lib.hid (check_c _ _ t W (ht.keep (hW.mono hB) (Nat.le_refl _)))
  have Ho := Lib.hid (ownE_cases l ps t ks.length)
  clear hv hp ht hwt hn hB0 hk hc
  by_cases hpe : propsE ps ≠ 0
  · have Hr : Hid (ownE l ps t ks.length = propsE ps) := by
      show ownE l ps t ks.length = _
      rw [Ho.out, if_pos hpe]
    have hne : (propsE ps != 0) = true := by simpa using hpe
    clear hpe
    go_enter Tryd.func40, Tryd.ntmps40
    go_wp2_with fail
    refine HP.out.mono ?_
    rintro e w1 ⟨rfl, hbel⟩
    have Hb := Lib.hid (below_unbox (below_box hbel))
    clear hbel HP
    go_wp2_with fail
    go_ret
    exact ⟨ret_int Hr.out.symm, Hb.out⟩
  · have hpe : propsE ps = 0 := by simpa using hpe
    rw [hpe] at HP
    cases hbad : (l && decide (0 < ks.length)) || (!l && decide (0 < t.length)) with
    | true =>
      have Hr : Hid (ownE l ps t ks.length = 7) := by
        show ownE l ps t ks.length = _
        rw [Ho.out, hpe, hbad]; rfl
      clear hpe
      cases l with
      | true =>
        have hb2 : 0 < ks.length := by simpa using hbad
        clear hbad
        go_enter Tryd.func40, Tryd.ntmps40
        go_wp2_with fail
        refine HP.out.mono ?_
        rintro e w1 ⟨rfl, hbel⟩
        obtain ⟨x0, x1, x2, x3⟩ := box_keep (below_box hbel)
        have Hb := Lib.hid (below_unbox (below_box hbel))
        clear hbel HP
        go_wp2_with fail
        go_ret
        exact ⟨ret_int Hr.out.symm, Hb.out⟩
      | false =>
        have hb2 : 0 < t.length := by simpa using hbad
        clear hbad
        go_enter Tryd.func40, Tryd.ntmps40
        go_wp2_with fail
        refine HP.out.mono ?_
        rintro e w1 ⟨rfl, hbel⟩
        obtain ⟨x0, x1, x2, x3⟩ := box_keep (below_box hbel)
        have Hb := Lib.hid (below_unbox (below_box hbel))
        clear hbel HP
        go_wp2_with fail
        go_ret
        exact ⟨ret_int Hr.out.symm, Hb.out⟩
    | false =>
      have Hr : Hid (ownE l ps t ks.length = checkE t) := by
        show ownE l ps t ks.length = _
        rw [Ho.out, hpe, hbad]; rfl
      clear hpe
      cases l with
      | true =>
        have hb2 : ks.length ≤ 0 := by simp at hbad; simp [hbad]
        clear hbad
        go_enter Tryd.func40, Tryd.ntmps40
        go_wp2_with fail
        refine HP.out.mono ?_
        rintro e w1 ⟨rfl, hbel⟩
        obtain ⟨x0, x1, x2, x3⟩ := box_keep (below_box hbel)
        have Hb := Lib.hid (below_unbox (below_box hbel))
        clear hbel HP
        go_wp2_with fail
        refine (HT _ Hb.out).out.mono ?_
        rintro e w2 ⟨rfl, rfl⟩
        go_wp2_with fail
        go_ret
        exact ⟨ret_int Hr.out.symm, Hb.out⟩
      | false =>
        have hb2 : t.length ≤ 0 := by simp at hbad; simp [hbad]
        clear hbad
        go_enter Tryd.func40, Tryd.ntmps40
        go_wp2_with fail
        refine HP.out.mono ?_
        rintro e w1 ⟨rfl, hbel⟩
        obtain ⟨x0, x1, x2, x3⟩ := box_keep (below_box hbel)
        have Hb := Lib.hid (below_unbox (below_box hbel))
        clear hbel HP
        go_wp2_with fail
        refine (HT _ Hb.out).out.mono ?_
        rintro e w2 ⟨rfl, rfl⟩
        go_wp2_with fail
        go_ret
        exact ⟨ret_int Hr.out.symm, Hb.out⟩

end Go.Proofs.YtmhgbocejjnoaaaDoor
