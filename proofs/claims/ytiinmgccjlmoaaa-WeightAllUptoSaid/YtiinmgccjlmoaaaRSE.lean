/- Walks: the reference's Same at trees. -/
import Derived.Test.YtiinmgccjlmoaaaRSB
import Derived.Test.YtiinmgccjlmoaaaRG4
import Derived.Test.YtiinmgccjlmoaaaRNA
import Derived.Deep.LoopGhost
import Derived.Deep.DeepCutAuto
import Derived.Deep.RegionLaw
namespace Go.Proofs.Ytiinmgccjlmoaaa
open Go.RowKit Go.Redl
set_option linter.unusedVariables false

theorem rsame_ent : ∀ args w, (callFunc 67 args).run Try.prog w = .ok (.enter 67 args) w := by intro args w; kernel_rfl

set_option maxRecDepth 100000 in
set_option maxHeartbeats 4000000 in
theorem rsame4_c (m : Nat) : ∀ (n1 n2 : NodeD) (v1 v2 : Value) (W : World), n1.wt ≤ m → NodeV W W.heap.size n1 v1 → NodeV W W.heap.size n2 v2 →
    Calls Try.prog 67 #[v1, v2] W fun e w' => e = .returned (.bool (sameN n1 n2)) ∧ Below W.heap.size W w' := by
  induction m with
  | zero => intro n1 n2 v1 v2 W hm; have := wt_pos n1; omega
  | succ m IH =>
    intro n1 n2 v1 v2 W hm hv1 hv2
    obtain ⟨l, ps, t, ks⟩ := n1
    obtain ⟨l', ps', t', ks'⟩ := n2
    obtain ⟨ap, cp, at_, ct, ak, ck, css, rfl, hp, ht, hk, hkk⟩ := hv1.open
    obtain ⟨ap', cp', at_', ct', ak', ck', css', rfl, hp', ht', hk', hkk'⟩ := hv2.open
    have hwt : wtAll ks ≤ m := by simp only [NodeD.wt] at hm; omega
    have Hs := Lib.hid (sameN_open l l' ps ps' t t' ks ks')
    generalize sameN (.mk l ps t ks) (.mk l' ps' t' ks') = R at Hs ⊢
    have hA := (NodeAt.fresh W (.bool l) (.slice ap ps.length cp) (.slice at_ t.length ct) (.slice ak ks.length ck)).alloc (Obj.cells #[.bool l', .slice ap' ps'.length cp', .slice at_' t'.length ct', .slice ak' ks'.length ck'] 35)
    have hB := node_second W (Obj.cells #[.bool l, .slice ap ps.length cp, .slice at_ t.length ct, .slice ak ks.length ck] 35) (.bool l') (.slice ap' ps'.length cp') (.slice at_' t'.length ct') (.slice ak' ks'.length ck')
    have hb0 : Below W.heap.size W ((W.alloc (Obj.cells #[.bool l, .slice ap ps.length cp, .slice at_ t.length ct, .slice ak ks.length ck] 35)).alloc (Obj.cells #[.bool l', .slice ap' ps'.length cp', .slice at_' t'.length ct', .slice ak' ks'.length ck'] 35)) := ((Below.refl _ _).alloc (Nat.le_refl _) _).alloc (by simp) _
    have HP := Lib.hid (rsamep_c ap ap' cp cp' _ ps ps' _ (hp.keep hb0 (Nat.le_refl _)) (hp'.keep hb0 (Nat.le_refl _)))
    have HT := fun q => Lib.hid (rsame_c _ _ _ t t' _ (ht.keep (below_drewN hb0 q) (Nat.le_refl _)) (ht'.keep (below_drewN hb0 q) (Nat.le_refl _)))
    have hkl := hk.le; have hkm := hk.max; have hkl' := hk'.le; have hkm' := hk'.max
    unfold maxLen at hkm hkm'
    have hm1 : ks.length ≤ 9223372036854775807 := by omega
    have hm2 : ks'.length ≤ 9223372036854775807 := by omega
    have HI := Lib.hid (fun (i : Nat) (h : i < ks.length) (h' : i < ks'.length) (v v' : Value) (W2 : World) (q1 : NodeV W2 W2.heap.size ks[i] v) (q2 : NodeV W2 W2.heap.size ks'[i] v') => IH ks[i] ks'[i] v v' W2 (Nat.le_trans (wtAll_mem (List.getElem_mem h)) hwt) q1 q2)
    have Hk := Lib.hid hk; have Hk' := Lib.hid hk'; have Hkk := Lib.hid hkk; have Hkk' := Lib.hid hkk'
    have Hb0 := Lib.hid hb0; have HA := Lib.hid hA; have HB := Lib.hid hB
    clear IH hv1 hv2 hp ht hk hkk hp' ht' hk' hkk' hm hwt hb0 hA hB hkl hkm hkl' hkm'
    by_cases hl : l = l'
    · subst hl
      by_cases hps : ps = ps'
      · have e1 : decide (ps = ps') = true := decide_eq_true hps
        rw [e1] at HP Hs
        clear e1 hps
        by_cases ht : t = t'
        · have e1 : decide (t = t') = true := decide_eq_true ht
          rw [e1] at HT Hs
          clear e1 ht
          by_cases hlen : ks.length = ks'.length
          · have Hs2 : Hid (R = sameK (ks.drop 0) (ks'.drop 0)) := by show _ = _; rw [Hs.out]; simp [hlen]
            have hle : ks'.length ≤ ks.length := by omega
            have hle' : ks.length ≤ ks'.length := by omega
            have hnel : (((ks.length : Nat) : Int) != (ks'.length : Int)) = false := by simp [hlen]
            clear Hs hlen
            cases l <;>
            · go_enter Try.func67, Try.ntmps67
              go_wp2_with fail
              refine HP.out.mono ?_
              rintro e w1 ⟨rfl, q, rfl⟩
              have HT1 := HT q
              clear HP HT
              go_wp2_with fail
              refine HT1.out.mono ?_
              rintro e w1 ⟨rfl, q2, rfl⟩
              have hb2 := Lib.hid (below_drewN Hb0.out (q + q2))
              clear HT1
              go_wp2_with fail
              go_loopg [39] ks.length (fun g i wr => ∃ k : Nat, i = .int .i64 k ∧ k + g = ks.length ∧ R = sameK (ks.drop k) (ks'.drop k) ∧ NodeAt wr W.heap.size _ (.slice ap ps.length cp) (.slice at_ t.length ct) (.slice ak ks.length ck) ∧ NodeAt wr (W.heap.size + 1) _ (.slice ap' ps'.length cp') (.slice at_' t'.length ct') (.slice ak' ks'.length ck') ∧ Below W.heap.size W wr)
              case atStart => exact ⟨0, rfl, by omega, Hs2.out, HA.out, HB.out, hb2.out⟩
              case round =>
                obtain ⟨k, rfl, hg, hR, hA, hB, hbel⟩ := hrel
                have HR := Lib.hid hR; have HA2 := Lib.hid hA; have HB2 := Lib.hid hB; have Hb2 := Lib.hid hbel
                obtain ⟨x0, x1, x2, x3, -, hA4⟩ := hA.facts
                obtain ⟨y0, y1, y2, y3, -, hB4⟩ := hB.facts
                clear hR hA hB HA HB Hs2 hb2
                by_cases hlt : k < ks.length
                · have hlt' : k < ks'.length := by omega
                  have hW := hbel.size
                  obtain ⟨b, off, l1, a1, n1, c1, a2, n2, c2, a3, n3, c3, rfl, hb, hn, g0, g1, g2, g3⟩ := (Hk.out.keep hbel (Nat.le_refl _)).kid_at (KidsC.keep hbel (Nat.le_refl _) _ _ Hkk.out) k hlt
                  obtain ⟨b', off', l1', a1', n1', c1', a2', n2', c2', a3', n3', c3', rfl, hb', hn', g0', g1', g2', g3'⟩ := (Hk'.out.keep hbel (Nat.le_refl _)).kid_at (KidsC.keep hbel (Nat.le_refl _) _ _ Hkk'.out) k hlt'
                  have HC := Lib.hid (fun (W' : World) (hbw : Below wr.heap.size wr W') => HI.out k hlt hlt' (.agg #[.bool l1, .slice a1 n1 c1, .slice a2 n2 c2, .slice a3 n3 c3]) (.agg #[.bool l1', .slice a1' n1' c1', .slice a2' n2' c2', .slice a3' n3' c3']) W' ⟨_, rfl, NodeC.keep (hbw.mono hW) (Nat.le_trans hW hbw.size) _ _ hn⟩ ⟨_, rfl, NodeC.keep (hbw.mono hW) (Nat.le_trans hW hbw.size) _ _ hn'⟩)
                  have Hst := Lib.hid (sameK_step hlt hlt')
                  generalize sameN ks[k] ks'[k] = qq at HC Hst
                  have hlti : (k : Int) < ks.length := by omega
                  have hlti' : (k : Int) < ks'.length := by omega
                  clear hn hn' hbel
                  go_upto_region 6 with fail
                  go_cut [53] (fun bb wx => bb = .bool (!qq) ∧ Below wr.heap.size wr wx)
                  case first =>
                    go_region_law (first
                      | (refine step_call rfl 67 _ _ rfl rsame_ent [Value.agg #[.bool l1, .slice a1 n1 c1, .slice a2 n2 c2, .slice a3 n3 c3], Value.agg #[.bool l1', .slice a1' n1' c1', .slice a2' n2' c2', .slice a3' n3' c3']] ?_ _ (HC.out _ ?_) ?_
                         · go_simp
                         · exact (Below.refl _ _).drew
                         rintro e w6 ⟨rfl, hbel⟩
                         refine ⟨_, rfl, ?_⟩
                         have Hb6 := Lib.hid (((Below.refl wr.heap.size wr).drew).trans hbel); clear hbel))
                    all_goals
                      go_wp2_with fail
                      go_meet
                      case rel => exact ⟨rfl, Hb6.out⟩
                  case rest =>
                    obtain ⟨rfl, hbx⟩ := hcut
                    have HA3 := Lib.hid (HA2.out.keep (hbx.mono (by omega))); have HB3 := Lib.hid (HB2.out.keep (hbx.mono (by omega))); have Hb3 := Lib.hid (below_then Hb2.out hbx (Nat.le_refl _))
                    clear hbx HC x0 x1 x2 x3 y0 y1 y2 y3 g0 g1 g2 g3 g0' g1' g2' g3' HA2 HB2
                    cases qq with
                    | true =>
                      have Hst2 : Hid (R = sameK (ks.drop (k + 1)) (ks'.drop (k + 1))) := by show _ = _; rw [HR.out, Hst.out]; simp
                      go_wp2_with fail
                      go_roundg (gk - 1)
                      case measure => omega
                      case rel => exact ⟨k + 1, by go_num, by omega, Hst2.out, HA3.out, HB3.out, Hb3.out⟩
                    | false =>
                      have Hst2 : Hid (R = false) := by show _ = _; rw [HR.out, Hst.out]; simp
                      go_wp2_with fail
                      go_ret
                      exact ⟨ret_bool Hst2.out.symm, Hb3.out⟩
                · have Hst2 : Hid (R = true) := by show _ = _; rw [HR.out, sameK_end (by omega)]
                  have hnl : decide ((k : Int) < ks.length) = false := by simp; omega
                  clear hbel
                  go_wp2_with fail
                  go_ret
                  exact ⟨ret_bool Hst2.out.symm, Hb2.out⟩
          · have hnel : (((ks.length : Nat) : Int) != (ks'.length : Int)) = true := by simp; omega
            have Hs2 : Hid (R = false) := by show _ = _; rw [Hs.out]; simp [hlen]
            clear Hs hlen
            cases l <;>
            · go_enter Try.func67, Try.ntmps67
              go_wp2_with fail
              refine HP.out.mono ?_
              rintro e w1 ⟨rfl, q, rfl⟩
              have HT1 := HT q
              clear HP HT
              go_wp2_with fail
              refine HT1.out.mono ?_
              rintro e w1 ⟨rfl, q2, rfl⟩
              have hb2 := Lib.hid (below_drewN Hb0.out (q + q2))
              clear HT1
              go_wp2_with fail
              go_ret
              exact ⟨ret_bool (by rw [Hs2.out]), hb2.out⟩
        · have e1 : decide (t = t') = false := decide_eq_false ht
          rw [e1] at HT Hs
          clear e1 ht
          have Hs2 : Hid (R = false) := by show _ = _; rw [Hs.out]; simp
          cases l <;>
          · go_enter Try.func67, Try.ntmps67
            go_wp2_with fail
            refine HP.out.mono ?_
            rintro e w1 ⟨rfl, q, rfl⟩
            have HT1 := HT q
            clear HP HT
            go_wp2_with fail
            refine HT1.out.mono ?_
            rintro e w1 ⟨rfl, q2, rfl⟩
            have hb2 := Lib.hid (below_drewN Hb0.out (q + q2))
            clear HT1
            go_wp2_with fail
            go_ret
            exact ⟨ret_bool (by rw [Hs2.out]), hb2.out⟩
      · have e1 : decide (ps = ps') = false := decide_eq_false hps
        rw [e1] at HP Hs
        clear e1 hps HT
        have Hs2 : Hid (R = false) := by show _ = _; rw [Hs.out]; simp
        cases l <;>
        · go_enter Try.func67, Try.ntmps67
          go_wp2_with fail
          refine HP.out.mono ?_
          rintro e w1 ⟨rfl, q, rfl⟩
          have hb2 := Lib.hid (below_drewN Hb0.out q)
          clear HP
          go_wp2_with fail
          go_ret
          exact ⟨ret_bool (by rw [Hs2.out]), hb2.out⟩
    · have Hs2 : Hid (R = false) := by show _ = _; rw [Hs.out]; simp [hl]
      clear HP HT Hs
      cases l <;> cases l' <;> first
        | exact absurd rfl hl
        | (go_enter Try.func67, Try.ntmps67
           go_wp2_with fail
           go_ret
           exact ⟨ret_bool (by rw [Hs2.out]), Hb0.out⟩)

end Go.Proofs.Ytiinmgccjlmoaaa
