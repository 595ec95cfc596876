/- Parts of the proof, one behind the other: RG4, RSA, RSE, RKE, ROG, RYA. -/
import Derived.Test.YtaopoincbigjhaaGreatDoorFC1
import Derived.Test.YtaopoincbigjhaaGreatDoorFC2
import Derived.Test.YtaopoincbigjhaaGreatDoorFC3
import Derived.Test.YtaopoincbigjhaaGreatDoorFC4
import Derived.Test.YtaopoincbigjhaaGreatDoorFC5
import Derived.Test.YtaopoincbigjhaaGreatDoorFC6
import Derived.Test.YtaopoincbigjhaaGreatDoorFC7
import Derived.Test.YtaopoincbigjhaaGreatDoorFC8
import Derived.Test.YtaopoincbigjhaaGreatDoorFC9
import Derived.Test.YtaopoincbigjhaaGreatDoorFC10
import Derived.Test.YtaopoincbigjhaaGreatDoorFC11
import Derived.Test.YtaopoincbigjhaaGreatDoorFC12
import Derived.Test.YtaopoincbigjhaaGreatDoorFC13
import Derived.Test.YtaopoincbigjhaaGreatDoorFC14
import Derived.Test.YtaopoincbigjhaaGreatDoorFC15
import Derived.Test.YtaopoincbigjhaaGreatDoorFC16
import Derived.Test.YtaopoincbigjhaaGreatDoorFC17
import Derived.Test.YtaopoincbigjhaaGreatDoorFC18
import Derived.Test.YtaopoincbigjhaaGreatDoorFC19
import Derived.Test.YtaopoincbigjhaaGreatDoorFC20
import Derived.Test.YtaopoincbigjhaaGreatDoorFC21
import Derived.Test.YtaopoincbigjhaaGreatDoorFC22
import Derived.Test.YtaopoincbigjhaaGreatDoorFC23
import Derived.Test.YtaopoincbigjhaaGreatDoorFC24
import Derived.Test.YtaopoincbigjhaaGreatDoorFC25
import Derived.Test.YtaopoincbigjhaaGreatDoorFC26
import Derived.Test.YtaopoincbigjhaaGreatDoorFC27
import Derived.Deep.LoopGhost
import Derived.Deep.DeepCutAuto
import Derived.Deep.RegionLaw
namespace Go.Proofs.YtaopoincbigjhaaGreatDoor
open Go.RowKit Go.Redl
set_option linter.unusedVariables false

set_option maxHeartbeats 400000 in
theorem rsame_c (v1 v2 : Value) (B : Nat) (xs ys : List Int) (w : World) (h1 : Ints .i32 w B v1 xs) (h2 : Ints .i32 w B v2 ys) :
    Calls Tryz.prog 61 #[v1, v2] w fun e w' => e = .returned (.bool (decide (xs = ys))) ∧ Drawn w w' := by
  obtain ⟨⟨a, cap, rfl, hr⟩, -⟩ := h1
  obtain ⟨⟨a', cap', rfl, hr'⟩, -⟩ := h2
  have hm : xs.length ≤ 9223372036854775807 := by have h1 := hr.le; have h2 := hr.max; unfold maxLen at h2; omega
  have hm' : ys.length ≤ 9223372036854775807 := by have h1 := hr'.le; have h2 := hr'.max; unfold maxLen at h2; omega
  by_cases hl : xs.length = ys.length
  · go_enter Tryz.func61, Tryz.ntmps61
    have hle : ys.length ≤ xs.length := by omega
    have hle' : xs.length ≤ ys.length := by omega
    have hne : (((xs.length : Nat) : Int) != (ys.length : Int)) = false := by simp [hl]
    have Hl := Lib.hid hl; clear hl
    go_wp2_with fail
    go_loopw [13] (fun i wr => ∃ k : Nat, k ≤ xs.length ∧ i = .int .i64 k ∧ SameTo xs ys k ∧ Drawn w wr) (fun i _ => xs.length - (intOf i).toNat)
    case atStart => exact ⟨0, Nat.zero_le _, rfl, sameTo_zero _ _, ⟨0, rfl⟩⟩
    case round =>
      obtain ⟨k, hk, rfl, hp, q, rfl⟩ := hrel
      have Hp := Lib.hid hp; clear hp
      by_cases hlt : k < xs.length
      · obtain ⟨b, off, rfl, hb, hcell⟩ := hr.int_at k hlt
        obtain ⟨b', off', rfl, hb', hcell'⟩ := hr'.int_at k (by omega)
        have hcell := hcell k hlt
        have hcell' := hcell' k (by omega)
        have hlt' : k < ys.length := by omega
        rw [getD_of_lt hlt] at hcell
        rw [getD_of_lt hlt'] at hcell'
        go_wp2_with fail
        by_cases he : xs[k] = ys[k]
        · have hne : (xs[k] != ys[k]) = false := by simp [he]
          have He := Lib.hid he; clear he
          go_quiet (fail)
          go_wp2_with fail
          go_roundw
          case rel => exact ⟨k + 1, by omega, by go_num, sameTo_succ Hp.out hlt hlt' He.out, by first | exact drawn_one _ _ | exact drawn_two _ _ _⟩
          case measure => simp [intOf]; omega
        · have hne : (xs[k] != ys[k]) = true := by simp [he]
          have He := Lib.hid he; clear he
          go_quiet (fail)
          go_wp2_with fail
          go_ret
          exact ⟨ret_bool (by simp [same_not hlt hlt' He.out]), drawn_two _ _ _⟩
      · go_wp2_with fail
        go_ret
        obtain rfl : k = xs.length := by omega
        exact ⟨ret_bool (by simp [sameTo_all Hp.out Hl.out]), drawn_one _ _⟩
  · have hne : (((xs.length : Nat) : Int) != (ys.length : Int)) = true := by simp; omega
    have Hl := Lib.hid hl; clear hl
    go_enter Tryz.func61, Tryz.ntmps61
    go_wp2_with fail
    go_ret
    exact ⟨ret_bool (by simp [show xs ≠ ys from fun h => Hl.out (by rw [h])]), drawn_zero _⟩
end Go.Proofs.YtaopoincbigjhaaGreatDoor
namespace Go.Proofs.YtaopoincbigjhaaGreatDoor
open Go.RowKit Go.Redl
set_option linter.unusedVariables false

set_option maxRecDepth 100000 in
set_option maxHeartbeats 1000000 in
theorem rsamep_c (a a' : Option Addr) (cap cap' B : Nat) (xs ys : List PropD) (w : World) (hr : RowA w B 2 a xs.length cap (propCells xs)) (hr' : RowA w B 2 a' ys.length cap' (propCells ys)) :
    Calls Tryz.prog 60 #[.slice a xs.length cap, .slice a' ys.length cap'] w fun e w' => e = .returned (.bool (decide (xs = ys))) ∧ Drawn w w' := by
  have hm : xs.length ≤ 9223372036854775807 := by have h1 := hr.le; have h2 := hr.max; unfold maxLen at h2; omega
  have hm' : ys.length ≤ 9223372036854775807 := by have h1 := hr'.le; have h2 := hr'.max; unfold maxLen at h2; omega
  by_cases hl : xs.length = ys.length
  · go_enter Tryz.func60, Tryz.ntmps60
    have hle : ys.length ≤ xs.length := by omega
    have hle' : xs.length ≤ ys.length := by omega
    have hne : (((xs.length : Nat) : Int) != (ys.length : Int)) = false := by simp [hl]
    have Hl := Lib.hid hl; clear hl
    go_wp2_with fail
    go_loopw [13] (fun i wr => ∃ k : Nat, k ≤ xs.length ∧ i = .int .i64 k ∧ SameTo xs ys k ∧ Drawn w wr) (fun i _ => xs.length - (intOf i).toNat)
    case atStart => exact ⟨0, Nat.zero_le _, rfl, sameTo_zero _ _, ⟨0, rfl⟩⟩
    case round =>
      obtain ⟨k, hk, rfl, hp, q, rfl⟩ := hrel
      have Hp := Lib.hid hp; clear hp
      by_cases hlt : k < xs.length
      · obtain ⟨b, off, rfl, hb, hc0, hc1⟩ := hr.prop_at k hlt
        obtain ⟨b', off', rfl, hb', hc0', hc1'⟩ := hr'.prop_at k (by omega)
        have hlt' : k < ys.length := by omega
        have Hx : Hid (xs[k] = (xs[k].1, xs[k].2)) := rfl
        have Hy : Hid (ys[k] = (ys[k].1, ys[k].2)) := rfl
        generalize hX1 : xs[k].1 = x1 at hc0 Hx
        generalize hX2 : xs[k].2 = x2 at hc1 Hx
        generalize hY1 : ys[k].1 = y1 at hc0' Hy
        generalize hY2 : ys[k].2 = y2 at hc1' Hy
        clear hX1 hX2 hY1 hY2
        go_wp2_with fail
        by_cases he : x1 = y1
        · subst he
          by_cases he : x2 = y2
          · subst he
            have He : Hid (xs[k] = ys[k]) := Hx.out.trans Hy.out.symm
            go_quiet (fail)
            go_wp2_with fail
            go_roundw
            case rel => exact ⟨k + 1, by omega, by go_num, sameTo_succ Hp.out hlt hlt' He.out, by first | exact drawn_one _ _ | exact drawn_two _ _ _⟩
            case measure => simp [intOf]; omega
          · have He : Hid (xs[k] ≠ ys[k]) := by
              show xs[k] ≠ ys[k]
              rw [Hx.out, Hy.out]
              intro e
              exact he (Prod.mk.inj e).2
            have h2 := str_ne he
            generalize (⟨x2.toArray⟩ : ByteArray) = X2 at h2 hc1
            generalize (⟨y2.toArray⟩ : ByteArray) = Y2 at h2 hc1'
            clear he Hx Hy
            go_quiet (fail)
            go_wp2_with fail
            go_ret
            exact ⟨ret_bool (by simp [same_not hlt hlt' He.out]), drawn_two _ _ _⟩
        · have He : Hid (xs[k] ≠ ys[k]) := by
            show xs[k] ≠ ys[k]
            rw [Hx.out, Hy.out]
            intro e
            exact he (Prod.mk.inj e).1
          have h2 := str_ne he
          generalize (⟨x1.toArray⟩ : ByteArray) = X1 at h2 hc0
          generalize (⟨y1.toArray⟩ : ByteArray) = Y1 at h2 hc0'
          clear he Hx Hy
          go_quiet (fail)
          go_wp2_with fail
          go_ret
          exact ⟨ret_bool (by simp [same_not hlt hlt' He.out]), drawn_two _ _ _⟩
      · go_wp2_with fail
        go_ret
        obtain rfl : k = xs.length := by omega
        exact ⟨ret_bool (by simp [sameTo_all Hp.out Hl.out]), drawn_one _ _⟩
  · have hne : (((xs.length : Nat) : Int) != (ys.length : Int)) = true := by simp; omega
    have Hl := Lib.hid hl; clear hl
    go_enter Tryz.func60, Tryz.ntmps60
    go_wp2_with fail
    go_ret
    exact ⟨ret_bool (by simp [show xs ≠ ys from fun h => Hl.out (by rw [h])]), drawn_zero _⟩
end Go.Proofs.YtaopoincbigjhaaGreatDoor
namespace Go.Proofs.YtaopoincbigjhaaGreatDoor
open Go.RowKit Go.Redl
set_option linter.unusedVariables false

theorem rsame_ent : ∀ args w, (callFunc 16 args).run Tryz.prog w = .ok (.enter 16 args) w := by intro args w; kernel_rfl
set_option maxRecDepth 100000 in
set_option maxHeartbeats 4000000 in
theorem rsame4_c (m : Nat) : ∀ (n1 n2 : NodeD) (v1 v2 : Value) (W : World), n1.wt ≤ m → NodeV W W.heap.size n1 v1 → NodeV W W.heap.size n2 v2 →
    Calls Tryz.prog 16 #[v1, v2] W fun e w' => e = .returned (.bool (sameN n1 n2)) ∧ Below W.heap.size W w' := by
  induction m with
  | zero => intro n1 n2 v1 v2 W hm; have := wt_pos n1; omega
  | succ m IH =>
    intro n1 n2 v1 v2 W hm hv1 hv2
    obtain ⟨l, ps, t, ks⟩ := n1
    obtain ⟨l', ps', t', ks'⟩ := n2
    obtain ⟨ap, cp, at_, ct, ak, ck, css, rfl, hp, ht, hk, hkk⟩ := hv1.open
    obtain ⟨ap', cp', at_', ct', ak', ck', css', rfl, hp', ht', hk', hkk'⟩ := hv2.open
    have hwt : wtAll ks ≤ m := by simp only [NodeD.wt] at hm; omega
    have Hs := Lib.hid (sameN_open l l' ps ps' t t' ks ks')
    generalize sameN (.mk l ps t ks) (.mk l' ps' t' ks') = R at Hs ⊢
    have hA := (NodeAt.fresh W (.bool l) (.slice ap ps.length cp) (.slice at_ t.length ct) (.slice ak ks.length ck)).alloc (Obj.cells #[.bool l', .slice ap' ps'.length cp', .slice at_' t'.length ct', .slice ak' ks'.length ck'] 35)
    have hB := node_second W (Obj.cells #[.bool l, .slice ap ps.length cp, .slice at_ t.length ct, .slice ak ks.length ck] 35) (.bool l') (.slice ap' ps'.length cp') (.slice at_' t'.length ct') (.slice ak' ks'.length ck')
    have hb0 : Below W.heap.size W ((W.alloc (Obj.cells #[.bool l, .slice ap ps.length cp, .slice at_ t.length ct, .slice ak ks.length ck] 35)).alloc (Obj.cells #[.bool l', .slice ap' ps'.length cp', .slice at_' t'.length ct', .slice ak' ks'.length ck'] 35)) := ((Below.refl _ _).alloc (Nat.le_refl _) _).alloc (by simp) _
    have HP := Lib.hid (rsamep_c ap ap' cp cp' _ ps ps' _ (hp.keep hb0 (Nat.le_refl _)) (hp'.keep hb0 (Nat.le_refl _)))
    have HT := fun q => Lib.hid (rsame_c _ _ _ t t' _ (ht.keep (below_drewN hb0 q) (Nat.le_refl _)) (ht'.keep (below_drewN hb0 q) (Nat.le_refl _)))
    have hkl := hk.le; have hkm := hk.max; have hkl' := hk'.le; have hkm' := hk'.max
    unfold maxLen at hkm hkm'
    have hm1 : ks.length ≤ 9223372036854775807 := by omega
    have hm2 : ks'.length ≤ 9223372036854775807 := by omega
    have HI := Lib.hid (fun (i : Nat) (h : i < ks.length) (h' : i < ks'.length) (v v' : Value) (W2 : World) (q1 : NodeV W2 W2.heap.size ks[i] v) (q2 : NodeV W2 W2.heap.size ks'[i] v') => IH ks[i] ks'[i] v v' W2 (Nat.le_trans (wtAll_mem (List.getElem_mem h)) hwt) q1 q2)
    have Hk := Lib.hid hk; have Hk' := Lib.hid hk'; have Hkk := Lib.hid hkk; have Hkk' := Lib.hid hkk'
    have Hb0 := Lib.hid hb0; have HA := Lib.hid hA; have HB := Lib.hid hB
    clear IH hv1 hv2 hp ht hk hkk hp' ht' hk' hkk' hm hwt hb0 hA hB hkl hkm hkl' hkm'
    by_cases hl : l = l'
    · subst hl
      by_cases hps : ps = ps'
      · have e1 : decide (ps = ps') = true := decide_eq_true hps
        rw [e1] at HP Hs
        clear e1 hps
        by_cases ht : t = t'
        · have e1 : decide (t = t') = true := decide_eq_true ht
          rw [e1] at HT Hs
          clear e1 ht
          by_cases hlen : ks.length = ks'.length
          · have Hs2 : Hid (R = sameK (ks.drop 0) (ks'.drop 0)) := by show _ = _; rw [Hs.out]; simp [hlen]
            have hle : ks'.length ≤ ks.length := by omega
            have hle' : ks.length ≤ ks'.length := by omega
            have hnel : (((ks.length : Nat) : Int) != (ks'.length : Int)) = false := by simp [hlen]
            clear Hs hlen
            cases l <;>
            · go_enter Tryz.func16, Tryz.ntmps16
              go_wp2_with fail
              refine HP.out.mono ?_
              rintro e w1 ⟨rfl, q, rfl⟩
              have HT1 := HT q
              clear HP HT
              go_wp2_with fail
              refine HT1.out.mono ?_
              rintro e w1 ⟨rfl, q2, rfl⟩
              have hb2 := Lib.hid (below_drewN Hb0.out (q + q2))
              clear HT1
              go_wp2_with fail
              go_loopg [39] ks.length (fun g i wr => ∃ k : Nat, i = .int .i64 k ∧ k + g = ks.length ∧ R = sameK (ks.drop k) (ks'.drop k) ∧ NodeAt wr W.heap.size _ (.slice ap ps.length cp) (.slice at_ t.length ct) (.slice ak ks.length ck) ∧ NodeAt wr (W.heap.size + 1) _ (.slice ap' ps'.length cp') (.slice at_' t'.length ct') (.slice ak' ks'.length ck') ∧ Below W.heap.size W wr)
              case atStart => exact ⟨0, rfl, by omega, Hs2.out, HA.out, HB.out, hb2.out⟩
              case round =>
                obtain ⟨k, rfl, hg, hR, hA, hB, hbel⟩ := hrel
                have HR := Lib.hid hR; have HA2 := Lib.hid hA; have HB2 := Lib.hid hB; have Hb2 := Lib.hid hbel
                obtain ⟨x0, x1, x2, x3, -, hA4⟩ := hA.facts
                obtain ⟨y0, y1, y2, y3, -, hB4⟩ := hB.facts
                clear hR hA hB HA HB Hs2 hb2
                by_cases hlt : k < ks.length
                · have hlt' : k < ks'.length := by omega
                  have hW := hbel.size
                  obtain ⟨b, off, l1, a1, n1, c1, a2, n2, c2, a3, n3, c3, rfl, hb, hn, g0, g1, g2, g3⟩ := (Hk.out.keep hbel (Nat.le_refl _)).kid_at (KidsC.keep hbel (Nat.le_refl _) _ _ Hkk.out) k hlt
                  obtain ⟨b', off', l1', a1', n1', c1', a2', n2', c2', a3', n3', c3', rfl, hb', hn', g0', g1', g2', g3'⟩ := (Hk'.out.keep hbel (Nat.le_refl _)).kid_at (KidsC.keep hbel (Nat.le_refl _) _ _ Hkk'.out) k hlt'
                  have HC := Lib.hid (fun (W' : World) (hbw : Below wr.heap.size wr W') => HI.out k hlt hlt' (.agg #[.bool l1, .slice a1 n1 c1, .slice a2 n2 c2, .slice a3 n3 c3]) (.agg #[.bool l1', .slice a1' n1' c1', .slice a2' n2' c2', .slice a3' n3' c3']) W' ⟨_, rfl, NodeC.keep (hbw.mono hW) (Nat.le_trans hW hbw.size) _ _ hn⟩ ⟨_, rfl, NodeC.keep (hbw.mono hW) (Nat.le_trans hW hbw.size) _ _ hn'⟩)
                  have Hst := Lib.hid (sameK_step hlt hlt')
                  generalize sameN ks[k] ks'[k] = qq at HC Hst
                  have hlti : (k : Int) < ks.length := by omega
                  have hlti' : (k : Int) < ks'.length := by omega
                  clear hn hn' hbel
                  go_upto_region 6 with fail
                  go_cut [53] (fun bb wx => bb = .bool (!qq) ∧ Below wr.heap.size wr wx)
                  case first =>
                    go_region_law (first
                      | (refine step_call rfl 16 _ _ rfl rsame_ent [Value.agg #[.bool l1, .slice a1 n1 c1, .slice a2 n2 c2, .slice a3 n3 c3], Value.agg #[.bool l1', .slice a1' n1' c1', .slice a2' n2' c2', .slice a3' n3' c3']] ?_ _ (HC.out _ ?_) ?_
                         · go_simp
                         · exact (Below.refl _ _).drew
                         rintro e w6 ⟨rfl, hbel⟩
                         refine ⟨_, rfl, ?_⟩
                         have Hb6 := Lib.hid (((Below.refl wr.heap.size wr).drew).trans hbel); clear hbel))
                    all_goals
                      go_wp2_with fail
                      go_meet
                      case rel => exact ⟨rfl, Hb6.out⟩
                  case rest =>
                    obtain ⟨rfl, hbx⟩ := hcut
                    have HA3 := Lib.hid (HA2.out.keep (hbx.mono (by omega))); have HB3 := Lib.hid (HB2.out.keep (hbx.mono (by omega))); have Hb3 := Lib.hid (below_then Hb2.out hbx (Nat.le_refl _))
                    clear hbx HC x0 x1 x2 x3 y0 y1 y2 y3 g0 g1 g2 g3 g0' g1' g2' g3' HA2 HB2
                    cases qq with
                    | true =>
                      have Hst2 : Hid (R = sameK (ks.drop (k + 1)) (ks'.drop (k + 1))) := by show _ = _; rw [HR.out, Hst.out]; simp
                      go_wp2_with fail
                      go_roundg (gk - 1)
                      case measure => omega
                      case rel => exact ⟨k + 1, by go_num, by omega, Hst2.out, HA3.out, HB3.out, Hb3.out⟩
                    | false =>
                      have Hst2 : Hid (R = false) := by show _ = _; rw [HR.out, Hst.out]; simp
                      go_wp2_with fail
                      go_ret
                      exact ⟨ret_bool Hst2.out.symm, Hb3.out⟩
                · have Hst2 : Hid (R = true) := by show _ = _; rw [HR.out, sameK_end (by omega)]
                  have hnl : decide ((k : Int) < ks.length) = false := by simp; omega
                  clear hbel
                  go_wp2_with fail
                  go_ret
                  exact ⟨ret_bool Hst2.out.symm, Hb2.out⟩
          · have hnel : (((ks.length : Nat) : Int) != (ks'.length : Int)) = true := by simp; omega
            have Hs2 : Hid (R = false) := by show _ = _; rw [Hs.out]; simp [hlen]
            clear Hs hlen
            cases l <;>
            · go_enter Tryz.func16, Tryz.ntmps16
              go_wp2_with fail
              refine HP.out.mono ?_
              rintro e w1 ⟨rfl, q, rfl⟩
              have HT1 := HT q
              clear HP HT
              go_wp2_with fail
              refine HT1.out.mono ?_
              rintro e w1 ⟨rfl, q2, rfl⟩
              have hb2 := Lib.hid (below_drewN Hb0.out (q + q2))
              clear HT1
              go_wp2_with fail
              go_ret
              exact ⟨ret_bool (by rw [Hs2.out]), hb2.out⟩
        · have e1 : decide (t = t') = false := decide_eq_false ht
          rw [e1] at HT Hs
          clear e1 ht
          have Hs2 : Hid (R = false) := by show _ = _; rw [Hs.out]; simp
          cases l <;>
          · go_enter Tryz.func16, Tryz.ntmps16
            go_wp2_with fail
            refine HP.out.mono ?_
            rintro e w1 ⟨rfl, q, rfl⟩
            have HT1 := HT q
            clear HP HT
            go_wp2_with fail
            refine HT1.out.mono ?_
            rintro e w1 ⟨rfl, q2, rfl⟩
            have hb2 := Lib.hid (below_drewN Hb0.out (q + q2))
            clear HT1
            go_wp2_with fail
            go_ret
            exact ⟨ret_bool (by rw [Hs2.out]), hb2.out⟩
      · have e1 : decide (ps = ps') = false := decide_eq_false hps
        rw [e1] at HP Hs
        clear e1 hps HT
        have Hs2 : Hid (R = false) := by show _ = _; rw [Hs.out]; simp
        cases l <;>
        · go_enter Tryz.func16, Tryz.ntmps16
          go_wp2_with fail
          refine HP.out.mono ?_
          rintro e w1 ⟨rfl, q, rfl⟩
          have hb2 := Lib.hid (below_drewN Hb0.out q)
          clear HP
          go_wp2_with fail
          go_ret
          exact ⟨ret_bool (by rw [Hs2.out]), hb2.out⟩
    · have Hs2 : Hid (R = false) := by show _ = _; rw [Hs.out]; simp [hl]
      clear HP HT Hs
      cases l <;> cases l' <;> first
        | exact absurd rfl hl
        | (go_enter Tryz.func16, Tryz.ntmps16
           go_wp2_with fail
           go_ret
           exact ⟨ret_bool (by rw [Hs2.out]), Hb0.out⟩)
end Go.Proofs.YtaopoincbigjhaaGreatDoor
namespace Go.Proofs.YtaopoincbigjhaaGreatDoor
open Go.RowKit Go.Redl
set_option linter.unusedVariables false

theorem alikeN_pre : ∀ {a b : List Int}, alikeN a b = a.length ↔ a <+: b
  | [], b => by simp [alikeN]
  | x :: a, [] => by simp [alikeN]
  | x :: a, y :: b => by
    unfold alikeN
    rw [List.cons_prefix_cons, ← alikeN_pre (a := a) (b := b)]
    split
    · rename_i h; simp [h]; omega
    · rename_i h; simp [h]
end Go.Proofs.YtaopoincbigjhaaGreatDoor
namespace Go.Proofs.YtaopoincbigjhaaGreatDoor
open Go.RowKit Go.Redl
set_option linter.unusedVariables false

/-- What stands elsewhere stays. -/
theorem atN_put_other : ∀ (p q : List Int) (n k k' : NodeD), atN n p = some k → ¬ p <+: q → ¬ q <+: p → atN (putN n p k') q = atN n q
  | [], q, n, k, k', ha, h1, h2 => absurd (List.nil_prefix) h1
  | i :: p, [], n, k, k', ha, h1, h2 => absurd (List.nil_prefix) h2
  | i :: p, c :: q, n, k, k', ha, h1, h2 => by
    obtain ⟨j, rfl, hj, ha2⟩ := atN_cons_some ha
    rw [putN_cons hj]
    by_cases hc : c = (j : Int)
    · subst hc
      have hj2 : j < (kidsOf (setKids n ((kidsOf n).set j (putN (kidsOf n)[j] p k')))).length := by rw [kids_setKids]; simpa using hj
      rw [atN_cons hj2, atN_cons hj]
      simp only [kids_setKids, List.getElem_set_self]
      exact atN_put_other p q _ k k' ha2 (fun h => h1 (List.cons_prefix_cons.2 ⟨rfl, h⟩)) (fun h => h2 (List.cons_prefix_cons.2 ⟨rfl, h⟩))
    · conv => lhs; unfold atN
      conv => rhs; unfold atN
      split
      · rw [kids_setKids, List.getElem?_set_ne (by omega)]
      · rfl
end Go.Proofs.YtaopoincbigjhaaGreatDoor
namespace Go.Proofs.YtaopoincbigjhaaGreatDoor
open Go.RowKit Go.Redl
set_option linter.unusedVariables false
set_option linter.unusedSimpArgs false

theorem fixL_len2 (r : RuleD) (ks : List NodeD) (p : List Int) (f : FindD) (m : Nat) (h1 : wtAll ks ≤ m) (h2 : f.2.2 ≤ (m : Int) + 1) : (fixL r ks p f).length ≤ m + 2 := by
  have hk : (kidsOf (kidAt ks f.2.1.toNat)).length ≤ m := by
    have h3 : (kidAt ks f.2.1.toNat).wt ≤ m + 1 := by
      by_cases hi : f.2.1.toNat < ks.length
      · rw [kid_get hi]; have := wtAll_mem (List.getElem_mem hi); omega
      · rw [show kidAt ks f.2.1.toNat = .mk false [] [] [] from by simp [kidAt, List.getD, List.getElem?_eq_none (show ks.length ≤ f.2.1.toNat by omega)]]
        simp [NodeD.wt, propsWt, wtAll]
    generalize kidAt ks f.2.1.toNat = q at h3 ⊢
    obtain ⟨l, ps, t, ks'⟩ := q
    have := wtAll_len ks'
    simp only [NodeD.wt, kidsOf] at h3 ⊢
    omega
  unfold fixL
  split
  · simp only [List.length_cons, List.length_nil]; omega
  split
  · simp only [List.length_append, List.length_map, List.length_range, List.length_cons, List.length_nil]; omega
  split
  · simp only [List.length_cons, List.length_map, List.length_range]; omega
  split
  · simp only [List.length_cons, List.length_nil]; omega
  · simp only [List.length_cons, List.length_nil]; omega
theorem fixN_len2 (s : SchemaD) (n : NodeD) (p : List Int) (hn : n.wt ≤ 1048576) : (fixN s n p).1.length ≤ 100000000 := by
  have hw := atN_wt p n
  unfold fixN
  cases hat : atN n p with
  | none => simp
  | some k =>
    have hk := hw k hat
    simp only
    split
    · simp
    split
    · simp
    · have hks : wtAll (kidsOf k) ≤ 1048576 := by
        obtain ⟨l, ps, t, ks'⟩ := k
        simp only [NodeD.wt, kidsOf] at hk ⊢
        omega
      have hl := wtAll_len (kidsOf k)
      have hm : (findN s k).2.2 ≤ ((1048576 : Nat) : Int) + 1 := by
        rcases find_cases s k with hF | ⟨c, j, -, -, -, -, hF, -, -, -⟩
        · rw [hF]; simp
        · rw [hF]
          show ((manyN (ruleOf s (typeN k)) (kidsOf k) c : Nat) : Int) ≤ _
          have : manyN (ruleOf s (typeN k)) (kidsOf k) c ≤ 1 + (kidsOf k).length := by
            unfold manyN
            split
            · unfold runA
              have h1 := List.takeWhile_prefix (l := ((actsOf (ruleOf s (typeN k)) (kidsOf k)).drop ((lookN (ruleOf s (typeN k)) (kidsOf k) c).toNat + 1))) (p := fun a => decide (a = (actsOf (ruleOf s (typeN k)) (kidsOf k)).getD (lookN (ruleOf s (typeN k)) (kidsOf k) c).toNat (0, [])))
              have h2 := h1.length_le
              have h3 : ((actsOf (ruleOf s (typeN k)) (kidsOf k)).drop ((lookN (ruleOf s (typeN k)) (kidsOf k) c).toNat + 1)).length ≤ (kidsOf k).length := by simp [actsOf]
              omega
            · omega
          omega
      have := fixL_len2 (ruleOf s (typeN k)) (kidsOf k) p (findN s k) 1048576 hks hm
      exact Nat.le_trans this (by omega)
theorem small_path2 (s : SchemaD) (n : NodeD) (p : List Int) (h : smallB s n p = true) : p.length ≤ 40 := by
  unfold smallB at h
  simp only [Bool.and_eq_true, decide_eq_true_eq] at h
  exact h.2
theorem small_node {s : SchemaD} {n : NodeD} {p : List Int} (h : smallB s n p = true) : n.wt ≤ 15360 := by
  unfold smallB at h
  simp only [Bool.and_eq_true] at h
  have := wt_few h.1.2
  omega
theorem elem_wt (t : List UInt8) : (elemN t).wt ≤ 7 + t.length := by
  unfold elemN
  by_cases h : t = []
  · simp [h, NodeD.wt, propsWt, wtAll]
  · rw [if_neg h]
    simp only [NodeD.wt, propsWt, wtAll, List.length_nil]
    have : typeB.length = 4 := rfl
    omega
theorem name_len {t : List UInt8} (h : nameB t = true) : t.length ≤ 32 := by
  have := (name_val h).2
  unfold valB at this
  simp only [Bool.and_eq_true, decide_eq_true_eq] at this
  exact this.1
theorem kidAt_wt (ks : List NodeD) (i : Nat) : (kidAt ks i).wt ≤ wtAll ks + 1 := by
  by_cases hi : i < ks.length
  · rw [kid_get hi]; have := wtAll_mem (List.getElem_mem hi); omega
  · rw [show kidAt ks i = .mk false [] [] [] from by simp [kidAt, List.getD, List.getElem?_eq_none (show ks.length ≤ i by omega)]]
    simp [NodeD.wt, propsWt, wtAll]
theorem noKids_wt (k : NodeD) : (noKids k).wt ≤ k.wt := by
  cases k; simp only [noKids, NodeD.wt, wtAll]; omega
theorem propsOf_len (k : NodeD) : (propsOf k).length ≤ k.wt := by
  obtain ⟨l, ps, t, ks⟩ := k
  have := propsWt_len ps
  simp only [propsOf, NodeD.wt]; omega
theorem kids_wt2 (k : NodeD) : wtAll (kidsOf k) + 1 ≤ k.wt := by
  cases k; simp only [kidsOf, NodeD.wt]; omega
theorem insWt_none {l : List OpD} (h : ∀ o ∈ l, o.kind ≠ 1) : insWt l = 0 := by
  induction l with
  | nil => rfl
  | cons o l ih =>
    simp only [insWt]
    rw [if_neg (h o (by simp)), ih (fun o ho => h o (by simp [ho]))]
/-- What an operation of a repair is bounded by. -/
def OpOk (o : OpD) : Prop := KindR o.kind ∧ o.node.wt ≤ 1000000 ∧ o.dest.length ≤ 1000000 ∧ o.old.length ≤ 100000000
theorem fixL_ok {s : SchemaD} {n k : NodeD} {p : List Int} (hs : checkS s = 0) (hk : k.wt ≤ 15360) (hp : p.length ≤ 40) (hf : (findN s k).1 ≠ 0) :
    (∀ o ∈ fixL (ruleOf s (typeN k)) (kidsOf k) p (findN s k), OpOk o) ∧ insWt (fixL (ruleOf s (typeN k)) (kidsOf k) p (findN s k)) ≤ 100 ∧ fixL (ruleOf s (typeN k)) (kidsOf k) p (findN s k) ≠ [] := by
  have hF := formed_of (check_all hs _ (rule_in s (typeN k))).1
  have hkw := kids_wt2 k
  have hz : zeroN.wt = 1 := rfl
  rcases find_cases s k with h | ⟨c, j, hl, h1, h6, hj, he, hlt, h4, h66⟩
  · rw [h] at hf; exact absurd rfl hf
  rw [he]
  generalize ruleOf s (typeN k) = r at hF hj ⊢
  have hkj := kidAt_wt (kidsOf k) j
  obtain rfl | rfl | rfl | rfl | rfl | rfl : c = 1 ∨ c = 2 ∨ c = 3 ∨ c = 4 ∨ c = 5 ∨ c = 6 := by omega
  · rw [fixL_one (.inl rfl)]
    refine ⟨fun o ho => ?_, by simp [insWt], by simp⟩
    rw [List.mem_singleton.1 ho]
    exact ⟨.inr (.inl rfl), (show (kidAt (kidsOf k) (((j : Nat) : Int)).toNat).wt ≤ 1000000 by rw [Int.toNat_natCast]; omega), by simp, by simp⟩
  · rw [fixL_two rfl]
    refine ⟨fun o ho => ?_, ?_, by simp⟩
    · rcases List.mem_append.1 ho with ho | ho
      · obtain ⟨i, -, rfl⟩ := List.mem_map.1 ho
        exact ⟨.inr (.inr (.inr rfl)), (show zeroN.wt ≤ 1000000 by omega), (show (p ++ [_]).length ≤ 1000000 by simp; omega), by simp⟩
      · rw [List.mem_singleton.1 ho]
        have := noKids_wt (kidAt (kidsOf k) j)
        exact ⟨.inr (.inl rfl), (show (noKids (kidAt (kidsOf k) (((j : Nat) : Int)).toNat)).wt ≤ 1000000 by rw [Int.toNat_natCast]; omega), by simp, by simp⟩
    · rw [insWt_none]
      · omega
      · intro o ho
        rcases List.mem_append.1 ho with ho | ho
        · obtain ⟨i, -, rfl⟩ := List.mem_map.1 ho
          simp
        · rw [List.mem_singleton.1 ho]; simp
  · have hjl := hlt (by omega)
    have h4a := (run_acts hjl hj).1
    have hnm := name_len (act_wrap (actOf_ok hF _) h4a)
    have hew := elem_wt (actOf r (kidsOf k)[j]).2
    rw [fixL_three rfl]
    simp only [Int.toNat_natCast]
    rw [kid_at hjl]
    refine ⟨fun o ho => ?_, ?_, by simp⟩
    · rcases List.mem_cons.1 ho with rfl | ho
      · exact ⟨.inl rfl, (show (elemN _).wt ≤ 1000000 by omega), by simp, by simp⟩
      · obtain ⟨i, -, rfl⟩ := List.mem_map.1 ho
        exact ⟨.inr (.inr (.inr rfl)), (show zeroN.wt ≤ 1000000 by omega), (show (p ++ [_, _]).length ≤ 1000000 by simp; omega), by simp⟩
    · rw [insWt, insWt_none (l := List.map _ _)]
      · rw [if_pos rfl]
        show (elemN _).wt + 0 ≤ 100
        omega
      · intro o ho
        obtain ⟨i, -, rfl⟩ := List.mem_map.1 ho
        simp
  · rw [fixL_four rfl]
    have hpl := propsOf_len (kidAt (kidsOf k) j)
    refine ⟨fun o ho => ?_, by simp [insWt], by simp⟩
    rw [List.mem_singleton.1 ho]
    exact ⟨.inr (.inr (.inl rfl)), (show zeroN.wt ≤ 1000000 by omega), by simp, (show (propsOf (kidAt (kidsOf k) (((j : Nat) : Int)).toNat)).length ≤ 100000000 by rw [Int.toNat_natCast]; omega)⟩
  · rw [fixL_one (.inr rfl)]
    refine ⟨fun o ho => ?_, by simp [insWt], by simp⟩
    rw [List.mem_singleton.1 ho]
    exact ⟨.inr (.inl rfl), (show (kidAt (kidsOf k) (((j : Nat) : Int)).toNat).wt ≤ 1000000 by rw [Int.toNat_natCast]; omega), by simp, by simp⟩
  · rw [fixL_six rfl]
    have hx : (if r.fill = 1 then NodeD.mk true [] [] [] else elemN r.fillT).wt ≤ 100 := by
      split
      · simp [NodeD.wt, propsWt, wtAll]
      · rename_i hf1
        have hj6 : lookN r (kidsOf k) 6 = j := hj
        rw [look_last] at hj6
        split at hj6
        · rename_i h
          have := name_len (fill_two hF h.2 hf1).2
          have := elem_wt r.fillT
          omega
        · omega
    generalize (if r.fill = 1 then NodeD.mk true [] [] [] else elemN r.fillT) = x at hx ⊢
    refine ⟨fun o ho => ?_, ?_, by simp⟩
    · rw [List.mem_singleton.1 ho]
      exact ⟨.inl rfl, (show x.wt ≤ 1000000 by omega), by simp, by simp⟩
    · simp only [insWt, if_true]; omega
/-- The tree behind a repair. -/
def fixedN (s : SchemaD) (n k : NodeD) (p : List Int) : NodeD := putN n p (setKids k (fixK (ruleOf s (typeN k)) (kidsOf k) (findN s k)))
theorem fix_case {s : SchemaD} {n : NodeD} {p : List Int} (hsm : smallB s n p = true) (hs : checkS s = 0) (hn : nodeE n = 0) (hr : leafOf n = false) :
    ((fixN s n p).2 ≠ 0 ∧ (fixN s n p).1 = []) ∨
    ∃ k, atN n p = some k ∧ leafOf k = false ∧ (findN s k).1 ≠ 0 ∧ (fixN s n p).2 = 0 ∧ playN n ((fixN s n p).1.map OpD.full) = some (fixedN s n k p) ∧ (fixN s n p).1 ≠ [] ∧ (∀ o ∈ (fixN s n p).1, OpOk o) ∧
      n.wt + insWt (fixN s n p).1 ≤ 1000000 ∧ nodeE (fixedN s n k p) = 0 ∧ sizeN (fixedN s n k p) ≠ sizeN n ∧ (fixedN s n k p).wt ≤ 1000000 ∧ (fixN s n p).1 = fixL (ruleOf s (typeN k)) (kidsOf k) p (findN s k) := by
  have hnw := small_node hsm
  have hpl := small_path2 s n p hsm
  unfold fixN
  cases ha : atN n p with
  | none => exact .inl ⟨by simp, rfl⟩
  | some k =>
    simp only
    by_cases hl : leafOf k = true
    · rw [if_pos hl]; exact .inl ⟨by simp, rfl⟩
    · rw [if_neg hl]
      by_cases hf : (findN s k).1 = 0
      · rw [if_pos hf]; exact .inl ⟨by simp, rfl⟩
      · rw [if_neg hf]
        right
        have hkw := atN_wt _ _ _ ha
        have hE := nodeE_at p n k hn ha
        obtain ⟨h1, h2, h3⟩ := fixL_ok (n := n) hs (by omega) hpl hf
        have hpp := fix_play hn hr ha hf (new_ok hs hf)
        have hless := fix_less hs ha hf
        have hx : sizeN (fixedN s n k p) ≠ sizeN n := by
          obtain ⟨g1, g2, g3⟩ := hless
          show sizeN (putN n p _) ≠ sizeN n
          by_cases e3 : (findN s k).1 = 3
          · obtain ⟨w, -, -, -, -, h⟩ := g1 e3
            omega
          · by_cases e6 : (findN s k).1 = 6
            · have := (g2 e6).2.2; omega
            · have := g3 e3 e6; omega
        have hwt : (fixedN s n k p).wt ≤ n.wt + insWt (fixL (ruleOf s (typeN k)) (kidsOf k) p (findN s k)) := by
          have hgen : ∀ (L : List OpD) (m Y : NodeD), (∀ o ∈ L, OpOk o) → m.wt + insWt L ≤ 100000000 → playN m (L.map OpD.full) = some Y → Y.wt ≤ m.wt + insWt L := by
            intro L
            induction L with
            | nil => intro m Y _ _ h; injection h with h; subst h; exact Nat.le_add_right _ _
            | cons o L ih =>
              intro m Y ho hw h
              obtain ⟨T, hT, h5⟩ := playN_split h
              have h6 := apply_wt (ho o (by simp)).1 (by omega) hT
              simp only [insWt] at hw ⊢
              have h7 := ih T Y (fun o ho' => ho o (by simp [ho'])) (by omega) h5
              omega
          exact hgen _ n _ h1 (by omega) hpp
        exact ⟨k, rfl, by simpa using hl, hf, rfl, hpp, h3, h1, (show n.wt + insWt (fixL _ _ _ _) ≤ 1000000 by omega), nodeE_putK hn ha (by simpa using hl) (fixK_ok hs hE hf), hx, by omega, rfl⟩
end Go.Proofs.YtaopoincbigjhaaGreatDoor
