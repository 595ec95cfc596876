/- Parts of the proof, one behind the other: RSB, RSE, RW9, RDI, RPE, RN2, RFB, RFE. -/
import Derived.Test.YtmhgbocejjnoaaaGreatDoorPC11
import Derived.Test.YtmhgbocejjnoaaaGreatDoorPC1
import Derived.Test.YtmhgbocejjnoaaaGreatDoorPC12
import Derived.Test.YtmhgbocejjnoaaaGreatDoorPC2
import Derived.Test.YtmhgbocejjnoaaaGreatDoorPC7
import Derived.Deep.LoopGhost
import Derived.Deep.DeepCutAuto
import Derived.Deep.RegionLaw
import Derived.Test.YtmhgbocejjnoaaaGreatDoorRows
import Derived.Test.YtmhgbocejjnoaaaGreatDoorProg
import Derived.Test.YtmhgbocejjnoaaaGreatDoorCards
import Derived.Test.YtmhgbocejjnoaaaGreatDoorTie
import Derived.ProofKit
import Derived.LaidMore
import Derived.OpenShut
import Derived.ShutString
import Derived.ChangeOld
import Derived.Below
import Derived.Stop.Joined
import Derived.Lib.LaidTab
import Derived.Stop.LaidErr
import Derived.Deep.DeepHandedRow
import Derived.Deep.DeepWitnessRowRef
import Derived.JoinedCond
import Derived.Lay
import Derived.SevenTiedAt
import Derived.Test.YtmhgbocejjnoaaaGreatDoorPC4
/- Walks: node.Same. -/
namespace Go.Proofs.YtmhgbocejjnoaaaGreatDoor
open Go.RowKit Go.Redl
set_option linter.unusedVariables false

mutual
/-- Are two trees the same. -/
def sameN : NodeD → NodeD → Bool
  | .mk l ps t ks, .mk l' ps' t' ks' => l == l' && (decide (ps = ps') && (decide (t = t') && (decide (ks.length = ks'.length) && sameK ks ks')))
def sameK : List NodeD → List NodeD → Bool
  | [], _ => true
  | _ :: _, [] => true
  | k :: ks, k' :: ks' => sameN k k' && sameK ks ks'
end
mutual
theorem sameN_self : ∀ n : NodeD, sameN n n = true
  | .mk l ps t ks => by unfold sameN; simp [sameK_self ks]
theorem sameK_self : ∀ ks : List NodeD, sameK ks ks = true
  | [] => by unfold sameK; rfl
  | k :: ks => by unfold sameK; simp [sameN_self k, sameK_self ks]
end
mutual
theorem sameN_eq : ∀ n m : NodeD, sameN n m = true → n = m
  | .mk l ps t ks, .mk l' ps' t' ks', h => by
    unfold sameN at h
    simp only [Bool.and_eq_true, decide_eq_true_eq, beq_iff_eq] at h
    obtain ⟨h1, h2, h3, h4, h5⟩ := h
    subst h1; subst h2; subst h3
    rw [sameK_eq ks ks' h4 h5]
theorem sameK_eq : ∀ ks ks' : List NodeD, ks.length = ks'.length → sameK ks ks' = true → ks = ks'
  | [], [], _, _ => rfl
  | [], _ :: _, h, _ => by simp at h
  | _ :: _, [], h, _ => by simp at h
  | k :: ks, k' :: ks', h, h2 => by
    unfold sameK at h2
    simp only [Bool.and_eq_true] at h2
    rw [sameN_eq k k' h2.1, sameK_eq ks ks' (by simpa using h) h2.2]
end
theorem sameK_step {ks ks' : List NodeD} {k : Nat} (h : k < ks.length) (h' : k < ks'.length) : sameK (ks.drop k) (ks'.drop k) = (sameN ks[k] ks'[k] && sameK (ks.drop (k + 1)) (ks'.drop (k + 1))) := by
  conv => lhs; rw [List.drop_eq_getElem_cons h, List.drop_eq_getElem_cons h']
  simp only [sameK]
theorem sameK_end {ks ks' : List NodeD} {k : Nat} (h : ks.length ≤ k) : sameK (ks.drop k) (ks'.drop k) = true := by
  rw [List.drop_eq_nil_of_le h]; unfold sameK; rfl

set_option maxRecDepth 100000 in
set_option maxHeartbeats 1000000 in
theorem equalKids_c (ks ks' : List NodeD) (a a' : Option Addr) (c c' : Nat) (css css' : List Value) (W : World) (hr : RowA W W.heap.size 4 a ks.length c css) (hk : KidsC W W.heap.size ks css) (hr' : RowA W W.heap.size 4 a' ks'.length c' css') (hk' : KidsC W W.heap.size ks' css')
    (hC : ∀ (i : Nat) (h : i < ks.length) (h' : i < ks'.length) (v v' : Value) (W' : World), NodeV W' W'.heap.size ks[i] v → NodeV W' W'.heap.size ks'[i] v' → Calls Tryz.prog 12 #[v, v'] W' fun e w' => e = .returned (.bool (sameN ks[i] ks'[i])) ∧ Below W'.heap.size W' w') :
    Calls Tryz.prog 27 #[.slice a ks.length c, .slice a' ks'.length c', .func (.func 12) #[] #[]] W fun e w' => e = .returned (.bool (decide (ks.length = ks'.length) && sameK ks ks')) ∧ Below W.heap.size W w' := by
  have hm : ks.length ≤ 9223372036854775807 := by have h1 := hr.le; have h2 := hr.max; unfold maxLen at h2; omega
  have hm' : ks'.length ≤ 9223372036854775807 := by have h1 := hr'.le; have h2 := hr'.max; unfold maxLen at h2; omega
  by_cases hl : ks.length = ks'.length
  · have hne : (((ks.length : Nat) : Int) != (ks'.length : Int)) = false := by simp [hl]
    have Hl := Lib.hid hl
    have HC := Lib.hid hC
    have Hk := Lib.hid hk; have Hk' := Lib.hid hk'
    obtain ⟨R, hR⟩ : ∃ R, R = (decide (ks.length = ks'.length) && sameK ks ks') := ⟨_, rfl⟩
    rw [← hR]
    have HR : Hid (R = sameK (ks.drop 0) (ks'.drop 0)) := by show R = _; rw [hR]; simp [hl]
    clear hl hC hk hk' hR
    have hle : ks'.length ≤ ks.length := by have := Hl.out; omega
    go_enter Tryz.func27, Tryz.ntmps27
    go_wp2_with fail
    go_loopw [17] (fun i wr => ∃ k : Nat, k ≤ ks.length ∧ i = .int .i64 k ∧ R = sameK (ks.drop k) (ks'.drop k) ∧ Below W.heap.size W wr) (fun i _ => ks.length - (intOf i).toNat)
    case atStart => exact ⟨0, Nat.zero_le _, rfl, HR.out, Below.refl _ _⟩
    case round =>
      obtain ⟨k, hkk, rfl, hp, hbel⟩ := hrel
      clear HR
      by_cases hlt : k < ks.length
      · have hlt' : k < ks'.length := by have := Hl.out; omega
        have hW := hbel.size
        obtain ⟨b, off, l, a1, n1, c1, a2, n2, c2, a3, n3, c3, rfl, hb, hn, g0, g1, g2, g3⟩ := (hr.keep hbel (Nat.le_refl _)).kid_at (KidsC.keep hbel (Nat.le_refl _) _ _ Hk.out) k hlt
        obtain ⟨b', off', l', a1', n1', c1', a2', n2', c2', a3', n3', c3', rfl, hb', hn', g0', g1', g2', g3'⟩ := (hr'.keep hbel (Nat.le_refl _)).kid_at (KidsC.keep hbel (Nat.le_refl _) _ _ Hk'.out) k hlt'
        have hbw : b < wr.heap.size := by omega
        have hbw' : b' < wr.heap.size := by omega
        have hb0 : Below wr.heap.size wr ((wr.alloc (Obj.cells #[.bool l, .slice a1 n1 c1, .slice a2 n2 c2, .slice a3 n3 c3] 27)).alloc (Obj.cells #[.bool l', .slice a1' n1' c1', .slice a2' n2' c2', .slice a3' n3' c3'] 27)) := ((Below.refl _ _).alloc (Nat.le_refl _) _).alloc (by simp) _
        have HC1 := Lib.hid (HC.out k hlt hlt' (.agg #[.bool l, .slice a1 n1 c1, .slice a2 n2 c2, .slice a3 n3 c3]) (.agg #[.bool l', .slice a1' n1' c1', .slice a2' n2' c2', .slice a3' n3' c3']) _ ⟨_, rfl, NodeC.keep (hb0.mono hW) (Nat.le_trans hW hb0.size) _ _ hn⟩ ⟨_, rfl, NodeC.keep (hb0.mono hW) (Nat.le_trans hW hb0.size) _ _ hn'⟩)
        have Hst := Lib.hid (sameK_step hlt hlt')
        have Hb0 := Lib.hid (hbel.trans (hb0.mono hW))
        have Hp := Lib.hid hp
        generalize sameN ks[k] ks'[k] = q at HC1 Hst
        clear hn hn' hp hbel
        go_wp2_with fail
        refine HC1.out.mono ?_
        rintro e w1 ⟨rfl, hbel⟩
        have Hb1 := Lib.hid (below_then Hb0.out hbel (Nat.le_refl _))
        clear HC1 hbel g0 g1 g2 g3 g0' g1' g2' g3'
        cases q with
        | true =>
          have Hst : Hid (sameK (ks.drop k) (ks'.drop k) = sameK (ks.drop (k + 1)) (ks'.drop (k + 1))) := by show _ = _; rw [Hst.out]; simp
          go_wp2_with fail
          go_roundw
          case rel => exact ⟨k + 1, by omega, by go_num, by rw [Hp.out, Hst.out], Hb1.out⟩
          case measure => simp [intOf]; omega
        | false =>
          have Hst : Hid (R = false) := by show _ = _; rw [Hp.out, Hst.out]; simp
          go_wp2_with fail
          go_ret
          exact ⟨ret_bool Hst.out.symm, Hb1.out⟩
      · have Hp := Lib.hid hp; have Hb := Lib.hid hbel
        clear hp hbel
        go_wp2_with fail
        go_ret
        exact ⟨ret_bool (by rw [Hp.out, sameK_end (by omega)]), Hb.out⟩
  · have hne : (((ks.length : Nat) : Int) != (ks'.length : Int)) = true := by simp; omega
    have Hl := Lib.hid hl; clear hl hC hk hk'
    go_enter Tryz.func27, Tryz.ntmps27
    go_wp2_with fail
    go_ret
    exact ⟨ret_bool (by simp [Hl.out]), Below.refl _ _⟩

set_option maxRecDepth 100000 in
set_option maxHeartbeats 400000 in
theorem psame_c (a a' : Option Addr) (cap cap' B : Nat) (xs ys : List PropD) (w : World) (hr : RowA w B 2 a xs.length cap (propCells xs)) (hr' : RowA w B 2 a' ys.length cap' (propCells ys)) :
    Calls Tryz.prog 25 #[.slice a xs.length cap, .slice a' ys.length cap'] w fun e w' => e = .returned (.bool (decide (xs = ys))) ∧ Drawn w w' := by
  have H := Lib.hid (equal_prop a a' cap cap' B xs ys w hr hr')
  clear hr hr'
  go_enter Tryz.func25, Tryz.ntmps25
  go_wp2_with fail
  refine H.out.mono ?_
  rintro e w1 ⟨rfl, hd⟩
  have Hd := Lib.hid hd
  clear hd H
  go_wp2_with fail
  go_ret
  exact ⟨rfl, Hd.out⟩
set_option maxRecDepth 100000 in
set_option maxHeartbeats 400000 in
theorem gsame_c (v1 v2 : Value) (B : Nat) (xs ys : List Int) (w : World) (h1 : Ints .i32 w B v1 xs) (h2 : Ints .i32 w B v2 ys) :
    Calls Tryz.prog 26 #[v1, v2] w fun e w' => e = .returned (.bool (decide (xs = ys))) ∧ Drawn w w' := by
  have H := Lib.hid (equal_rune v1 v2 B xs ys w h1 h2)
  clear h1 h2
  go_enter Tryz.func26, Tryz.ntmps26
  go_wp2_with fail
  refine H.out.mono ?_
  rintro e w1 ⟨rfl, hd⟩
  have Hd := Lib.hid hd
  clear hd H
  go_wp2_with fail
  go_ret
  exact ⟨rfl, Hd.out⟩

theorem sameN_open (l l' : Bool) (ps ps' : List PropD) (t t' : List Int) (ks ks' : List NodeD) : sameN (.mk l ps t ks) (.mk l' ps' t' ks') = (l == l' && (decide (ps = ps') && (decide (t = t') && (decide (ks.length = ks'.length) && sameK ks ks')))) := by
  rw [sameN]
set_option maxRecDepth 100000 in
set_option maxHeartbeats 2000000 in
theorem same_c (m : Nat) : ∀ (n1 n2 : NodeD) (v1 v2 : Value) (W : World), n1.wt ≤ m → NodeV W W.heap.size n1 v1 → NodeV W W.heap.size n2 v2 →
    Calls Tryz.prog 12 #[v1, v2] W fun e w' => e = .returned (.bool (sameN n1 n2)) ∧ Below W.heap.size W w' := by
  induction m with
  | zero => intro n1 n2 v1 v2 W hm; have := wt_pos n1; omega
  | succ m IH =>
    intro n1 n2 v1 v2 W hm hv1 hv2
    obtain ⟨l, ps, t, ks⟩ := n1
    obtain ⟨l', ps', t', ks'⟩ := n2
    obtain ⟨ap, cp, at_, ct, ak, ck, css, rfl, hp, ht, hk, hkk⟩ := hv1.open
    obtain ⟨ap', cp', at_', ct', ak', ck', css', rfl, hp', ht', hk', hkk'⟩ := hv2.open
    have hwt : wtAll ks ≤ m := by simp only [NodeD.wt] at hm; omega
    have Hs := Lib.hid (sameN_open l l' ps ps' t t' ks ks')
    generalize sameN (.mk l ps t ks) (.mk l' ps' t' ks') = R at Hs ⊢
    have hb0 : Below W.heap.size W ((W.alloc (Obj.cells #[.bool l, .slice ap ps.length cp, .slice at_ t.length ct, .slice ak ks.length ck] 27)).alloc (Obj.cells #[.bool l', .slice ap' ps'.length cp', .slice at_' t'.length ct', .slice ak' ks'.length ck'] 27)) := ((Below.refl _ _).alloc (Nat.le_refl _) _).alloc (by simp) _
    have HP := Lib.hid (psame_c ap ap' cp cp' _ ps ps' _ (hp.keep hb0 (Nat.le_refl _)) (hp'.keep hb0 (Nat.le_refl _)))
    have HT := fun q => Lib.hid (gsame_c _ _ _ t t' _ (ht.keep (below_drewN hb0 q) (Nat.le_refl _)) (ht'.keep (below_drewN hb0 q) (Nat.le_refl _)))
    have HK := fun (W' : World) (hb : Below W.heap.size W W') => Lib.hid (equalKids_c ks ks' ak ak' ck ck' css css' W' (hk.keep hb hb.size) (KidsC.keep hb hb.size _ _ hkk) (hk'.keep hb hb.size) (KidsC.keep hb hb.size _ _ hkk')
      (fun i h h' v v' W2 q1 q2 => IH ks[i] ks'[i] v v' W2 (Nat.le_trans (wtAll_mem (List.getElem_mem h)) hwt) q1 q2))
    have Hb0 := Lib.hid hb0
    clear IH hv1 hv2 hp ht hk hkk hp' ht' hk' hkk' hm hwt hb0
    by_cases hl : l = l'
    · subst hl
      by_cases hps : ps = ps'
      · have HP : Hid _ := HP
        have e1 : decide (ps = ps') = true := decide_eq_true hps
        rw [e1] at HP Hs
        clear e1 hps
        by_cases ht : t = t'
        · have e1 : decide (t = t') = true := decide_eq_true ht
          rw [e1] at HT Hs
          clear e1 ht
          have Hs2 : Hid (R = (decide (ks.length = ks'.length) && sameK ks ks')) := by show _ = _; rw [Hs.out]; simp
          clear Hs
          generalize (decide (ks.length = ks'.length) && sameK ks ks') = x at Hs2 HK
          cases l <;>
          · go_enter Tryz.func12, Tryz.ntmps12
            go_wp2_with fail
            refine HP.out.mono ?_
            rintro e w1 ⟨rfl, q, rfl⟩
            have HT1 := HT q
            clear HP HT
            go_wp2_with fail
            refine HT1.out.mono ?_
            rintro e w1 ⟨rfl, q2, rfl⟩
            have hb2 := below_drewN Hb0.out (q + q2)
            have HK1 := HK _ hb2
            have Hb2 := Lib.hid hb2
            clear HT1 hb2 HK Hb0
            go_wp2_with fail
            refine HK1.out.mono ?_
            rintro e w1 ⟨rfl, hbel⟩
            have Hb3 := Lib.hid (below_then Hb2.out hbel (Nat.le_refl _))
            clear hbel HK1 Hb2
            go_wp2_with fail
            go_ret
            exact ⟨ret_bool (by rw [Hs2.out]), Hb3.out⟩
        · have e1 : decide (t = t') = false := decide_eq_false ht
          rw [e1] at HT Hs
          clear e1 ht HK
          have Hs2 : Hid (R = false) := by show _ = _; rw [Hs.out]; simp
          cases l <;>
          · go_enter Tryz.func12, Tryz.ntmps12
            go_wp2_with fail
            refine HP.out.mono ?_
            rintro e w1 ⟨rfl, q, rfl⟩
            have HT1 := HT q
            clear HP HT
            go_wp2_with fail
            refine HT1.out.mono ?_
            rintro e w1 ⟨rfl, q2, rfl⟩
            have hb2 := Lib.hid (below_drewN Hb0.out (q + q2))
            clear HT1 Hb0
            go_wp2_with fail
            go_ret
            exact ⟨ret_bool (by rw [Hs2.out]), hb2.out⟩
      · have e1 : decide (ps = ps') = false := decide_eq_false hps
        rw [e1] at HP Hs
        clear e1 hps HK HT
        have Hs2 : Hid (R = false) := by show _ = _; rw [Hs.out]; simp
        cases l <;>
        · go_enter Tryz.func12, Tryz.ntmps12
          go_wp2_with fail
          refine HP.out.mono ?_
          rintro e w1 ⟨rfl, q, rfl⟩
          have hb2 := Lib.hid (below_drewN Hb0.out q)
          clear HP Hb0
          go_wp2_with fail
          go_ret
          exact ⟨ret_bool (by rw [Hs2.out]), hb2.out⟩
    · have Hs2 : Hid (R = false) := by show _ = _; rw [Hs.out]; simp [hl]
      clear HP HT HK
      have hne : (l == l') = false := by simpa using hl
      clear hl
      go_enter Tryz.func12, Tryz.ntmps12
      go_wp2_with fail
      go_ret
      exact ⟨ret_bool (by rw [Hs2.out]), Hb0.out⟩

end Go.Proofs.YtmhgbocejjnoaaaGreatDoor
/- Walks: the reference's Same at trees. -/
namespace Go.Proofs.YtmhgbocejjnoaaaGreatDoor
open Go.RowKit Go.Redl
set_option linter.unusedVariables false

theorem rsame_ent : ∀ args w, (callFunc 9 args).run Tryz.prog w = .ok (.enter 9 args) w := by intro args w; kernel_rfl
theorem node_second' (w : World) (o : Obj) (c0 c1 c2 c3 : Value) : NodeAt ((w.alloc o).alloc (.cells #[c0, c1, c2, c3] 27)) (w.heap.size + 1) c0 c1 c2 c3 := by
  have h := NodeAt.fresh (w.alloc o) c0 c1 c2 c3
  have e : (w.alloc o).heap.size = w.heap.size + 1 := by simp
  rwa [e] at h

set_option maxRecDepth 100000 in
set_option maxHeartbeats 4000000 in
theorem rsame4_c (m : Nat) : ∀ (n1 n2 : NodeD) (v1 v2 : Value) (W : World), n1.wt ≤ m → NodeV W W.heap.size n1 v1 → NodeV W W.heap.size n2 v2 →
    Calls Tryz.prog 9 #[v1, v2] W fun e w' => e = .returned (.bool (sameN n1 n2)) ∧ Below W.heap.size W w' := by
  induction m with
  | zero => intro n1 n2 v1 v2 W hm; have := wt_pos n1; omega
  | succ m IH =>
    intro n1 n2 v1 v2 W hm hv1 hv2
    obtain ⟨l, ps, t, ks⟩ := n1
    obtain ⟨l', ps', t', ks'⟩ := n2
    obtain ⟨ap, cp, at_, ct, ak, ck, css, rfl, hp, ht, hk, hkk⟩ := hv1.open
    obtain ⟨ap', cp', at_', ct', ak', ck', css', rfl, hp', ht', hk', hkk'⟩ := hv2.open
    have hwt : wtAll ks ≤ m := by simp only [NodeD.wt] at hm; omega
    have Hs := Lib.hid (sameN_open l l' ps ps' t t' ks ks')
    generalize sameN (.mk l ps t ks) (.mk l' ps' t' ks') = R at Hs ⊢
    have hA := (NodeAt.fresh W (.bool l) (.slice ap ps.length cp) (.slice at_ t.length ct) (.slice ak ks.length ck)).alloc (Obj.cells #[.bool l', .slice ap' ps'.length cp', .slice at_' t'.length ct', .slice ak' ks'.length ck'] 27)
    have hB := node_second' W (Obj.cells #[.bool l, .slice ap ps.length cp, .slice at_ t.length ct, .slice ak ks.length ck] 27) (.bool l') (.slice ap' ps'.length cp') (.slice at_' t'.length ct') (.slice ak' ks'.length ck')
    have hb0 : Below W.heap.size W ((W.alloc (Obj.cells #[.bool l, .slice ap ps.length cp, .slice at_ t.length ct, .slice ak ks.length ck] 27)).alloc (Obj.cells #[.bool l', .slice ap' ps'.length cp', .slice at_' t'.length ct', .slice ak' ks'.length ck'] 27)) := ((Below.refl _ _).alloc (Nat.le_refl _) _).alloc (by simp) _
    have HP := Lib.hid (rsamep_c ap ap' cp cp' _ ps ps' _ (hp.keep hb0 (Nat.le_refl _)) (hp'.keep hb0 (Nat.le_refl _)))
    have HT := fun q => Lib.hid (rsame_c _ _ _ t t' _ (ht.keep (below_drewN hb0 q) (Nat.le_refl _)) (ht'.keep (below_drewN hb0 q) (Nat.le_refl _)))
    have hkl := hk.le; have hkm := hk.max; have hkl' := hk'.le; have hkm' := hk'.max
    unfold maxLen at hkm hkm'
    have hm1 : ks.length ≤ 9223372036854775807 := by omega
    have hm2 : ks'.length ≤ 9223372036854775807 := by omega
    have HI := Lib.hid (fun (i : Nat) (h : i < ks.length) (h' : i < ks'.length) (v v' : Value) (W2 : World) (q1 : NodeV W2 W2.heap.size ks[i] v) (q2 : NodeV W2 W2.heap.size ks'[i] v') => IH ks[i] ks'[i] v v' W2 (Nat.le_trans (wtAll_mem (List.getElem_mem h)) hwt) q1 q2)
    have Hk := Lib.hid hk; have Hk' := Lib.hid hk'; have Hkk := Lib.hid hkk; have Hkk' := Lib.hid hkk'
    have Hb0 := Lib.hid hb0; have HA := Lib.hid hA; have HB := Lib.hid hB
    clear IH hv1 hv2 hp ht hk hkk hp' ht' hk' hkk' hm hwt hb0 hA hB hkl hkm hkl' hkm'
    by_cases hl : l = l'
    · subst hl
      by_cases hps : ps = ps'
      · have e1 : decide (ps = ps') = true := decide_eq_true hps
        rw [e1] at HP Hs
        clear e1 hps
        by_cases ht : t = t'
        · have e1 : decide (t = t') = true := decide_eq_true ht
          rw [e1] at HT Hs
          clear e1 ht
          by_cases hlen : ks.length = ks'.length
          · have Hs2 : Hid (R = sameK (ks.drop 0) (ks'.drop 0)) := by show _ = _; rw [Hs.out]; simp [hlen]
            have hle : ks'.length ≤ ks.length := by omega
            have hle' : ks.length ≤ ks'.length := by omega
            have hnel : (((ks.length : Nat) : Int) != (ks'.length : Int)) = false := by simp [hlen]
            clear Hs hlen
            cases l <;>
            · go_enter Tryz.func9, Tryz.ntmps9
              go_wp2_with fail
              refine HP.out.mono ?_
              rintro e w1 ⟨rfl, q, rfl⟩
              have HT1 := HT q
              clear HP HT
              go_wp2_with fail
              refine HT1.out.mono ?_
              rintro e w1 ⟨rfl, q2, rfl⟩
              have hb2 := Lib.hid (below_drewN Hb0.out (q + q2))
              clear HT1
              go_wp2_with fail
              go_loopg [39] ks.length (fun g i wr => ∃ k : Nat, i = .int .i64 k ∧ k + g = ks.length ∧ R = sameK (ks.drop k) (ks'.drop k) ∧ NodeAt wr W.heap.size _ (.slice ap ps.length cp) (.slice at_ t.length ct) (.slice ak ks.length ck) ∧ NodeAt wr (W.heap.size + 1) _ (.slice ap' ps'.length cp') (.slice at_' t'.length ct') (.slice ak' ks'.length ck') ∧ Below W.heap.size W wr)
              case atStart => exact ⟨0, rfl, by omega, Hs2.out, HA.out, HB.out, hb2.out⟩
              case round =>
                obtain ⟨k, rfl, hg, hR, hA, hB, hbel⟩ := hrel
                have HR := Lib.hid hR; have HA2 := Lib.hid hA; have HB2 := Lib.hid hB; have Hb2 := Lib.hid hbel
                obtain ⟨x0, x1, x2, x3, -, hA4⟩ := hA.facts
                obtain ⟨y0, y1, y2, y3, -, hB4⟩ := hB.facts
                clear hR hA hB HA HB Hs2 hb2
                by_cases hlt : k < ks.length
                · have hlt' : k < ks'.length := by omega
                  have hW := hbel.size
                  obtain ⟨b, off, l1, a1, n1, c1, a2, n2, c2, a3, n3, c3, rfl, hb, hn, g0, g1, g2, g3⟩ := (Hk.out.keep hbel (Nat.le_refl _)).kid_at (KidsC.keep hbel (Nat.le_refl _) _ _ Hkk.out) k hlt
                  obtain ⟨b', off', l1', a1', n1', c1', a2', n2', c2', a3', n3', c3', rfl, hb', hn', g0', g1', g2', g3'⟩ := (Hk'.out.keep hbel (Nat.le_refl _)).kid_at (KidsC.keep hbel (Nat.le_refl _) _ _ Hkk'.out) k hlt'
                  have HC := Lib.hid (fun (W' : World) (hbw : Below wr.heap.size wr W') => HI.out k hlt hlt' (.agg #[.bool l1, .slice a1 n1 c1, .slice a2 n2 c2, .slice a3 n3 c3]) (.agg #[.bool l1', .slice a1' n1' c1', .slice a2' n2' c2', .slice a3' n3' c3']) W' ⟨_, rfl, NodeC.keep (hbw.mono hW) (Nat.le_trans hW hbw.size) _ _ hn⟩ ⟨_, rfl, NodeC.keep (hbw.mono hW) (Nat.le_trans hW hbw.size) _ _ hn'⟩)
                  have Hst := Lib.hid (sameK_step hlt hlt')
                  generalize sameN ks[k] ks'[k] = qq at HC Hst
                  have hlti : (k : Int) < ks.length := by omega
                  have hlti' : (k : Int) < ks'.length := by omega
                  clear hn hn' hbel
                  go_upto_region 6 with fail
                  go_cut [53] (fun bb wx => bb = .bool (!qq) ∧ Below wr.heap.size wr wx)
                  case first =>
                    go_region_law (first
                      | (refine step_call rfl 9 _ _ rfl rsame_ent [Value.agg #[.bool l1, .slice a1 n1 c1, .slice a2 n2 c2, .slice a3 n3 c3], Value.agg #[.bool l1', .slice a1' n1' c1', .slice a2' n2' c2', .slice a3' n3' c3']] ?_ _ (HC.out _ ?_) ?_
                         · go_simp
                         · exact (Below.refl _ _).drew
                         rintro e w6 ⟨rfl, hbel⟩
                         refine ⟨_, rfl, ?_⟩
                         have Hb6 := Lib.hid (((Below.refl wr.heap.size wr).drew).trans hbel); clear hbel))
                    all_goals
                      go_wp2_with fail
                      go_meet
                      case rel => exact ⟨rfl, Hb6.out⟩
                  case rest =>
                    obtain ⟨rfl, hbx⟩ := hcut
                    have HA3 := Lib.hid (HA2.out.keep (hbx.mono (by omega))); have HB3 := Lib.hid (HB2.out.keep (hbx.mono (by omega))); have Hb3 := Lib.hid (below_then Hb2.out hbx (Nat.le_refl _))
                    clear hbx HC x0 x1 x2 x3 y0 y1 y2 y3 g0 g1 g2 g3 g0' g1' g2' g3' HA2 HB2
                    cases qq with
                    | true =>
                      have Hst2 : Hid (R = sameK (ks.drop (k + 1)) (ks'.drop (k + 1))) := by show _ = _; rw [HR.out, Hst.out]; simp
                      go_wp2_with fail
                      go_roundg (gk - 1)
                      case measure => omega
                      case rel => exact ⟨k + 1, by go_num, by omega, Hst2.out, HA3.out, HB3.out, Hb3.out⟩
                    | false =>
                      have Hst2 : Hid (R = false) := by show _ = _; rw [HR.out, Hst.out]; simp
                      go_wp2_with fail
                      go_ret
                      exact ⟨ret_bool Hst2.out.symm, Hb3.out⟩
                · have Hst2 : Hid (R = true) := by show _ = _; rw [HR.out, sameK_end (by omega)]
                  have hnl : decide ((k : Int) < ks.length) = false := by simp; omega
                  clear hbel
                  go_wp2_with fail
                  go_ret
                  exact ⟨ret_bool Hst2.out.symm, Hb2.out⟩
          · have hnel : (((ks.length : Nat) : Int) != (ks'.length : Int)) = true := by simp; omega
            have Hs2 : Hid (R = false) := by show _ = _; rw [Hs.out]; simp [hlen]
            clear Hs hlen
            cases l <;>
            · go_enter Tryz.func9, Tryz.ntmps9
              go_wp2_with fail
              refine HP.out.mono ?_
              rintro e w1 ⟨rfl, q, rfl⟩
              have HT1 := HT q
              clear HP HT
              go_wp2_with fail
              refine HT1.out.mono ?_
              rintro e w1 ⟨rfl, q2, rfl⟩
              have hb2 := Lib.hid (below_drewN Hb0.out (q + q2))
              clear HT1
              go_wp2_with fail
              go_ret
              exact ⟨ret_bool (by rw [Hs2.out]), hb2.out⟩
        · have e1 : decide (t = t') = false := decide_eq_false ht
          rw [e1] at HT Hs
          clear e1 ht
          have Hs2 : Hid (R = false) := by show _ = _; rw [Hs.out]; simp
          cases l <;>
          · go_enter Tryz.func9, Tryz.ntmps9
            go_wp2_with fail
            refine HP.out.mono ?_
            rintro e w1 ⟨rfl, q, rfl⟩
            have HT1 := HT q
            clear HP HT
            go_wp2_with fail
            refine HT1.out.mono ?_
            rintro e w1 ⟨rfl, q2, rfl⟩
            have hb2 := Lib.hid (below_drewN Hb0.out (q + q2))
            clear HT1
            go_wp2_with fail
            go_ret
            exact ⟨ret_bool (by rw [Hs2.out]), hb2.out⟩
      · have e1 : decide (ps = ps') = false := decide_eq_false hps
        rw [e1] at HP Hs
        clear e1 hps HT
        have Hs2 : Hid (R = false) := by show _ = _; rw [Hs.out]; simp
        cases l <;>
        · go_enter Tryz.func9, Tryz.ntmps9
          go_wp2_with fail
          refine HP.out.mono ?_
          rintro e w1 ⟨rfl, q, rfl⟩
          have hb2 := Lib.hid (below_drewN Hb0.out q)
          clear HP
          go_wp2_with fail
          go_ret
          exact ⟨ret_bool (by rw [Hs2.out]), hb2.out⟩
    · have Hs2 : Hid (R = false) := by show _ = _; rw [Hs.out]; simp [hl]
      clear HP HT Hs
      cases l <;> cases l' <;> first
        | exact absurd rfl hl
        | (go_enter Tryz.func9, Tryz.ntmps9
           go_wp2_with fail
           go_ret
           exact ⟨ret_bool (by rw [Hs2.out]), Hb0.out⟩)

end Go.Proofs.YtmhgbocejjnoaaaGreatDoor
/- Walks: CodePrints' example; CodePrints. -/
namespace Go.Proofs.YtmhgbocejjnoaaaGreatDoor
open Go.RowKit Go.Redl
set_option linter.unusedVariables false

/-- A literal in a new block, behind which more memory lies. -/
theorem row_cells {w w' : World} {E : TypeId} (sz n : Nat) (cs : List Value) (hl : cs.length = n * sz) (hn : n ≤ 1000000) (h1 : ∀ u ∈ cs, u.oneCell' = true) (hb : Below (w.heap.size + 1) (w.alloc (Obj.cells cs.toArray E)) w') : RowA w' w'.heap.size sz (some ⟨w.heap.size, 0, none⟩) n n cs := by
  refine ⟨hl, Nat.le_refl _, by unfold maxLen; omega, h1, (fun h => by cases h), fun _ => ⟨w.heap.size, 0, rfl, ?_, fun j u hj => ?_⟩⟩
  · have := hb.size; simp at this; omega
  · have hg : w'.heap[w.heap.size]? = some (Obj.cells cs.toArray E (0, 0)) := by
      rw [hb.block _ (by omega)]; exact heap_alloc_new w _
    rw [cell_of_row _ w.heap.size (0 + j) _ E (0, 0) hg]
    simpa using hj

/-- "type" -/
def typeL : List UInt8 := [116, 121, 112, 101]
def ElemP (W : World) (s : List UInt8) (a : Option Addr) (c : Nat) (ks : List NodeD) (e : Ending) (w' : World) : Prop :=
  ∃ g, e = .returned (.agg #[.bool false, .slice (some ⟨g, 0, none⟩) 1 1, .slice none 0 0, .slice a ks.length c]) ∧ NodeC w' w'.heap.size (.mk false [(typeL, s)] [] ks) [.bool false, .slice (some ⟨g, 0, none⟩) 1 1, .slice none 0 0, .slice a ks.length c] ∧ Below W.heap.size W w'

set_option maxRecDepth 100000 in
set_option maxHeartbeats 1000000 in
theorem elem_c (x : UInt8) (r : List UInt8) (a : Option Addr) (c : Nat) (ks : List NodeD) (css : List Value) (W : World) (hr : RowA W W.heap.size 4 a ks.length c css) (hk : KidsC W W.heap.size ks css) :
    Calls Tryz.prog 14 #[.string ⟨(x :: r).toArray⟩, .slice a ks.length c] W (ElemP W (x :: r) a c ks) := by
  have hne : ((⟨(x :: r).toArray⟩ : ByteArray).toList.isEmpty) = false := by rw [ByteArray.toList_mk]; rfl
  have hne2 : (!(⟨(x :: r).toArray⟩ : ByteArray).toList.isEmpty) = true := by rw [ByteArray.toList_mk]; rfl
  have Hpc : Hid (propCells [(typeL, x :: r)] = [.string ⟨#[116, 121, 112, 101]⟩, .string ⟨(x :: r).toArray⟩]) := rfl
  obtain ⟨S, hS⟩ : ∃ S, S = (⟨(x :: r).toArray⟩ : ByteArray) := ⟨_, rfl⟩
  rw [← hS] at hne hne2 Hpc ⊢
  have Hr := Lib.hid hr; have Hk := Lib.hid hk
  clear hr hk hS
  go_enter Tryz.func14, Tryz.ntmps14
  go_wp2_with fail
  have hb1 := fun (o1 o2 : Obj) => Lib.hid (below_three W o1 o2 (Obj.cells #[.string ⟨#[116, 121, 112, 101]⟩, .string S] 41))
  refine bodyPost_ret (v := .agg #[.bool false, .slice (some ⟨W.heap.size + 1 + 1, 0, none⟩) 1 1, .slice none 0 0, .slice a ks.length c]) (by simp [results, Tryz.results14, go_sem]) rfl ⟨W.heap.size + 1 + 1, rfl, ?_, (hb1 _ _).out⟩
  unfold NodeC
  refine ⟨some ⟨W.heap.size + 1 + 1, 0, none⟩, 1, none, 0, a, c, css, rfl, ?_, RowA.empty _ _ _, by simp, Hr.out.keep (hb1 _ _).out (hb1 _ _).out.size, KidsC.keep (hb1 _ _).out (hb1 _ _).out.size ks css Hk.out⟩
  rw [Hpc.out]
  have h := row_cells (w := (W.alloc (Obj.cells #[Value.bool false, Value.slice (some ⟨W.heap.size + 1 + 1, 0, none⟩) 1 1, Value.slice none 0 0, Value.slice a ks.length c] 27)).alloc (Obj.cells #[Value.bool false, Value.slice (some ⟨W.heap.size + 1 + 1, 0, none⟩) 1 1, Value.slice none 0 0, Value.slice a ks.length c] 27)) (E := 41) 2 1 [.string ⟨#[116, 121, 112, 101]⟩, .string S] rfl (by omega) (by intro u hu; simp at hu; rcases hu with rfl | rfl <;> rfl) (Below.refl _ _)
  simpa using h

def liveN : NodeD := .mk false [(typeL, [112])] [] [.mk true [([98, 111, 108, 100], [49])] [97] []]
def liveL : List UInt8 := [123, 116, 121, 112, 101, 58, 112, 125, 91, 123, 98, 111, 108, 100, 58, 49, 125, 34, 97, 34, 93]
theorem live_print : printL liveN = liveL := by decide +kernel
theorem live_ok : nodeE liveN = 0 := by decide +kernel

set_option maxRecDepth 100000 in
set_option maxHeartbeats 1000000 in
theorem live_c (w : World) (hT : TabAt w) (hg : 7 < w.heap.size) :
    Calls Tryz.prog 6 #[] w fun e w' => e = .returned (.bool true) ∧ Below w.heap.size w w' := by
  have hpc : propCells [([98, 111, 108, 100], [49])] = [.string ⟨#[98, 111, 108, 100]⟩, .string ⟨#[49]⟩] := rfl
  have hrow := row_cells (w := w) (E := 41) 2 1 (propCells [([98, 111, 108, 100], [49])]) rfl (by omega) (propCells_one _) (Below.refl _ _)
  rw [hpc] at hrow
  have HL := Lib.hid (leaf_c 97 rfl [([98, 111, 108, 100], [49])] (some ⟨w.heap.size, 0, none⟩) 1 (w.alloc (Obj.cells #[.string ⟨#[98, 111, 108, 100]⟩, .string ⟨#[49]⟩] 41)) (by rw [hpc]; exact hrow))
  have hE := fun (w1 : World) (a1 : Option Addr) (n1 : Nat) (cells : List Value) (hc : cells.length = 4) (hn : NodeC w1 w1.heap.size (.mk true [([98, 111, 108, 100], [49])] [97] []) cells) =>
    Lib.hid (elem_c 112 [] (some ⟨w1.heap.size, 0, none⟩) 1 [.mk true [([98, 111, 108, 100], [49])] [97] []] cells (w1.alloc (Obj.cells cells.toArray 27)) (row_cells 4 1 cells hc (by omega) hn.one (Below.refl _ _)) (by
      unfold KidsC
      exact ⟨cells, [], by simp, NodeC.keep (below_new w1 _) (below_new w1 _).size _ _ hn, by unfold KidsC; rfl⟩))
  have HE := Lib.hid hE
  have HP := fun (w2 : World) (v : Value) (hb : Below w.heap.size w w2) (hv : NodeV w2 w2.heap.size liveN v) => Lib.hid (print_ok liveN v w2 (by decide +kernel) hv live_ok (hT.keep hb hg) (Nat.lt_of_lt_of_le hg hb.size))
  rw [live_print] at HP
  have HPh := Lib.hid HP
  have Hb0 := Lib.hid (below_new w (Obj.cells #[.string ⟨#[98, 111, 108, 100]⟩, .string ⟨#[49]⟩] 41))
  clear hrow hpc hT hE HP
  go_enter Tryz.func6, Tryz.ntmps6
  go_wp2_with fail
  refine HL.out.mono ?_
  rintro e w1 ⟨ap, cp, at_, ct, rfl, hnc, hbel⟩
  have Hb1 := Lib.hid (below_then Hb0.out hbel (Nat.le_refl _))
  have HE1 := HE.out w1 none 0 _ rfl hnc
  clear hbel hnc HL HE
  go_wp2_with fail
  refine HE1.out.mono ?_
  rintro e w2 ⟨g, rfl, hnc, hbel⟩
  have Hb2 := Lib.hid (below_then (Hb1.out.alloc Hb1.out.size _) hbel (Nat.le_refl _))
  have HP1 := HPh.out w2 _ Hb2.out ⟨_, rfl, hnc⟩
  clear hbel hnc HE1 HPh
  go_wp2_with fail
  refine HP1.out.mono ?_
  rintro e w3 ⟨rfl, hbel⟩
  have Hb3 := Lib.hid (below_then Hb2.out hbel (Nat.le_refl _))
  clear hbel HP1
  unfold liveL
  go_wp2_with fail
  go_ret
  exact ⟨rfl, Hb3.out⟩

end Go.Proofs.YtmhgbocejjnoaaaGreatDoor
/- Walks: the reference's Same at two empty rows, at two zero nodes. -/
namespace Go.Proofs.YtmhgbocejjnoaaaGreatDoor
open Go.RowKit Go.Redl
set_option linter.unusedVariables false

set_option maxRecDepth 100000 in
set_option maxHeartbeats 1000000 in
theorem same01_nil (W : World) : Calls Tryz.prog 20 #[.slice none 0 0, .slice none 0 0] W fun e w' => e = .returned (.bool true) ∧ W = w' := by
  go_enter Tryz.func20, Tryz.ntmps20
  go_wp2_with fail
  go_loopw [13] (fun i wr => i = .int .i64 0 ∧ W = wr) (fun _ _ => 0)
  case atStart => exact ⟨rfl, rfl⟩
  case round =>
    obtain ⟨rfl, rfl⟩ := hrel
    go_wp2_with fail
    go_ret
    exact ⟨rfl, rfl⟩
set_option maxRecDepth 100000 in
set_option maxHeartbeats 1000000 in
theorem same03_nil (W : World) : Calls Tryz.prog 21 #[.slice none 0 0, .slice none 0 0] W fun e w' => e = .returned (.bool true) ∧ W = w' := by
  go_enter Tryz.func21, Tryz.ntmps21
  go_wp2_with fail
  go_loopw [13] (fun i wr => i = .int .i64 0 ∧ W = wr) (fun _ _ => 0)
  case atStart => exact ⟨rfl, rfl⟩
  case round =>
    obtain ⟨rfl, rfl⟩ := hrel
    go_wp2_with fail
    go_ret
    exact ⟨rfl, rfl⟩

set_option maxRecDepth 100000 in
set_option maxHeartbeats 2000000 in
theorem same04_zero (W : World) : Calls Tryz.prog 9 #[.agg #[.bool false, .slice none 0 0, .slice none 0 0, .slice none 0 0], .agg #[.bool false, .slice none 0 0, .slice none 0 0, .slice none 0 0]] W
    fun e w' => e = .returned (.bool true) ∧ Below W.heap.size W w' := by
  have H1 := fun W => Lib.hid (same01_nil W)
  have H3 := fun W => Lib.hid (same03_nil W)
  have hb : Below W.heap.size W ((W.alloc (.cells #[.bool false, .slice none 0 0, .slice none 0 0, .slice none 0 0] 27)).alloc (.cells #[.bool false, .slice none 0 0, .slice none 0 0, .slice none 0 0] 27)) := ((Below.refl _ _).alloc (Nat.le_refl _) _).alloc (by simp) _
  have Hb := Lib.hid hb
  clear hb
  go_enter Tryz.func9, Tryz.ntmps9
  go_wp2_with fail
  refine (H1 _).out.mono ?_
  rintro e w1 ⟨rfl, rfl⟩
  go_wp2_with fail
  refine (H3 _).out.mono ?_
  rintro e w1 ⟨rfl, rfl⟩
  clear H1 H3
  go_wp2_with fail
  go_loopw [39] (fun i wr => i = .int .i64 0 ∧ wr = ((W.alloc (.cells #[.bool false, .slice none 0 0, .slice none 0 0, .slice none 0 0] 27)).alloc (.cells #[.bool false, .slice none 0 0, .slice none 0 0, .slice none 0 0] 27))) (fun _ _ => 0)
  case atStart => exact ⟨rfl, rfl⟩
  case round =>
    obtain ⟨rfl, rfl⟩ := hrel
    go_wp2_with fail
    go_ret
    exact ⟨rfl, Hb.out⟩

end Go.Proofs.YtmhgbocejjnoaaaGreatDoor
/- Walks: CodeParses. -/
namespace Go.Proofs.YtmhgbocejjnoaaaGreatDoor
open Go.RowKit Go.Redl
set_option linter.unusedVariables false

set_option maxRecDepth 100000 in
set_option maxHeartbeats 4000000 in
theorem parses_walk (s : List UInt8) (w : World) (hT : TabAt w) (hEr : ErrsAt w) (hg : 7 < w.heap.size) :
    Calls Tryz.prog 3 #[.string ⟨s.toArray⟩] w fun e w' => e = .returned (.bool true) ∧ Below w.heap.size w w' := by
  have HL := Lib.hid (live_c w hT hg)
  have hss : (⟨s.toArray⟩ : ByteArray).size = s.length := rfl
  by_cases hlen : s.length ≤ 300
  · have HQ1 := fun (w1 : World) (hb : Below w.heap.size w w1) => parseT_c s w1 (by omega) (hEr.keep hb) (hT.keep hb hg) (Nat.lt_of_lt_of_le hg hb.size)
    have HQ2 := fun (w1 : World) => rparse_c s w1 (by omega)
    cases hp : parseL s with
    | ok n m =>
      rw [hp] at HQ1 HQ2
      have HS := fun (w1 : World) (cs cs' : List Value) (h : NodeC w1 w1.heap.size n cs) (h' : NodeC w1 w1.heap.size n cs') => Lib.hid (rsame4_c n.wt n n (.agg cs.toArray) (.agg cs'.toArray) w1 (Nat.le_refl _) ⟨cs, rfl, h⟩ ⟨cs', rfl, h'⟩)
      rw [sameN_self] at HS
      obtain ⟨S, hS⟩ : ∃ S, S = (⟨s.toArray⟩ : ByteArray) := ⟨_, rfl⟩
      rw [← hS] at HQ1 HQ2 hss ⊢
      have HQ1 := Lib.hid HQ1; have HQ2 := Lib.hid HQ2; have HS := Lib.hid HS
      clear hS hp hT hEr hg
      go_enter Tryz.func3, Tryz.ntmps3
      go_wp2_with fail
      refine HL.out.mono ?_
      rintro e w1 ⟨rfl, hbel⟩
      have Hb1 := Lib.hid hbel
      have HQ := Lib.hid (HQ1.out w1 hbel)
      clear hbel HL HQ1
      go_wp2_with fail
      refine HQ.out.mono ?_
      rintro e w2 ⟨cs, rfl, hnode, hbel⟩
      have Hb2 := Lib.hid (below_then Hb1.out hbel (Nat.le_refl _))
      obtain ⟨l, a1, n1, c1, a2, n2, c2, a3, n3, c3, rfl⟩ := hnode.form
      have hnc := NodeQ.node _ _ hnode
      have hba := (Below.refl w2.heap.size w2).alloc (Nat.le_refl _) (Obj.cells #[.bool l, .slice a1 n1 c1, .slice a2 n2 c2, .slice a3 n3 c3] 27)
      have Hm := Lib.hid (NodeAt.fresh w2 (.bool l) (.slice a1 n1 c1) (.slice a2 n2 c2) (.slice a3 n3 c3))
      have Hnc := Lib.hid (NodeC.keep hba hba.size _ _ hnc)
      have Hb3 := Lib.hid (below_then Hb2.out hba (Nat.le_refl _))
      have HR := Lib.hid (HQ2.out (w2.alloc (Obj.cells #[.bool l, .slice a1 n1 c1, .slice a2 n2 c2, .slice a3 n3 c3] 27)))
      clear hbel hnode hnc hba HQ HQ2
      go_wp2_with fail
      refine HR.out.mono ?_
      rintro e w4 ⟨cs', rfl, hnode, hbel⟩
      have Hb4 := Lib.hid (below_then Hb3.out hbel (Nat.le_refl _))
      obtain ⟨l', a1', n1', c1', a2', n2', c2', a3', n3', c3', rfl⟩ := hnode.form
      have hnc := NodeQ.node _ _ hnode
      have hba := (Below.refl w4.heap.size w4).alloc (Nat.le_refl _) (Obj.cells #[.bool l', .slice a1' n1' c1', .slice a2' n2' c2', .slice a3' n3' c3'] 27)
      have hm4 := Hm.out.keep (hbel.mono (by simp))
      obtain ⟨x0, x1, x2, x3, -, hx4⟩ := hm4.facts
      have HS1 := HS.out _ _ _ (NodeC.keep (below_then hbel hba (Nat.le_refl _)) (Nat.le_trans hbel.size hba.size) _ _ Hnc.out) (NodeC.keep hba hba.size _ _ hnc)
      have Hb5 := Lib.hid (below_then Hb4.out hba (Nat.le_refl _))
      clear hbel hnode hnc hba hm4 Hm Hnc HR HS
      go_wp2_with fail
      refine HS1.out.mono ?_
      rintro e w6 ⟨rfl, hbel⟩
      have Hb6 := Lib.hid (below_then Hb5.out hbel (Nat.le_refl _))
      clear hbel HS1 x0 x1 x2 x3 hx4
      go_wp2_with fail
      go_ret
      exact ⟨ret_bool (by simp), Hb6.out⟩
    | bad p er =>
      rw [hp] at HQ1 HQ2
      have HS := fun (w1 : World) => Lib.hid (same04_zero w1)
      obtain ⟨S, hS⟩ : ∃ S, S = (⟨s.toArray⟩ : ByteArray) := ⟨_, rfl⟩
      rw [← hS] at HQ1 HQ2 hss ⊢
      have HQ1 := Lib.hid HQ1; have HQ2 := Lib.hid HQ2
      clear hS hp hT hEr hg
      go_enter Tryz.func3, Tryz.ntmps3
      go_wp2_with fail
      refine HL.out.mono ?_
      rintro e w1 ⟨rfl, hbel⟩
      have Hb1 := Lib.hid hbel
      have HQ := Lib.hid (HQ1.out w1 hbel)
      clear hbel HL HQ1
      go_wp2_with fail
      refine HQ.out.mono ?_
      rintro e w2 ⟨rfl, -, hbel⟩
      have Hb2 := Lib.hid (below_then Hb1.out hbel (Nat.le_refl _))
      have hba := (Below.refl w2.heap.size w2).alloc (Nat.le_refl _) (Obj.cells #[.bool false, .slice none 0 0, .slice none 0 0, .slice none 0 0] 27)
      have Hm := Lib.hid (NodeAt.fresh w2 (.bool false) (.slice none 0 0) (.slice none 0 0) (.slice none 0 0))
      have Hb3 := Lib.hid (below_then Hb2.out hba (Nat.le_refl _))
      have HR := Lib.hid (HQ2.out (w2.alloc (Obj.cells #[.bool false, .slice none 0 0, .slice none 0 0, .slice none 0 0] 27)))
      clear hbel hba HQ HQ2
      go_wp2_with fail
      refine HR.out.mono ?_
      rintro e w4 ⟨rfl, -, hbel⟩
      have Hb4 := Lib.hid (below_then Hb3.out hbel (Nat.le_refl _))
      have hba := (Below.refl w4.heap.size w4).alloc (Nat.le_refl _) (Obj.cells #[.bool false, .slice none 0 0, .slice none 0 0, .slice none 0 0] 27)
      have hm4 := Hm.out.keep (hbel.mono (by simp))
      obtain ⟨x0, x1, x2, x3, -, hx4⟩ := hm4.facts
      have Hb5 := Lib.hid (below_then Hb4.out hba (Nat.le_refl _))
      clear hbel hba hm4 Hm HR
      go_wp2_with fail
      refine (HS _).out.mono ?_
      rintro e w6 ⟨rfl, hbel⟩
      have Hb6 := Lib.hid (below_then Hb5.out hbel (Nat.le_refl _))
      clear hbel HS x0 x1 x2 x3 hx4
      go_wp2_with fail
      go_ret
      exact ⟨ret_bool (by simp), Hb6.out⟩
  · have hgt : (300 : Int) < s.length := by omega
    obtain ⟨S, hS⟩ : ∃ S, S = (⟨s.toArray⟩ : ByteArray) := ⟨_, rfl⟩
    rw [← hS] at hss ⊢
    clear hS hT hEr hg
    go_enter Tryz.func3, Tryz.ntmps3
    go_wp2_with fail
    refine HL.out.mono ?_
    rintro e w1 ⟨rfl, hbel⟩
    have Hb1 := Lib.hid hbel
    clear hbel HL
    go_wp2_with fail
    go_ret
    exact ⟨rfl, Hb1.out⟩

end Go.Proofs.YtmhgbocejjnoaaaGreatDoor
/- A tree that came in, read into plain data. -/
namespace Go.Proofs.YtmhgbocejjnoaaaGreatDoor
open Go.RowKit Go.Redl Go.Deep
set_option linter.unusedVariables false

/-- The elements of a slice, one by one. -/
def Elems {H α : Type} (Φ : α → List Value → DataW H → Prop) : List α → List Value → List (DataW H) → Prop
  | [], css, ds => css = [] ∧ ds = []
  | y :: ys, css, ds => ∃ c cs d ds', css = c ++ cs ∧ ds = d :: ds' ∧ Φ y c d ∧ Elems Φ ys cs ds'

theorem elems_of {H α : Type} {enc : TypeId × Value → H} {P : Program} {W : World} {fuel : Nat} {e : TypeId} {sz : Nat} (Φ : α → List Value → DataW H → Prop)
    (hΦ : ∀ cs x, DataW.trod enc P W 0 (fun _ => true) true fuel e cs = some x → ∃ y, Φ y cs x.1) :
    ∀ (elems : List (DataW H × List MemPlace)) (a : Addr) (off : Nat), (∀ i, i < elems.length → (W.cells? 0 (a.add (off + i * sz)) sz).bind (DataW.trod enc P W 0 (fun _ => true) true fuel e) = elems[i]?) →
      ∃ ys css, Elems Φ ys css (elems.map (·.1)) ∧ ys.length = elems.length ∧ css.length = elems.length * sz ∧ ∀ j u, css[j]? = some u → W.cell? (a.add (off + j)) = some u
  | [], a, off, h => ⟨[], [], ⟨rfl, rfl⟩, rfl, by simp, by simp⟩
  | x :: elems, a, off, h => by
    have h0 := h 0 (by simp)
    simp only [Nat.zero_mul, Nat.add_zero, List.getElem?_cons_zero, Option.bind_eq_some_iff] at h0
    obtain ⟨c, hc, ht⟩ := h0
    obtain ⟨y, hy⟩ := hΦ c x ht
    obtain ⟨_, hcl, hcell⟩ := World.cells?_some hc
    obtain ⟨ys, css, h1, h2, h3, h4⟩ := elems_of Φ hΦ elems a (off + sz) (fun i hi => by
      have := h (i + 1) (by simpa using hi)
      rw [show off + (i + 1) * sz = off + sz + i * sz by rw [Nat.add_mul]; omega] at this
      simpa using this)
    refine ⟨y :: ys, c ++ css, ⟨c, css, x.1, elems.map (·.1), rfl, rfl, hy, h1⟩, by simp [h2], by simp [hcl, h3, Nat.add_mul]; omega, fun j u hj => ?_⟩
    rcases Nat.lt_or_ge j sz with hlt | hge
    · rw [List.getElem?_append_left (by omega)] at hj
      have := hcell j hlt
      rw [add_add, hj] at this
      exact this
    · rw [List.getElem?_append_right (by omega), hcl] at hj
      have := h4 _ _ hj
      rw [show off + sz + (j - sz) = off + j by omega] at this
      exact this

theorem Elems.one {H α : Type} {Φ : α → List Value → DataW H → Prop} (h1 : ∀ y c d, Φ y c d → ∀ u ∈ c, u.oneCell' = true) : ∀ {ys : List α} {css : List Value} {ds : List (DataW H)}, Elems Φ ys css ds → ∀ u ∈ css, u.oneCell' = true
  | [], css, ds, h => by obtain ⟨rfl, -⟩ := h; simp
  | y :: ys, css, ds, h => by
    obtain ⟨c, cs, d, ds', rfl, rfl, hy, hr⟩ := h
    intro u hu
    rcases List.mem_append.1 hu with hu | hu
    · exact h1 y c d hy u hu
    · exact Elems.one h1 hr u hu

/-- A slice that came in: its elements read one by one. -/
theorem row_of_trod {H α : Type} {enc : TypeId × Value → H} {P : Program} {W : World} {fuel : Nat} {t e : TypeId} {sz : Nat} (Φ : α → List Value → DataW H → Prop) (ht : P.underlying t = some (.slice e)) (hs : P.cellsOf e = sz) (hpos : 0 < sz)
    (hΦ : ∀ m cs x, m < fuel → DataW.trod enc P W 0 (fun _ => true) true m e cs = some x → ∃ y, Φ y cs x.1) (h1 : ∀ y c d, Φ y c d → ∀ u ∈ c, u.oneCell' = true)
    {cs : List Value} {x : DataW H × List MemPlace} (h : DataW.trod enc P W 0 (fun _ => true) true fuel t cs = some x) :
    ∃ a cap ys css ds, cs = [.slice a ys.length cap] ∧ RowA W W.heap.size sz a ys.length cap css ∧ Elems Φ ys css ds ∧ (x.1 = .nil ∧ ys = [] ∧ ds = [] ∨ ∃ sp, x.1 = .slice ds sp) := by
  rcases DataW.trod_slice ht h with ⟨rfl, rfl⟩ | ⟨a, len, cap, elems, rest, n, rfl, rfl, rfl, hb, hl, hm, hel, hall, -, -⟩
  · exact ⟨none, 0, [], [], [], rfl, RowA.empty _ _ _, ⟨rfl, rfl⟩, .inl ⟨rfl, rfl, rfl⟩⟩
  · rw [hs] at hall
    obtain ⟨ys, css, g1, g2, g3, g4⟩ := elems_of (fuel := n) Φ (fun cs x hx => hΦ n cs x (Nat.lt_succ_self n) hx) elems a 0 (fun i hi => by
      have := hall i (by omega)
      rw [Nat.zero_add]; exact this)
    have hyl : ys.length = len := by omega
    subst hyl
    refine ⟨some a, cap, ys, css, elems.map (·.1), rfl, ⟨by rw [g3, hel], hl, hm, Elems.one h1 g1, (fun h => by cases h), fun hne => ?_⟩, g1, .inr ⟨_, rfl⟩⟩
    have hpos' : 0 < css.length := List.length_pos_iff.2 hne
    have h0 := g4 0 _ (List.getElem?_eq_getElem hpos')
    obtain ⟨b, off, spot⟩ := a
    have hspot : spot = none := by simpa [Addr.add] using World.cell?_spot h0
    subst hspot
    refine ⟨b, off, rfl, ?_, fun j u hj => ?_⟩
    · have := World.block_lt_of_cell? W _ h0
      simpa [addr_add] using this
    · have := g4 j u hj
      rw [Nat.zero_add, addr_add] at this
      exact this

theorem bulkAll_append {H : Type} (l r : List (DataW H)) : Rows.uptoBulkAll (l ++ r) = Rows.uptoBulkAll l + Rows.uptoBulkAll r := by
  induction l with
  | nil => simp [Rows.uptoBulkAll]
  | cons x l ih => simp only [List.cons_append, Rows.uptoBulkAll, ih]; omega

theorem list_string (s : ByteArray) : (⟨s.data.toList.toArray⟩ : ByteArray) = s := by cases s; simp

/-- A property that came in. -/
def PropΦ {H : Type} (p : PropD) (cs : List Value) (d : DataW H) : Prop := cs = [.string ⟨p.1.toArray⟩, .string ⟨p.2.toArray⟩] ∧ 2 + p.1.length + p.2.length ≤ Rows.uptoBulk d
theorem prop_of_trod {H : Type} {enc : TypeId × Value → H} {P : Program} {W : World} {fuel : Nat} {t : TypeId} {f0 f1 : Field} (hs : P.underlying t = some (.struct #[f0, f1])) (hc : P.cellsOf t = 2) (h0 : P.underlying f0.type = some .string) (h1 : P.underlying f1.type = some .string)
    (c0 : P.cellsOf f0.type = 1) (c1 : P.cellsOf f1.type = 1) (o0 : f0.offset = 0) (o1 : f1.offset = 1) {cs : List Value} {x : DataW H × List MemPlace} (h : DataW.trod enc P W 0 (fun _ => true) true fuel t cs = some x) : ∃ p, PropΦ p cs x.1 := by
  obtain ⟨xs, n, rfl, rfl, hl, hx, hf⟩ := DataW.trod_struct hs h
  rw [hc] at hl
  match xs, hx, cs, hl with
  | [y0, y1], _, [v0, v1], _ =>
    have g0 := hf 0 f0 rfl
    have g1 := hf 1 f1 rfl
    simp [o0, o1, c0, c1] at g0 g1
    obtain ⟨s0, e0, rfl, m0⟩ := DataW.trod_string h0 g0
    obtain ⟨s1, e1, rfl, m1⟩ := DataW.trod_string h1 g1
    simp at e0 e1
    subst e0; subst e1
    refine ⟨(s0.data.toList, s1.data.toList), ?_, ?_⟩
    · simp only [list_string]
    · simp [Rows.uptoBulk, Rows.uptoBulkAll]; omega

theorem elems_props {H : Type} : ∀ {ps : List PropD} {css : List Value} {ds : List (DataW H)}, Elems PropΦ ps css ds → css = propCells ps ∧ propsWt ps ≤ Rows.uptoBulkAll ds
  | [], css, ds, h => by obtain ⟨rfl, rfl⟩ := h; exact ⟨rfl, by simp [propsWt]⟩
  | p :: ps, css, ds, h => by
    obtain ⟨c, cs, d, ds', rfl, rfl, ⟨rfl, hb⟩, hr⟩ := h
    obtain ⟨rfl, h2⟩ := elems_props hr
    exact ⟨by simp [propCells], by simp only [propsWt, Rows.uptoBulkAll]; omega⟩
theorem elems_ints {H : Type} {k : IntKind} : ∀ {zs : List Int} {css : List Value} {ds : List (DataW H)}, Elems (fun z cs d => cs = [.int k z] ∧ (Lit.int k z).wf = true ∧ 1 ≤ Rows.uptoBulk (H := H) d) zs css ds →
    css = zs.map (Value.int k) ∧ (∀ z ∈ zs, (Lit.int k z).wf = true) ∧ zs.length ≤ Rows.uptoBulkAll ds
  | [], css, ds, h => by obtain ⟨rfl, rfl⟩ := h; exact ⟨rfl, by simp, by simp⟩
  | z :: zs, css, ds, h => by
    obtain ⟨c, cs, d, ds', rfl, rfl, ⟨rfl, hw, hb⟩, hr⟩ := h
    obtain ⟨rfl, h2, h3⟩ := elems_ints hr
    exact ⟨by simp, by simpa using ⟨hw, h2⟩, by simp only [List.length_cons, Rows.uptoBulkAll]; omega⟩
def NodeΦ {H : Type} (W : World) (n : NodeD) (cs : List Value) (d : DataW H) : Prop := NodeC W W.heap.size n cs ∧ n.wt ≤ Rows.uptoBulk d
theorem elems_kids {H : Type} {W : World} : ∀ {ks : List NodeD} {css : List Value} {ds : List (DataW H)}, Elems (NodeΦ W) ks css ds → KidsC W W.heap.size ks css ∧ wtAll ks ≤ Rows.uptoBulkAll ds
  | [], css, ds, h => by obtain ⟨rfl, rfl⟩ := h; exact ⟨by unfold KidsC; rfl, by simp [wtAll]⟩
  | k :: ks, css, ds, h => by
    obtain ⟨c, cs, d, ds', rfl, rfl, ⟨hk, hb⟩, hr⟩ := h
    obtain ⟨h2, h3⟩ := elems_kids hr
    exact ⟨by unfold KidsC; exact ⟨c, cs, rfl, hk, h2⟩, by simp only [wtAll, Rows.uptoBulkAll]; omega⟩

/-- What a slice's bulk says. -/
theorem slice_bulk {H : Type} {d : DataW H} {ds : List (DataW H)} {n : Nat} (h : d = .nil ∧ n = 0 ∧ ds = [] ∨ ∃ sp, d = .slice ds sp) : Rows.uptoBulkAll ds + 1 ≤ Rows.uptoBulk d := by
  rcases h with ⟨rfl, -, rfl⟩ | ⟨sp, rfl⟩
  · simp [Rows.uptoBulk, Rows.uptoBulkAll]
  · simp only [Rows.uptoBulk]; omega

set_option maxRecDepth 100000 in
theorem node_of_trod {H : Type} {enc : TypeId × Value → H} {W : World} : ∀ (fuel : Nat) (cs : List Value) (x : DataW H × List MemPlace), DataW.trod enc Tryz.prog W 0 (fun _ => true) true fuel 27 cs = some x → ∃ n, NodeΦ W n cs x.1 := by
  intro fuel
  induction fuel using Nat.strongRecOn with
  | _ fuel ih =>
    intro cs x h
    obtain ⟨xs, n, rfl, rfl, hl, hx, hf⟩ := DataW.trod_struct Tryz.underlying27 h
    rw [show Tryz.prog.cellsOf 27 = 4 by kernel_rfl] at hl
    match xs, hx, cs, hl with
    | [y0, y1, y2, y3], _, [v0, v1, v2, v3], _ =>
      have g0 := hf 0 _ rfl
      have g1 := hf 1 _ rfl
      have g2 := hf 2 _ rfl
      have g3 := hf 3 _ rfl
      have k0 : Tryz.prog.cellsOf 4 = 1 := by kernel_rfl
      have k1 : Tryz.prog.cellsOf 23 = 1 := by kernel_rfl
      have k2 : Tryz.prog.cellsOf 24 = 1 := by kernel_rfl
      have k3 : Tryz.prog.cellsOf 25 = 1 := by kernel_rfl
      simp [k0, k1, k2, k3] at g0 g1 g2 g3
      obtain ⟨b, e0, rfl⟩ := DataW.trod_bool Tryz.underlying4 g0
      obtain ⟨a1, c1, ps, css1, ds1, e1, r1, el1, s1⟩ := row_of_trod PropΦ Tryz.underlying23 (show Tryz.prog.cellsOf 41 = 2 by kernel_rfl) (by decide)
        (fun m cs x _ hx => prop_of_trod Tryz.underlying41 (by kernel_rfl) Tryz.underlying9 Tryz.underlying9 (by kernel_rfl) (by kernel_rfl) rfl rfl hx) (fun y c d hh => by obtain ⟨rfl, -⟩ := hh; intro u hu; simp at hu; rcases hu with rfl | rfl <;> rfl) g1
      obtain ⟨a2, c2, zs, css2, ds2, e2, r2, el2, s2⟩ := row_of_trod (fun z cs d => cs = [.int .i32 z] ∧ (Lit.int .i32 z).wf = true ∧ 1 ≤ Rows.uptoBulk (H := H) d) Tryz.underlying24 (show Tryz.prog.cellsOf 21 = 1 by kernel_rfl) (by decide)
        (fun m cs x _ hx => by
          obtain ⟨z, rfl, rfl, hw⟩ := DataW.trod_int Tryz.underlying21 hx
          exact ⟨z, rfl, hw, by simp [Rows.uptoBulk]⟩) (fun y c d hh => by obtain ⟨rfl, -⟩ := hh; intro u hu; simp at hu; subst hu; rfl) g2
      obtain ⟨a3, c3, ks, css3, ds3, e3, r3, el3, s3⟩ := row_of_trod (NodeΦ W) Tryz.underlying25 (show Tryz.prog.cellsOf 27 = 4 by kernel_rfl) (by decide)
        (fun m cs x hm hx => ih m (by omega) cs x hx) (fun y c d hh => hh.1.one) g3
      simp at e0 e1 e2 e3
      subst e0; subst e1; subst e2; subst e3
      obtain ⟨rfl, b1⟩ := elems_props el1
      obtain ⟨rfl, hw, b2⟩ := elems_ints el2
      obtain ⟨hk, b3⟩ := elems_kids el3
      refine ⟨.mk b ps zs ks, ?_, ?_⟩
      · unfold NodeC
        exact ⟨a1, c1, a2, c2, a3, c3, css3, rfl, r1, r2, hw, r3, hk⟩
      · have m1 := slice_bulk (n := 0) (s1.imp (fun h => ⟨h.1, rfl, h.2.2⟩) id)
        have m2 := slice_bulk (n := 0) (s2.imp (fun h => ⟨h.1, rfl, h.2.2⟩) id)
        have m3 := slice_bulk (n := 0) (s3.imp (fun h => ⟨h.1, rfl, h.2.2⟩) id)
        simp only [NodeD.wt, List.map_cons, List.map_nil, Rows.uptoBulk, Rows.uptoBulkAll]
        omega

end Go.Proofs.YtmhgbocejjnoaaaGreatDoor
/- The frame of the Upto laws at this seat. -/
namespace Go.Proofs.YtmhgbocejjnoaaaGreatDoor
open Go.ChangeShapes Go.WideShapes Go.ChangeAt Go.WideMaps Go.WideElems Go.RowKit Go.Redl
set_option linter.unusedVariables false

theorem own : ownKnob Tryz.prog.godebug = none := by kernel_rfl
theorem laidOut : laidOutB Tryz.prog = true := by kernel_rfl

def dB64 : List Int := [0, 1, 56, 2, 57, 49, 28, 3, 61, 58, 42, 50, 38, 29, 17, 4, 62, 47, 59, 36, 45, 43, 51, 22, 53, 39, 33, 30, 24, 18, 12, 5, 63, 55, 48, 27, 60, 41, 37, 16, 46, 35, 44, 21, 52, 32, 23, 11, 54, 26, 40, 15, 34, 20, 31, 10, 25, 14, 19, 9, 13, 8, 7, 6]

end Go.Proofs.YtmhgbocejjnoaaaGreatDoor
/- The frame's laws on the library's errors. -/
namespace Go.Proofs.YtmhgbocejjnoaaaGreatDoor
open Go.ChangeShapes Go.WideShapes Go.ChangeAt Go.WideMaps Go.WideElems Go.RowKit Go.Redl
set_option linter.unusedVariables false
set_option maxRecDepth 100000

theorem err_at {W : World} {n : String} {g : Nat} {v : Value} (hg : Tryz.prog.globalNamed n = some g) (h : W.var? Tryz.prog n = some #[v]) : W.cell? ⟨g, 0, none⟩ = some v := by
  have := World.var?_cell hg h 0
  simpa using this

theorem star_err : "*" ++ "errors.errorString" = "*errors.errorString" := by decide
theorem row_err (u : TypeId) (h : Tryz.prog.typeName? 3 u = some "*errors.errorString") : u = 145 :=
  typeName_ptr_named (nm := "errors.errorString") (by rw [star_err]; kernel_rfl) (by kernel_rfl) (by decide) u (by rw [star_err]; exact h)

end Go.Proofs.YtmhgbocejjnoaaaGreatDoor
