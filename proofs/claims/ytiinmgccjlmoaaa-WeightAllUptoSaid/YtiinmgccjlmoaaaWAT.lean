/- WeightAll, where what is read is of bulk at most 1048576: for every schema, tree, list of paths and path the law returns true. Conditions: the bulk, and the row's own. -/
import Derived.Test.YtiinmgccjlmoaaaRKL
import Derived.Test.YtiinmgccjlmoaaaRHC
import Derived.Laws.IdiomStrings
import Derived.Test.YtiinmgccjlmoaaaRHR
import Derived.Test.YtiinmgccjlmoaaaRR7
import Derived.Laws.OwnMore
import Derived.Test.YtiinmgccjlmoaaaRN4
import Derived.Test.YtiinmgccjlmoaaaRows
import Derived.WalkKit
import Derived.ProofKit
import Derived.LaidMore
import Derived.OpenShut
import Derived.ChangeOld
import Derived.Below
import Derived.Stop.Joined
import Derived.Deep.DeepHandedRow
import Derived.Deep.DeepWitnessRowRef
import Derived.JoinedCond
import Derived.Test.YtiinmgccjlmoaaaRKK
namespace Go.Proofs.Ytiinmgccjlmoaaa
open Go.RowKit Go.Redl
set_option linter.unusedVariables false
set_option linter.unusedSimpArgs false

/-- How many nodes the one at a path has, itself counted. -/
def sizeAt (n : NodeD) (p : List Int) : Nat := match atN n p with
  | some k => (allN k).length
  | none => 0
def sumN (n : NodeD) (L : List (List Int)) : Nat := (L.map (sizeAt n)).sum
/-- The elements of some paths, in order. -/
abbrev elemL (n : NodeD) (L : List (List Int)) : List (List Int) := setL ((L.filter smallB1).filter (isElem n))
/-- How many nodes a repair can meet. -/
def regN (n : NodeD) (L : List (List Int)) : Nat := sumN n (readyL (setL (elemL n L)))
theorem sizeAt_le (n : NodeD) (p : List Int) : sizeAt n p ≤ n.wt := by
  have h := atN_wt p n
  unfold sizeAt
  cases hat : atN n p with
  | none => simp
  | some k => exact Nat.le_trans (pathsW_len _ k []) (h k hat)
theorem region_ent : ∀ args w, (callFunc 14 args).run Try.prog w = .ok (.enter 14 args) w := by intro args w; kernel_rfl
set_option maxRecDepth 100000 in
set_option maxHeartbeats 2000000 in
theorem region_c (n : NodeD) (v : Value) (B : Nat) (vx : Value) (xs : List PX) (W : World) (hbig : n.wt ≤ 100000000) (hv : NodeV W B n v) (hB : B ≤ W.heap.size) (hx : ReadX W B vx xs) (hn : xs.length ≤ 100000000) (hnp : ∀ x ∈ xs, x.1.length ≤ 100000000) :
    Calls Try.prog 14 #[v, vx] W fun e w' => e = .returned (.int .i64 (regN n (pxs xs) : Nat)) ∧ Below W.heap.size W w' := by
  have hv0 := hv
  obtain ⟨lf, ps, t, ks⟩ := n
  obtain ⟨ap, cp, at_, ct, ak, ck, css, rfl, -, -, -, -⟩ := hv0.open
  generalize NodeD.mk lf ps t ks = n at hv hbig ⊢
  obtain ⟨a, c, rfl, -⟩ := hx.row
  obtain ⟨w0, hw0⟩ : ∃ w0, w0 = W.alloc (Obj.cells #[.bool lf, .slice ap ps.length cp, .slice at_ t.length ct, .slice ak ks.length ck] 35) := ⟨_, rfl⟩
  have hb0 : Below W.heap.size W w0 := by rw [hw0]; exact one_below _ _
  have hA : At w0 W.heap.size [.bool lf, .slice ap ps.length cp, .slice at_ t.length ct, .slice ak ks.length ck] 35 := by rw [hw0]; exact At.fresh W _ _
  have HS := Lib.hid (step0_c n _ B _ xs w0 hbig (hv.keep (hb0.mono hB) (Nat.le_refl _)) (Nat.le_trans hB hb0.size) (hx.keep (hb0.mono hB) (Nat.le_refl _)) hn hnp)
  have HM := Lib.hid (show ∀ p ∈ setL (((pxs xs).filter smallB1).filter (isElem n)), p.length ≤ 100000000 from fun p hp => by
    have h := (List.mem_filter.1 (List.mem_filter.1 (mem_setL.1 hp)).1).1
    obtain ⟨x, hx', rfl⟩ := List.mem_map.1 h
    exact hnp x hx')
  have HL := Lib.hid (show (setL (((pxs xs).filter smallB1).filter (isElem n))).length ≤ 100000000 from Nat.le_trans (setL_len _) (Nat.le_trans (List.length_filter_le _ _) (Nat.le_trans (List.length_filter_le _ _) (by simpa using hn))))
  have HG := Lib.hid (fun (w1 : World) (hb : Below W.heap.size W w1) (p : List Int) (pa : Option Addr) (pc : Nat) (hp : RowA w1 w1.heap.size 1 pa p.length pc (p.map (Value.int .i64))) => get_c n p _ pa pc w1 hbig (hv.keep (hb.mono hB) (Nat.le_trans hB hb.size)) hp)
  have HW := Lib.hid hbig
  have HR := Lib.hid (show regN n (pxs xs) = sumN n (readyL (setL (setL (((pxs xs).filter smallB1).filter (isElem n))))) from rfl)
  generalize regN n (pxs xs) = T at HR ⊢
  generalize setL (((pxs xs).filter smallB1).filter (isElem n)) = E at HS HM HL HR
  have HA := Lib.hid hA; have Hb0 := Lib.hid hb0; have Hw0 := Lib.hid hw0
  obtain ⟨⟨x0, x1, x2, x3⟩, -, xl⟩ := hA.f4
  clear hv hv0 hbig hb0 hA hw0 hx hnp hB hn
  go_enter Try.func14, Try.ntmps14
  go_upto_region 1 with fail
  rw [← Hw0.out]
  clear Hw0
  go_wp2_with fail
  refine HS.out.mono ?_
  rintro e w1 ⟨u, ys, rfl, hy, hp, hbel⟩
  obtain ⟨ua, uc, hu⟩ := hy.form
  subst hu
  have hyl : ys.length = E.length := by rw [← hp]; simp
  have HRD := Lib.hid (ready_c w1.heap.size _ ys w1 (Nat.le_refl _) hy.read (by rw [hyl]; exact HL.out) fun y hy' => HM.out y.1 (by rw [← hp]; exact List.mem_map.2 ⟨y, hy', rfl⟩))
  rw [hp] at HRD
  have HA1 := Lib.hid (HA.out.kept hbel)
  have Hb1 := Lib.hid (Hb0.out.trans (hbel.mono Hb0.out.size))
  have Hs1 := Lib.hid hbel.size
  have HQ := Lib.hid (show (readyL (setL E)).length ≤ 100000000 by
    have h : ∀ (q : Option (List Int)) (l : List (List Int)), (readyF q l).length ≤ l.length := by
      intro q l
      induction l generalizing q with
      | nil => cases q <;> simp [readyF]
      | cons p l ih =>
        cases q with
        | none => simp only [readyF, List.length_cons]; have := ih (some p); omega
        | some q =>
          simp only [readyF]
          split
          · have := ih (some q); simp; omega
          · have := ih (some p); simp; omega
    exact Nat.le_trans (h none (setL E)) (Nat.le_trans (setL_len _) HL.out))
  clear hy hp hyl hbel HS x0 x1 x2 x3 xl HA HM HL
  go_wp2_with fail
  refine HRD.out.mono ?_
  rintro e w2 ⟨u2, zs, rfl, hz, hp, hbel⟩
  obtain ⟨za, zc, hu⟩ := hz.form
  subst hu
  have HZ := Lib.hid hz.read
  have HA2 := Lib.hid (HA1.out.kept hbel)
  have Hb2 := Lib.hid (Hb1.out.trans (hbel.mono (Nat.le_trans Hb0.out.size Hs1.out)))
  have hzl : zs.length ≤ 100000000 := by have := HQ.out; rw [← hp] at this; simpa using this
  have HT := Lib.hid (show sumN n (pxs zs) = T by rw [hp]; exact HR.out.symm)
  clear hz hp hbel HRD HA1 HR HQ
  go_wp2_with fail
  go_loopg [16, 5] zs.length (fun g i s wr => ∃ k m : Nat, i = .int .i64 k ∧ s = .int .i64 m ∧ k + g = zs.length ∧ m ≤ k * 100000000 ∧ Hid (m + sumN n (pxs (zs.drop k)) = T) ∧ Hid (Below w2.heap.size w2 wr))
  case atStart => exact ⟨0, 0, rfl, rfl, by omega, by omega, (show 0 + sumN n (pxs (zs.drop 0)) = T by simpa using HT.out), Below.refl _ _⟩
  case round =>
    obtain ⟨k, m, rfl, rfl, hg, hmk, hst, hbr⟩ := hrel
    have Hbw := Lib.hid (Hb2.out.trans (hbr.out.mono Hb2.out.size))
    by_cases hlt : k < zs.length
    · have hlti : (k : Int) < zs.length := by omega
      have hZr := HZ.out.keep hbr.out hbr.out.size
      obtain ⟨b, off, rfl, hb, hc⟩ := hZr.at_ k hlt
      have hall := hZr.all zs[k] (List.getElem_mem hlt)
      have Hst := Lib.hid (show m + (sizeAt n zs[k].1 + sumN n (pxs (zs.drop (k + 1)))) = T by
        have h := hst.out
        rw [List.drop_eq_getElem_cons hlt] at h
        exact h)
      have hsz := sizeAt_le n zs[k].1
      generalize zs[k] = x at hc hall Hst hsz
      obtain ⟨q0, qa, qc⟩ := x
      unfold pxV at hc
      simp only at hc hall Hst hsz
      have HG1 := Lib.hid (HG.out wr Hbw.out q0 qa qc hall)
      obtain ⟨⟨x0, x1, x2, x3⟩, -, xl⟩ := (HA2.out.kept hbr.out).f4
      have hwt := HW.out
      cases hat : atN n q0 with
      | none =>
        rw [hat] at HG1
        have Hs := Lib.hid (show sizeAt n q0 = 0 by unfold sizeAt; rw [hat])
        clear hat hZr hall hb hsz
        go_wp2_with fail
        refine HG1.out.mono ?_
        rintro e w3 ⟨rfl, hbel⟩
        have Hb3 := Lib.hid ((below_and hbr.out hbel).trans ((one_below w3 (Obj.cells #[.bool false, .slice none 0 0, .slice none 0 0, .slice none 0 0] 35)).mono (below_and hbr.out hbel).size))
        clear hbel HG1 hc x0 x1 x2 x3 xl
        go_wp2_with fail
        go_roundg (zs.length - (k + 1))
        case measure => omega
        case rel => exact ⟨k + 1, m, by go_num, rfl, by omega, Nat.le_trans hmk (Nat.mul_le_mul_right _ (Nat.le_succ k)), (show m + sumN n (pxs (zs.drop (k + 1))) = T by have h := Hst.out; rw [Hs.out, Nat.zero_add] at h; exact h), Hb3.out⟩
      | some q =>
        rw [hat] at HG1
        have Hs := Lib.hid (show sizeAt n q0 = (allN q).length by unfold sizeAt; rw [hat])
        have hql : (allN q).length ≤ 100000000 := by rw [← Hs.out]; omega
        have Hqw := Lib.hid (show q.wt ≤ 100000000 from Nat.le_trans (atN_wt q0 n q hat) hwt)
        clear hat hZr hall hb hsz
        go_wp2_with fail
        refine HG1.out.mono ?_
        rintro e w3 ⟨cs, rfl, hq, hbel⟩
        have hqn := NodeQ.node _ _ hq
        obtain ⟨l, a1, n1, c1, a2, n2, c2, a3, n3, c3, rfl⟩ := hqn.form
        have hb4 := one_below w3 (Obj.cells #[.bool l, .slice a1 n1 c1, .slice a2 n2 c2, .slice a3 n3 c3] 35)
        have Hb4 := Lib.hid ((below_and hbr.out hbel).trans (hb4.mono (below_and hbr.out hbel).size))
        have HP := Lib.hid (allX_c q (.agg #[.bool l, .slice a1 n1 c1, .slice a2 n2 c2, .slice a3 n3 c3]) _ Hqw.out ⟨_, rfl, NodeC.keep hb4 hb4.size _ _ hqn⟩)
        clear hbel HG1 hc x0 x1 x2 x3 xl hq hqn hb4
        go_wp2_with fail
        refine HP.out.mono ?_
        rintro e w5 ⟨u5, fs, rfl, hf, hfp, hbel⟩
        obtain ⟨fa, fc, hu⟩ := hf.form
        subst hu
        have hfl : fs.length = (allN q).length := by rw [← hfp]; simp
        have Hb5 := Lib.hid (below_and Hb4.out hbel)
        have hwr : IntKind.i64.wrap ((m : Int) + (fs.length : Int)) = ((m + fs.length : Nat) : Int) := (IntWalk.i64_in _ (by omega)).trans (by omega)
        have Hfl := Lib.hid hfl
        clear hf hfp hbel HP hfl
        go_wp2_with fail
        go_roundg (zs.length - (k + 1))
        case measure => omega
        case rel => exact ⟨k + 1, m + fs.length, by go_num, rfl, by omega, by have := Hfl.out; omega, (show (m + fs.length) + sumN n (pxs (zs.drop (k + 1))) = T by have h := Hst.out; rw [Hs.out, ← Hfl.out, ← Nat.add_assoc] at h; exact h), Hb5.out⟩
    · obtain rfl : k = zs.length := by omega
      have Hfin := Lib.hid (show m = T by have := hst.out; rw [List.drop_length] at this; simpa [sumN] using this)
      clear hst
      go_wp2_with fail
      go_ret
      exact ⟨ret_int (by rw [Hfin.out]), Hbw.out⟩

end Go.Proofs.Ytiinmgccjlmoaaa
namespace Go.Proofs.Ytiinmgccjlmoaaa
open Go.RowKit Go.Redl
set_option linter.unusedVariables false
set_option linter.unusedSimpArgs false

theorem pre_not_lt : ∀ {a b : List Int}, a <+: b → ¬ cmpL b a < 0
  | [], [], _ => by simp [cmpL]
  | [], _ :: _, _ => by simp [cmpL]
  | _ :: _, [], h => by simp at h
  | x :: a, y :: b, h => by
    obtain ⟨rfl, h2⟩ := List.cons_prefix_cons.1 h
    unfold cmpL
    rw [if_pos (cmpI_zero.2 rfl)]
    exact pre_not_lt h2
theorem pre_between : ∀ {a b c : List Int}, cmpL a b < 0 → cmpL b c < 0 → a <+: c → a <+: b
  | [], b, c, _, _, _ => List.nil_prefix
  | x :: a, [], c, h, _, _ => by simp [cmpL] at h
  | x :: a, y :: b, [], _, _, h => by simp at h
  | x :: a, y :: b, z :: c, h1, h2, h3 => by
    obtain ⟨rfl, h4⟩ := List.cons_prefix_cons.1 h3
    unfold cmpL at h1 h2
    have hxy : x = y := by
      by_cases e : cmpI x y = 0
      · exact cmpI_zero.1 e
      · rw [if_neg e] at h1
        have g1 := cmpI_neg.1 h1
        rw [if_neg (fun e2 => by have := cmpI_zero.1 e2; omega)] at h2
        have g2 := cmpI_neg.1 h2
        omega
    subst hxy
    rw [if_pos (cmpI_zero.2 rfl)] at h1 h2
    exact List.cons_prefix_cons.2 ⟨rfl, pre_between h1 h2 h4⟩
theorem above_iff {a b : List Int} : aboveB a b = true ↔ a.length < b.length ∧ a <+: b := by
  unfold aboveB
  rw [Bool.and_eq_true, decide_eq_true_eq, decide_eq_true_eq, alikeN_pre]
theorem pre_above {a b : List Int} (hne : cmpL a b < 0) : a <+: b ↔ aboveB a b = true := by
  rw [above_iff]
  refine ⟨fun h => ⟨?_, h⟩, fun h => h.2⟩
  rcases Nat.lt_or_ge a.length b.length with h1 | h1
  · exact h1
  · have := h.eq_of_length_le h1
    subst this
    exact absurd hne (by rw [cmpL_self]; omega)

/-- What is kept of paths in order: none is above another one; each is at or below one of them. -/
theorem readyF_some : ∀ (S : List (List Int)) (q : List Int), StrictL S → (∀ s ∈ S, cmpL q s < 0) →
    (∀ r ∈ readyF (some q) S, r ∈ S ∧ ¬ q <+: r) ∧ (readyF (some q) S).Pairwise (fun a b => ¬ a <+: b ∧ ¬ b <+: a) ∧ ∀ s ∈ S, q <+: s ∨ ∃ r ∈ readyF (some q) S, r <+: s
  | [], q, _, _ => by simp [readyF]
  | p :: S, q, hS, hq => by
    obtain ⟨h1, h2⟩ := List.pairwise_cons.1 hS
    have hqp := hq p (by simp)
    unfold readyF
    by_cases ha : aboveB q p = true
    · rw [if_pos ha]
      obtain ⟨g1, g2, g3⟩ := readyF_some S q h2 fun s hs => hq s (by simp [hs])
      refine ⟨fun r hr => ⟨by simp [(g1 r hr).1], (g1 r hr).2⟩, g2, fun s hs => ?_⟩
      rcases List.mem_cons.1 hs with rfl | hs
      · exact .inl ((pre_above hqp).2 ha)
      · exact g3 s hs
    · rw [if_neg ha]
      have hnp : ¬ q <+: p := fun h => ha ((pre_above hqp).1 h)
      obtain ⟨g1, g2, g3⟩ := readyF_some S p h2 h1
      refine ⟨fun r hr => ?_, List.pairwise_cons.2 ⟨fun r hr => ⟨(g1 r hr).2, fun h => pre_not_lt h (h1 r (g1 r hr).1)⟩, g2⟩, fun s hs => ?_⟩
      · rcases List.mem_cons.1 hr with rfl | hr
        · exact ⟨by simp, hnp⟩
        · exact ⟨by simp [(g1 r hr).1], fun h => hnp (pre_between hqp (h1 r (g1 r hr).1) h)⟩
      · rcases List.mem_cons.1 hs with rfl | hs
        · exact .inr ⟨s, by simp, List.prefix_rfl⟩
        · rcases g3 s hs with h | ⟨r, hr, h⟩
          · exact .inr ⟨p, by simp, h⟩
          · exact .inr ⟨r, by simp [hr], h⟩
theorem readyL_spec (S : List (List Int)) (hS : StrictL S) :
    (∀ r ∈ readyL S, r ∈ S) ∧ (readyL S).Pairwise (fun a b => ¬ a <+: b ∧ ¬ b <+: a) ∧ ∀ s ∈ S, ∃ r ∈ readyL S, r <+: s := by
  unfold readyL
  cases S with
  | nil => simp [readyF]
  | cons p S =>
    obtain ⟨h1, h2⟩ := List.pairwise_cons.1 hS
    obtain ⟨g1, g2, g3⟩ := readyF_some S p h2 h1
    unfold readyF
    refine ⟨fun r hr => ?_, List.pairwise_cons.2 ⟨fun r hr => ⟨(g1 r hr).2, fun h => pre_not_lt h (h1 r (g1 r hr).1)⟩, g2⟩, fun s hs => ?_⟩
    · rcases List.mem_cons.1 hr with rfl | hr
      · simp
      · simp [(g1 r hr).1]
    · rcases List.mem_cons.1 hs with rfl | hs
      · exact ⟨s, by simp, List.prefix_rfl⟩
      · rcases g3 s hs with h | ⟨r, hr, h⟩
        · exact ⟨p, by simp, h⟩
        · exact ⟨r, by simp [hr], h⟩

mutual
theorem pathsW_pre (want : NodeD → Bool) : ∀ (n : NodeD) (p x : List Int), x ∈ pathsW want n p → p <+: x
  | .mk l ps t ks, p, x => by
    intro h
    unfold pathsW at h
    rcases List.mem_append.1 h with h | h
    · split at h
      · rw [List.mem_singleton.1 h]; exact List.prefix_rfl
      · simp at h
    · obtain ⟨j, -, hj⟩ := pathsK_pre want ks 0 p x h
      exact (List.prefix_append _ _).trans hj
theorem pathsK_pre (want : NodeD → Bool) : ∀ (ks : List NodeD) (i : Nat) (p x : List Int), x ∈ pathsK want ks i p → ∃ j : Nat, i ≤ j ∧ (p ++ [(j : Int)]) <+: x
  | [], i, p, x => by intro h; unfold pathsK at h; simp at h
  | k :: ks, i, p, x => by
    intro h
    unfold pathsK at h
    rcases List.mem_append.1 h with h | h
    · exact ⟨i, Nat.le_refl _, pathsW_pre want k _ x h⟩
    · obtain ⟨j, hj, hx⟩ := pathsK_pre want ks (i + 1) p x h
      exact ⟨j, by omega, hx⟩
end
mutual
theorem pathsW_size : ∀ (n : NodeD) (p q : List Int), (pathsW (fun _ => true) n p).length = (pathsW (fun _ => true) n q).length
  | .mk l ps t ks, p, q => by
    unfold pathsW
    rw [List.length_append, List.length_append, pathsK_size ks 0 p q]
    simp
theorem pathsK_size : ∀ (ks : List NodeD) (i : Nat) (p q : List Int), (pathsK (fun _ => true) ks i p).length = (pathsK (fun _ => true) ks i q).length
  | [], i, p, q => rfl
  | k :: ks, i, p, q => by
    unfold pathsK
    rw [List.length_append, List.length_append, pathsW_size k _ (q ++ [(i : Int)]), pathsK_size ks (i + 1) p q]
end
theorem pre_clash {p x : List Int} {i j : Int} {r : List Int} (h1 : (p ++ [j]) <+: x) (h2 : (p ++ i :: r) <+: x) : i = j := by
  obtain ⟨s, rfl⟩ := h1
  obtain ⟨u, hu⟩ := h2
  rw [List.append_assoc, List.append_assoc, List.append_cancel_left_eq] at hu
  simp at hu
  exact hu.1
/-- How many nodes lie at a path, or below it. -/
theorem count_at : ∀ (r : List Int) (n : NodeD) (p : List Int), (pathsW (fun _ => true) n p).countP (fun x => (p ++ r).isPrefixOf x) = sizeAt n r
  | [], n, p => by
    rw [List.append_nil]
    have h : (pathsW (fun _ => true) n p).countP (fun x => p.isPrefixOf x) = (pathsW (fun _ => true) n p).length :=
      List.countP_eq_length.2 fun x hx => List.isPrefixOf_iff_prefix.2 (pathsW_pre _ n p x hx)
    rw [h]
    unfold sizeAt
    rw [show atN n [] = some n by unfold atN; rfl]
    exact pathsW_size n p []
  | i :: r, .mk l ps t ks, p => by
    have hK : ∀ (ks : List NodeD) (j : Nat), (pathsK (fun _ => true) ks j p).countP (fun x => (p ++ i :: r).isPrefixOf x) = if (j : Int) ≤ i then (match ks[(i - j).toNat]? with | some k => sizeAt k r | none => 0) else 0 := by
      intro ks
      induction ks with
      | nil => intro j; unfold pathsK; simp
      | cons k ks ih =>
        intro j
        unfold pathsK
        rw [List.countP_append, ih (j + 1)]
        by_cases hij : i = (j : Int)
        · subst hij
          have h1 : (pathsW (fun _ => true) k (p ++ [(j : Int)])).countP (fun x => (p ++ (j : Int) :: r).isPrefixOf x) = sizeAt k r := by
            have := count_at r k (p ++ [(j : Int)])
            rw [List.append_assoc] at this
            exact this
          rw [h1, if_neg (by omega), if_pos (Int.le_refl _)]
          simp
        · have h1 : (pathsW (fun _ => true) k (p ++ [(j : Int)])).countP (fun x => (p ++ i :: r).isPrefixOf x) = 0 := by
            rw [List.countP_eq_zero]
            intro x hx h
            exact hij (pre_clash (pathsW_pre _ k _ x hx) (List.isPrefixOf_iff_prefix.1 h))
          rw [h1, Nat.zero_add]
          by_cases hle : (j : Int) ≤ i
          · rw [if_pos hle, if_pos (by omega)]
            have e : (i - (j : Int)).toNat = (i - ((j + 1 : Nat) : Int)).toNat + 1 := by omega
            rw [e, List.getElem?_cons_succ]
          · rw [if_neg hle, if_neg (by omega)]
    unfold pathsW
    rw [List.countP_append, hK ks 0]
    have h0 : ([p] : List (List Int)).countP (fun x => (p ++ i :: r).isPrefixOf x) = 0 := by
      rw [List.countP_eq_zero]
      intro x hx h
      rw [List.mem_singleton.1 hx] at h
      have := (List.isPrefixOf_iff_prefix.1 h).length_le
      simp at this
      omega
    simp only [if_true]
    rw [h0, Nat.zero_add]
    unfold sizeAt
    rw [show atN (.mk l ps t ks) (i :: r) = if 0 ≤ i then (match ks[i.toNat]? with | some k => atN k r | none => none) else none by rw [atN]; rfl]
    by_cases hi : 0 ≤ i
    · rw [if_pos (by simpa using hi), if_pos hi]
      simp only [Int.natCast_zero, Int.sub_zero]
      cases ks[i.toNat]? with
      | none => rfl
      | some k => rfl
    · rw [if_neg (by simpa using hi), if_neg hi]

/-- A node lies at or below one of some. -/
def covB (E : List (List Int)) (x : List Int) : Bool := E.any fun q => q.isPrefixOf x
theorem cov_iff {E : List (List Int)} {x : List Int} : covB E x = true ↔ ∃ q ∈ E, q <+: x := by
  unfold covB
  rw [List.any_eq_true]
  constructor
  · rintro ⟨q, h1, h2⟩; exact ⟨q, h1, List.isPrefixOf_iff_prefix.1 h2⟩
  · rintro ⟨q, h1, h2⟩; exact ⟨q, h1, List.isPrefixOf_iff_prefix.2 h2⟩
theorem countP_or {α : Type} (f g : α → Bool) : ∀ (l : List α), (∀ x ∈ l, f x = true → g x = false) → l.countP (fun x => f x || g x) = l.countP f + l.countP g
  | [], _ => rfl
  | x :: l, h => by
    have ih := countP_or f g l fun y hy => h y (by simp [hy])
    have hx := h x (by simp)
    simp only [List.countP_cons, ih]
    cases hf : f x with
    | true => simp [hx hf]; omega
    | false => cases g x <;> simp <;> omega
theorem sum_count (n : NodeD) : ∀ (R : List (List Int)), R.Pairwise (fun a b => ¬ a <+: b ∧ ¬ b <+: a) → sumN n R = (allN n).countP (covB R)
  | [], _ => (List.countP_eq_zero.2 fun x _ => by simp [covB]).symm
  | r :: R, h => by
    obtain ⟨h1, h2⟩ := List.pairwise_cons.1 h
    have hc := count_at r n []
    rw [List.nil_append] at hc
    have e : (allN n).countP (covB (r :: R)) = (allN n).countP (fun x => r.isPrefixOf x || covB R x) := rfl
    rw [e, countP_or _ _ _ fun x _ hr => ?_, ← sum_count n R h2, hc]
    · simp [sumN]
    · cases hq : covB R x with
      | false => rfl
      | true =>
        obtain ⟨q, hq1, hq2⟩ := cov_iff.1 hq
        rcases List.prefix_or_prefix_of_prefix (List.isPrefixOf_iff_prefix.1 hr) hq2 with g | g
        · exact absurd g (h1 q hq1).1
        · exact absurd g (h1 q hq1).2
theorem atN_small : ∀ (p : List Int) (n k : NodeD), n.wt ≤ 1048576 → atN n p = some k → smallB1 p = true
  | [], n, k, _, _ => rfl
  | i :: p, n, k, hw, h => by
    unfold atN at h
    split at h
    · rename_i hi
      cases hk : (kidsOf n)[i.toNat]? with
      | none => rw [hk] at h; cases h
      | some q =>
        rw [hk] at h
        have hlt := (List.getElem?_eq_some_iff.1 hk).1
        have hmem : q ∈ kidsOf n := List.mem_of_getElem? hk
        obtain ⟨l, ps, t, ks⟩ := n
        simp only [kidsOf] at hlt hmem
        have h1 := wtAll_mem hmem
        have h2 := wtAll_len ks
        simp only [NodeD.wt] at hw
        have ih := atN_small p q k (by omega) h
        unfold smallB1 at ih ⊢
        rw [List.all_cons, ih, Bool.and_true]
        simp [bigB]
        omega
    · cases h
theorem elem_small {n : NodeD} (hw : n.wt ≤ 1048576) {p : List Int} (h : isElem n p = true) : smallB1 p = true := by
  unfold isElem at h
  cases hat : atN n p with
  | none => rw [hat] at h; cases h
  | some k => exact atN_small p n k hw hat
theorem elemL_eq {n : NodeD} (hw : n.wt ≤ 1048576) (L : List (List Int)) : elemL n L = setL (L.filter (isElem n)) := by
  unfold elemL
  congr 1
  rw [List.filter_filter]
  refine List.filter_congr fun p _ => ?_
  cases h : isElem n p with
  | true => simp [elem_small hw h]
  | false => simp
theorem setL_setL (L : List (List Int)) : setL (setL L) = setL L := (setL_eq (setL_strict L) fun x => Iff.rfl).symm
theorem cov_ready (L : List (List Int)) (x : List Int) : covB (readyL (setL L)) x = covB L x := by
  obtain ⟨h1, -, h3⟩ := readyL_spec (setL L) (setL_strict L)
  rw [Bool.eq_iff_iff, cov_iff, cov_iff]
  constructor
  · rintro ⟨q, hq, hx⟩; exact ⟨q, mem_setL.1 (h1 q hq), hx⟩
  · rintro ⟨q, hq, hx⟩
    obtain ⟨r, hr, hrq⟩ := h3 q (mem_setL.2 hq)
    exact ⟨r, hr, hrq.trans hx⟩
/-- The region: how many nodes lie at or below an element of some paths. -/
theorem regN_eq {n : NodeD} (hw : n.wt ≤ 1048576) (L : List (List Int)) : regN n L = (allN n).countP (covB (L.filter (isElem n))) := by
  unfold regN
  rw [elemL_eq hw, setL_setL, sum_count n _ (readyL_spec _ (setL_strict _)).2.1]
  congr 1
  funext x
  exact cov_ready _ x

end Go.Proofs.Ytiinmgccjlmoaaa
namespace Go.Proofs.Ytiinmgccjlmoaaa
open Go.RowKit Go.Redl
set_option linter.unusedVariables false
set_option linter.unusedSimpArgs false

theorem below_three (W : World) (o1 o2 o3 : Obj) : Below W.heap.size W (((W.alloc o1).alloc o2).alloc o3) :=
  (((Below.refl _ _).alloc (Nat.le_refl _) o1).alloc (by simp) o2).alloc (by simp; omega) o3
/-- A text of one byte, as runes. -/
theorem conv_one (c : UInt8) (hc : Conv.runesFrom ⟨#[c]⟩ 1 0 #[] = #[.int .i32 c.toNat]) (w : World) : ∃ cap w', (convert 9 32 (.string ⟨#[c]⟩)).run Try.prog w = .ok (.slice (some ⟨w.heap.size, 0, none⟩) 1 cap) w' ∧
    Below w.heap.size w w' ∧ RowA w' w'.heap.size 1 (some ⟨w.heap.size, 0, none⟩) 1 cap [.int .i32 c.toNat] := by
  have hsz : (Conv.runesFrom ⟨#[c]⟩ (⟨#[c]⟩ : ByteArray).size 0 #[]) = #[.int .i32 c.toNat] := hc
  have h := run_runes_of_string (P := Try.prog) w 9 32 21 ⟨#[c]⟩ Try.underlying9 Try.underlying32 Try.underlying21 (by rw [hsz]; simp)
  rw [hsz] at h
  have h1 : (#[Value.int .i32 c.toNat] : Array Value).size = 1 := rfl
  rw [h1] at h
  have hge := grownCap_ge w 1 0 21
  have hcm := grownCap_le_maxLen w 1 0 21 (by unfold maxLen; omega)
  refine ⟨_, _, h, (Below.refl _ _).drew.alloc (Nat.le_refl _) _, ⟨by simp, hge, hcm, by simp; rfl, (fun h => by cases h), fun _ => ⟨w.heap.size, 0, rfl, by simp, fun j u hj => ?_⟩⟩⟩
  have hg := heap_alloc_new w.drew (Obj.cells (#[Value.int .i32 c.toNat] ++ Array.replicate (grownCap w 1 0 21 - 1) (.int .i32 0)) 21)
  have hd : w.drew.heap.size = w.heap.size := rfl
  rw [hd] at hg
  rw [cell_of_row _ w.heap.size (0 + j) _ _ _ hg]
  have hj0 : j = 0 := by
    cases j with
    | zero => rfl
    | succ j => simp at hj
  subst hj0
  simp at hj
  subst hj
  rw [Array.getElem?_append_left (by simp)]
  rfl
/-- A leaf of one byte. -/
def LeafP (W : World) (ps : List PropD) (c : UInt8) (e : Ending) (w' : World) : Prop :=
  ∃ ap cp at_ ct, e = .returned (.agg #[.bool true, .slice ap ps.length cp, .slice at_ 1 ct, .slice none 0 0]) ∧ NodeC w' w'.heap.size (.mk true ps [(c.toNat : Int)] []) [.bool true, .slice ap ps.length cp, .slice at_ 1 ct, .slice none 0 0] ∧ Below W.heap.size W w'

set_option maxRecDepth 100000 in
set_option maxHeartbeats 1000000 in
theorem leaf_c (c : UInt8) (hc : Conv.runesFrom ⟨#[c]⟩ 1 0 #[] = #[.int .i32 c.toNat]) (ps : List PropD) (ap : Option Addr) (cp : Nat) (W : World) (hp : RowA W W.heap.size 2 ap ps.length cp (propCells ps)) :
    Calls Try.prog 20 #[.string ⟨#[c]⟩, .slice ap ps.length cp] W (LeafP W ps c) := by
  obtain ⟨cap, w1, h1, h2, h3⟩ := conv_one c hc (W.alloc (Obj.cells #[Value.bool false, Value.slice none 0 0, Value.slice none 0 0, Value.slice none 0 0] 35))
  have hsz0 : (W.alloc (Obj.cells #[Value.bool false, Value.slice none 0 0, Value.slice none 0 0, Value.slice none 0 0] 35)).heap.size = W.heap.size + 1 := by simp
  have hz := h2.size
  rw [hsz0] at h2 hz h3 h1
  have hblk : w1.heap[W.heap.size]? = some (Obj.cells #[Value.bool false, Value.slice none 0 0, Value.slice none 0 0, Value.slice none 0 0] 35 (0, 0)) := by
    rw [h2.block _ (by omega)]; exact heap_alloc_new W _
  have k0 : w1.cell? ⟨W.heap.size, 0, none⟩ = some (.bool false) := by rw [cell_of_row _ _ _ _ _ _ hblk]; rfl
  have k1 : w1.cell? ⟨W.heap.size, 1, none⟩ = some (.slice none 0 0) := by rw [cell_of_row _ _ _ _ _ _ hblk]; rfl
  have k2 : w1.cell? ⟨W.heap.size, 2, none⟩ = some (.slice none 0 0) := by rw [cell_of_row _ _ _ _ _ _ hblk]; rfl
  have k3 : w1.cell? ⟨W.heap.size, 3, none⟩ = some (.slice none 0 0) := by rw [cell_of_row _ _ _ _ _ _ hblk]; rfl
  have f0 : ∀ i, w1.frozen? ⟨W.heap.size, i, none⟩ = false := fun i => by simp [World.frozen?, hblk]
  have Hp := Lib.hid hp; have H2 := Lib.hid h2; have H3 := Lib.hid h3; have Hblk := Lib.hid hblk
  clear hp h2 h3 hsz0 hblk hc
  go_enter Try.func20, Try.ntmps20
  go_wp2_with fail
  have hz2 : W.heap.size + 1 < w1.heap.size ∨ True := .inr trivial
  refine bodyPost_ret (v := .agg #[.bool true, .slice ap ps.length cp, .slice (some ⟨W.heap.size + 1, 0, none⟩) 1 cap, .slice none 0 0]) (by simp [results, Try.results20, go_sem, k0, k1, k2, k3]) rfl ⟨ap, cp, _, cap, rfl, ?_, ?_⟩
  · have hb : Below W.heap.size W w1 := below_unbox H2.out
    have r1 : RowA w1 w1.heap.size 2 ap ps.length cp (propCells ps) := Hp.out.keep hb hb.size
    have hn1 : ∀ b off, ap = some ⟨b, off, none⟩ → propCells ps ≠ [] → b < W.heap.size := fun b off h hne => by
      obtain ⟨b', off', h', hlt, -⟩ := Hp.out.some_ hne
      rw [h] at h'
      cases h'; exact hlt
    unfold NodeC
    refine ⟨ap, cp, _, cap, none, 0, [], rfl, ?_, ?_, ?_, RowA.empty _ _ _, by unfold KidsC; rfl⟩
    · have hlen := propCells_len ps
      by_cases hpe : propCells ps = []
      · have h0 := Hp.out
        exact ⟨h0.len, h0.le, h0.max, h0.one, h0.nil, fun h => absurd hpe h⟩
      · have r2 := (((r1.setCell ⟨W.heap.size, 0, none⟩ (.bool true) (fun b off h => by have := hn1 b off h hpe; simp; omega)).setCell ⟨W.heap.size, 1, none⟩ (.slice ap ps.length cp) (fun b off h => by have := hn1 b off h hpe; simp; omega)).setCell ⟨W.heap.size, 2, none⟩ (.slice (some ⟨W.heap.size + 1, 0, none⟩) 1 cap) (fun b off h => by have := hn1 b off h hpe; simp; omega)).setCell ⟨W.heap.size, 3, none⟩ (.slice none 0 0) (fun b off h => by have := hn1 b off h hpe; simp; omega)
        simpa [World.setCell] using r2
    · have r2 := (((H3.out.setCell ⟨W.heap.size, 0, none⟩ (.bool true) (fun b off h => by cases h; simp)).setCell ⟨W.heap.size, 1, none⟩ (.slice ap ps.length cp) (fun b off h => by cases h; simp)).setCell ⟨W.heap.size, 2, none⟩ (.slice (some ⟨W.heap.size + 1, 0, none⟩) 1 cap) (fun b off h => by cases h; simp)).setCell ⟨W.heap.size, 3, none⟩ (.slice none 0 0) (fun b off h => by cases h; simp)
      simpa [World.setCell] using r2
    · intro z hz
      simp at hz
      subst hz
      have := c.toNat_lt
      have h1 : IntKind.i32.min = -2147483648 := by decide
      have h2 : IntKind.i32.max = 2147483647 := by decide
      simp only [Lit.wf, Bool.and_eq_true, decide_eq_true_eq, h1, h2]
      omega
  · exact ((((below_unbox H2.out).setCell (p := ⟨W.heap.size, 0, none⟩) (Nat.le_refl _) _).setCell (p := ⟨W.heap.size, 1, none⟩) (Nat.le_refl _) _).setCell (p := ⟨W.heap.size, 2, none⟩) (Nat.le_refl _) _).setCell (p := ⟨W.heap.size, 3, none⟩) (Nat.le_refl _) _

/-- A literal in a new block, behind which more memory lies. -/
theorem row_cells {w w' : World} {E : TypeId} (sz n : Nat) (cs : List Value) (hl : cs.length = n * sz) (hn : n ≤ 1000000) (h1 : ∀ u ∈ cs, u.oneCell' = true) (hb : Below (w.heap.size + 1) (w.alloc (Obj.cells cs.toArray E)) w') : RowA w' w'.heap.size sz (some ⟨w.heap.size, 0, none⟩) n n cs := by
  refine ⟨hl, Nat.le_refl _, by unfold maxLen; omega, h1, (fun h => by cases h), fun _ => ⟨w.heap.size, 0, rfl, ?_, fun j u hj => ?_⟩⟩
  · have := hb.size; simp at this; omega
  · have hg : w'.heap[w.heap.size]? = some (Obj.cells cs.toArray E (0, 0)) := by
      rw [hb.block _ (by omega)]; exact heap_alloc_new w _
    rw [cell_of_row _ w.heap.size (0 + j) _ E (0, 0) hg]
    simpa using hj

def ElemP (W : World) (s : List UInt8) (a : Option Addr) (c : Nat) (ks : List NodeD) (e : Ending) (w' : World) : Prop :=
  ∃ g, e = .returned (.agg #[.bool false, .slice (some ⟨g, 0, none⟩) 1 1, .slice none 0 0, .slice a ks.length c]) ∧ NodeC w' w'.heap.size (.mk false [(typeB, s)] [] ks) [.bool false, .slice (some ⟨g, 0, none⟩) 1 1, .slice none 0 0, .slice a ks.length c] ∧ Below W.heap.size W w'

set_option maxRecDepth 100000 in
set_option maxHeartbeats 1000000 in
theorem elem_c (x : UInt8) (r : List UInt8) (a : Option Addr) (c : Nat) (ks : List NodeD) (css : List Value) (W : World) (hr : RowA W W.heap.size 4 a ks.length c css) (hk : KidsC W W.heap.size ks css) :
    Calls Try.prog 19 #[.string ⟨(x :: r).toArray⟩, .slice a ks.length c] W (ElemP W (x :: r) a c ks) := by
  have hne : ((⟨(x :: r).toArray⟩ : ByteArray).toList.isEmpty) = false := by rw [ByteArray.toList_mk]; rfl
  have hne2 : (!(⟨(x :: r).toArray⟩ : ByteArray).toList.isEmpty) = true := by rw [ByteArray.toList_mk]; rfl
  have Hpc : Hid (propCells [(typeB, x :: r)] = [.string ⟨#[116, 121, 112, 101]⟩, .string ⟨(x :: r).toArray⟩]) := rfl
  obtain ⟨S, hS⟩ : ∃ S, S = (⟨(x :: r).toArray⟩ : ByteArray) := ⟨_, rfl⟩
  rw [← hS] at hne hne2 Hpc ⊢
  have Hr := Lib.hid hr; have Hk := Lib.hid hk
  clear hr hk hS
  go_enter Try.func19, Try.ntmps19
  go_wp2_with fail
  have hb1 := fun (o1 o2 : Obj) => Lib.hid (below_three W o1 o2 (Obj.cells #[.string ⟨#[116, 121, 112, 101]⟩, .string S] 89))
  refine bodyPost_ret (v := .agg #[.bool false, .slice (some ⟨W.heap.size + 1 + 1, 0, none⟩) 1 1, .slice none 0 0, .slice a ks.length c]) (by simp [results, Try.results19, go_sem]) rfl ⟨W.heap.size + 1 + 1, rfl, ?_, (hb1 _ _).out⟩
  unfold NodeC
  refine ⟨some ⟨W.heap.size + 1 + 1, 0, none⟩, 1, none, 0, a, c, css, rfl, ?_, RowA.empty _ _ _, by simp, Hr.out.keep (hb1 _ _).out (hb1 _ _).out.size, KidsC.keep (hb1 _ _).out (hb1 _ _).out.size ks css Hk.out⟩
  rw [Hpc.out]
  have h := row_cells (w := (W.alloc (Obj.cells #[Value.bool false, Value.slice (some ⟨W.heap.size + 1 + 1, 0, none⟩) 1 1, Value.slice none 0 0, Value.slice a ks.length c] 35)).alloc (Obj.cells #[Value.bool false, Value.slice (some ⟨W.heap.size + 1 + 1, 0, none⟩) 1 1, Value.slice none 0 0, Value.slice a ks.length c] 35)) (E := 89) 2 1 [.string ⟨#[116, 121, 112, 101]⟩, .string S] rfl (by omega) (by intro u hu; simp at hu; rcases hu with rfl | rfl <;> rfl) (Below.refl _ _)
  simpa using h

end Go.Proofs.Ytiinmgccjlmoaaa
namespace Go.Proofs.Ytiinmgccjlmoaaa
open Go.RowKit Go.Redl
set_option linter.unusedVariables false
set_option linter.unusedSimpArgs false

theorem info_rule : (Try.prog.info? 27).map (fun i => (i.zero, i.size, i.bytes)) = some (some (.agg #[.string ⟨#[]⟩, .int .i64 0, .string ⟨#[]⟩, .int .i64 0, .string ⟨#[]⟩, .slice none 0 0, .int .i64 0, .string ⟨#[]⟩]), 8, 112) := by kernel_rfl

set_option maxRecDepth 100000 in
set_option maxHeartbeats 2000000 in
theorem rall_c (a : Option Addr) (n c : Nat) (css : List Value) (e1 e3 e5 e8 : List UInt8) (e2 e4 e7 : Int) (ea : Option Addr) (en ec : Nat) (v9 v10 v11 v12 v13 v14 v15 : Value) (W : World) (hr : RowA W W.heap.size 8 a n c css) (hn : n ≤ 100000000) :
    Calls Try.prog 49 #[.agg #[.slice a n c, strV e1, .int .i64 e2, strV e3, .int .i64 e4, strV e5, .slice ea en ec, .int .i64 e7, strV e8, v9, v10, v11, v12, v13, v14, v15]] W (MadeRow W 27 8 (n + 1) (css ++ [strV e1, .int .i64 e2, strV e3, .int .i64 e4, strV e5, .slice ea en ec, .int .i64 e7, strV e8])) := by
  obtain ⟨w0, hw0⟩ : ∃ w0, w0 = W.alloc (Obj.cells #[.slice a n c, strV e1, .int .i64 e2, strV e3, .int .i64 e4, strV e5, .slice ea en ec, .int .i64 e7, strV e8, v9, v10, v11, v12, v13, v14, v15] 30) := ⟨_, rfl⟩
  have hb0 : Below W.heap.size W w0 := by rw [hw0]; exact one_below _ _
  have hB : At w0 W.heap.size [.slice a n c, strV e1, .int .i64 e2, strV e3, .int .i64 e4, strV e5, .slice ea en ec, .int .i64 e7, strV e8, v9, v10, v11, v12, v13, v14, v15] 30 := by rw [hw0]; exact At.fresh _ _ _
  have HR := Lib.hid (fun (w1 : World) (hb : Below w0.heap.size w0 w1) => hr.keep (hb0.trans (hb.mono hb0.size)) (hb0.trans (hb.mono hb0.size)).size)
  have HS9 := Lib.hid (fun (w' : World) (h : At w' W.heap.size [.slice a n c, strV e1, .int .i64 e2, strV e3, .int .i64 e4, strV e5, .slice ea en ec, .int .i64 e7, strV e8, v9, v10, v11, v12, v13, v14, v15] 30) => (show w'.cell? ⟨W.heap.size, 0, none⟩ = some (.slice a n c) ∧ w'.cell? ⟨W.heap.size, 1, none⟩ = some (strV e1) ∧ w'.cell? ⟨W.heap.size, 2, none⟩ = some (.int .i64 e2) ∧ w'.cell? ⟨W.heap.size, 3, none⟩ = some (strV e3) ∧ w'.cell? ⟨W.heap.size, 4, none⟩ = some (.int .i64 e4) ∧ w'.cell? ⟨W.heap.size, 5, none⟩ = some (strV e5) ∧ w'.cell? ⟨W.heap.size, 6, none⟩ = some (.slice ea en ec) ∧ w'.cell? ⟨W.heap.size, 7, none⟩ = some (.int .i64 e7) ∧ w'.cell? ⟨W.heap.size, 8, none⟩ = some (strV e8) by
    obtain ⟨x0, x1, x2, x3, x4, x5, x6, x7, x8, -⟩ := h.f16.1
    exact ⟨x0, x1, x2, x3, x4, x5, x6, x7, x8⟩))
  have HS0 := Lib.hid (fun (w' : World) (hb : Below w0.heap.size w0 w') => HS9.out w' (hB.kept hb))
  have HB := Lib.hid hB
  have Hw0 := Lib.hid hw0; have Hb0 := Lib.hid hb0; have Hone := Lib.hid hr.one
  have hsz : W.heap.size + 1 ≤ w0.heap.size := hB.lt
  clear hw0 hb0 hB hr
  go_enter Try.func49, Try.ntmps49
  go_upto_region 1 with fail
  rw [← Hw0.out]
  clear Hw0
  go_region_held3 (fun w' => w'.cell? ⟨W.heap.size, 0, none⟩ = some (.slice a n c) ∧ w'.cell? ⟨W.heap.size, 1, none⟩ = some (strV e1) ∧ w'.cell? ⟨W.heap.size, 2, none⟩ = some (.int .i64 e2) ∧ w'.cell? ⟨W.heap.size, 3, none⟩ = some (strV e3) ∧ w'.cell? ⟨W.heap.size, 4, none⟩ = some (.int .i64 e4) ∧ w'.cell? ⟨W.heap.size, 5, none⟩ = some (strV e5) ∧ w'.cell? ⟨W.heap.size, 6, none⟩ = some (.slice ea en ec) ∧ w'.cell? ⟨W.heap.size, 7, none⟩ = some (.int .i64 e7) ∧ w'.cell? ⟨W.heap.size, 8, none⟩ = some (strV e8)) (first | with_reducible exact HS2.out | (refine HS0.out _ (by ((repeat (first | with_reducible exact Hb1.out | with_reducible exact Below.refl _ _ | with_reducible refine Below.drew ?_ | with_reducible refine Below.alloc ?_ ?_ _ | with_reducible refine Below.setCell ?_ ?_ _)) <;> (first | with_reducible exact Nat.le_refl _ | with_reducible exact Hb1.out.size | (have hsz := Hb1.out.size; simp [World.setCell]; omega) | (simp; done) | (simp; omega) | omega)))))
    (first
    | (refine step_app rfl _ _ 22 rfl _ 27 _ 8 112 Try.underlying22 info_rule rfl (by decide) (.slice none 0 0) 0 [] ?_ (World.ownsRow_nil _ _ _ _) a n c _ _ ?_ (HR.out _ (by ((repeat (first | with_reducible exact Below.refl _ _ | with_reducible refine Below.drew ?_ | with_reducible refine Below.alloc ?_ ?_ _ | with_reducible refine Below.setCell ?_ ?_ _)) <;> (first | with_reducible exact Nat.le_refl _ | (simp; done) | (simp; omega) | omega)))) ?_ ?_ (Nat.le_refl _) ?_
       · go_simp
       · go_simp
       · unfold maxLen; omega
       · omega
       intro v1 w1 hown hgrow
       have hbel := below_of_grown hgrow
       have Hz1 := Lib.hid hbel.size
       have Hb1 := Lib.hid (Below.and (w0 := w0) (by ((repeat (first | with_reducible exact Below.refl _ _ | with_reducible refine Below.drew ?_ | with_reducible refine Below.alloc ?_ ?_ _ | with_reducible refine Below.setCell ?_ ?_ _)) <;> (first | with_reducible exact Nat.le_refl _ | (simp; done) | (simp; omega) | omega))) hbel)
       rw [Nat.zero_add, List.nil_append] at hown
       have Hown := Lib.hid (own_mono (base := W.heap.size + 1) hown (by simp; omega))
       have HB1 := Lib.hid (HB.out.kept Hb1.out)
       first
         | (refine At.lay (N := ?_) (cs := [strV e1, .int .i64 e2, strV e3, .int .i64 e4, strV e5, .slice ea en ec, .int .i64 e7, strV e8]) (T := 27) (At.kept ?_ hbel) ?_
            rotate_left
            · (repeat (first | with_reducible exact At.second _ _ _ _ | with_reducible exact At.fresh _ _ _ | with_reducible refine At.drew ?_ | with_reducible refine At.alloc ?_ _))
            intro HE1)
         | skip
       clear hown hgrow hbel)
    | (refine step_app rfl _ _ 22 rfl (W.heap.size + 1) 27 _ 8 112 Try.underlying22 info_rule rfl (by decide) v1 n css ?_ (own_keep Hown.out (one_below _ _)) (some ⟨w1.heap.size, 0, none⟩) 1 1 _ [strV e1, .int .i64 e2, strV e3, .int .i64 e4, strV e5, .slice ea en ec, .int .i64 e7, strV e8] ?_ (RowQ.row (ok := fun _ => True) (rowq_at (T := 27) (by (repeat (first | with_reducible exact HE1.out | with_reducible exact At.second _ _ _ _ | with_reducible exact At.fresh _ _ _ | with_reducible refine At.drew ?_ | with_reducible refine At.alloc ?_ _))) 1 8 rfl (by omega) (by intro u hu; simp at hu; rcases hu with rfl | rfl | rfl | rfl | rfl | rfl | rfl | rfl <;> rfl) trivial)) ?_ ?_ ?_ ?_
       · go_simp
       · go_simp
       · unfold maxLen; omega
       · omega
       · have := Hb1.out.size; simp; omega
       intro v2 w2 hown2 hgrow2
       have Hown2 := Lib.hid hown2
       have Hb2 := Lib.hid ((show Below W.heap.size W _ from Hb0.out.trans ((show Below w0.heap.size w0 _ by ((repeat (first | with_reducible exact Hb1.out | with_reducible exact Below.refl _ _ | with_reducible refine Below.drew ?_ | with_reducible refine Below.alloc ?_ ?_ _ | with_reducible refine Below.setCell ?_ ?_ _)) <;> (first | with_reducible exact Nat.le_refl _ | with_reducible exact Hb1.out.size | (have hsz := Hb1.out.size; simp [World.setCell]; omega) | (simp; done) | (simp; omega) | omega))).mono Hb0.out.size)).grown hgrow2 (by have := Hb1.out.size; simp; omega) (fun k hk => by have := (Hown.out.lt k hk).1; omega))
       have HS2 := Lib.hid (HS9.out _ (At.grown (show At _ W.heap.size [.slice a n c, strV e1, .int .i64 e2, strV e3, .int .i64 e4, strV e5, .slice ea en ec, .int .i64 e7, strV e8, v9, v10, v11, v12, v13, v14, v15] 30 by (repeat (first | with_reducible exact HB1.out | with_reducible exact At.second _ _ _ _ | with_reducible exact At.fresh _ _ _ | with_reducible refine At.drew ?_ | with_reducible refine At.alloc ?_ _))) hgrow2 (fun e => by have := (Hown.out.lt _ e).1; omega)))
       clear hown2 hgrow2)
    | (refine step_app rfl _ _ 22 rfl (W.heap.size + 1) 27 _ 8 112 Try.underlying22 info_rule rfl (by decide) v1 n css ?_ Hown.out (some ⟨w0.heap.size, 0, none⟩) 1 1 _ [strV e1, .int .i64 e2, strV e3, .int .i64 e4, strV e5, .slice ea en ec, .int .i64 e7, strV e8] ?_ (RowQ.row (ok := fun _ => True) (rowq_at (T := 27) (by (repeat (first | with_reducible exact HE1.out | with_reducible exact At.second _ _ _ _ | with_reducible exact At.fresh _ _ _ | with_reducible refine At.drew ?_ | with_reducible refine At.alloc ?_ _))) 1 8 rfl (by omega) (by intro u hu; simp at hu; rcases hu with rfl | rfl | rfl | rfl | rfl | rfl | rfl | rfl <;> rfl) trivial)) ?_ ?_ ?_ ?_
       · go_simp
       · go_simp
       · unfold maxLen; omega
       · omega
       · have := Hb1.out.size; simp; omega
       intro v2 w2 hown2 hgrow2
       have Hown2 := Lib.hid hown2
       have Hb2 := Lib.hid ((show Below W.heap.size W _ from Hb0.out.trans ((show Below w0.heap.size w0 _ by ((repeat (first | with_reducible exact Hb1.out | with_reducible exact Below.refl _ _ | with_reducible refine Below.drew ?_ | with_reducible refine Below.alloc ?_ ?_ _ | with_reducible refine Below.setCell ?_ ?_ _)) <;> (first | with_reducible exact Nat.le_refl _ | with_reducible exact Hb1.out.size | (have hsz := Hb1.out.size; simp [World.setCell]; omega) | (simp; done) | (simp; omega) | omega))).mono Hb0.out.size)).grown hgrow2 (by have := Hb1.out.size; simp; omega) (fun k hk => by have := (Hown.out.lt k hk).1; omega))
       have HS2 := Lib.hid (HS9.out _ (At.grown (show At _ W.heap.size [.slice a n c, strV e1, .int .i64 e2, strV e3, .int .i64 e4, strV e5, .slice ea en ec, .int .i64 e7, strV e8, v9, v10, v11, v12, v13, v14, v15] 30 by (repeat (first | with_reducible exact HB1.out | with_reducible exact At.second _ _ _ _ | with_reducible exact At.fresh _ _ _ | with_reducible refine At.drew ?_ | with_reducible refine At.alloc ?_ _))) hgrow2 (fun e => by have := (Hown.out.lt _ e).1; omega)))
       clear hown2 hgrow2)
    )
  all_goals
    go_wp2_with fail
    go_ret
    exact ⟨_, rfl, own_mono Hown2.out (Nat.le_succ _), Hb2.out⟩

end Go.Proofs.Ytiinmgccjlmoaaa
namespace Go.Proofs.Ytiinmgccjlmoaaa
open Go.RowKit Go.Redl
set_option linter.unusedVariables false
set_option linter.unusedSimpArgs false

theorem RulesC.snoc {w : World} {B : Nat} {r : RuleD} {c2 : List Value} (hr : RuleC w B r c2) : ∀ {rs : List RuleD} {css : List Value}, RulesC w B rs css → RulesC w B (rs ++ [r]) (css ++ c2)
  | [], css, h => by
    rw [show css = [] from h]
    exact ⟨c2, [], by simp, hr, rfl⟩
  | q :: rs, css, h => by
    obtain ⟨c1, c3, rfl, h2, h3⟩ := h
    exact ⟨c1, c3 ++ c2, by simp, h2, RulesC.snoc hr h3⟩
theorem all_wt {s : SchemaD} (hw : s.wt ≤ 100000000) : ∀ j (hj : j < (s.rules ++ [s.els]).length), (s.rules ++ [s.els])[j].kids.length ≤ 100000000 := by
  intro j hj
  have hm := List.getElem_mem hj
  have h : (s.rules ++ [s.els])[j].wt ≤ s.wt := by
    unfold SchemaD.wt
    rcases List.mem_append.1 hm with h | h
    · have := rulesWt_mem h; omega
    · rw [List.mem_singleton.1 h]; omega
  have := kids_wt (s.rules ++ [s.els])[j]
  omega
/-- What a pair adds to the count, a rule's head, a rule, a schema: as the walk has them, wraps and all. -/
def pairZ (z : Int) (p : PairD) : Int := wrap64 (z + wrap64 ((wrap64 ((p.1.length : Int) + (p.2.2.length : Int))).tdiv 64))
def headZ (y : Int) (q : RuleD) : Int := wrap64 (y + wrap64 (1 + (q.kids.length : Int) + wrap64 ((wrap64 (wrap64 (wrap64 ((q.type.length : Int) + (q.text.2.length : Int)) + (q.other.2.length : Int)) + (q.fillT.length : Int))).tdiv 64)))
def ruleZ (y : Int) (q : RuleD) : Int := q.kids.foldl pairZ (headZ y q)
def fewZ (l : List RuleD) : Bool := decide (l.foldl ruleZ 0 ≤ 80)

set_option maxRecDepth 100000 in
set_option maxHeartbeats 2000000 in
theorem rfew15_c (s : SchemaD) (v : Value) (W : World) (hw : s.wt ≤ 100000000) (hv : SchemaV W W.heap.size s v) :
    Calls Try.prog 22 #[v] W (fun e w' => e = .returned (.bool (fewZ (s.rules ++ [s.els]))) ∧ Below W.heap.size W w') := by
  have hrl : s.rules.length ≤ 100000000 - 1 := by have := rulesWt_len s.rules; have : 1 ≤ s.els.wt := by { unfold RuleD.wt; omega }; unfold SchemaD.wt at hw; omega
  obtain ⟨a, c, css, ea, ec, o0, o1, o2, o3, o4, o5, rfl, h1, h2, h3, -⟩ := hv.open
  have hkl := all_wt hw
  obtain ⟨rs, ⟨ty, ⟨td, tt⟩, ⟨od, ot⟩, kids, fill, ft⟩, order, scap⟩ := s
  simp only at hrl h1 h2 h3 hkl ⊢
  obtain ⟨w0, hw0⟩ : ∃ w0, w0 = W.alloc (Obj.cells #[.slice a rs.length c, strV ty, .int .i64 td, strV tt, .int .i64 od, strV ot, .slice ea kids.length ec, .int .i64 fill, strV ft, .int .i64 o0, .int .i64 o1, .int .i64 o2, .int .i64 o3, .int .i64 o4, .int .i64 o5, .int .i64 scap] 30) := ⟨_, rfl⟩
  have hb0 : Below W.heap.size W w0 := by rw [hw0]; exact one_below _ _
  have hA : At w0 W.heap.size [.slice a rs.length c, strV ty, .int .i64 td, strV tt, .int .i64 od, strV ot, .slice ea kids.length ec, .int .i64 fill, strV ft, .int .i64 o0, .int .i64 o1, .int .i64 o2, .int .i64 o3, .int .i64 o4, .int .i64 o5, .int .i64 scap] 30 := by rw [hw0]; exact At.fresh _ _ _
  have HC := Lib.hid (rall_c a rs.length c css ty tt ot ft td od fill ea kids.length ec (.int .i64 o0) (.int .i64 o1) (.int .i64 o2) (.int .i64 o3) (.int .i64 o4) (.int .i64 o5) (.int .i64 scap) w0 (h1.keep hb0 hb0.size) (by omega))
  have HR := Lib.hid (fun (w' : World) (hb : Below W.heap.size W w') => RulesC.snoc (r := ⟨ty, (td, tt), (od, ot), kids, fill, ft⟩) (c2 := [strV ty, .int .i64 td, strV tt, .int .i64 od, strV ot, .slice ea kids.length ec, .int .i64 fill, strV ft]) (⟨ea, ec, rfl, h3.keep hb hb.size⟩) (RulesC.keep hb hb.size h2))
  have Hb0 := Lib.hid hb0; have Hw0 := Lib.hid hw0
  obtain ⟨L, hL⟩ : ∃ L : List RuleD, L = rs ++ [⟨ty, (td, tt), (od, ot), kids, fill, ft⟩] := ⟨_, rfl⟩
  have hLn : L.length = rs.length + 1 := by rw [hL]; simp
  rw [← hL] at HR hkl ⊢
  obtain ⟨T, hT⟩ : ∃ T, T = L.foldl ruleZ 0 := ⟨_, rfl⟩
  have HT := Lib.hid hT
  have HF := Lib.hid (show fewZ L = decide (T ≤ 80) by rw [hT]; rfl)
  have Hkl := Lib.hid hkl; have HLn := Lib.hid hLn
  obtain ⟨⟨x0, x1, x2, x3, x4, x5, x6, x7, x8, x9, x10, x11, x12, x13, x14, x15⟩, -, xl⟩ := hA.f16
  clear hw hv h1 h2 h3 hb0 hw0 hA hL hLn hkl hT
  go_enter Try.func22, Try.ntmps22
  go_upto_region 1 with fail
  rw [← Hw0.out]
  clear Hw0
  go_wp2_with fail
  refine HC.out.mono ?_
  rintro e w1 ⟨v1, rfl, hown, hbel⟩
  have hRc := HR.out w1 (Hb0.out.trans (hbel.mono Hb0.out.size))
  obtain ⟨qa, qc, rfl, hq⟩ := rowq_own hown (RulesC.one hRc)
  have Hq := Lib.hid hq.row; have HRc := Lib.hid hRc
  have Hb1 := Lib.hid (Hb0.out.trans (hbel.mono Hb0.out.size))
  have Hsz := Lib.hid (Hb0.out.trans (hbel.mono Hb0.out.size)).size
  clear HC HR hown hbel hRc hq x0 x1 x2 x3 x4 x5 x6 x7 x8 x9 x10 x11 x12 x13 x14 x15 xl Hb0
  rw [← HLn.out] at Hq
  rw [← HLn.out]
  have hlm : L.length ≤ 100000000 := by have := HLn.out; omega
  clear HLn hrl
  go_wp2_with fail
  go_loopg [3, 11] L.length (fun g x i wr => ∃ (k : Nat) (y : Int), x = .int .i64 y ∧ i = .int .i64 k ∧ k + g = L.length ∧ (L.drop k).foldl ruleZ y = T ∧ Below w1.heap.size w1 wr)
  case atStart => exact ⟨0, 0, rfl, rfl, by omega, HT.out.symm, Below.refl _ _⟩
  case round =>
    obtain ⟨k, y, rfl, rfl, hg, hfo, hbr⟩ := hrel
    have Hfo := Lib.hid hfo
    have Hbr := Lib.hid hbr
    by_cases hlt : k < L.length
    · have hlti : (k : Int) < L.length := by omega
      obtain ⟨b, off, ra, rc, rfl, -, hrr, g0, g1, g2, g3, g4, g5, g6, g7⟩ := rule8 (Hq.out.keep hbr hbr.size) (RulesC.keep hbr hbr.size HRc.out) k hlt
      have hkk := Hkl.out k hlt
      have Hrr := Lib.hid (fun (w' : World) (hb : Below wr.heap.size wr w') => hrr.keep hb hb.size)
      rw [List.drop_eq_getElem_cons hlt, List.foldl_cons] at hfo
      have Hfo := Lib.hid hfo
      clear hfo
      generalize L[k] = q at Hfo g0 g1 g2 g3 g4 g5 g6 g7 Hrr hkk
      obtain ⟨Y, hY⟩ : ∃ Y, Y = ruleZ y q := ⟨_, rfl⟩
      rw [← hY] at Hfo
      have HY := Lib.hid hY
      clear hbr hrr Hkl hY
      go_wp2_with fail
      go_loopg [3, 43] q.kids.length (fun g x i w2 => ∃ (j : Nat) (z : Int), x = .int .i64 z ∧ i = .int .i64 j ∧ j + g = q.kids.length ∧ (q.kids.drop j).foldl pairZ z = Y ∧ Below wr.heap.size wr w2)
      case atStart => exact ⟨0, _, rfl, rfl, by omega, HY.out.symm, one_below _ _⟩
      case round =>
        obtain ⟨j, z, rfl, rfl, hg2, hfp, hbr2⟩ := hrel
        have Hbr2 := Lib.hid hbr2
        by_cases hlt2 : j < q.kids.length
        · have hlti2 : (j : Int) < q.kids.length := by omega
          obtain ⟨b2, off2, rfl, -, p0, p1, p2⟩ := (Hrr.out _ hbr2).pair_at j hlt2
          rw [List.drop_eq_getElem_cons hlt2, List.foldl_cons] at hfp
          have Hfp := Lib.hid hfp
          generalize q.kids[j] = pr at Hfp p0 p1 p2
          clear hbr2 hfp
          go_wp2_with fail
          go_roundg (q.kids.length - (j + 1))
          case measure => omega
          case rel => exact ⟨j + 1, _, rfl, by go_num, by omega, Hfp.out, Hbr2.out.alloc Hbr2.out.size _⟩
        · obtain rfl : j = q.kids.length := by omega
          rw [List.drop_length, List.foldl_nil] at hfp
          have Hfp := Lib.hid hfp
          clear hbr2 hfp
          go_wp2_with fail
          go_roundg (L.length - (k + 1))
          case measure => omega
          case rel => exact ⟨k + 1, _, rfl, by go_num, by omega, (congrArg (fun x => (L.drop (k + 1)).foldl ruleZ x) Hfp.out).trans Hfo.out, Hbr.out.trans (Hbr2.out.mono Hbr.out.size)⟩
    · obtain rfl : k = L.length := by omega
      rw [List.drop_length, List.foldl_nil] at hfo
      have Hfo := Lib.hid hfo
      clear hbr hfo
      go_wp2_with fail
      go_ret
      exact ⟨ret_bool (HF.out.trans (by rw [← Hfo.out])).symm, Hb1.out.trans (Hbr.out.mono Hsz.out)⟩

end Go.Proofs.Ytiinmgccjlmoaaa
namespace Go.Proofs.Ytiinmgccjlmoaaa
open Go.RowKit Go.Redl
set_option linter.unusedVariables false
set_option linter.unusedSimpArgs false

theorem rfew15_ent : ∀ args w, (callFunc 22 args).run Try.prog w = .ok (.enter 22 args) w := by intro args w; kernel_rfl
theorem rfew04_ent : ∀ args w, (callFunc 23 args).run Try.prog w = .ok (.enter 23 args) w := by intro args w; kernel_rfl
/-- A call whose guard holds. -/
theorem step_callG {P : Program} {ops : Array Oper} {o : Oper} {a : Act} {w : World} {K : Act → World → Prop} {Q : Exit → Act → World → Prop} {E : Prop}
    (hw : Region.wanted o (yielded ops a.tmps) = true) (f : FuncId) (args : Array Operand) (tys : Array TypeId) (ho : o.op = .call { callee := .value (.func f), args := args, argTypes := tys })
    (he : ∀ args w, (callFunc f args).run P w = .ok (.enter f args) w) (vals : List Value) (hv : args.toList.map a.eval = vals) (R : Ending → World → Prop) (hC : Calls P f vals.toArray w R)
    (h : ∀ e w', R e w' → ∃ v, e = .returned v ∧ K (a.put o.dst v) w') : if Region.wanted o (yielded ops a.tmps) = true then Oper.wp P o a w K Q else E := by
  rw [if_pos hw]
  unfold Oper.wp
  have hv' : args.map a.eval = vals.toArray := by rw [← hv]; apply Array.ext'; simp
  have hr : (execOp a.eval o).run P w = .ok (.enter f vals.toArray) w := by
    simp [execOp, ho, resolve, invoke, Act.eval, Deferred.ofValue, hv', he]
  rw [hr]
  show Calls P f vals.toArray w _
  refine hC.mono fun e w' hR => ?_
  obtain ⟨v, rfl, hk⟩ := h e w' hR
  exact hk

/-- The law's inputs are small. -/
def smallB (s : SchemaD) (n : NodeD) (p : List Int) : Bool := fewZ (s.rules ++ [s.els]) && fewB n 120 && decide (p.length ≤ 40)

set_option maxRecDepth 100000 in
set_option maxHeartbeats 2000000 in
theorem lawfew_c (s : SchemaD) (n : NodeD) (u v : Value) (p : List Int) (pa : Option Addr) (pc : Nat) (W : World) (hs : s.wt ≤ 100000000) (hn : n.wt ≤ 100000000) (hp : p.length ≤ 100000000) (hu : SchemaV W W.heap.size s u) (hv : NodeV W W.heap.size n v) :
    Calls Try.prog 7 #[u, v, .slice pa p.length pc] W (fun e w' => e = .returned (.bool (smallB s n p)) ∧ Below W.heap.size W w') := by
  have hu0 := hu; have hv0 := hv
  obtain ⟨l, ps, t, ks⟩ := n
  obtain ⟨a, c, css, ea, ec, o0, o1, o2, o3, o4, o5, rfl, -, -, -, -⟩ := hu0.open
  obtain ⟨ap, cp, at_, ct, ak, ck, cs4, rfl, -, -, -, -⟩ := hv0.open
  obtain ⟨w0, hw0⟩ : ∃ w0, w0 = (W.alloc (Obj.cells #[.slice a s.rules.length c, strV s.els.type, .int .i64 s.els.text.1, strV s.els.text.2, .int .i64 s.els.other.1, strV s.els.other.2, .slice ea s.els.kids.length ec, .int .i64 s.els.fill, strV s.els.fillT, .int .i64 o0, .int .i64 o1, .int .i64 o2, .int .i64 o3, .int .i64 o4, .int .i64 o5, .int .i64 s.cap] 30)).alloc (Obj.cells #[.bool l, .slice ap ps.length cp, .slice at_ t.length ct, .slice ak ks.length ck] 35) := ⟨_, rfl⟩
  have hb0 : Below W.heap.size W w0 := by rw [hw0]; exact (one_below _ _).trans ((one_below _ _).mono (one_below _ _).size)
  have hA : At w0 W.heap.size [.slice a s.rules.length c, strV s.els.type, .int .i64 s.els.text.1, strV s.els.text.2, .int .i64 s.els.other.1, strV s.els.other.2, .slice ea s.els.kids.length ec, .int .i64 s.els.fill, strV s.els.fillT, .int .i64 o0, .int .i64 o1, .int .i64 o2, .int .i64 o3, .int .i64 o4, .int .i64 o5, .int .i64 s.cap] 30 := by rw [hw0]; exact (At.fresh W _ _).alloc _
  have hN : At w0 (W.heap.size + 1) [.bool l, .slice ap ps.length cp, .slice at_ t.length ct, .slice ak ks.length ck] 35 := by rw [hw0]; exact At.second W _ _ _
  have HS := Lib.hid (fun (w' : World) (hb : Below w0.heap.size w0 w') => rfew15_c s _ w' hs (hu.keep (hb0.trans (hb.mono hb0.size)) (hb0.trans (hb.mono hb0.size)).size))
  have HT := Lib.hid (fun (w' : World) (hb : Below w0.heap.size w0 w') => rfew_c (.mk l ps t ks) _ 120 w' hn (by omega) (by omega) (hv.keep (hb0.trans (hb.mono hb0.size)) (hb0.trans (hb.mono hb0.size)).size))
  obtain ⟨⟨x0, x1, x2, x3, x4, x5, x6, x7, x8, x9, x10, x11, x12, x13, x14, x15⟩, -, xl⟩ := hA.f16
  have HN := Lib.hid hN
  have Hb0 := Lib.hid hb0; have Hw0 := Lib.hid hw0
  unfold smallB
  clear hu hv hu0 hv0 hs hn hb0 hw0 hA hN
  go_enter Try.func7, Try.ntmps7
  go_upto_region 1 with fail
  rw [← Hw0.out]
  clear Hw0
  go_wp2_with fail
  refine (HS.out w0 (Below.refl _ _)).mono ?_
  rintro e w1 ⟨rfl, hbel⟩
  have Hb1 := Lib.hid (hbel)
  have HN1 := Lib.hid (HN.out.kept hbel)
  clear hbel HS HN x0 x1 x2 x3 x4 x5 x6 x7 x8 x9 x10 x11 x12 x13 x14 x15 xl
  obtain ⟨⟨y0, y1, y2, y3⟩, -, yl⟩ := HN1.out.f4
  cases h1 : fewZ (s.rules ++ [s.els]) with
  | false =>
    have H1 := Lib.hid h1
    clear HT h1
    go_wp2_with fail
    go_ret
    exact ⟨ret_bool (by simp [H1.out]), Hb0.out.trans (Hb1.out.mono Hb0.out.size)⟩
  | true =>
    have H1 := Lib.hid h1
    clear h1
    go_wp2_with fail
    refine (HT.out w1 Hb1.out).mono ?_
    rintro e w2 ⟨rfl, hbel⟩
    have Hb2 := Lib.hid (Hb1.out.trans (hbel.mono Hb1.out.size))
    clear hbel HT HN1 y0 y1 y2 y3 yl
    cases h2 : fewB (.mk l ps t ks) 120 with
    | false =>
      have H2 := Lib.hid h2
      clear h2
      go_wp2_with fail
      go_ret
      exact ⟨ret_bool (by simp [H1.out, H2.out]), Hb0.out.trans (Hb2.out.mono Hb0.out.size)⟩
    | true =>
      have H2 := Lib.hid h2
      clear h2
      go_wp2_with fail
      go_ret
      exact ⟨ret_bool (by simp [H1.out, H2.out]; omega), Hb0.out.trans (Hb2.out.mono Hb0.out.size)⟩

end Go.Proofs.Ytiinmgccjlmoaaa
namespace Go.Proofs.Ytiinmgccjlmoaaa
open Go.RowKit Go.Redl
set_option linter.unusedVariables false
set_option linter.unusedSimpArgs false

def live19D : NodeD := .mk false [(typeB, [100, 111, 99])] [] [.mk true [] [97] [], .mk true [] [98] []]
theorem live19_reg : regN live19D [[]] = 3 := by kernel_rfl
set_option maxRecDepth 100000 in
set_option maxHeartbeats 2000000 in
theorem live19_c (W : World) : Calls Try.prog 11 #[] W fun e w' => e = .returned (.bool true) ∧ Below W.heap.size W w' := by
  have HL := Lib.hid (fun (w : World) => leaf_c 97 rfl [] none 0 w (RowA.empty _ _ _))
  have HL2 := Lib.hid (fun (w : World) => leaf_c 98 rfl [] none 0 w (RowA.empty _ _ _))
  have HE := Lib.hid (fun (w1 : World) (d1 d2 : List Value) (h1 : d1.length = 4) (h2 : d2.length = 4) (hn1 : NodeC w1 w1.heap.size (.mk true [] [97] []) d1) (hn2 : NodeC w1 w1.heap.size (.mk true [] [98] []) d2) =>
    elem_c 100 [111, 99] (some ⟨w1.heap.size, 0, none⟩) 2 [.mk true [] [97] [], .mk true [] [98] []] (d1 ++ d2) (w1.alloc (Obj.cells (d1 ++ d2).toArray 35)) (row_cells 4 2 (d1 ++ d2) (by simp [h1, h2]) (by omega) (by intro u hu; exact (List.mem_append.1 hu).elim (hn1.one u) (hn2.one u)) (Below.refl _ _)) (by
      have hb := below_new w1 (Obj.cells (d1 ++ d2).toArray 35)
      unfold KidsC
      refine ⟨d1, d2, rfl, NodeC.keep hb hb.size _ _ hn1, ?_⟩
      unfold KidsC
      exact ⟨d2, [], by simp, NodeC.keep hb hb.size _ _ hn2, by unfold KidsC; rfl⟩))
  have HR := Lib.hid (fun (w1 : World) (v : Value) (hv : NodeV w1 w1.heap.size live19D v) => by
    have hb := one_below w1 (Obj.cells #[.slice none 0 0] 36)
    have hx : ReadX (w1.alloc (Obj.cells #[.slice none 0 0] 36)) (w1.heap.size + 1) (.slice (some ⟨w1.heap.size, 0, none⟩) 1 1) [([], none, 0)] := ⟨⟨_, _, rfl, row_one w1 (.slice none 0 0) 36 _ rfl (by omega)⟩, fun x hx => by rw [List.mem_singleton.1 hx]; exact RowA.empty _ _ _⟩
    have h := region_c live19D v (w1.heap.size + 1) _ _ (w1.alloc (Obj.cells #[.slice none 0 0] 36)) (by decide) (hv.keep hb (by omega)) (by simp) hx (by simp) (fun x hx => by rw [List.mem_singleton.1 hx]; simp)
    rw [show pxs [([], none, 0)] = [[]] from rfl, live19_reg] at h
    exact h)
  go_enter Try.func11, Try.ntmps11
  go_wp2_with fail
  refine (HL.out W).mono ?_
  rintro e w1 ⟨ap, cp, at_, ct, rfl, hnc, hbel⟩
  have Hb1 := Lib.hid hbel; have Hn1 := Lib.hid hnc
  clear hbel hnc HL
  go_wp2_with fail
  refine (HL2.out w1).mono ?_
  rintro e w2 ⟨ap2, cp2, at2, ct2, rfl, hnc, hbel⟩
  have Hb2 := Lib.hid (below_then Hb1.out hbel (Nat.le_refl _))
  have HE1 := HE.out w2 _ _ rfl rfl (NodeC.keep hbel hbel.size _ _ Hn1.out) hnc
  clear hbel hnc HL2 HE Hn1
  go_wp2_with fail
  refine HE1.mono ?_
  rintro e w3 ⟨g, rfl, hnc, hbel⟩
  have Hb3 := Lib.hid (below_then (Hb2.out.alloc Hb2.out.size _) hbel (Nat.le_refl _))
  have HR1 := Lib.hid (HR.out w3 _ ⟨_, rfl, hnc⟩)
  clear hbel hnc HE1 HR
  go_wp2_with fail
  refine HR1.out.mono ?_
  rintro e w4 ⟨rfl, hbel⟩
  have Hb4 := Lib.hid (below_then (Hb3.out.alloc Hb3.out.size _) hbel (Nat.le_refl _))
  clear hbel HR1
  go_wp2_with fail
  go_ret
  exact ⟨rfl, Hb4.out⟩

/-- All is small enough to be played. -/
def small19 (s : SchemaD) (n : NodeD) (L : List (List Int)) (m : Nat) : Bool := L.all (fun p => decide (p.length ≤ 40)) && (fewZ (s.rules ++ [s.els]) && (fewB n 50 && (decide (L.length ≤ 30) && decide (m ≤ 400))))
theorem all_drop {xs : List PX} {k : Nat} (h : k < xs.length) : (pxs (xs.drop k)).all (fun p => decide (p.length ≤ 40)) = (decide (xs[k].1.length ≤ 40) && (pxs (xs.drop (k + 1))).all (fun p => decide (p.length ≤ 40))) := by
  rw [List.drop_eq_getElem_cons h]; rfl
set_option maxRecDepth 100000 in
set_option maxHeartbeats 4000000 in
theorem few19_c (s : SchemaD) (n : NodeD) (u v : Value) (vx : Value) (xs : List PX) (qa : Option Addr) (m qc : Nat) (W : World) (hs : s.wt ≤ 100000000) (hn : n.wt ≤ 100000000) (hxl : xs.length ≤ 100000000) (hm : m ≤ 100000000) (hu : SchemaV W W.heap.size s u) (hv : NodeV W W.heap.size n v) (hx : ReadX W W.heap.size vx xs) :
    Calls Try.prog 12 #[u, v, vx, .slice qa m qc] W (fun e w' => e = .returned (.bool (small19 s n (pxs xs) m)) ∧ Below W.heap.size W w') := by
  have hu0 := hu; have hv0 := hv
  obtain ⟨l, ps, t, ks⟩ := n
  obtain ⟨a, c, css, ea, ec, o0, o1, o2, o3, o4, o5, rfl, -, -, -, -⟩ := hu0.open
  obtain ⟨ap, cp, at_, ct, ak, ck, cs4, rfl, -, -, -, -⟩ := hv0.open
  generalize NodeD.mk l ps t ks = n at hn hv ⊢
  obtain ⟨xa, xc, rfl, -⟩ := hx.row
  obtain ⟨w0, hw0⟩ : ∃ w0, w0 = (W.alloc (Obj.cells #[.slice a s.rules.length c, strV s.els.type, .int .i64 s.els.text.1, strV s.els.text.2, .int .i64 s.els.other.1, strV s.els.other.2, .slice ea s.els.kids.length ec, .int .i64 s.els.fill, strV s.els.fillT, .int .i64 o0, .int .i64 o1, .int .i64 o2, .int .i64 o3, .int .i64 o4, .int .i64 o5, .int .i64 s.cap] 30)).alloc (Obj.cells #[.bool l, .slice ap ps.length cp, .slice at_ t.length ct, .slice ak ks.length ck] 35) := ⟨_, rfl⟩
  have hb0 : Below W.heap.size W w0 := by rw [hw0]; exact (one_below _ _).trans ((one_below _ _).mono (one_below _ _).size)
  have hA : At w0 W.heap.size [.slice a s.rules.length c, strV s.els.type, .int .i64 s.els.text.1, strV s.els.text.2, .int .i64 s.els.other.1, strV s.els.other.2, .slice ea s.els.kids.length ec, .int .i64 s.els.fill, strV s.els.fillT, .int .i64 o0, .int .i64 o1, .int .i64 o2, .int .i64 o3, .int .i64 o4, .int .i64 o5, .int .i64 s.cap] 30 := by rw [hw0]; exact (At.fresh W _ _).alloc _
  have hN : At w0 (W.heap.size + 1) [.bool l, .slice ap ps.length cp, .slice at_ t.length ct, .slice ak ks.length ck] 35 := by rw [hw0]; exact At.second W _ _ _
  have HS := Lib.hid (fun (w' : World) (hb : Below w0.heap.size w0 w') => rfew15_c s _ w' hs (hu.keep (hb0.trans (hb.mono hb0.size)) (hb0.trans (hb.mono hb0.size)).size))
  have HT := Lib.hid (fun (w' : World) (hb : Below w0.heap.size w0 w') => rfew_c n _ 50 w' hn (by omega) (by omega) (hv.keep (hb0.trans (hb.mono hb0.size)) (hb0.trans (hb.mono hb0.size)).size))
  have HX := Lib.hid (fun (w' : World) (hb : Below w0.heap.size w0 w') => hx.keep (hb0.trans (hb.mono hb0.size)) (hb0.trans (hb.mono hb0.size)).size)
  have hld := fun (w' : World) (h : At w' W.heap.size [.slice a s.rules.length c, strV s.els.type, .int .i64 s.els.text.1, strV s.els.text.2, .int .i64 s.els.other.1, strV s.els.other.2, .slice ea s.els.kids.length ec, .int .i64 s.els.fill, strV s.els.fillT, .int .i64 o0, .int .i64 o1, .int .i64 o2, .int .i64 o3, .int .i64 o4, .int .i64 o5, .int .i64 s.cap] 30) => ldx (P := Try.prog) h Try.underlying30 rfl (by kernel_rfl)
  simp [go_sem] at hld
  obtain ⟨T, hT⟩ : ∃ T, T = small19 s n (pxs xs) m := ⟨_, rfl⟩
  have HT0 := Lib.hid (show ((pxs (xs.drop 0)).all (fun p => decide (p.length ≤ 40)) && (fewZ (s.rules ++ [s.els]) && (fewB n 50 && (decide (xs.length ≤ 30) && decide (m ≤ 400))))) = T by rw [hT]; unfold small19; simp)
  rw [← hT]
  have HA := Lib.hid hA; have HN := Lib.hid hN
  have Hb0 := Lib.hid hb0; have Hw0 := Lib.hid hw0
  clear hu hv hu0 hv0 hs hn hb0 hw0 hA hN hx hT
  go_enter Try.func12, Try.ntmps12
  go_upto_region 1 with fail
  rw [← Hw0.out]
  clear Hw0
  go_wp2_with fail
  go_loopg [13] xs.length (fun g i wr => ∃ k : Nat, i = .int .i64 k ∧ k + g = xs.length ∧ Hid (((pxs (xs.drop k)).all (fun p => decide (p.length ≤ 40)) && (fewZ (s.rules ++ [s.els]) && (fewB n 50 && (decide (xs.length ≤ 30) && decide (m ≤ 400))))) = T) ∧ wr = w0)
  case atStart => exact ⟨0, rfl, by omega, HT0, rfl⟩
  case round =>
    obtain ⟨k, rfl, hg, hst, rfl⟩ := hrel
    by_cases hlt : k < xs.length
    · have hlti : (k : Int) < xs.length := by omega
      have hXr := HX.out wr (Below.refl _ _)
      obtain ⟨b, off, rfl, hb, hc⟩ := hXr.at_ k hlt
      have Hst := Lib.hid ((congrArg (· && (fewZ (s.rules ++ [s.els]) && (fewB n 50 && (decide (xs.length ≤ 30) && decide (m ≤ 400))))) (all_drop hlt)).symm.trans hst.out)
      generalize xs[k] = x at hc Hst
      obtain ⟨q0, qa', qc'⟩ := x
      unfold pxV at hc
      simp only at hc Hst
      clear hXr hb hst
      by_cases hq : q0.length ≤ 40
      · have hqi : ¬ (40 : Int) < q0.length := by omega
        have Hst2 := Lib.hid (show ((pxs (xs.drop (k + 1))).all (fun p => decide (p.length ≤ 40)) && (fewZ (s.rules ++ [s.els]) && (fewB n 50 && (decide (xs.length ≤ 30) && decide (m ≤ 400))))) = T by have h := Hst.out; rw [decide_eq_true hq, Bool.true_and] at h; exact h)
        clear hq Hst
        go_wp2_with fail
        go_roundg (xs.length - (k + 1))
        case measure => omega
        case rel => exact ⟨k + 1, by go_num, by omega, Hst2, rfl⟩
      · have hqi : (40 : Int) < q0.length := by omega
        have Hst2 := Lib.hid (show false = T by have h := Hst.out; rw [decide_eq_false hq, Bool.false_and, Bool.false_and] at h; exact h)
        clear hq Hst
        go_wp2_with fail
        go_ret
        exact ⟨ret_bool Hst2.out, Hb0.out⟩
    · obtain rfl : k = xs.length := by omega
      have Hst2 := Lib.hid (show (fewZ (s.rules ++ [s.els]) && (fewB n 50 && (decide (xs.length ≤ 30) && decide (m ≤ 400)))) = T by have h := hst.out; rw [List.drop_length] at h; exact h)
      have hS := hld wr (HA.out)
      have HS1 := Lib.hid (HS.out wr (Below.refl _ _))
      clear hst HX
      have hnl : ¬ (xs.length : Int) < xs.length := by omega
      go_wp2_with fail
      refine HS1.out.mono ?_
      rintro e w1 ⟨rfl, hbel⟩
      have Hb1 := Lib.hid hbel
      have HT1 := Lib.hid (HT.out w1 hbel)
      obtain ⟨⟨y0, y1, y2, y3⟩, -, yl⟩ := (HN.out.kept hbel).f4
      clear hbel HS1 HS hS HN hld
      cases h1 : fewZ (s.rules ++ [s.els]) with
      | false =>
        have Hr := Lib.hid (show false = T by have h := Hst2.out; rw [h1, Bool.false_and] at h; exact h)
        clear h1 HT1 Hst2
        go_wp2_with fail
        go_ret
        exact ⟨ret_bool Hr.out, Hb0.out.trans (Hb1.out.mono Hb0.out.size)⟩
      | true =>
        have Hst3 := Lib.hid (show (fewB n 50 && (decide (xs.length ≤ 30) && decide (m ≤ 400))) = T by have h := Hst2.out; rw [h1, Bool.true_and] at h; exact h)
        clear h1 Hst2
        go_wp2_with fail
        refine HT1.out.mono ?_
        rintro e w2 ⟨rfl, hbel⟩
        have Hb2 := Lib.hid (Hb0.out.trans ((below_and Hb1.out hbel).mono Hb0.out.size))
        clear hbel HT1 y0 y1 y2 y3 yl HT
        cases h2 : fewB n 50 with
        | false =>
          have Hr := Lib.hid (show false = T by have h := Hst3.out; rw [h2, Bool.false_and] at h; exact h)
          clear h2 Hst3
          go_wp2_with fail
          go_ret
          exact ⟨ret_bool Hr.out, Hb2.out⟩
        | true =>
          have Hst4 := Lib.hid (show (decide (xs.length ≤ 30) && decide (m ≤ 400)) = T by have h := Hst3.out; rw [h2, Bool.true_and] at h; exact h)
          clear h2 Hst3
          by_cases h3 : xs.length ≤ 30
          · have h3i : (xs.length : Int) ≤ 30 := by omega
            have Hst5 := Lib.hid (show decide (m ≤ 400) = T by have h := Hst4.out; rw [decide_eq_true h3, Bool.true_and] at h; exact h)
            clear h3 Hst4
            by_cases h4 : m ≤ 400
            · have h4i : (m : Int) ≤ 400 := by omega
              have Hr := Lib.hid ((decide_eq_true h4).symm.trans Hst5.out)
              clear h4 Hst5
              go_wp2_with fail
              go_ret
              exact ⟨ret_bool (by first | exact Hr.out | (rw [← Hr.out]; simp; done) | (rw [← Hr.out]; simp; omega)), Hb2.out⟩
            · have h4i : ¬ (m : Int) ≤ 400 := by omega
              have Hr := Lib.hid ((decide_eq_false h4).symm.trans Hst5.out)
              clear h4 Hst5
              go_wp2_with fail
              go_ret
              exact ⟨ret_bool (by first | exact Hr.out | (rw [← Hr.out]; simp; done) | (rw [← Hr.out]; simp; omega)), Hb2.out⟩
          · have h3i : ¬ (xs.length : Int) ≤ 30 := by omega
            have Hr := Lib.hid (show false = T by have h := Hst4.out; rw [decide_eq_false h3, Bool.false_and] at h; exact h)
            clear h3 Hst4
            go_wp2_with fail
            go_ret
            exact ⟨ret_bool (by first | exact Hr.out | (rw [← Hr.out]; simp; done) | (rw [← Hr.out]; simp; omega)), Hb2.out⟩

end Go.Proofs.Ytiinmgccjlmoaaa
namespace Go.Proofs.Ytiinmgccjlmoaaa
open Go.RowKit Go.Redl
set_option linter.unusedVariables false
set_option linter.unusedSimpArgs false

/-- A row put behind an own row. -/
theorem RowX.join {M : Nat} {w w' : World} {v v' : Value} {xs ys : List PX} {B : Nat} {u : Value} (h : RowX w M 0 v xs) (hr : ReadX w B u ys) (hBM : B ≤ M) (hB : B ≤ w.heap.size)
    (hg : w.grownBy w' v.ownBlock) (hown : w'.ownsRow M 36 1 v' (xs.length + ys.length) (xs.map pxV ++ ys.map pxV)) (hw : v'.ownBlock = v.ownBlock ∨ ∀ k, v'.ownBlock = some k → w.heap.size ≤ k) : RowX w' M 0 v' (xs ++ ys) := by
  have hs := hg.size
  have hall : ∀ x ∈ xs ++ ys, PxQ w (fun b => 0 ≤ b ∧ v.ownBlock ≠ some b) x := fun x hx => by
    rcases List.mem_append.1 hx with hx | hx
    · exact h.all x hx
    · exact rowq_imp ((hr.all x hx).q hB) fun b hb => ⟨Nat.zero_le _, fun e => by have := h.ge b e; omega⟩
  refine ⟨by rw [List.length_append, List.map_append]; exact hown, fun x hx => (hall x hx).keep hs (fun b hb hlt => hg.block b hlt (fun e => hb.2 e.symm)) fun b hb hlt => ⟨Nat.zero_le _, ?_⟩⟩
  rcases hw with e | e
  · rw [e]; exact hb.2
  · intro e2; have := e b e2; omega
theorem step_appx {P : Program} {ops : Array Oper} {o : Oper} {a : Act} {w : World} {K : Act → World → Prop} {Q : Exit → Act → World → Prop} {E : Prop}
    (hg : o.guard = none) (s x : Operand) (ho : o.op = .call { callee := .builtin .append, args := #[s, x], argTypes := #[44, 44] })
    (ht : P.underlying 44 = some (.slice 36)) (hi : (P.info? 36).map (fun i => (i.zero, i.size, i.bytes)) = some (some (.slice none 0 0), 1, 24))
    (M : Nat) (v : Value) (xs : List PX) (hs : a.eval s = v) (hO : RowX w M 0 v xs) (ys : List PX) (ya : Option Addr) (yc B : Nat) (hx : a.eval x = .slice ya ys.length yc) (hr : ReadX w B (.slice ya ys.length yc) ys) (hBM : B ≤ M) (hB : B ≤ w.heap.size)
    (hn : xs.length + ys.length ≤ 100000000) (hM : M ≤ w.heap.size)
    (h : ∀ v' w', RowX w' M 0 v' (xs ++ ys) → Below M w w' → K (a.put o.dst v') w') : if Region.wanted o (yielded ops a.tmps) = true then Oper.wp P o a w K Q else E := by
  cases ya with
  | none =>
    obtain ⟨a', c', hv, hrow⟩ := hr.row
    injection hv with e1 e2 e3
    subst e1; subst e3
    have hc0 : yc = 0 := hrow.nil rfl
    have hn0 : ys.length = 0 := by have := hrow.le; omega
    obtain rfl : ys = [] := List.eq_nil_of_length_eq_zero hn0
    subst hc0
    have hw : Region.wanted o (yielded ops a.tmps) = true := by simp [Region.wanted, hg]
    rw [if_pos hw]
    obtain ⟨i, hi', -, hsize, -⟩ := info_parts hi
    have hrun := run_append_owned_none (P := P) (w := w) M 44 o.type 36 i 1 ht hi' v xs.length (xs.map pxV) hO.own
    unfold Oper.wp execOp
    simp only [ho, resolve, invoke, builtin, Sem.run_bind, Sem.run_pure, Result.andThen_ok, List.map_toArray, List.map_cons, List.map_nil, hs, hx, List.length_nil, hrun]
    exact h v w (by rw [List.append_nil]; exact hO) (Below.refl _ _)
  | some ad =>
    obtain ⟨a', c', hv, hrow⟩ := hr.row
    injection hv with e1 e2 e3
    subst e1; subst e3
    refine step_app2 hg s x 44 ho M 36 (.slice none 0 0) 1 24 ht hi rfl (by decide) v xs.length (xs.map pxV) hs hO.own ad ys.length yc B (ys.map pxV) hx hrow (by unfold maxLen; omega) (by omega) hM fun v' w' hown hgrow hwh => ?_
    exact h v' w' (RowX.join hO hr hBM hB hgrow hown hwh) ((Below.refl M w).grown hgrow hM (fun k hk => hO.ge k hk))

theorem readyF_len : ∀ (q : Option (List Int)) (l : List (List Int)), (readyF q l).length ≤ l.length := by
  intro q l
  induction l generalizing q with
  | nil => cases q <;> simp [readyF]
  | cons p l ih =>
    cases q with
    | none => simp only [readyF, List.length_cons]; have := ih (some p); omega
    | some q =>
      simp only [readyF]
      split
      · have := ih (some q); simp; omega
      · have := ih (some p); simp; omega
theorem ready_of {L : List (List Int)} : (readyL (setL L)).length ≤ L.length ∧ ∀ p ∈ readyL (setL L), p ∈ L :=
  ⟨Nat.le_trans (readyF_len none (setL L)) (setL_len L), fun p hp => mem_setL.1 ((readyL_spec _ (setL_strict L)).1 p hp)⟩
/-- Lists that lead to the same elements have one region. -/
theorem reg_cov {n : NodeD} (hw : n.wt ≤ 1048576) {L L' : List (List Int)} (h : ∀ x, covB (L.filter (isElem n)) x = covB (L'.filter (isElem n)) x) : regN n L = regN n L' := by
  rw [regN_eq hw, regN_eq hw]
  congr 1
  funext x
  exact h x
theorem reg_twice {n : NodeD} (hw : n.wt ≤ 1048576) (L : List (List Int)) : regN n (L ++ L) = regN n L :=
  reg_cov hw fun x => by rw [List.filter_append]; unfold covB; rw [List.any_append, Bool.or_self]
theorem reg_elems {n : NodeD} (hw : n.wt ≤ 1048576) (L : List (List Int)) : regN n (L.filter (isElem n)) = regN n L :=
  reg_cov hw fun x => by rw [List.filter_filter]; simp
theorem reg_ready {n : NodeD} (hw : n.wt ≤ 1048576) (L : List (List Int)) : regN n (readyL (setL (L.filter (isElem n)))) = regN n L :=
  reg_cov hw fun x => by
    have he : (readyL (setL (L.filter (isElem n)))).filter (isElem n) = readyL (setL (L.filter (isElem n))) := List.filter_eq_self.2 fun p hp => by
      have h1 := (readyL_spec _ (setL_strict (L.filter (isElem n)))).1 p hp
      exact (List.mem_filter.1 (mem_setL.1 h1)).2
    rw [he, cov_ready]

end Go.Proofs.Ytiinmgccjlmoaaa
namespace Go.Proofs.Ytiinmgccjlmoaaa
open Go.RowKit Go.Redl
set_option linter.unusedVariables false
set_option linter.unusedSimpArgs false

theorem mem_pathsK {want : NodeD → Bool} : ∀ (ks : List NodeD) (j : Nat) (q : List Int) (m : Nat) (k : NodeD) (x : List Int), ks[m]? = some k → x ∈ pathsW want k (q ++ [((j + m : Nat) : Int)]) → x ∈ pathsK want ks j q
  | [], j, q, m, k, x, h, _ => by simp at h
  | c :: ks, j, q, 0, k, x, h, hx => by
    simp at h
    subst h
    unfold pathsK
    exact List.mem_append.2 (.inl (by simpa using hx))
  | c :: ks, j, q, m + 1, k, x, h, hx => by
    unfold pathsK
    refine List.mem_append.2 (.inr (mem_pathsK ks (j + 1) q m k x (by simpa using h) ?_))
    rw [show j + 1 + m = j + (m + 1) by omega]
    exact hx
theorem mem_paths : ∀ (p : List Int) (n k : NodeD) (q : List Int), atN n p = some k → q ++ p ∈ pathsW (fun _ => true) n q
  | [], .mk l ps t ks, k, q, _ => by unfold pathsW; simp
  | i :: p, .mk l ps t ks, k, q, h => by
    rw [atN] at h
    split at h
    · rename_i hi
      cases hk : ks[i.toNat]? with
      | none => rw [show (kidsOf (.mk l ps t ks))[i.toNat]? = ks[i.toNat]? from rfl, hk] at h; cases h
      | some c =>
        rw [show (kidsOf (.mk l ps t ks))[i.toNat]? = ks[i.toNat]? from rfl, hk] at h
        have ih := mem_paths p c k (q ++ [i]) h
        unfold pathsW
        refine List.mem_append.2 (.inr (mem_pathsK ks 0 q i.toNat c _ hk ?_))
        rw [show ((0 + i.toNat : Nat) : Int) = i by omega]
        simpa using ih
    · cases h
theorem elem_mem {n : NodeD} {q : List Int} (h : isElem n q = true) : q ∈ allN n := by
  unfold isElem at h
  cases hat : atN n q with
  | none => rw [hat] at h; cases h
  | some k => simpa using mem_paths q n k [] hat
/-- All elements of a tree. -/
abbrev elemsN (n : NodeD) : List (List Int) := (allN n).filter (isElem n)
theorem cov_elems {n : NodeD} {x : List Int} : covB (elemsN n) x = true ↔ ∃ q, isElem n q = true ∧ q <+: x := by
  rw [cov_iff]
  constructor
  · rintro ⟨q, h1, h2⟩; exact ⟨q, (List.mem_filter.1 h1).2, h2⟩
  · rintro ⟨q, h1, h2⟩; exact ⟨q, List.mem_filter.2 ⟨elem_mem h1, h1⟩, h2⟩
/-- The region of all elements. -/
def regA (n : NodeD) : Nat := regN n (setL (elemsN n))
theorem regA_eq {n : NodeD} (hw : n.wt ≤ 1048576) : regA n = (allN n).countP (covB (elemsN n)) := by
  unfold regA
  rw [regN_eq hw]
  congr 1
  funext x
  rw [Bool.eq_iff_iff, cov_iff, cov_iff]
  constructor
  · rintro ⟨q, h1, h2⟩; exact ⟨q, mem_setL.1 (List.mem_filter.1 h1).1, h2⟩
  · rintro ⟨q, h1, h2⟩; exact ⟨q, List.mem_filter.2 ⟨mem_setL.2 h1, (List.mem_filter.1 h1).2⟩, h2⟩
theorem regA_most {n : NodeD} (hw : n.wt ≤ 1048576) (L : List (List Int)) : regN n L ≤ regA n := by
  rw [regN_eq hw, regA_eq hw]
  refine List.countP_mono_left fun x _ h => ?_
  obtain ⟨q, h1, h2⟩ := cov_iff.1 h
  exact cov_elems.2 ⟨q, (List.mem_filter.1 h1).2, h2⟩
theorem reg_more {n : NodeD} (hw : n.wt ≤ 1048576) (L L' : List (List Int)) : regN n L ≤ regN n (L ++ L') := by
  rw [regN_eq hw, regN_eq hw]
  refine List.countP_mono_left fun x _ h => ?_
  obtain ⟨q, h1, h2⟩ := cov_iff.1 h
  exact cov_iff.2 ⟨q, by rw [List.filter_append]; exact List.mem_append.2 (.inl h1), h2⟩
theorem reg_nil (n : NodeD) : regN n [] = 0 := rfl
theorem regA_le {n : NodeD} (hw : n.wt ≤ 1048576) : regA n ≤ n.wt := by
  rw [regA_eq hw]
  exact Nat.le_trans (List.countP_le_length) (pathsW_len _ n [])
theorem regA_elem {n : NodeD} (hw : n.wt ≤ 1048576) (hl : leafOf n = false) : regA n = (allN n).length := by
  rw [regA_eq hw]
  refine List.countP_eq_length.2 fun x _ => cov_elems.2 ⟨[], ?_, List.nil_prefix⟩
  unfold isElem
  rw [show atN n [] = some n by rw [atN]]
  simp [hl]
mutual
theorem pathsW_map (want : NodeD → Bool) : ∀ (n : NodeD) (p q : List Int), pathsW want n (p ++ q) = (pathsW want n q).map (p ++ ·)
  | .mk l ps t ks, p, q => by
    unfold pathsW
    rw [List.map_append, pathsK_map want ks 0 p q]
    split <;> simp
theorem pathsK_map (want : NodeD → Bool) : ∀ (ks : List NodeD) (i : Nat) (p q : List Int), pathsK want ks i (p ++ q) = (pathsK want ks i q).map (p ++ ·)
  | [], i, p, q => rfl
  | k :: ks, i, p, q => by
    unfold pathsK
    rw [List.map_append, List.append_assoc, pathsW_map want k p (q ++ [(i : Int)]), pathsK_map want ks (i + 1) p q]
end
def sumA (ks : List NodeD) : Nat := (ks.map regA).sum
theorem sumA_le : ∀ {ks : List NodeD}, wtAll ks ≤ 1048576 → sumA ks ≤ wtAll ks
  | [], _ => by simp [sumA, wtAll]
  | k :: ks, h => by
    simp only [wtAll] at h
    have h1 := regA_le (n := k) (by omega)
    have h2 := sumA_le (ks := ks) (by omega)
    have e : sumA (k :: ks) = regA k + sumA ks := by simp [sumA]
    rw [e]
    simp only [wtAll]
    omega
/-- A leaf that has Kids all the same: the regions of these. -/
theorem regA_leaf {n : NodeD} (hw : n.wt ≤ 1048576) (hl : leafOf n = true) : regA n = sumA (kidsOf n) := by
  rw [regA_eq hw]
  obtain ⟨l, ps, t, ks⟩ := n
  have hroot : isElem (.mk l ps t ks) [] = false := by
    unfold isElem
    rw [show atN (.mk l ps t ks) [] = some (.mk l ps t ks) by rw [atN]]
    simp only [leafOf] at hl ⊢
    simp [hl]
  have hkw : wtAll ks ≤ 1048576 := by simp only [NodeD.wt] at hw; omega
  have hat : ∀ (m : Nat) (k : NodeD) (q : List Int), ks[m]? = some k → isElem (.mk l ps t ks) ((m : Int) :: q) = isElem k q := by
    intro m k q hk
    unfold isElem
    rw [atN, if_pos (by omega)]
    rw [show (kidsOf (.mk l ps t ks))[((m : Int)).toNat]? = some k by show ks[((m : Int)).toNat]? = _; simpa using hk]
  have hcov : ∀ (m : Nat) (k : NodeD) (y : List Int), ks[m]? = some k → covB (elemsN (.mk l ps t ks)) ((m : Int) :: y) = covB (elemsN k) y := by
    intro m k y hk
    rw [Bool.eq_iff_iff, cov_elems, cov_elems]
    constructor
    · rintro ⟨q, h1, h2⟩
      cases q with
      | nil => rw [hroot] at h1; cases h1
      | cons i q =>
        obtain ⟨rfl, h3⟩ := List.cons_prefix_cons.1 h2
        exact ⟨q, by rw [← hat m k q hk]; exact h1, h3⟩
    · rintro ⟨q, h1, h2⟩
      exact ⟨(m : Int) :: q, by rw [hat m k q hk]; exact h1, List.cons_prefix_cons.2 ⟨rfl, h2⟩⟩
  have hK : ∀ (cs : List NodeD) (j : Nat), (∀ m, cs[m]? = ks[j + m]?) → wtAll cs ≤ 1048576 → (pathsK (fun _ => true) cs j []).countP (covB (elemsN (.mk l ps t ks))) = sumA cs := by
    intro cs
    induction cs with
    | nil => intro j _ _; unfold pathsK; simp [sumA]
    | cons c cs ih =>
      intro j hj hcw
      have h0 := hj 0
      simp only [List.getElem?_cons_zero, Nat.add_zero] at h0
      simp only [wtAll] at hcw
      unfold pathsK
      rw [List.countP_append, ih (j + 1) (fun m => by have := hj (m + 1); simp only [List.getElem?_cons_succ] at this; rw [this]; congr 1; omega) (by omega)]
      have e : pathsW (fun _ => true) c ([] ++ [(j : Int)]) = (allN c).map ((j : Int) :: ·) := by
        have := pathsW_map (fun _ => true) c [(j : Int)] []
        simpa using this
      rw [e, List.countP_map]
      have e2 : (allN c).countP (covB (elemsN (.mk l ps t ks)) ∘ ((j : Int) :: ·)) = regA c := by
        rw [regA_eq (by omega)]
        congr 1
        funext y
        exact hcov j c y h0.symm
      rw [e2]
      simp [sumA]
  have h0 : covB (elemsN (.mk l ps t ks)) [] = false := by
    cases h : covB (elemsN (.mk l ps t ks)) [] with
    | false => rfl
    | true =>
      obtain ⟨q, h1, h2⟩ := cov_elems.1 h
      rw [List.prefix_nil.1 h2, hroot] at h1
      cases h1
  show (pathsW (fun _ => true) (.mk l ps t ks) []).countP (covB (elemsN (.mk l ps t ks))) = sumA ks
  rw [pathsW, List.countP_append, hK ks 0 (fun m => by simp) hkw]
  simp only [if_true]
  rw [List.countP_cons_of_neg (by simp [h0]), List.countP_nil, Nat.zero_add]
mutual
theorem pathsW_long (want : NodeD → Bool) : ∀ (n : NodeD) (p x : List Int), x ∈ pathsW want n p → x.length ≤ p.length + n.wt
  | .mk l ps t ks, p, x => by
    intro h
    unfold pathsW at h
    rcases List.mem_append.1 h with h | h
    · split at h
      · rw [List.mem_singleton.1 h]; omega
      · simp at h
    · have := pathsK_long want ks 0 p x h
      simp only [NodeD.wt]; omega
theorem pathsK_long (want : NodeD → Bool) : ∀ (ks : List NodeD) (i : Nat) (p x : List Int), x ∈ pathsK want ks i p → x.length ≤ p.length + 1 + wtAll ks
  | [], i, p, x => by intro h; unfold pathsK at h; simp at h
  | k :: ks, i, p, x => by
    intro h
    unfold pathsK at h
    simp only [wtAll]
    rcases List.mem_append.1 h with h | h
    · have := pathsW_long want k _ x h
      simp at this; omega
    · have := pathsK_long want ks (i + 1) p x h
      omega
end
theorem elems_long {n : NodeD} : (setL (elemsN n)).length ≤ n.wt ∧ ∀ p ∈ setL (elemsN n), p.length ≤ n.wt :=
  ⟨Nat.le_trans (setL_len _) (Nat.le_trans (List.length_filter_le _ _) (pathsW_len _ n [])), fun p hp => by
    have := pathsW_long _ n [] p (List.mem_filter.1 (mem_setL.1 hp)).1
    simpa using this⟩

end Go.Proofs.Ytiinmgccjlmoaaa
namespace Go.Proofs.Ytiinmgccjlmoaaa
open Go.RowKit Go.Redl
set_option linter.unusedVariables false
set_option linter.unusedSimpArgs false

theorem small19_lens {s : SchemaD} {n : NodeD} {L : List (List Int)} {m : Nat} (h : small19 s n L m = true) : (∀ p ∈ L, p.length ≤ 40) ∧ L.length ≤ 30 := by
  unfold small19 at h
  simp only [Bool.and_eq_true, List.all_eq_true, decide_eq_true_eq] at h
  exact ⟨h.1, h.2.2.2.1⟩

set_option maxRecDepth 100000 in
set_option maxHeartbeats 4000000 in
theorem weighttwice_walk (s : SchemaD) (n : NodeD) (u v : Value) (vx : Value) (xs : List PX) (W : World) (hs : s.wt ≤ 1048576) (hn : n.wt ≤ 1048576) (hxl : xs.length ≤ 1048576) (hu : SchemaV W W.heap.size s u) (hv : NodeV W W.heap.size n v) (hx : ReadX W W.heap.size vx xs) :
    Calls Try.prog 4 #[u, v, vx] W (fun e w' => e = .returned (.bool true) ∧ Below W.heap.size W w') := by
  have hu0 := hu; have hv0 := hv
  obtain ⟨l, ps, t, ks⟩ := n
  obtain ⟨a, c, css, ea, ec, o0, o1, o2, o3, o4, o5, rfl, -, -, -, -⟩ := hu0.open
  obtain ⟨ap, cp, at_, ct, ak, ck, cs4, rfl, -, -, -, -⟩ := hv0.open
  generalize hnn : NodeD.mk l ps t ks = n at hn hv ⊢
  obtain ⟨xa, xc, rfl, -⟩ := hx.row
  obtain ⟨w0, hw0⟩ : ∃ w0, w0 = (W.alloc (Obj.cells #[.slice a s.rules.length c, strV s.els.type, .int .i64 s.els.text.1, strV s.els.text.2, .int .i64 s.els.other.1, strV s.els.other.2, .slice ea s.els.kids.length ec, .int .i64 s.els.fill, strV s.els.fillT, .int .i64 o0, .int .i64 o1, .int .i64 o2, .int .i64 o3, .int .i64 o4, .int .i64 o5, .int .i64 s.cap] 30)).alloc (Obj.cells #[.bool l, .slice ap ps.length cp, .slice at_ t.length ct, .slice ak ks.length ck] 35) := ⟨_, rfl⟩
  have hb0 : Below W.heap.size W w0 := by rw [hw0]; exact (one_below _ _).trans ((one_below _ _).mono (one_below _ _).size)
  have hA : At w0 W.heap.size [.slice a s.rules.length c, strV s.els.type, .int .i64 s.els.text.1, strV s.els.text.2, .int .i64 s.els.other.1, strV s.els.other.2, .slice ea s.els.kids.length ec, .int .i64 s.els.fill, strV s.els.fillT, .int .i64 o0, .int .i64 o1, .int .i64 o2, .int .i64 o3, .int .i64 o4, .int .i64 o5, .int .i64 s.cap] 30 := by rw [hw0]; exact (At.fresh W _ _).alloc _
  have hN : At w0 (W.heap.size + 1) [.bool l, .slice ap ps.length cp, .slice at_ t.length ct, .slice ak ks.length ck] 35 := by rw [hw0]; exact At.second W _ _ _
  have HF := Lib.hid (fun (w' : World) (hb : Below w0.heap.size w0 w') => few19_c s n _ _ _ xs none 0 0 w' (by omega) (by omega) (by omega) (by simp) (hu.keep (hb0.trans (hb.mono hb0.size)) (hb0.trans (hb.mono hb0.size)).size) (hv.keep (hb0.trans (hb.mono hb0.size)) (hb0.trans (hb.mono hb0.size)).size) (hx.keep (hb0.trans (hb.mono hb0.size)) (hb0.trans (hb.mono hb0.size)).size))
  have HL := Lib.hid (live19_c w0)
  have HA := Lib.hid hA; have HN := Lib.hid hN
  have Hb0 := Lib.hid hb0; have Hw0 := Lib.hid hw0
  have hld := fun (w' : World) (h : At w' W.heap.size [.slice a s.rules.length c, strV s.els.type, .int .i64 s.els.text.1, strV s.els.text.2, .int .i64 s.els.other.1, strV s.els.other.2, .slice ea s.els.kids.length ec, .int .i64 s.els.fill, strV s.els.fillT, .int .i64 o0, .int .i64 o1, .int .i64 o2, .int .i64 o3, .int .i64 o4, .int .i64 o5, .int .i64 s.cap] 30) => ldx (P := Try.prog) h Try.underlying30 rfl (by kernel_rfl)
  simp [go_sem] at hld
  cases hsm : small19 s n (pxs xs) 0 with
  | false =>
    rw [hsm] at HF
    clear hu hv hu0 hv0 hs hn hb0 hw0 hA hN hx hsm hnn
    go_enter Try.func4, Try.ntmps4
    go_upto_region 1 with fail
    rw [← Hw0.out]
    clear Hw0
    go_wp2_with fail
    refine HL.out.mono ?_
    rintro e w1 ⟨rfl, hbel⟩
    have Hb1 := Lib.hid hbel
    have hS := hld w1 (HA.out.kept hbel)
    obtain ⟨⟨y0, y1, y2, y3⟩, -, yl⟩ := (HN.out.kept hbel).f4
    have HF1 := Lib.hid (HF.out w1 hbel)
    clear hbel HL HF hld
    go_wp2_with fail
    refine HF1.out.mono ?_
    rintro e w2 ⟨rfl, hbel⟩
    have Hb2 := Lib.hid (Hb0.out.trans ((below_and Hb1.out hbel).mono Hb0.out.size))
    clear hbel HF1 hS y0 y1 y2 y3 yl
    go_wp2_with fail
    go_ret
    exact ⟨rfl, Hb2.out⟩
  | true =>
    rw [hsm] at HF
    obtain ⟨hl40, hl30⟩ := small19_lens hsm
    have HX := Lib.hid (fun (w' : World) (hb : Below w0.heap.size w0 w') => hx.keep (hb0.trans (hb.mono hb0.size)) (Nat.le_refl _))
    have HG := Lib.hid (fun (w1 : World) (hb : Below w0.heap.size w0 w1) (p : List Int) (pa : Option Addr) (pc : Nat) (hp : RowA w1 w1.heap.size 1 pa p.length pc (p.map (Value.int .i64))) => get_c n p _ pa pc w1 (by omega) (hv.keep (hb0.trans (hb.mono hb0.size)) (hb0.trans (hb.mono hb0.size)).size) hp)
    have HR := Lib.hid (fun (w1 : World) (hb : Below w0.heap.size w0 w1) (u : Value) (ys : List PX) (hy : ReadX w1 w1.heap.size u ys) (h1 : ys.length ≤ 100) (h2 : ∀ y ∈ ys, y.1.length ≤ 40) => region_c n _ w1.heap.size u ys w1 (by omega) (hv.keep (hb0.trans (hb.mono hb0.size)) (hb0.trans (hb.mono hb0.size)).size) (Nat.le_refl _) hy (by omega) (fun y hy' => by have := h2 y hy'; omega))
    obtain ⟨T, hT⟩ : ∃ T, T = regN n (pxs xs) := ⟨_, rfl⟩
    have HT1 := Lib.hid (show regN n (pxs (xs ++ xs)) = T by rw [pxs_append, hT]; exact reg_twice hn _)
    have HT2 := Lib.hid (show regN n ((pxs xs).filter (isElem n)) = T by rw [hT]; exact reg_elems hn _)
    have HT3 := Lib.hid (show regN n (readyL (setL ((pxs xs).filter (isElem n)))) = T by rw [hT]; exact reg_ready hn _)
    have HT0 := Lib.hid hT
    have H40 := Lib.hid hl40
    have hwt : n.wt ≤ 100000000 := by omega
    clear hu hv hu0 hv0 hs hb0 hw0 hA hN hx hsm hnn hT hl40
    go_enter Try.func4, Try.ntmps4
    go_upto_region 1 with fail
    rw [← Hw0.out]
    clear Hw0
    go_wp2_with fail
    refine HL.out.mono ?_
    rintro e w1 ⟨rfl, hbel⟩
    have Hb1 := Lib.hid hbel
    have hS := hld w1 (HA.out.kept hbel)
    obtain ⟨⟨y0, y1, y2, y3⟩, -, yl⟩ := (HN.out.kept hbel).f4
    have HF1 := Lib.hid (HF.out w1 hbel)
    clear hbel HL HF hld
    go_wp2_with fail
    refine HF1.out.mono ?_
    rintro e w2 ⟨rfl, hbel⟩
    have Hb2 := Lib.hid (below_and Hb1.out hbel)
    have HN2 := Lib.hid (HN.out.kept Hb2.out)
    clear hbel HF1 hS y0 y1 y2 y3 yl HN HA
    go_wp2_with fail
    go_loopg [22, 7] xs.length (fun g i o wr => ∃ (k : Nat) (os : List PX), i = .int .i64 k ∧ k + g = xs.length ∧ os.length ≤ k ∧ Hid (pxs os = (pxs (xs.take k)).filter (isElem n)) ∧ Hid (RowX wr w2.heap.size 0 o os) ∧ Hid (Below w2.heap.size w2 wr))
    case atStart => exact ⟨0, [], rfl, by omega, by simp, (show pxs [] = (pxs (xs.take 0)).filter (isElem n) by simp), RowX.nil _ _ _, Below.refl _ _⟩
    case round =>
      obtain ⟨k, os, rfl, hg, hok, hos, ho, hbr⟩ := hrel
      obtain ⟨oa, oc, hof⟩ := ho.out.form
      subst hof
      have Hbw := Lib.hid (below_and Hb2.out hbr.out)
      by_cases hlt : k < xs.length
      · have hlti : (k : Int) < xs.length := by omega
        have hXr := HX.out wr Hbw.out
        obtain ⟨b, off, rfl, hb, hc⟩ := hXr.at_ k hlt
        have hall := hXr.all xs[k] (List.getElem_mem hlt)
        have Hst := Lib.hid (show xs.take (k + 1) = xs.take k ++ [xs[k]] from List.take_succ_eq_append_getElem hlt)
        generalize xs[k] = x at hc hall Hst
        obtain ⟨x0, x1, x2⟩ := x
        unfold pxV at hc
        simp only at hc hall Hst
        have HWw := Lib.hid (Hb0.out.trans (Hbw.out.mono Hb0.out.size)).size
        have HG1 := Lib.hid (HG.out wr Hbw.out x0 x1 x2 (hall.keep ((Below.refl _ _).mono HWw.out) HWw.out))
        have Hall := Lib.hid hall
        obtain ⟨⟨y0, y1, y2, y3⟩, -, yl⟩ := (HN2.out.kept hbr.out).f4
        clear hXr hb hall
        cases hat : atN n x0 with
        | none =>
          rw [hat] at HG1
          have Hel := Lib.hid (show isElem n x0 = false by unfold isElem; rw [hat])
          clear hat
          go_wp2_with fail
          refine HG1.out.mono ?_
          rintro e w3 ⟨rfl, hbel⟩
          have hb3 := (below_and hbr.out hbel).trans ((one_below w3 (Obj.cells #[.bool false, .slice none 0 0, .slice none 0 0, .slice none 0 0] 35)).mono (below_and hbr.out hbel).size)
          have Hb3 := Lib.hid hb3
          have Ho3 := Lib.hid (ho.out.below (hbel.trans ((one_below w3 (Obj.cells #[.bool false, .slice none 0 0, .slice none 0 0, .slice none 0 0] 35)).mono hbel.size)))
          clear hbel HG1 hc y0 y1 y2 y3 yl hb3
          go_wp2_with fail
          go_roundg (xs.length - (k + 1))
          case measure => omega
          case rel =>
            refine ⟨k + 1, os, by go_num, by omega, by omega, ?_, Ho3, Hb3⟩
            show pxs os = (pxs (xs.take (k + 1))).filter (isElem n)
            rw [Hst.out, pxs_append, pxs_one, List.filter_append, List.filter_cons_of_neg (by simp [Hel.out]), List.filter_nil, List.append_nil]
            exact hos.out
        | some q =>
          rw [hat] at HG1
          obtain ⟨lf, qp, qt, qk⟩ := q
          have Hel := Lib.hid (show isElem n x0 = !lf by unfold isElem; rw [hat]; rfl)
          clear hat
          go_wp2_with fail
          refine HG1.out.mono ?_
          rintro e w3 ⟨cs, rfl, hq, hbel⟩
          have hq' := NodeQ.node _ _ hq
          unfold NodeC at hq'
          obtain ⟨b1, d1, b2, d2, b3, d3, css3, rfl, -⟩ := hq'
          obtain ⟨w4, hw4⟩ : ∃ w4, w4 = w3.alloc (Obj.cells #[.bool lf, .slice b1 qp.length d1, .slice b2 qt.length d2, .slice b3 qk.length d3] 35) := ⟨_, rfl⟩
          have hb4 : Below w3.heap.size w3 w4 := by rw [hw4]; exact one_below _ _
          have hA4 : At w4 w3.heap.size [.bool lf, .slice b1 qp.length d1, .slice b2 qt.length d2, .slice b3 qk.length d3] 35 := by rw [hw4]; exact At.fresh w3 _ _
          have Hb4 := Lib.hid ((below_and hbr.out hbel).trans (hb4.mono (below_and hbr.out hbel).size))
          have Ho4 := Lib.hid (ho.out.below (hbel.trans (hb4.mono hbel.size)))
          have Hw4 := Lib.hid hw4; have HA4 := Lib.hid hA4
          have Hs2 := Lib.hid (Hb0.out.trans (Hb2.out.mono Hb0.out.size)).size
          have HQ := Lib.hid (show PxQ w4 (fun b => 0 ≤ b ∧ (Value.slice oa os.length oc).ownBlock ≠ some b) (x0, x1, x2) from by
            have hk := Hall.out.keep ((hbel.trans (hb4.mono hbel.size)).mono HWw.out) (Nat.le_refl _)
            exact rowq_imp (hk.q (Nat.le_trans HWw.out (hbel.trans (hb4.mono hbel.size)).size)) fun b hb => ⟨Nat.zero_le _, fun e => by have := ho.out.ge b e; have := Hs2.out; omega⟩)
          have Hs4 := Lib.hid ((below_and hbr.out hbel).trans (hb4.mono (below_and hbr.out hbel).size)).size
          clear hbel HG1 hc y0 y1 y2 y3 yl hb4 hA4 hw4 hq
          go_upto_region 10 with fail
          rw [← Hw4.out]
          clear Hw4
          have z0 := HA4.out.cell 0 rfl; have zl := HA4.out.lt
          cases lf with
          | true =>
            go_wp2_with fail
            go_roundg (xs.length - (k + 1))
            case measure => omega
            case rel =>
              refine ⟨k + 1, os, by go_num, by omega, by omega, ?_, Ho4, Hb4⟩
              show pxs os = (pxs (xs.take (k + 1))).filter (isElem n)
              rw [Hst.out, pxs_append, pxs_one, List.filter_append, List.filter_cons_of_neg (by simp [Hel.out]), List.filter_nil, List.append_nil]
              exact hos.out
          | false =>
            go_wp2_with (at_builtin; refine wpList_pushx rfl _ _ rfl Try.underlying44 info_slc w2.heap.size 0 (Value.slice oa os.length oc) os rfl ?hO (x0, x1, x2) rfl rfl ?hq ?hn ?hM ?_)
            case hO => exact Ho4.out
            case hq => exact HQ.out
            case hn => omega
            case hM => exact Hs4.out
            intro v' w5 hy5 hb5
            have Hy5 := Lib.hid hy5; have Hb5 := Lib.hid (Hb4.out.trans hb5)
            clear hy5 hb5 HQ z0 zl
            go_wp2_with fail
            go_roundg (xs.length - (k + 1))
            case measure => omega
            case rel =>
              refine ⟨k + 1, os ++ [(x0, x1, x2)], by go_num, by omega, by simp; omega, ?_, Hy5, Hb5⟩
              show pxs (os ++ [(x0, x1, x2)]) = (pxs (xs.take (k + 1))).filter (isElem n)
              rw [Hst.out, pxs_append, pxs_append, pxs_one, List.filter_append, List.filter_cons_of_pos (by simp [Hel.out]), List.filter_nil, ← hos.out]
      · obtain rfl : k = xs.length := by omega
        have Hos := Lib.hid (show pxs os = (pxs xs).filter (isElem n) by have := hos.out; rwa [List.take_length] at this)
        have hWw := (Hb0.out.trans (Hbw.out.mono Hb0.out.size)).size
        have HX40 := Lib.hid (show ∀ y ∈ xs, y.1.length ≤ 40 from fun y hy => H40.out _ (List.mem_map.2 ⟨y, hy, rfl⟩))
        have hx30 : xs.length ≤ 30 := by simpa using hl30
        have HO40 := Lib.hid (show ∀ y ∈ os, y.1.length ≤ 40 from fun y hy => by
          have h : y.1 ∈ pxs os := List.mem_map.2 ⟨y, hy, rfl⟩
          rw [Hos.out] at h
          exact H40.out _ (List.mem_filter.1 h).1)
        have HRa := HR.out wr Hbw.out _ xs ((HX.out wr Hbw.out).keep ((Below.refl _ _).mono hWw) hWw) (by omega) HX40.out
        rw [← HT0.out] at HRa
        have HR1 := Lib.hid HRa
        obtain ⟨⟨y0, y1, y2, y3⟩, -, yl⟩ := (HN2.out.kept hbr.out).f4
        have HWw := Lib.hid hWw
        clear hos HRa hWw
        go_wp2_with fail
        refine HR1.out.mono ?_
        rintro e w3 ⟨rfl, hbel⟩
        have Hb3 := Lib.hid (below_and Hbw.out hbel)
        have Hbn := Lib.hid (below_and hbr.out hbel)
        have HS0 := Lib.hid (fun (w' : World) (hb : Below w3.heap.size w3 w') => (HN2.out.kept (below_and Hbn.out hb)).f4.1)
        have Ho3 := Lib.hid (ho.out.below hbel)
        have HX3 := Lib.hid (fun (w' : World) (hb : Below w3.heap.size w3 w') => HX.out w' (below_and Hb3.out hb))
        have HR3 := Lib.hid (fun (w' : World) (hb : Below w3.heap.size w3 w') => HR.out w' (below_and Hb3.out hb))
        have hW3 : W.heap.size ≤ w3.heap.size := Nat.le_trans HWw.out hbel.size
        have HO3 := Lib.hid (fun (w' : World) (hb : Below w3.heap.size w3 w') => (Ho3.out.below hb).read)
        have HRD := fun (w' : World) (hb : Below w3.heap.size w3 w') => ready_c w'.heap.size _ os w' (Nat.le_refl _) (HO3.out w' hb) (by omega) (fun y hy => by have := HO40.out y hy; omega)
        simp only [Hos.out] at HRD
        have HRD := Lib.hid HRD
        have hos30 : os.length ≤ 100 := by omega
        have HRL := Lib.hid (show (readyL (setL ((pxs xs).filter (isElem n)))).length ≤ 100 from Nat.le_trans ready_of.1 (Nat.le_trans (List.length_filter_le _ _) (by simp; omega)))
        have HRM := Lib.hid (show ∀ p ∈ readyL (setL ((pxs xs).filter (isElem n))), p.length ≤ 40 from fun p hp => H40.out p (List.mem_filter.1 (ready_of.2 p hp)).1)
        have hTT : ((T : Int) == (T : Int)) = true := by simp
        clear hbel HR1 y0 y1 y2 y3 yl HG HX HR HN2 hbr
        go_upto_region 14 with fail
        go_region_held3 (fun w' => w'.cell? ⟨W.heap.size + 1, 0, none⟩ = some (.bool l) ∧ w'.cell? ⟨W.heap.size + 1, 1, none⟩ = some (.slice ap ps.length cp) ∧ w'.cell? ⟨W.heap.size + 1, 2, none⟩ = some (.slice at_ t.length ct) ∧ w'.cell? ⟨W.heap.size + 1, 3, none⟩ = some (.slice ak ks.length ck)) (refine HS0.out _ (by ((repeat (first | with_reducible exact Hb9.out | with_reducible exact Hb8.out | with_reducible exact Hb7.out | with_reducible exact Hb6.out | with_reducible exact Hb5.out | with_reducible exact Hb4.out | with_reducible exact Below.refl _ _ | with_reducible refine Below.drew ?_ | with_reducible refine Below.alloc ?_ ?_ _ | with_reducible refine Below.setCell ?_ ?_ _)) <;> (first | with_reducible exact Nat.le_refl _ | with_reducible exact Hb9.out.size | with_reducible exact Hb8.out.size | with_reducible exact Hb7.out.size | with_reducible exact Hb6.out.size | with_reducible exact Hb5.out.size | with_reducible exact Hb4.out.size | (have hsz := Hb9.out.size; simp [World.setCell]; omega) | (have hsz := Hb8.out.size; simp [World.setCell]; omega) | (have hsz := Hb7.out.size; simp [World.setCell]; omega) | (have hsz := Hb6.out.size; simp [World.setCell]; omega) | (have hsz := Hb5.out.size; simp [World.setCell]; omega) | (have hsz := Hb4.out.size; simp [World.setCell]; omega) | (simp; done) | (simp; omega) | omega))))
          (first
          | (refine step_appx rfl _ _ rfl Try.underlying44 info_slc w3.heap.size (.slice none 0 0) [] ?_ (RowX.nil _ _ _) xs xa xc W.heap.size ?_ (HX3.out _ (by ((repeat (first | with_reducible exact Below.refl _ _ | with_reducible refine Below.drew ?_ | with_reducible refine Below.alloc ?_ ?_ _ | with_reducible refine Below.setCell ?_ ?_ _)) <;> (first | with_reducible exact Nat.le_refl _ | (simp; done) | (simp; omega) | omega)))) hW3 ?_ ?_ ?_ ?_
             · go_simp
             · go_simp
             · exact hW3
             · simp; omega
             · exact Nat.le_refl _
             intro v1 w4 hv1 hb4
             rw [List.nil_append] at hv1
             obtain ⟨v1a, v1c, hvf⟩ := hv1.form
             subst hvf
             have Hb4 := Lib.hid (Below.trans (a := w3) (by ((repeat (first | with_reducible exact Below.refl _ _ | with_reducible refine Below.drew ?_ | with_reducible refine Below.alloc ?_ ?_ _ | with_reducible refine Below.setCell ?_ ?_ _)) <;> (first | with_reducible exact Nat.le_refl _ | (simp; done) | (simp; omega) | omega))) hb4)
             have Hv1 := Lib.hid hv1
             clear hv1 hb4)
          | (refine step_appx rfl _ _ rfl Try.underlying44 info_slc w3.heap.size (.slice v1a xs.length v1c) xs ?_ Hv1.out xs xa xc W.heap.size ?_ (HX3.out _ (by ((repeat (first | with_reducible exact Hb4.out | with_reducible exact Below.refl _ _ | with_reducible refine Below.drew ?_ | with_reducible refine Below.alloc ?_ ?_ _ | with_reducible refine Below.setCell ?_ ?_ _)) <;> (first | with_reducible exact Nat.le_refl _ | with_reducible exact Hb4.out.size | (have hsz := Hb4.out.size; simp [World.setCell]; omega) | (simp; done) | (simp; omega) | omega)))) hW3 ?_ ?_ ?_ ?_
             · go_simp
             · go_simp
             · exact Nat.le_trans hW3 Hb4.out.size
             · omega
             · exact Hb4.out.size
             intro v2 w5 hv2 hb5
             obtain ⟨v2a, v2c, hvf⟩ := hv2.form
             subst hvf
             have Hb5 := Lib.hid (Below.trans (a := w3) (by ((repeat (first | with_reducible exact Hb4.out | with_reducible exact Below.refl _ _ | with_reducible refine Below.drew ?_ | with_reducible refine Below.alloc ?_ ?_ _ | with_reducible refine Below.setCell ?_ ?_ _)) <;> (first | with_reducible exact Nat.le_refl _ | with_reducible exact Hb4.out.size | (have hsz := Hb4.out.size; simp [World.setCell]; omega) | (simp; done) | (simp; omega) | omega))) hb5)
             have Hv2 := Lib.hid hv2
             clear hv2 hb5)
          | (refine step_call rfl 14 _ _ rfl region_ent [.agg #[.bool l, .slice ap ps.length cp, .slice at_ t.length ct, .slice ak ks.length ck], .slice v2a (xs ++ xs).length v2c] ?_ _ (HR3.out _ (by ((repeat (first | with_reducible exact Hb5.out | with_reducible exact Below.refl _ _ | with_reducible refine Below.drew ?_ | with_reducible refine Below.alloc ?_ ?_ _ | with_reducible refine Below.setCell ?_ ?_ _)) <;> (first | with_reducible exact Nat.le_refl _ | with_reducible exact Hb5.out.size | (have hsz := Hb5.out.size; simp [World.setCell]; omega) | (simp; done) | (simp; omega) | omega))) _ (xs ++ xs) Hv2.out.read (by simp; omega) (fun y hy => (List.mem_append.1 hy).elim (HX40.out y) (HX40.out y))) ?_
             · go_simp
             rintro e w6 ⟨rfl, hbel⟩
             rw [HT1.out]
             refine ⟨_, rfl, ?_⟩
             have Hb6 := Lib.hid (below_and (w0 := w3) (by ((repeat (first | with_reducible exact Hb5.out | with_reducible exact Below.refl _ _ | with_reducible refine Below.drew ?_ | with_reducible refine Below.alloc ?_ ?_ _ | with_reducible refine Below.setCell ?_ ?_ _)) <;> (first | with_reducible exact Nat.le_refl _ | with_reducible exact Hb5.out.size | (have hsz := Hb5.out.size; simp [World.setCell]; omega) | (simp; done) | (simp; omega) | omega))) hbel)
             clear hbel)
          | (refine step_callG ?_ 14 _ _ rfl region_ent [.agg #[.bool l, .slice ap ps.length cp, .slice at_ t.length ct, .slice ak ks.length ck], .slice oa os.length oc] ?_ _ (HR3.out _ (by ((repeat (first | with_reducible exact Hb6.out | with_reducible exact Below.refl _ _ | with_reducible refine Below.drew ?_ | with_reducible refine Below.alloc ?_ ?_ _ | with_reducible refine Below.setCell ?_ ?_ _)) <;> (first | with_reducible exact Nat.le_refl _ | with_reducible exact Hb6.out.size | (have hsz := Hb6.out.size; simp [World.setCell]; omega) | (simp; done) | (simp; omega) | omega))) _ os (HO3.out _ (by ((repeat (first | with_reducible exact Hb6.out | with_reducible exact Below.refl _ _ | with_reducible refine Below.drew ?_ | with_reducible refine Below.alloc ?_ ?_ _ | with_reducible refine Below.setCell ?_ ?_ _)) <;> (first | with_reducible exact Nat.le_refl _ | with_reducible exact Hb6.out.size | (have hsz := Hb6.out.size; simp [World.setCell]; omega) | (simp; done) | (simp; omega) | omega)))) hos30 HO40.out) ?_
             · go_simp
             · go_simp
             rintro e w7 ⟨rfl, hbel⟩
             rw [Hos.out, HT2.out]
             refine ⟨_, rfl, ?_⟩
             have Hb7 := Lib.hid (below_and (w0 := w3) (by ((repeat (first | with_reducible exact Hb6.out | with_reducible exact Below.refl _ _ | with_reducible refine Below.drew ?_ | with_reducible refine Below.alloc ?_ ?_ _ | with_reducible refine Below.setCell ?_ ?_ _)) <;> (first | with_reducible exact Nat.le_refl _ | with_reducible exact Hb6.out.size | (have hsz := Hb6.out.size; simp [World.setCell]; omega) | (simp; done) | (simp; omega) | omega))) hbel)
             clear hbel)
          | (refine step_callG ?_ 15 _ _ rfl ready_ent [.slice oa os.length oc] ?_ _ (HRD.out _ (by ((repeat (first | with_reducible exact Hb7.out | with_reducible exact Below.refl _ _ | with_reducible refine Below.drew ?_ | with_reducible refine Below.alloc ?_ ?_ _ | with_reducible refine Below.setCell ?_ ?_ _)) <;> (first | with_reducible exact Nat.le_refl _ | with_reducible exact Hb7.out.size | (have hsz := Hb7.out.size; simp [World.setCell]; omega) | (simp; done) | (simp; omega) | omega)))) ?_
             · go_simp
             · go_simp
             rintro e w8 ⟨vr, rs, rfl, hrs, hrp, hbel⟩
             obtain ⟨ra, rc, hvf⟩ := hrs.form
             subst hvf
             refine ⟨_, rfl, ?_⟩
             have Hb8 := Lib.hid (below_and (w0 := w3) (by ((repeat (first | with_reducible exact Hb7.out | with_reducible exact Below.refl _ _ | with_reducible refine Below.drew ?_ | with_reducible refine Below.alloc ?_ ?_ _ | with_reducible refine Below.setCell ?_ ?_ _)) <;> (first | with_reducible exact Nat.le_refl _ | with_reducible exact Hb7.out.size | (have hsz := Hb7.out.size; simp [World.setCell]; omega) | (simp; done) | (simp; omega) | omega))) hbel)
             have Hrs := Lib.hid hrs; have Hrp := Lib.hid hrp
             have Hrl := Lib.hid (show rs.length ≤ 100 by have h := congrArg List.length hrp; have := HRL.out; rw [← h] at this; simpa using this)
             have Hrm := Lib.hid (show ∀ y ∈ rs, y.1.length ≤ 40 from fun y hy => HRM.out _ (by rw [← hrp]; exact List.mem_map.2 ⟨y, hy, rfl⟩))
             clear hbel hrs hrp)
          | (refine step_callG ?_ 14 _ _ rfl region_ent [.agg #[.bool l, .slice ap ps.length cp, .slice at_ t.length ct, .slice ak ks.length ck], .slice ra rs.length rc] ?_ _ (HR3.out _ (by ((repeat (first | with_reducible exact Hb8.out | with_reducible exact Below.refl _ _ | with_reducible refine Below.drew ?_ | with_reducible refine Below.alloc ?_ ?_ _ | with_reducible refine Below.setCell ?_ ?_ _)) <;> (first | with_reducible exact Nat.le_refl _ | with_reducible exact Hb8.out.size | (have hsz := Hb8.out.size; simp [World.setCell]; omega) | (simp; done) | (simp; omega) | omega))) _ rs Hrs.out.read Hrl.out Hrm.out) ?_
             · go_simp
             · go_simp
             rintro e w9 ⟨rfl, hbel⟩
             rw [Hrp.out, HT3.out]
             refine ⟨_, rfl, ?_⟩
             have Hb9 := Lib.hid (below_and (w0 := w3) (by ((repeat (first | with_reducible exact Hb8.out | with_reducible exact Below.refl _ _ | with_reducible refine Below.drew ?_ | with_reducible refine Below.alloc ?_ ?_ _ | with_reducible refine Below.setCell ?_ ?_ _)) <;> (first | with_reducible exact Nat.le_refl _ | with_reducible exact Hb8.out.size | (have hsz := Hb8.out.size; simp [World.setCell]; omega) | (simp; done) | (simp; omega) | omega))) hbel)
             clear hbel))
        all_goals
          go_wp2_with fail
          go_ret
          exact ⟨rfl, Hb0.out.trans ((below_and Hb3.out Hb9.out).mono Hb0.out.size)⟩

end Go.Proofs.Ytiinmgccjlmoaaa
namespace Go.Proofs.Ytiinmgccjlmoaaa
open Go.RowKit Go.Redl
set_option linter.unusedVariables false
set_option linter.unusedSimpArgs false

/-- A path put behind an own row, in a region that draws. -/
theorem step_pushx {P : Program} {ops : Array Oper} {o : Oper} {a : Act} {w : World} {K : Act → World → Prop} {Q : Exit → Act → World → Prop} {E : Prop}
    (hg : o.guard = none) (s x : Operand) (ho : o.op = .call { callee := .builtin .append, args := #[s, x], argTypes := #[44, 44] })
    (ht : P.underlying 44 = some (.slice 36)) (hi : (P.info? 36).map (fun i => (i.zero, i.size, i.bytes)) = some (some (.slice none 0 0), 1, 24))
    (M : Nat) (v : Value) (xs : List PX) (hs : a.eval s = v) (hO : RowX w M 0 v xs) (y : PX) (ad : Addr) (B : Nat) (hx : a.eval x = .slice (some ad) 1 1) (hr : RowA w B 1 (some ad) 1 1 [pxV y]) (hq : PxQ w (fun b => 0 ≤ b ∧ v.ownBlock ≠ some b) y)
    (hn : xs.length ≤ 100000000) (hM : M ≤ w.heap.size)
    (h : ∀ v' w', RowX w' M 0 v' (xs ++ [y]) → Below M w w' → K (a.put o.dst v') w') : if Region.wanted o (yielded ops a.tmps) = true then Oper.wp P o a w K Q else E := by
  refine step_app2 hg s x 44 ho M 36 (.slice none 0 0) 1 24 ht hi rfl (by decide) v xs.length (xs.map pxV) hs hO.own ad 1 1 B [pxV y] hx hr (by unfold maxLen; omega) (by omega) hM fun v' w' hown hgrow hwh => ?_
  refine h v' w' ⟨by rw [List.length_append, List.map_append]; exact hown, fun z hz => ?_⟩ ((Below.refl M w).grown hgrow hM (fun k hk => hO.ge k hk))
  have hall : PxQ w (fun b => 0 ≤ b ∧ v.ownBlock ≠ some b) z := by
    rcases List.mem_append.1 hz with hz | hz
    · exact hO.all z hz
    · rw [List.mem_singleton.1 hz]; exact hq
  refine hall.keep hgrow.size (fun b hb hlt => hgrow.block b hlt (fun e => hb.2 e.symm)) fun b hb hlt => ⟨Nat.zero_le _, ?_⟩
  rcases hwh with e | e
  · rw [e]; exact hb.2
  · intro e2; have := e b e2; omega

/-- The same as step_appx, telling which blocks stay. -/
theorem step_appg {P : Program} {ops : Array Oper} {o : Oper} {a : Act} {w : World} {K : Act → World → Prop} {Q : Exit → Act → World → Prop} {E : Prop}
    (hg : o.guard = none) (s x : Operand) (ho : o.op = .call { callee := .builtin .append, args := #[s, x], argTypes := #[44, 44] })
    (ht : P.underlying 44 = some (.slice 36)) (hi : (P.info? 36).map (fun i => (i.zero, i.size, i.bytes)) = some (some (.slice none 0 0), 1, 24))
    (M : Nat) (v : Value) (xs : List PX) (hs : a.eval s = v) (hO : RowX w M 0 v xs) (ys : List PX) (ya : Option Addr) (yc B : Nat) (hx : a.eval x = .slice ya ys.length yc) (hr : ReadX w B (.slice ya ys.length yc) ys) (hBM : B ≤ M) (hB : B ≤ w.heap.size)
    (hn : xs.length + ys.length ≤ 100000000) (hM : M ≤ w.heap.size)
    (h : ∀ v' w', RowX w' M 0 v' (xs ++ ys) → Below M w w' → w.grownBy w' v.ownBlock → K (a.put o.dst v') w') : if Region.wanted o (yielded ops a.tmps) = true then Oper.wp P o a w K Q else E := by
  cases ya with
  | none =>
    obtain ⟨a', c', hv, hrow⟩ := hr.row
    injection hv with e1 e2 e3
    subst e1; subst e3
    have hc0 : yc = 0 := hrow.nil rfl
    have hn0 : ys.length = 0 := by have := hrow.le; omega
    obtain rfl : ys = [] := List.eq_nil_of_length_eq_zero hn0
    subst hc0
    have hw : Region.wanted o (yielded ops a.tmps) = true := by simp [Region.wanted, hg]
    rw [if_pos hw]
    obtain ⟨i, hi', -, hsize, -⟩ := info_parts hi
    have hrun := run_append_owned_none (P := P) (w := w) M 44 o.type 36 i 1 ht hi' v xs.length (xs.map pxV) hO.own
    unfold Oper.wp execOp
    simp only [ho, resolve, invoke, builtin, Sem.run_bind, Sem.run_pure, Result.andThen_ok, List.map_toArray, List.map_cons, List.map_nil, hs, hx, List.length_nil, hrun]
    exact h v w (by rw [List.append_nil]; exact hO) (Below.refl _ _) (World.grownBy.refl _ _)
  | some ad =>
    obtain ⟨a', c', hv, hrow⟩ := hr.row
    injection hv with e1 e2 e3
    subst e1; subst e3
    refine step_app2 hg s x 44 ho M 36 (.slice none 0 0) 1 24 ht hi rfl (by decide) v xs.length (xs.map pxV) hs hO.own ad ys.length yc B (ys.map pxV) hx hrow (by unfold maxLen; omega) (by omega) hM fun v' w' hown hgrow hwh => ?_
    exact h v' w' (RowX.join hO hr hBM hB hgrow hown hwh) ((Below.refl M w).grown hgrow hM (fun k hk => hO.ge k hk)) hgrow
theorem row_of_at {w : World} {N : Nat} {v : Value} {T : TypeId} (h : At w N [v] T) (h1 : v.oneCell' = true) : RowA w (N + 1) 1 (some ⟨N, 0, none⟩) 1 1 [v] :=
  ⟨by simp, Nat.le_refl _, by unfold maxLen; omega, by simp [h1], (fun h => by cases h), fun _ => ⟨N, 0, rfl, by omega, fun j u hj => by rw [Nat.zero_add]; exact h.cell j hj⟩⟩
theorem At.drewn {w : World} {N : Nat} {cs : List Value} {T : TypeId} (h : At w N cs T) : At w.drew N cs T := h
theorem sumA_drop {ks : List NodeD} {k : Nat} (h : k < ks.length) : sumA (ks.drop k) = regA ks[k] + sumA (ks.drop (k + 1)) := by
  unfold sumA; rw [List.drop_eq_getElem_cons h, List.map_cons, List.sum_cons]

set_option maxRecDepth 100000 in
set_option maxHeartbeats 8000000 in
theorem weightall_walk (s : SchemaD) (n : NodeD) (u v : Value) (vx : Value) (xs : List PX) (p : List Int) (pa : Option Addr) (pc : Nat) (W : World) (hs : s.wt ≤ 1048576) (hn : n.wt ≤ 1048576) (hxl : xs.length ≤ 1048576) (hpl : p.length ≤ 1048576) (hu : SchemaV W W.heap.size s u) (hv : NodeV W W.heap.size n v) (hx : ReadX W W.heap.size vx xs) (hp : RowA W W.heap.size 1 pa p.length pc (p.map (Value.int .i64))) :
    Calls Try.prog 5 #[u, v, vx, .slice pa p.length pc] W (fun e w' => e = .returned (.bool true) ∧ Below W.heap.size W w') := by
  have hu0 := hu; have hv0 := hv
  obtain ⟨l, ps, t, ks⟩ := n
  obtain ⟨a, c, css, ea, ec, o0, o1, o2, o3, o4, o5, rfl, -, -, -, -⟩ := hu0.open
  obtain ⟨ap, cp, at_, ct, ak, ck, cs4, rfl, -, -, hkr, hkc⟩ := hv0.open
  have hkw : wtAll ks ≤ 1048576 := by simp only [NodeD.wt] at hn; omega
  have hkl : ks.length ≤ 1048576 := Nat.le_trans (wtAll_len ks) hkw
  have HF1 := Lib.hid (show l = false → regA (.mk l ps t ks) = (allN (.mk l ps t ks)).length from fun h => regA_elem hn h)
  have HF2 := Lib.hid (show l = true → regA (.mk l ps t ks) = sumA ks from fun h => regA_leaf hn h)
  have HF3 := Lib.hid (sumA_le hkw)
  generalize NodeD.mk l ps t ks = n at hn hv HF1 HF2 ⊢
  obtain ⟨xa, xc, rfl, -⟩ := hx.row
  obtain ⟨w0, hw0⟩ : ∃ w0, w0 = (W.alloc (Obj.cells #[.slice a s.rules.length c, strV s.els.type, .int .i64 s.els.text.1, strV s.els.text.2, .int .i64 s.els.other.1, strV s.els.other.2, .slice ea s.els.kids.length ec, .int .i64 s.els.fill, strV s.els.fillT, .int .i64 o0, .int .i64 o1, .int .i64 o2, .int .i64 o3, .int .i64 o4, .int .i64 o5, .int .i64 s.cap] 30)).alloc (Obj.cells #[.bool l, .slice ap ps.length cp, .slice at_ t.length ct, .slice ak ks.length ck] 35) := ⟨_, rfl⟩
  have hb0 : Below W.heap.size W w0 := by rw [hw0]; exact (one_below _ _).trans ((one_below _ _).mono (one_below _ _).size)
  have hA : At w0 W.heap.size [.slice a s.rules.length c, strV s.els.type, .int .i64 s.els.text.1, strV s.els.text.2, .int .i64 s.els.other.1, strV s.els.other.2, .slice ea s.els.kids.length ec, .int .i64 s.els.fill, strV s.els.fillT, .int .i64 o0, .int .i64 o1, .int .i64 o2, .int .i64 o3, .int .i64 o4, .int .i64 o5, .int .i64 s.cap] 30 := by rw [hw0]; exact (At.fresh W _ _).alloc _
  have hN : At w0 (W.heap.size + 1) [.bool l, .slice ap ps.length cp, .slice at_ t.length ct, .slice ak ks.length ck] 35 := by rw [hw0]; exact At.second W _ _ _
  have HF := Lib.hid (fun (w' : World) (hb : Below w0.heap.size w0 w') => few19_c s n _ _ _ xs none 0 0 w' (by omega) (by omega) (by omega) (by simp) (hu.keep (hb0.trans (hb.mono hb0.size)) (hb0.trans (hb.mono hb0.size)).size) (hv.keep (hb0.trans (hb.mono hb0.size)) (hb0.trans (hb.mono hb0.size)).size) (hx.keep (hb0.trans (hb.mono hb0.size)) (hb0.trans (hb.mono hb0.size)).size))
  have HL := Lib.hid (live19_c w0)
  have HA := Lib.hid hA; have HN := Lib.hid hN
  have Hb0 := Lib.hid hb0; have Hw0 := Lib.hid hw0
  have hld := fun (w' : World) (h : At w' W.heap.size [.slice a s.rules.length c, strV s.els.type, .int .i64 s.els.text.1, strV s.els.text.2, .int .i64 s.els.other.1, strV s.els.other.2, .slice ea s.els.kids.length ec, .int .i64 s.els.fill, strV s.els.fillT, .int .i64 o0, .int .i64 o1, .int .i64 o2, .int .i64 o3, .int .i64 o4, .int .i64 o5, .int .i64 s.cap] 30) => ldx (P := Try.prog) h Try.underlying30 rfl (by kernel_rfl)
  simp [go_sem] at hld
  cases hsm : small19 s n (pxs xs) 0 with
  | false =>
    rw [hsm] at HF
    clear hu hv hu0 hv0 hs hn hb0 hw0 hA hN hx hsm hp hkr hkc
    go_enter Try.func5, Try.ntmps5
    go_upto_region 1 with fail
    rw [← Hw0.out]
    clear Hw0
    go_wp2_with fail
    refine HL.out.mono ?_
    rintro e w1 ⟨rfl, hbel⟩
    have Hb1 := Lib.hid hbel
    have hS := hld w1 (HA.out.kept hbel)
    obtain ⟨⟨y0, y1, y2, y3⟩, -, yl⟩ := (HN.out.kept hbel).f4
    have HF1 := Lib.hid (HF.out w1 hbel)
    clear hbel HL HF hld
    go_wp2_with fail
    refine HF1.out.mono ?_
    rintro e w2 ⟨rfl, hbel⟩
    have Hb2 := Lib.hid (Hb0.out.trans ((below_and Hb1.out hbel).mono Hb0.out.size))
    clear hbel HF1 hS y0 y1 y2 y3 yl
    go_wp2_with fail
    go_ret
    exact ⟨rfl, Hb2.out⟩
  | true =>
    rw [hsm] at HF
    by_cases h40 : 40 < p.length
    · have h40i : (40 : Int) < p.length := by omega
      clear hu hv hu0 hv0 hs hn hb0 hw0 hA hN hx hsm hp hkr hkc
      go_enter Try.func5, Try.ntmps5
      go_upto_region 1 with fail
      rw [← Hw0.out]
      clear Hw0
      go_wp2_with fail
      refine HL.out.mono ?_
      rintro e w1 ⟨rfl, hbel⟩
      have Hb1 := Lib.hid hbel
      have hS := hld w1 (HA.out.kept hbel)
      obtain ⟨⟨y0, y1, y2, y3⟩, -, yl⟩ := (HN.out.kept hbel).f4
      have HF1 := Lib.hid (HF.out w1 hbel)
      clear hbel HL HF hld
      go_wp2_with fail
      refine HF1.out.mono ?_
      rintro e w2 ⟨rfl, hbel⟩
      have Hb2 := Lib.hid (Hb0.out.trans ((below_and Hb1.out hbel).mono Hb0.out.size))
      clear hbel HF1 hS y0 y1 y2 y3 yl
      go_wp2_with fail
      go_ret
      exact ⟨rfl, Hb2.out⟩
    · have h40i : ¬ (40 : Int) < p.length := by omega
      obtain ⟨hl40, hl30⟩ := small19_lens hsm
      have hx30 : xs.length ≤ 30 := by simpa using hl30
      have HX := Lib.hid (fun (w' : World) (hb : Below w0.heap.size w0 w') => hx.keep (hb0.trans (hb.mono hb0.size)) (Nat.le_refl _))
      have HX40 := Lib.hid (show ∀ y ∈ xs, y.1.length ≤ 100000000 from fun y hy => by have := hl40 _ (List.mem_map.2 ⟨y, hy, rfl⟩); omega)
      have HPR := Lib.hid (fun (w' : World) (hb : Below w0.heap.size w0 w') => hp.keep (hb0.trans (hb.mono hb0.size)) (Nat.le_refl _))
      have HD := Lib.hid (fun (w' : World) (hb : Below w0.heap.size w0 w') => dall_c n _ w'.heap.size w' (by omega) (hv.keep (hb0.trans (hb.mono hb0.size)) (hb0.trans (hb.mono hb0.size)).size) (Nat.le_refl _))
      have HP := Lib.hid (fun (w' : World) (hb : Below w0.heap.size w0 w') => allX_c n _ w' (by omega) (hv.keep (hb0.trans (hb.mono hb0.size)) (hb0.trans (hb.mono hb0.size)).size))
      have HR := Lib.hid (fun (w1 : World) (hb : Below w0.heap.size w0 w1) (u : Value) (ys : List PX) (hy : ReadX w1 w1.heap.size u ys) (h1 : ys.length ≤ 100000000) (h2 : ∀ y ∈ ys, y.1.length ≤ 100000000) => region_c n _ w1.heap.size u ys w1 (by omega) (hv.keep (hb0.trans (hb.mono hb0.size)) (hb0.trans (hb.mono hb0.size)).size) (Nat.le_refl _) hy h1 h2)
      have HK := Lib.hid (fun (w' : World) (hb : Below w0.heap.size w0 w') => And.intro (hkr.keep (hb0.trans (hb.mono hb0.size)) (hb0.trans (hb.mono hb0.size)).size) (KidsC.keep (hb0.trans (hb.mono hb0.size)) (hb0.trans (hb.mono hb0.size)).size ks cs4 hkc))
      have HW := Lib.hid hn
      have HM1 := Lib.hid (regA_most hn (pxs xs ++ [p])); have HM2 := Lib.hid (reg_more hn (pxs xs) [p])
      have HKw := Lib.hid hkw
      clear hu hv hu0 hv0 hs hb0 hw0 hA hN hx hsm hp hkr hkc hl40 hl30 h40 hn hkw
      go_enter Try.func5, Try.ntmps5
      go_upto_region 1 with fail
      rw [← Hw0.out]
      clear Hw0
      go_wp2_with fail
      refine HL.out.mono ?_
      rintro e w1 ⟨rfl, hbel⟩
      have Hb1 := Lib.hid hbel
      have hS := hld w1 (HA.out.kept hbel)
      obtain ⟨⟨y0, y1, y2, y3⟩, -, yl⟩ := (HN.out.kept hbel).f4
      have HFx := Lib.hid (HF.out w1 hbel)
      clear hbel HL HF hld
      go_wp2_with fail
      refine HFx.out.mono ?_
      rintro e w2 ⟨rfl, hbel⟩
      have Hb2 := Lib.hid (below_and Hb1.out hbel)
      clear hbel HFx hS y0 y1 y2 y3 yl HA
      have HS0 := Lib.hid (fun (w' : World) (hb : Below w2.heap.size w2 w') => (HN.out.kept (below_and Hb2.out hb)).f4.1)
      have HD2 := Lib.hid (fun (w' : World) (hb : Below w2.heap.size w2 w') => HD.out w' (below_and Hb2.out hb))
      have HR2 := Lib.hid (fun (w' : World) (hb : Below w2.heap.size w2 w') => HR.out w' (below_and Hb2.out hb))
      go_upto_region 5 with fail
      go_region_held3 (fun w' => w'.cell? ⟨W.heap.size + 1, 0, none⟩ = some (.bool l) ∧ w'.cell? ⟨W.heap.size + 1, 1, none⟩ = some (.slice ap ps.length cp) ∧ w'.cell? ⟨W.heap.size + 1, 2, none⟩ = some (.slice at_ t.length ct) ∧ w'.cell? ⟨W.heap.size + 1, 3, none⟩ = some (.slice ak ks.length ck)) (refine HS0.out _ (by ((repeat (first | with_reducible exact HbB.out | with_reducible exact HbA.out | with_reducible exact Below.refl _ _ | with_reducible refine Below.drew ?_ | with_reducible refine Below.alloc ?_ ?_ _ | with_reducible refine Below.setCell ?_ ?_ _)) <;> (first | with_reducible exact Nat.le_refl _ | with_reducible exact HbB.out.size | with_reducible exact HbA.out.size | (have hsz := HbB.out.size; simp [World.setCell]; omega) | (have hsz := HbA.out.size; simp [World.setCell]; omega) | (simp; done) | (simp; omega) | omega))))
        (first
      | (refine step_call rfl 16 _ _ rfl dall_ent [.agg #[.bool l, .slice ap ps.length cp, .slice at_ t.length ct, .slice ak ks.length ck]] ?_ _ (HD2.out _ (by ((repeat (first | with_reducible exact Below.refl _ _ | with_reducible refine Below.drew ?_ | with_reducible refine Below.alloc ?_ ?_ _ | with_reducible refine Below.setCell ?_ ?_ _)) <;> (first | with_reducible exact Nat.le_refl _ | (simp; done) | (simp; omega) | omega)))) ?_
         · go_simp
         rintro e wA ⟨ru, rs, rfl, hrs, hrp, hbel⟩
         obtain ⟨ra, rc, hrf⟩ := hrs.form
         subst hrf
         refine ⟨_, rfl, ?_⟩
         have HbA := Lib.hid (below_and (w0 := w2) (by ((repeat (first | with_reducible exact Below.refl _ _ | with_reducible refine Below.drew ?_ | with_reducible refine Below.alloc ?_ ?_ _ | with_reducible refine Below.setCell ?_ ?_ _)) <;> (first | with_reducible exact Nat.le_refl _ | (simp; done) | (simp; omega) | omega))) hbel)
         have Hrs := Lib.hid hrs
         have Hrl := Lib.hid (show rs.length ≤ 100000000 by have h := congrArg List.length hrp; have h2 := (elems_long (n := n)).1; rw [← h] at h2; have h3 := HW.out; simp at h2; omega)
         have Hrm := Lib.hid (show ∀ y ∈ rs, y.1.length ≤ 100000000 from fun y hy => by
           have h2 := (elems_long (n := n)).2 y.1 (by rw [← hrp]; exact List.mem_map.2 ⟨y, hy, rfl⟩)
           have h3 := HW.out
           omega)
         have Hrp := Lib.hid (show regN n (pxs rs) = regA n by rw [hrp]; rfl)
         clear hbel hrs hrp)
      | (refine step_call rfl 14 _ _ rfl region_ent [.agg #[.bool l, .slice ap ps.length cp, .slice at_ t.length ct, .slice ak ks.length ck], .slice ra rs.length rc] ?_ _ (HR2.out _ (by ((repeat (first | with_reducible exact HbA.out | with_reducible exact Below.refl _ _ | with_reducible refine Below.drew ?_ | with_reducible refine Below.alloc ?_ ?_ _ | with_reducible refine Below.setCell ?_ ?_ _)) <;> (first | with_reducible exact Nat.le_refl _ | with_reducible exact HbA.out.size | (have hsz := HbA.out.size; simp [World.setCell]; omega) | (simp; done) | (simp; omega) | omega))) _ rs Hrs.out.read Hrl.out Hrm.out) ?_
         · go_simp
         rintro e wB ⟨rfl, hbel⟩
         rw [Hrp.out]
         refine ⟨_, rfl, ?_⟩
         have HbB := Lib.hid (below_and (w0 := w2) (by ((repeat (first | with_reducible exact HbA.out | with_reducible exact Below.refl _ _ | with_reducible refine Below.drew ?_ | with_reducible refine Below.alloc ?_ ?_ _ | with_reducible refine Below.setCell ?_ ?_ _)) <;> (first | with_reducible exact Nat.le_refl _ | with_reducible exact HbA.out.size | (have hsz := HbA.out.size; simp [World.setCell]; omega) | (simp; done) | (simp; omega) | omega))) hbel)
         clear hbel))
      all_goals
        have Hb3 := Lib.hid (below_and Hb2.out HbB.out)
        obtain ⟨A, hAr⟩ : ∃ A, A = regA n := ⟨_, rfl⟩
        rw [← hAr] at HF1 HF2 HM1
        rw [← hAr]
        have HAr := Lib.hid hAr
        clear hAr HD2 HR2 HS0
        have HP1 := Lib.hid (HP.out wB Hb3.out)
        obtain ⟨⟨y0, y1, y2, y3⟩, -, yl⟩ := (HN.out.kept Hb3.out).f4
        go_wp2_with fail
        refine HP1.out.mono ?_
        rintro e w4 ⟨fu, fs, rfl, hfs, hfp, hbel⟩
        obtain ⟨fa, fc, hff⟩ := hfs.form
        subst hff
        have Hfl := Lib.hid (show fs.length = (allN n).length by rw [← hfp]; simp)
        have Hb4 := Lib.hid (below_and Hb3.out hbel)
        clear hbel HP1 hfs hfp y0 y1 y2 y3 yl HP
        obtain ⟨⟨y0, y1, y2, y3⟩, -, yl⟩ := (HN.out.kept Hb4.out).f4
        go_upto_if 35 with fail
        go_cut [10] (fun m wx => m = .int .i64 A ∧ Hid (Below w4.heap.size w4 wx))
        case first =>
          cases l with
          | false =>
            have hfA : fs.length = A := by rw [Hfl.out, HF1.out rfl]
            go_wp2_with fail
            go_meet
            case rel => exact ⟨rfl, Below.refl _ _⟩
          | true =>
            have HAs := Lib.hid (show A = sumA ks from HF2.out rfl)
            have hA20 : A ≤ 1048576 := by have h1 := HAs.out; have h2 := HF3.out; have h3 := HKw.out; omega
            go_wp2_with fail
            go_loopg [39, 10] ks.length (fun g i m wr => ∃ k r : Nat, i = .int .i64 k ∧ m = .int .i64 r ∧ k + g = ks.length ∧ Hid (r + sumA (ks.drop k) = A) ∧ Hid (Below w4.heap.size w4 wr))
            case atStart => exact ⟨0, 0, rfl, rfl, by omega, (show 0 + sumA (ks.drop 0) = A by rw [HAs.out]; simp), Below.refl _ _⟩
            case round =>
              obtain ⟨k, r, rfl, rfl, hg, hst, hbr⟩ := hrel
              have Hbw := Lib.hid (below_and Hb4.out hbr.out)
              by_cases hlt : k < ks.length
              · have hlti : (k : Int) < ks.length := by omega
                obtain ⟨hk3, hc3⟩ := HK.out wr Hbw.out
                obtain ⟨kb, ko, lk, a1, n1, c1, a2, n2, c2, a3, n3, c3, rfl, hkb, hkn, g0, g1, g2, g3⟩ := hk3.kid_at hc3 k hlt
                have Hst := Lib.hid (show r + (regA ks[k] + sumA (ks.drop (k + 1))) = A by
                  have h := hst.out
                  rw [sumA_drop hlt] at h
                  exact h)
                have Hqw := Lib.hid (show ks[k].wt ≤ 1048576 by have := wtAll_mem (List.getElem_mem hlt); have := HKw.out; omega)
                generalize ks[k] = q at hkn Hst Hqw
                obtain ⟨B, hB⟩ : ∃ B, B = regA q := ⟨_, rfl⟩
                rw [← hB] at Hst
                have HB0 := Lib.hid hB
                have hrB : r + B ≤ 1048576 := by have := Hst.out; omega
                have hwr : IntKind.i64.wrap ((r : Int) + (B : Int)) = ((r + B : Nat) : Int) := (IntWalk.i64_in _ (by omega)).trans (by omega)
                obtain ⟨w5, hw5⟩ : ∃ w5, w5 = wr.alloc (Obj.cells #[.bool lk, .slice a1 n1 c1, .slice a2 n2 c2, .slice a3 n3 c3] 35) := ⟨_, rfl⟩
                have hb5 : Below wr.heap.size wr w5 := by rw [hw5]; exact one_below _ _
                have hA5 : At w5 wr.heap.size [.bool lk, .slice a1 n1 c1, .slice a2 n2 c2, .slice a3 n3 c3] 35 := by rw [hw5]; exact At.fresh wr _ _
                have HS5 := Lib.hid (fun (w' : World) (hb : Below w5.heap.size w5 w') => (hA5.kept hb).f4.1)
                have HD5 := Lib.hid (fun (w' : World) (hb : Below w5.heap.size w5 w') => dall_c q (.agg #[.bool lk, .slice a1 n1 c1, .slice a2 n2 c2, .slice a3 n3 c3]) w'.heap.size w' (by have := Hqw.out; omega) ⟨_, rfl, NodeC.keep (hb5.trans (hb.mono hb5.size)) (hb5.trans (hb.mono hb5.size)).size _ _ hkn⟩ (Nat.le_refl _))
                have HR5 := Lib.hid (fun (w' : World) (hb : Below w5.heap.size w5 w') (u : Value) (ys : List PX) (hy : ReadX w' w'.heap.size u ys) (h1 : ys.length ≤ 100000000) (h2 : ∀ y ∈ ys, y.1.length ≤ 100000000) => region_c q (.agg #[.bool lk, .slice a1 n1 c1, .slice a2 n2 c2, .slice a3 n3 c3]) w'.heap.size u ys w' (by have := Hqw.out; omega) ⟨_, rfl, NodeC.keep (hb5.trans (hb.mono hb5.size)) (hb5.trans (hb.mono hb5.size)).size _ _ hkn⟩ (Nat.le_refl _) hy h1 h2)
                have Hw5 := Lib.hid hw5
                have Hb5 := Lib.hid ((hbr.out.trans (hb5.mono hbr.out.size)))
                clear hw5 hb5 hA5 hk3 hc3 hkn hst hB
                go_upto_region 12 with fail
                rw [← Hw5.out]
                clear Hw5 g0 g1 g2 g3
                go_region_held3 (fun w' => w'.cell? ⟨wr.heap.size, 0, none⟩ = some (.bool lk) ∧ w'.cell? ⟨wr.heap.size, 1, none⟩ = some (.slice a1 n1 c1) ∧ w'.cell? ⟨wr.heap.size, 2, none⟩ = some (.slice a2 n2 c2) ∧ w'.cell? ⟨wr.heap.size, 3, none⟩ = some (.slice a3 n3 c3)) (refine HS5.out _ (by ((repeat (first | with_reducible exact HbD.out | with_reducible exact HbC.out | with_reducible exact Below.refl _ _ | with_reducible refine Below.drew ?_ | with_reducible refine Below.alloc ?_ ?_ _ | with_reducible refine Below.setCell ?_ ?_ _)) <;> (first | with_reducible exact Nat.le_refl _ | with_reducible exact HbD.out.size | with_reducible exact HbC.out.size | (have hsz := HbD.out.size; simp [World.setCell]; omega) | (have hsz := HbC.out.size; simp [World.setCell]; omega) | (simp; done) | (simp; omega) | omega))))
                  (first
                  | (refine step_call rfl 16 _ _ rfl dall_ent [.agg #[.bool lk, .slice a1 n1 c1, .slice a2 n2 c2, .slice a3 n3 c3]] ?_ _ (HD5.out _ (by ((repeat (first | with_reducible exact Below.refl _ _ | with_reducible refine Below.drew ?_ | with_reducible refine Below.alloc ?_ ?_ _ | with_reducible refine Below.setCell ?_ ?_ _)) <;> (first | with_reducible exact Nat.le_refl _ | (simp; done) | (simp; omega) | omega)))) ?_
                     · go_simp
                     rintro e wC ⟨ru, rs, rfl, hrs, hrp, hbel⟩
                     obtain ⟨ra, rc, hrf⟩ := hrs.form
                     subst hrf
                     refine ⟨_, rfl, ?_⟩
                     have HbC := Lib.hid (below_and (w0 := w5) (by ((repeat (first | with_reducible exact Below.refl _ _ | with_reducible refine Below.drew ?_ | with_reducible refine Below.alloc ?_ ?_ _ | with_reducible refine Below.setCell ?_ ?_ _)) <;> (first | with_reducible exact Nat.le_refl _ | (simp; done) | (simp; omega) | omega))) hbel)
                     have Hrs := Lib.hid hrs
                     have Hrl := Lib.hid (show rs.length ≤ 100000000 by have h := congrArg List.length hrp; have h2 := (elems_long (n := q)).1; rw [← h] at h2; have h3 := Hqw.out; simp at h2; omega)
                     have Hrm := Lib.hid (show ∀ y ∈ rs, y.1.length ≤ 100000000 from fun y hy => by
                       have h2 := (elems_long (n := q)).2 y.1 (by rw [← hrp]; exact List.mem_map.2 ⟨y, hy, rfl⟩)
                       have h3 := Hqw.out
                       omega)
                     have Hrp := Lib.hid (show regN q (pxs rs) = B by rw [HB0.out, hrp]; rfl)
                     clear hbel hrs hrp)
                  | (refine step_call rfl 14 _ _ rfl region_ent [.agg #[.bool lk, .slice a1 n1 c1, .slice a2 n2 c2, .slice a3 n3 c3], .slice ra rs.length rc] ?_ _ (HR5.out _ (by ((repeat (first | with_reducible exact HbC.out | with_reducible exact Below.refl _ _ | with_reducible refine Below.drew ?_ | with_reducible refine Below.alloc ?_ ?_ _ | with_reducible refine Below.setCell ?_ ?_ _)) <;> (first | with_reducible exact Nat.le_refl _ | with_reducible exact HbC.out.size | (have hsz := HbC.out.size; simp [World.setCell]; omega) | (simp; done) | (simp; omega) | omega))) _ rs Hrs.out.read Hrl.out Hrm.out) ?_
                     · go_simp
                     rintro e wD ⟨rfl, hbel⟩
                     rw [Hrp.out]
                     refine ⟨_, rfl, ?_⟩
                     have HbD := Lib.hid (below_and (w0 := w5) (by ((repeat (first | with_reducible exact HbC.out | with_reducible exact Below.refl _ _ | with_reducible refine Below.drew ?_ | with_reducible refine Below.alloc ?_ ?_ _ | with_reducible refine Below.setCell ?_ ?_ _)) <;> (first | with_reducible exact Nat.le_refl _ | with_reducible exact HbC.out.size | (have hsz := HbC.out.size; simp [World.setCell]; omega) | (simp; done) | (simp; omega) | omega))) hbel)
                     clear hbel))
                all_goals
                  go_wp2_with fail
                  go_roundg (ks.length - (k + 1))
                  case measure => omega
                  case rel => exact ⟨k + 1, r + B, by go_num, rfl, by omega, (show (r + B) + sumA (ks.drop (k + 1)) = A by have h := Hst.out; rw [← Nat.add_assoc] at h; exact h), (show Below _ _ _ from Hb5.out.trans (HbD.out.mono Hb5.out.size))⟩
              · obtain rfl : k = ks.length := by omega
                have Hfin := Lib.hid (show r = A by have h := hst.out; rw [List.drop_length] at h; simpa [sumA] using h)
                clear hst
                go_wp2_with fail
                go_meet
                case rel => exact ⟨by rw [Hfin.out], hbr⟩
        case rest =>
          obtain ⟨rfl, hbx⟩ := hcut
          have Hb5 := Lib.hid (below_and Hb4.out hbx.out)
          have hWw := (Hb0.out.trans (Hb5.out.mono Hb0.out.size)).size
          have HRa := HR.out wc Hb5.out _ xs ((HX.out wc Hb5.out).keep ((Below.refl _ _).mono hWw) hWw) (by omega) HX40.out
          obtain ⟨T1, hT1⟩ : ∃ T1, T1 = regN n (pxs xs) := ⟨_, rfl⟩
          obtain ⟨T2, hT2⟩ : ∃ T2, T2 = regN n (pxs xs ++ [p]) := ⟨_, rfl⟩
          rw [← hT1] at HRa
          have hm1 := HM1.out; have hm2 := HM2.out
          rw [← hT2] at hm1 hm2
          rw [← hT1] at hm2
          have h12 : (T1 : Int) ≤ (T2 : Int) := by omega
          have h2A : (T2 : Int) ≤ (A : Int) := by omega
          have hAA : ((A : Int) == (A : Int)) = true := by simp
          have HR1 := Lib.hid HRa; have HT2 := Lib.hid hT2; have HWw := Lib.hid hWw
          obtain ⟨⟨z0, z1, z2, z3⟩, -, zl⟩ := (HN.out.kept Hb5.out).f4
          clear HRa hT1 hT2 hm1 hm2 hWw y0 y1 y2 y3 yl
          go_wp2_with fail
          refine HR1.out.mono ?_
          rintro e w6 ⟨rfl, hbel⟩
          have Hb6 := Lib.hid (below_and Hb5.out hbel)
          have HS6 := Lib.hid (fun (w' : World) (hb : Below w6.heap.size w6 w') => (HN.out.kept (below_and Hb6.out hb)).f4.1)
          have HX6 := Lib.hid (fun (w' : World) (hb : Below w6.heap.size w6 w') => HX.out w' (below_and Hb6.out hb))
          have HP6 := Lib.hid (fun (w' : World) (hb : Below w6.heap.size w6 w') => HPR.out w' (below_and Hb6.out hb))
          have HR6 := Lib.hid (fun (w' : World) (hb : Below w6.heap.size w6 w') => HR.out w' (below_and Hb6.out hb))
          have hW6 : W.heap.size ≤ w6.heap.size := Nat.le_trans HWw.out hbel.size
          clear hbel HR1 z0 z1 z2 z3 zl
          go_upto_region 15 with fail
          go_region_held3 (fun w' => w'.cell? ⟨W.heap.size + 1, 0, none⟩ = some (.bool l) ∧ w'.cell? ⟨W.heap.size + 1, 1, none⟩ = some (.slice ap ps.length cp) ∧ w'.cell? ⟨W.heap.size + 1, 2, none⟩ = some (.slice at_ t.length ct) ∧ w'.cell? ⟨W.heap.size + 1, 3, none⟩ = some (.slice ak ks.length ck)) (refine HS6.out _ (by ((repeat (first | with_reducible exact Hb9.out | with_reducible exact Hb8.out | with_reducible exact Hb7.out | with_reducible exact Below.refl _ _ | with_reducible refine Below.drew ?_ | with_reducible refine Below.alloc ?_ ?_ _ | with_reducible refine Below.setCell ?_ ?_ _)) <;> (first | with_reducible exact Nat.le_refl _ | with_reducible exact Hb9.out.size | with_reducible exact Hb8.out.size | with_reducible exact Hb7.out.size | (have hsz := Hb9.out.size; simp [World.setCell]; omega) | (have hsz := Hb8.out.size; simp [World.setCell]; omega) | (have hsz := Hb7.out.size; simp [World.setCell]; omega) | (simp; done) | (simp; omega) | omega))))
            (first
            | (refine step_appx rfl _ _ rfl Try.underlying44 info_slc w6.heap.size (.slice none 0 0) [] ?_ (RowX.nil _ _ _) xs xa xc W.heap.size ?_ (HX6.out _ (by ((repeat (first | with_reducible exact Below.refl _ _ | with_reducible refine Below.drew ?_ | with_reducible refine Below.alloc ?_ ?_ _ | with_reducible refine Below.setCell ?_ ?_ _)) <;> (first | with_reducible exact Nat.le_refl _ | (simp; done) | (simp; omega) | omega)))) hW6 ?_ ?_ ?_ ?_
               · go_simp
               · go_simp
               · exact hW6
               · simp; omega
               · exact Nat.le_refl _
               intro v1 w7 hv1 hb7
               rw [List.nil_append] at hv1
               obtain ⟨v1a, v1c, hvf⟩ := hv1.form
               subst hvf
               have Hb7 := Lib.hid (Below.trans (a := w6) (by ((repeat (first | with_reducible exact Below.refl _ _ | with_reducible refine Below.drew ?_ | with_reducible refine Below.alloc ?_ ?_ _ | with_reducible refine Below.setCell ?_ ?_ _)) <;> (first | with_reducible exact Nat.le_refl _ | (simp; done) | (simp; omega) | omega))) hb7)
               have Hv1 := Lib.hid hv1
               have Hs7 := Lib.hid (Nat.le_trans Hb7.out.size (one_below w7 (Obj.cells #[Value.slice pa p.length pc] 36)).size)
               have HQ7 := Lib.hid (show PxQ (w7.alloc (Obj.cells #[Value.slice pa p.length pc] 36)) (fun b => 0 ≤ b ∧ (Value.slice v1a xs.length v1c).ownBlock ≠ some b) (p, pa, pc) from rowq_imp ((HP6.out _ (Hb7.out.trans ((one_below w7 _).mono Hb7.out.size))).q (Nat.le_trans hW6 Hs7.out)) fun b hb => ⟨Nat.zero_le _, fun e => by have h9 := Hv1.out.ge b e; omega⟩)
               clear hv1 hb7)
            | (refine step_pushx (w := w7.alloc (Obj.cells #[Value.slice pa p.length pc] 36)) rfl _ _ rfl Try.underlying44 info_slc w6.heap.size (.slice v1a xs.length v1c) xs ?_ (Hv1.out.below (one_below w7 _)) (p, pa, pc) ⟨w7.heap.size, 0, none⟩ (w7.heap.size + 1) ?_ (row_one w7 (Value.slice pa p.length pc) 36 _ rfl (by omega)) ?_ ?_ ?_ ?_
               · go_simp
               · go_simp
               · exact HQ7.out
               · omega
               · exact Hs7.out
               intro v2 w8 hv2 hb8
               obtain ⟨v2a, v2c, hvf⟩ := hv2.form
               subst hvf
               have Hb8 := Lib.hid ((Hb7.out.trans ((one_below w7 _).mono Hb7.out.size)).trans hb8)
               have Hv2 := Lib.hid hv2
               clear hv2 hb8)
            | (refine step_appg rfl _ _ rfl Try.underlying44 info_slc w6.heap.size (.slice none 0 0) [] ?_ (RowX.nil _ _ _) xs xa xc W.heap.size ?_ (HX6.out _ (by ((repeat (first | with_reducible exact Below.refl _ _ | with_reducible refine Below.drew ?_ | with_reducible refine Below.alloc ?_ ?_ _ | with_reducible refine Below.setCell ?_ ?_ _)) <;> (first | with_reducible exact Nat.le_refl _ | (simp; done) | (simp; omega) | omega)))) hW6 ?_ ?_ ?_ ?_
               · go_simp
               · go_simp
               · exact Nat.le_trans hW6 (Below.size (w := w6) (B := w6.heap.size) (by ((repeat (first | with_reducible exact Below.refl _ _ | with_reducible refine Below.drew ?_ | with_reducible refine Below.alloc ?_ ?_ _ | with_reducible refine Below.setCell ?_ ?_ _)) <;> (first | with_reducible exact Nat.le_refl _ | (simp; done) | (simp; omega) | omega))))
               · simp; omega
               · exact Below.size (w := w6) (B := w6.heap.size) (by ((repeat (first | with_reducible exact Below.refl _ _ | with_reducible refine Below.drew ?_ | with_reducible refine Below.alloc ?_ ?_ _ | with_reducible refine Below.setCell ?_ ?_ _)) <;> (first | with_reducible exact Nat.le_refl _ | (simp; done) | (simp; omega) | omega)))
               intro v1 w7 hv1 hb7 hg7
               rw [List.nil_append] at hv1
               obtain ⟨v1a, v1c, hvf⟩ := hv1.form
               subst hvf
               have Hb7 := Lib.hid (Below.trans (a := w6) (by ((repeat (first | with_reducible exact Below.refl _ _ | with_reducible refine Below.drew ?_ | with_reducible refine Below.alloc ?_ ?_ _ | with_reducible refine Below.setCell ?_ ?_ _)) <;> (first | with_reducible exact Nat.le_refl _ | (simp; done) | (simp; omega) | omega))) hb7)
               have hA7 : At w7 w6.heap.size [Value.slice pa p.length pc] 36 := by
                 have hA6 : At (w6.alloc (Obj.cells #[Value.slice pa p.length pc] 36)) w6.heap.size [Value.slice pa p.length pc] 36 := At.fresh w6 _ _
                 unfold At
                 rw [hg7.block w6.heap.size (by simp) (by simp [Value.ownBlock])]
                 exact hA6
               have HRb := Lib.hid (row_of_at hA7 rfl)
               have Hv1b := Lib.hid hv1
               have HQb := Lib.hid (show PxQ w7 (fun b => 0 ≤ b ∧ (Value.slice v1a xs.length v1c).ownBlock ≠ some b) (p, pa, pc) from rowq_imp ((HP6.out _ Hb7.out).q (Nat.le_trans hW6 Hb7.out.size)) fun b hb => ⟨Nat.zero_le _, fun e => by have h9 := Hv1b.out.ge b e; omega⟩)
               clear hv1 hb7 hg7 hA7)
            | (refine step_pushx (w := w7) rfl _ _ rfl Try.underlying44 info_slc w6.heap.size (.slice v1a xs.length v1c) xs ?_ Hv1b.out (p, pa, pc) ⟨w6.heap.size, 0, none⟩ (w6.heap.size + 1) ?_ HRb.out HQb.out ?_ ?_ ?_
               · go_simp
               · go_simp
               · omega
               · exact Hb7.out.size
               intro v2 w8 hv2 hb8
               obtain ⟨v2a, v2c, hvf⟩ := hv2.form
               subst hvf
               have Hb8 := Lib.hid (Hb7.out.trans hb8)
               have Hv2 := Lib.hid hv2
               clear hv2 hb8)
            | (refine step_call rfl 14 _ _ rfl region_ent [.agg #[.bool l, .slice ap ps.length cp, .slice at_ t.length ct, .slice ak ks.length ck], .slice v2a (xs ++ [(p, pa, pc)]).length v2c] ?_ _ (HR6.out _ (by ((repeat (first | with_reducible exact Hb8.out | with_reducible exact Below.refl _ _ | with_reducible refine Below.drew ?_ | with_reducible refine Below.alloc ?_ ?_ _ | with_reducible refine Below.setCell ?_ ?_ _)) <;> (first | with_reducible exact Nat.le_refl _ | with_reducible exact Hb8.out.size | (have hsz := Hb8.out.size; simp [World.setCell]; omega) | (simp; done) | (simp; omega) | omega))) _ (xs ++ [(p, pa, pc)]) Hv2.out.read (by simp; omega) (fun y hy => by
                 rcases List.mem_append.1 hy with h | h
                 · exact HX40.out y h
                 · rw [List.mem_singleton.1 h]; show p.length ≤ _; omega)) ?_
               · go_simp
               rintro e w9 ⟨rfl, hbel⟩
               rw [pxs_append, pxs_one, ← HT2.out]
               refine ⟨_, rfl, ?_⟩
               have Hb9 := Lib.hid (below_and (w0 := w6) (by ((repeat (first | with_reducible exact Hb8.out | with_reducible exact Below.refl _ _ | with_reducible refine Below.drew ?_ | with_reducible refine Below.alloc ?_ ?_ _ | with_reducible refine Below.setCell ?_ ?_ _)) <;> (first | with_reducible exact Nat.le_refl _ | with_reducible exact Hb8.out.size | (have hsz := Hb8.out.size; simp [World.setCell]; omega) | (simp; done) | (simp; omega) | omega))) hbel)
               clear hbel))
          all_goals
            have Hb10 := Lib.hid (below_and Hb6.out Hb9.out)
            have HRn := HR.out w9 Hb10.out (.slice none 0 0) [] ⟨⟨none, 0, rfl, RowA.empty _ _ _⟩, by simp⟩ (by simp) (by simp)
            rw [show regN n (pxs []) = 0 from rfl] at HRn
            have HRn := Lib.hid HRn
            obtain ⟨⟨z0, z1, z2, z3⟩, -, zl⟩ := (HN.out.kept Hb10.out).f4
            go_wp2_with fail
            refine HRn.out.mono ?_
            rintro e w11 ⟨rfl, hbel⟩
            have Hb11 := Lib.hid (Hb0.out.trans ((below_and Hb10.out hbel).mono Hb0.out.size))
            clear hbel HRn z0 z1 z2 z3 zl
            go_wp2_with fail
            go_ret
            exact ⟨rfl, Hb11.out⟩

end Go.Proofs.Ytiinmgccjlmoaaa
namespace Go.Proofs.Ytiinmgccjlmoaaa
open Go.ChangeShapes Go.WideShapes Go.ChangeAt Go.WideMaps Go.WideElems Go.RowKit Go.Redl Go.Deep
set_option linter.unusedVariables false

theorem own : ownKnob Try.prog.godebug = none := by kernel_rfl
theorem laidOut : laidOutB Try.prog = true := by kernel_rfl

def IntΦ {H : Type} (z : Int) (cs : List Value) (d : DataW H) : Prop := cs = [.int .i64 z] ∧ 1 ≤ Rows.uptoBulk d
theorem elems_path {H : Type} : ∀ {l : List Int} {css : List Value} {ds : List (DataW H)}, Elems IntΦ l css ds → css = l.map (Value.int .i64) ∧ l.length ≤ Rows.uptoBulkAll ds
  | [], css, ds, h => by obtain ⟨rfl, rfl⟩ := h; exact ⟨rfl, by simp⟩
  | z :: l, css, ds, h => by
    obtain ⟨c, cs, d, ds', rfl, rfl, ⟨rfl, hb⟩, hr⟩ := h
    obtain ⟨rfl, h3⟩ := elems_path hr
    exact ⟨rfl, by simp only [List.length_cons, Rows.uptoBulkAll]; omega⟩
theorem path_of_trod {H : Type} {enc : TypeId × Value → H} {W : World} {fuel : Nat} {cs : List Value} {x : DataW H × List MemPlace} (h : DataW.trod enc Try.prog W 0 (fun _ => true) true fuel 36 cs = some x) :
    ∃ a cap zs, cs = [.slice a (List.length zs) cap] ∧ RowA W W.heap.size 1 a (List.length zs) cap (zs.map (Value.int .i64)) ∧ zs.length + 1 ≤ Rows.uptoBulk x.1 := by
  obtain ⟨a, cap, ys, css, ds, rfl, hr, hel, hs⟩ := row_of_trod IntΦ Try.underlying36 (show Try.prog.cellsOf 3 = 1 by kernel_rfl) (by decide)
    (fun m cs x _ hx => by
      obtain ⟨xv, xp⟩ := x
      obtain ⟨z, e0, e1, -⟩ := DataW.trod_int Try.underlying3 hx
      have e2 := (Prod.mk.inj e1).1
      subst e2
      exact ⟨z, e0, by simp [Rows.uptoBulk]⟩) (fun y c d hh => by obtain ⟨rfl, -⟩ := hh; intro u hu; simp at hu; subst hu; rfl) h
  obtain ⟨rfl, hlen⟩ := elems_path hel
  have m0 := slice_bulk (n := 0) (hs.imp (fun h => ⟨h.1, rfl, h.2.2⟩) id)
  exact ⟨a, cap, ys, rfl, hr, by omega⟩

end Go.Proofs.Ytiinmgccjlmoaaa
namespace Go.Proofs.Ytiinmgccjlmoaaa
open Go.ChangeShapes Go.WideShapes Go.ChangeAt Go.WideMaps Go.WideElems Go.RowKit Go.Redl Go.Deep
set_option linter.unusedVariables false

def PathΦ {H : Type} (W : World) (x : PX) (cs : List Value) (d : DataW H) : Prop := cs = [pxV x] ∧ RowA W W.heap.size 1 x.2.1 x.1.length x.2.2 (x.1.map (Value.int .i64)) ∧ x.1.length + 1 ≤ Rows.uptoBulk d
theorem elems_px {H : Type} {W : World} : ∀ {l : List PX} {css : List Value} {ds : List (DataW H)}, Elems (PathΦ W) l css ds → css = l.map pxV ∧ (∀ x ∈ l, RowA W W.heap.size 1 x.2.1 x.1.length x.2.2 (x.1.map (Value.int .i64))) ∧ l.length ≤ Rows.uptoBulkAll ds
  | [], css, ds, h => by obtain ⟨rfl, rfl⟩ := h; exact ⟨rfl, by simp, by simp⟩
  | x :: l, css, ds, h => by
    obtain ⟨c, cs, d, ds', rfl, rfl, ⟨rfl, hr, hb⟩, ht⟩ := h
    obtain ⟨rfl, h2, h3⟩ := elems_px ht
    refine ⟨rfl, fun y hy => ?_, by simp only [List.length_cons, Rows.uptoBulkAll]; omega⟩
    rcases List.mem_cons.1 hy with rfl | hy
    · exact hr
    · exact h2 y hy
theorem pathrow_of_trod {H : Type} {enc : TypeId × Value → H} {W : World} {fuel : Nat} {cs : List Value} {x : DataW H × List MemPlace} (h : DataW.trod enc Try.prog W 0 (fun _ => true) true fuel 44 cs = some x) :
    ∃ a cap xs, cs = [.slice a (List.length xs) cap] ∧ ReadX W W.heap.size (.slice a (List.length xs) cap) xs ∧ xs.length + 1 ≤ Rows.uptoBulk x.1 := by
  obtain ⟨a, cap, ys, css, ds, rfl, hr, hel, hs⟩ := row_of_trod (PathΦ W) Try.underlying44 (show Try.prog.cellsOf 36 = 1 by kernel_rfl) (by decide)
    (fun m cs x _ hx => by
      obtain ⟨pa, pc, zs, rfl, h1, h2⟩ := path_of_trod hx
      exact ⟨(zs, pa, pc), rfl, h1, h2⟩) (fun y c d hh => by obtain ⟨rfl, -⟩ := hh; intro u hu; simp at hu; subst hu; rfl) h
  obtain ⟨rfl, hall, hlen⟩ := elems_px hel
  have m0 := slice_bulk (n := 0) (hs.imp (fun h => ⟨h.1, rfl, h.2.2⟩) id)
  exact ⟨a, cap, ys, rfl, ⟨⟨a, cap, rfl, hr⟩, hall⟩, by omega⟩

end Go.Proofs.Ytiinmgccjlmoaaa
namespace Go.Proofs.Ytiinmgccjlmoaaa
open Go.ChangeShapes Go.WideShapes Go.ChangeAt Go.RowKit Go.Redl
set_option linter.unusedVariables false
set_option maxRecDepth 100000

theorem weightAll_contract (H : Type) (enc : TypeId × Value → H) (W : World) (base : Nat) (args : Array Value) (ds gs : List (DataW H)) (before : List MemPlace)
    (hval0 : ∀ (j : Nat) t v, Try.f5.params[j]? = some t → args[j]? = some v → Value.okWide Try.prog W .any base t v)
    (hW : DataW.Whole enc Try.prog Try.f5.params.toList Rows.weightAllSpec.vars false W args.toList ds gs before) (hk : Rows.uptoSmall H (ds ++ gs) = true) :
    Calls Try.prog 5 args W fun e W' => ∃ v, e = .returned v ∧ Rows.weightAllSpec.post enc Try.prog Try.f5 false true false false W args v W' := by
  have hval : ∀ (j : Nat) t v, Try.f5.params[j]? = some t → args[j]? = some v → Value.okWide Try.prog W .any base t v := hval0
  have hW' := hW
  obtain ⟨p, q, hA0, hV, rfl, hfz, hnd⟩ := hW
  have hA : DataW.TrodAll enc Try.prog W 0 (fun _ => true) true Try.f5.params.toList args.toList ds p := hA0
  rw [Try.params5] at hA hval
  obtain ⟨v0, vs0, d0, ds0, p0, q0, hargs, rfl, rfl, h0, r0⟩ := trodAll_cons hA
  obtain ⟨v1, vs1, d1, ds1, p1, q1, rfl, rfl, rfl, h1, r1⟩ := trodAll_cons r0
  obtain ⟨v2, vs2, d2, ds2, p2, q2, rfl, rfl, rfl, h2, r2⟩ := trodAll_cons r1
  obtain ⟨v3, vs3, d3, ds3, p3, q3, rfl, rfl, rfl, h3, r3⟩ := trodAll_cons r2
  obtain ⟨rfl, rfl, rfl⟩ := trodAll_nil r3
  obtain rfl : args = #[v0, v1, v2, v3] := by cases args; simp_all
  obtain ⟨rfl, rfl⟩ := trodVars_none hV
  obtain ⟨cs0, rfl, hsz0⟩ := okWide_struct Try.underlying30 (hval 0 30 v0 rfl rfl)
  have k0 := h0
  have lt0 : ∀ x ∈ p0, x.block < W.heap.size := by obtain ⟨m, hm⟩ := k0; exact DataW.trod_lt m _ _ _ hm
  obtain ⟨n0, i0, u0⟩ : ∃ n, SchemaV W W.heap.size n (.agg cs0) ∧ n.wt ≤ Rows.uptoBulk d0 := by
    obtain ⟨fuel, hf⟩ := h0
    obtain ⟨n, h1, h2⟩ := schema_of_trod hf
    exact ⟨n, ⟨cs0.toList, by simp, h1⟩, h2⟩
  obtain ⟨cs1, rfl, hsz1⟩ := okWide_struct Try.underlying35 (hval 1 35 v1 rfl rfl)
  have k1 := h1
  have lt1 : ∀ x ∈ p1, x.block < W.heap.size := by obtain ⟨m, hm⟩ := k1; exact DataW.trod_lt m _ _ _ hm
  obtain ⟨n1, i1, u1⟩ : ∃ n, NodeV W W.heap.size n (.agg cs1) ∧ n.wt ≤ Rows.uptoBulk d1 := by
    obtain ⟨fuel, hf⟩ := h1
    obtain ⟨n, h1, h2⟩ := node_of_trod fuel _ _ hf
    exact ⟨n, ⟨cs1.toList, by simp, h1⟩, h2⟩
  obtain ⟨a2, len2, cap2, rfl⟩ := okWide_slice Try.underlying44 (hval 2 44 v2 rfl rfl)
  have k2 := h2
  have lt2 : ∀ x ∈ p2, x.block < W.heap.size := by obtain ⟨m, hm⟩ := k2; exact DataW.trod_lt m _ _ _ hm
  obtain ⟨n2, hl2, i2, u2⟩ : ∃ xs : List PX, len2 = xs.length ∧ ReadX W W.heap.size (.slice a2 xs.length cap2) xs ∧ xs.length + 1 ≤ Rows.uptoBulk d2 := by
    obtain ⟨fuel, hf⟩ := h2
    obtain ⟨a, cap, xs, h0, h1, h2⟩ := pathrow_of_trod hf
    simp [Value.cells] at h0
    obtain ⟨rfl, rfl, rfl⟩ := h0
    exact ⟨xs, rfl, h1, h2⟩
  subst hl2
  obtain ⟨a3, len3, cap3, rfl⟩ := okWide_slice Try.underlying36 (hval 3 36 v3 rfl rfl)
  have k3 := h3
  have lt3 : ∀ x ∈ p3, x.block < W.heap.size := by obtain ⟨m, hm⟩ := k3; exact DataW.trod_lt m _ _ _ hm
  obtain ⟨n3, hl3, i3, u3⟩ : ∃ zs : List Int, len3 = zs.length ∧ RowA W W.heap.size 1 a3 zs.length cap3 (zs.map (Value.int .i64)) ∧ zs.length + 1 ≤ Rows.uptoBulk d3 := by
    obtain ⟨fuel, hf⟩ := h3
    obtain ⟨a, cap, zs, h0, h1, h2⟩ := path_of_trod hf
    simp [Value.cells] at h0
    obtain ⟨rfl, rfl, rfl⟩ := h0
    exact ⟨zs, rfl, h1, h2⟩
  subst hl3
  have hb : Rows.uptoBulkAll _ ≤ 1048576 := of_decide_eq_true hk
  simp only [List.append_nil, Rows.uptoBulkAll, Nat.add_zero] at hb
  clear hA0 hval0
  refine (weightall_walk n0 n1 _ _ _ n2 n3 _ _ W (by omega) (by omega) (by omega) (by omega) i0 i1 i2 i3).mono fun e W' ⟨he, bel⟩ => ?_
  subst he
  exact ⟨_, rfl, _, _, _, [], _, [], hW', trodAll_mk1 (shut_bool Try.underlying4 _), (trodAll_cons_mk (Below.trod laidOut (by kernel_rfl) (of_decide_eq_true (by kernel_rfl)) k0 bel lt0) (trodAll_cons_mk (Below.trod laidOut (by kernel_rfl) (of_decide_eq_true (by kernel_rfl)) k1 bel lt1) (trodAll_cons_mk (Below.trod laidOut (by kernel_rfl) (of_decide_eq_true (by kernel_rfl)) k2 bel lt2) (trodAll_cons_mk (Below.trod laidOut (by kernel_rfl) (of_decide_eq_true (by kernel_rfl)) k3 bel lt3) trodAll_mk0)))), rfl, bel.frame _, fun h => by cases h⟩

theorem weightAll_lifted (os : Os) (started : os.Started) (H : Type) (enc : TypeId × Value → H) (F : Stop.Interp) :
    ReturnsInHanded {} Try.checked os 5 .any ((Rows.OpenSpec.upto Rows.weightAllSpec).pre6 enc Try.prog Try.f5 Rows.weightAllUptoRow.domain false) (((Rows.OpenSpec.upto Rows.weightAllSpec).at F).post enc Try.prog Try.f5 false true false false) := by
  refine returnsInHanded_of_cond (C := Try.checked) (s := Rows.OpenSpec.upto Rows.weightAllSpec) (k := Rows.uptoSmall) rfl own started (by kernel_rfl) Try.func5
    (OpenSpec.witness (enc := enc) (C := Try.checked) (s := Rows.OpenSpec.upto Rows.weightAllSpec) (k := Rows.uptoSmall) rfl false ⟨#[], #[.agg #[.slice none 0 0, .string ⟨#[]⟩, .int .i64 0, .string ⟨#[]⟩, .int .i64 0, .string ⟨#[]⟩, .slice none 0 0, .int .i64 0, .string ⟨#[]⟩, .int .i64 0, .int .i64 0, .int .i64 0, .int .i64 0, .int .i64 0, .int .i64 0, .int .i64 0], .agg #[.bool false, .slice none 0 0, .slice none 0 0, .slice none 0 0], .slice none 0 0, .slice none 0 0], []⟩ 8 (by kernel_rfl) (by kernel_rfl) (by kernel_rfl)
      (x := ([.agg [.nil, .agg [.lit (.string []), .agg [.lit (.int .i64 0), .lit (.string [])], .agg [.lit (.int .i64 0), .lit (.string [])], .nil, .lit (.int .i64 0), .lit (.string [])], .agg [.lit (.int .i64 0), .lit (.int .i64 0), .lit (.int .i64 0), .lit (.int .i64 0), .lit (.int .i64 0), .lit (.int .i64 0)], .lit (.int .i64 0)], .agg [.lit (.bool false), .nil, .nil, .nil], .nil, .nil], [], [])) (by kernel_rfl) rfl (by kernel_rfl)) ?_
  intro W base args ds gs before hval hW _ hk _
  exact weightAll_contract H enc W base args ds gs before hval hW hk

/-- The statement. -/
theorem weightAll_upto : Rows.WeightAllUptoSaid :=
  OpenClaim.holds_of_cond 5 Try.f5 rfl rfl rfl rfl rfl rfl rfl ⟨rfl, rfl, rfl, rfl, rfl⟩ rfl rfl rfl rfl rfl (by kernel_rfl) Try.func5 (by kernel_rfl)
    (of_decide_eq_true (by kernel_rfl)) (by unfold Func.isWrapper; rw [if_neg (by decide +kernel)]; exact ⟨rfl, rfl⟩)
    (fun os started H enc _ F => weightAll_lifted os started H enc F)
#print axioms weightAll_upto

end Go.Proofs.Ytiinmgccjlmoaaa
