/- Walks: the reference of node: left, Few. -/
import Derived.Test.YtiinmgccjlmoaaaRNA
import Derived.Test.YtiinmgccjlmoaaaRN3
import Derived.Test.YtiinmgccjlmoaaaRG1
namespace Go.Proofs.Ytiinmgccjlmoaaa
open Go.RowKit Go.Redl
set_option linter.unusedVariables false

/-- What properties' lengths count. -/
def propsQ : List PropD → Nat
  | [] => 0
  | p :: ps => p.1.length / 64 + p.2.length / 64 + propsQ ps
mutual
/-- How many more there might be. -/
def leftN : NodeD → Int → Int
  | .mk _ ps t ks, m => if m - (1 + t.length + ps.length : Nat) - (propsQ ps : Nat) < 0 then -1 else leftK ks (m - (1 + t.length + ps.length : Nat) - (propsQ ps : Nat))
def leftK : List NodeD → Int → Int
  | [], m => m
  | k :: ks, m => if leftN k m < 0 then -1 else leftK ks (leftN k m)
end
def fewB (n : NodeD) (m : Int) : Bool := decide (0 ≤ leftN n m)
theorem propsQ_append (a b : List PropD) : propsQ (a ++ b) = propsQ a + propsQ b := by
  induction a with
  | nil => simp [propsQ]
  | cons p ps ih => simp only [List.cons_append, propsQ, ih]; omega
theorem propsQ_succ {ps : List PropD} {k : Nat} (h : k < ps.length) : propsQ (ps.take (k + 1)) = propsQ (ps.take k) + (ps[k].1.length / 64 + ps[k].2.length / 64) := by
  rw [List.take_succ_eq_append_getElem h, propsQ_append]; simp [propsQ]
theorem propsQ_le (ps : List PropD) : propsQ ps ≤ propsWt ps := by
  induction ps with
  | nil => simp [propsQ]
  | cons p ps ih => simp only [propsQ, propsWt]; omega
mutual
theorem leftN_le : ∀ (n : NodeD) (m : Int), 0 ≤ m → -1 ≤ leftN n m ∧ leftN n m ≤ m
  | .mk l ps t ks, m, h => by
    simp only [leftN]
    split
    · omega
    · have := leftK_le ks (m - (1 + t.length + ps.length : Nat) - (propsQ ps : Nat)) (by omega)
      omega
theorem leftK_le : ∀ (ks : List NodeD) (m : Int), 0 ≤ m → -1 ≤ leftK ks m ∧ leftK ks m ≤ m
  | [], m, h => by simp only [leftK]; omega
  | k :: ks, m, h => by
    simp only [leftK]
    have h1 := leftN_le k m h
    split
    · omega
    · have := leftK_le ks (leftN k m) (by omega)
      omega
end
theorem leftK_step {ks : List NodeD} {k : Nat} {m : Int} (h : k < ks.length) : leftK (ks.drop k) m = if leftN ks[k] m < 0 then -1 else leftK (ks.drop (k + 1)) (leftN ks[k] m) := by
  conv => lhs; rw [List.drop_eq_getElem_cons h]
  simp only [leftK]
theorem div64 (n : Nat) : ((n : Int)).tdiv 64 = ((n / 64 : Nat) : Int) := by rw [Int.tdiv_eq_ediv_of_nonneg (by omega)]; omega
theorem left_eq {z : Int} {ks : List NodeD} {l : Bool} {ps : List PropD} {t : List Int} {most : Int} (hz : z = most - (1 + t.length + ps.length : Nat) - (propsQ ps : Nat)) :
    leftN (.mk l ps t ks) most = if z < 0 then -1 else leftK ks z := by subst hz; rfl

set_option maxRecDepth 100000 in
set_option maxHeartbeats 2000000 in
theorem rleft_c (m : Nat) : ∀ (n : NodeD) (v : Value) (most : Int) (w : World), n.wt ≤ m → n.wt ≤ 100000000 → 0 ≤ most → most ≤ 1000000 → NodeV w w.heap.size n v →
    Calls Try.prog 50 #[v, .int .i64 most] w fun e w' => e = .returned (.int .i64 (leftN n most)) ∧ Below w.heap.size w w' := by
  induction m with
  | zero => intro n v most w hm; have := wt_pos n; omega
  | succ m ih =>
    intro n v most w hm hn hm0 hm1 hv
    obtain ⟨l, ps, t, ks⟩ := n
    obtain ⟨ap, cp, at_, ct, ak, ck, css, rfl, hp, ht, hk, hc⟩ := hv.open
    have IH := Lib.hid ih
    have hwt : 1 + propsWt ps + t.length + wtAll ks = (NodeD.mk l ps t ks).wt := rfl
    have hw2 : wtAll ks ≤ 100000000 := by omega
    have hw3 : wtAll ks ≤ m := by omega
    have hw4 : propsWt ps ≤ 100000000 := by omega
    have hkl := wtAll_len ks
    have htl : t.length ≤ 100000000 := by omega
    have hpl := propsWt_len ps
    have Hl := fun z (hz : z = most - (1 + t.length + ps.length : Nat) - (propsQ ps : Nat)) => Lib.hid (left_eq (l := l) (ks := ks) hz)
    clear ih hv hwt hm hn ht
    go_enter Try.func50, Try.ntmps50
    go_wp2_with fail
    go_loopw [1, 22] (fun s i wr => ∃ k : Nat, k ≤ ps.length ∧ i = .int .i64 k ∧ s = .int .i64 (most - (1 + t.length + ps.length : Nat) - (propsQ (ps.take k) : Nat)) ∧ Below (w.heap.size + 1) (w.alloc (Obj.cells #[.bool l, .slice ap ps.length cp, .slice at_ t.length ct, .slice ak ks.length ck] 35)) wr) (fun _ i _ => ps.length - (intOf i).toNat)
    case atStart => exact ⟨0, Nat.zero_le _, rfl, by simp [propsQ], Below.refl _ _⟩
    case round =>
      obtain ⟨k, hkn, rfl, rfl, hbel⟩ := hrel
      have hr2 := hp.keep (below_unbox hbel) (below_unbox hbel).size
      have hcl := propsQ_le (ps.take k)
      have hck := propsWt_take ps k
      by_cases hlt : k < ps.length
      · have Hb := Lib.hid hbel
        have Hss := Lib.hid (propsQ_succ hlt)
        have hcw := propsWt_mem (List.getElem_mem hlt)
        obtain ⟨b, off, rfl, hb, g0, g1⟩ := hr2.prop_at k hlt
        generalize ps[k] = p at hcw g0 g1 Hss
        obtain ⟨p1, p2⟩ := p
        simp only at hcw g0 g1 Hss
        generalize propsQ (ps.take k) = T at hcl Hss ⊢
        have hTl : T ≤ 100000000 := by omega
        have hl1 : p1.length ≤ 100000000 := by omega
        have hl2 : p2.length ≤ 100000000 := by omega
        have hb2 : (⟨p1.toArray⟩ : ByteArray).size = p1.length := rfl
        clear hbel hcl hck hcw
        go_wp2_with fail
        go_roundw
        case rel => exact ⟨k + 1, by omega, by go_num, by rw [Hss.out]; go_num, below_box_more Hb.out⟩
        case measure => simp [intOf]; omega
      · obtain rfl : k = ps.length := by omega
        rw [List.take_length] at hcl ⊢
        obtain ⟨x0, x1, x2, x3⟩ := box_keep hbel
        have Hb := Lib.hid (below_unbox hbel)
        have Hl1 := Hl _ rfl
        have hz1 : most - (1 + t.length + ps.length : Nat) - (propsQ ps : Nat) ≤ 1000000 := by omega
        generalize most - (1 + t.length + ps.length : Nat) - (propsQ ps : Nat) = z at Hl1 hz1 ⊢
        clear hbel hcl hck Hl
        by_cases hz : z < 0
        · go_wp2_with fail
          go_ret
          exact ⟨ret_int (by rw [Hl1.out, if_pos hz]), Hb.out⟩
        · have Hl2 : Hid (leftN (.mk l ps t ks) most = leftK ks z) := by
            show leftN _ _ = _
            rw [Hl1.out, if_neg hz]
          have hz0 : 0 ≤ z := by omega
          clear hz Hl1
          go_wp2_with fail
          go_loopw [1, 43] (fun s i wr => ∃ (k : Nat) (y : Int), k ≤ ks.length ∧ 0 ≤ y ∧ y ≤ 1000000 ∧ i = .int .i64 k ∧ s = .int .i64 y ∧ leftK (ks.drop k) y = leftK ks z ∧ Below w.heap.size w wr) (fun _ i _ => ks.length - (intOf i).toNat)
          case atStart => exact ⟨0, z, Nat.zero_le _, hz0, hz1, rfl, rfl, by simp, Hb.out⟩
          case round =>
            obtain ⟨k, y, hkn, hy0, hy1, rfl, rfl, hke, hbel⟩ := hrel
            have hr2 := hk.keep hbel hbel.size
            have hc2 := KidsC.keep hbel hbel.size ks css hc
            have Hb2 := Lib.hid hbel
            have Hke := Lib.hid hke
            clear hbel hke x0 x1 x2 x3
            by_cases hlt : k < ks.length
            · have Hss := Lib.hid (leftK_step (m := y) hlt)
              have hkw := wtAll_mem (List.getElem_mem hlt)
              obtain ⟨b, off, l', a1, n1, c1, a2, n2, c2, a3, n3, c3, rfl, hb, hnc, g0, g1, g2, g3⟩ := hr2.kid_at hc2 k hlt
              generalize ks[k] = q at hnc hkw Hss
              have hB := (((Below.refl wr.heap.size wr).alloc (Nat.le_refl _) (Obj.cells #[.bool l', .slice a1 n1 c1, .slice a2 n2 c2, .slice a3 n3 c3] 35)))
              have HC := Lib.hid (IH.out q (.agg #[.bool l', .slice a1 n1 c1, .slice a2 n2 c2, .slice a3 n3 c3]) y _ (by omega) (by omega) hy0 hy1 ⟨_, rfl, NodeC.keep hB hB.size _ _ hnc⟩)
              have hql := leftN_le q y hy0
              generalize leftN q y = x at HC Hss hql
              obtain ⟨hq0, hq1⟩ := hql
              by_cases hx : x < 0
              · have Hr : Hid (leftN (.mk l ps t ks) most = -1) := by
                  show leftN _ _ = _
                  rw [Hl2.out, ← Hke.out, Hss.out, if_pos hx]
                go_wp2_with fail
                refine HC.out.mono ?_
                rintro e w2 ⟨rfl, hbel⟩
                have Hb3 := Lib.hid ((Hb2.out.alloc Hb2.out.size _).trans (hbel.mono (by simp; have := Hb2.out.size; omega)))
                clear hbel
                go_wp2_with fail
                go_ret
                exact ⟨ret_int Hr.out.symm, Hb3.out⟩
              · have Hr : Hid (leftK (ks.drop (k + 1)) x = leftK ks z) := by
                  show leftK _ _ = _
                  rw [← Hke.out, Hss.out, if_neg hx]
                go_wp2_with fail
                refine HC.out.mono ?_
                rintro e w2 ⟨rfl, hbel⟩
                have Hb3 := Lib.hid ((Hb2.out.alloc Hb2.out.size _).trans (hbel.mono (by simp; have := Hb2.out.size; omega)))
                clear hbel
                go_wp2_with fail
                go_roundw
                case rel => exact ⟨k + 1, x, by omega, by omega, by omega, by go_num, rfl, Hr.out, Hb3.out⟩
                case measure => simp [intOf]; omega
            · obtain rfl : k = ks.length := by omega
              go_wp2_with fail
              go_ret
              exact ⟨ret_int (by rw [Hl2.out, ← Hke.out, List.drop_length]; rfl), Hb2.out⟩

set_option maxRecDepth 100000 in
set_option maxHeartbeats 1000000 in
theorem rfew_c (n : NodeD) (v : Value) (most : Int) (w : World) (hn : n.wt ≤ 100000000) (h0 : 0 ≤ most) (h1 : most ≤ 1000000) (hv : NodeV w w.heap.size n v) :
    Calls Try.prog 23 #[v, .int .i64 most] w fun e w' => e = .returned (.bool (fewB n most)) ∧ Below w.heap.size w w' := by
  have hv0 := hv
  obtain ⟨l, ps, t, ks⟩ := n
  obtain ⟨ap, cp, at_, ct, ak, ck, css, rfl, -, -, -, -⟩ := hv0.open
  generalize NodeD.mk l ps t ks = n at hv hn ⊢
  have hB0 := ((Below.refl w.heap.size w).alloc (Nat.le_refl _) (Obj.cells #[.bool l, .slice ap ps.length cp, .slice at_ t.length ct, .slice ak ks.length ck] 35))
  have HS := Lib.hid (rleft_c _ n _ most _ (Nat.le_refl _) hn h0 h1 (hv.keep hB0 hB0.size))
  have Hf : Hid (fewB n most = decide (0 ≤ leftN n most)) := rfl
  generalize leftN n most = x at HS Hf
  clear hv0 hv hB0 hn
  go_enter Try.func23, Try.ntmps23
  go_wp2_with fail
  refine HS.out.mono ?_
  rintro e w1 ⟨rfl, hbel⟩
  have Hb1 := Lib.hid (below_unbox (below_box hbel))
  clear hbel HS
  go_wp2_with fail
  go_ret
  exact ⟨ret_bool Hf.out.symm, Hb1.out⟩

end Go.Proofs.Ytiinmgccjlmoaaa
