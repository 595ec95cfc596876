/- Walks: code.write. -/
import Derived.Test.YtmhgbocejjnoaaaDoorRW5
import Derived.Test.YtmhgbocejjnoaaaDoorRB2
import Derived.Test.YtmhgbocejjnoaaaDoorRQ1
import Derived.Test.YtmhgbocejjnoaaaDoorRR6
namespace Go.Proofs.YtmhgbocejjnoaaaDoor
open Go.RowKit Go.Redl
set_option linter.unusedVariables false

theorem Bld.keep {w w' : World} {B b : Nat} {l : List UInt8} (h : Bld w B b l) (hb : Below w.heap.size w w') : Bld w' B b l := by
  rcases h with h | h
  · obtain ⟨hB, v, hbk, hown, hne⟩ := h
    have hlt : b < w.heap.size := (Array.getElem?_eq_some_iff.1 hbk).1
    exact .inl ⟨hB, v, (hb.block b hlt).trans hbk, own_keep hown hb, hne⟩
  · exact .inr (BldU.keep h hb)
theorem Bld.cast {w : World} {B b : Nat} {l l' : List UInt8} (h : Bld w B b l) (e : l = l') : Bld w B b l' := e ▸ h
theorem str_prop2 (K V : List UInt8) (c : UInt8) : ((((⟨#[c]⟩ : ByteArray) ++ ⟨K.toArray⟩) ++ ⟨#[58]⟩) ++ ⟨V.toArray⟩) = ⟨(c :: propL (K, V)).toArray⟩ := by
  rw [show (⟨#[c]⟩ : ByteArray) = ⟨[c].toArray⟩ from rfl, show (⟨#[58]⟩ : ByteArray) = ⟨[58].toArray⟩ from rfl, bytes_append, bytes_append, bytes_append]
  simp [propL]
theorem below_new (w : World) (o : Obj) : Below w.heap.size w (w.alloc o) := (Below.refl _ _).alloc (Nat.le_refl _) o

theorem printK_take_q {ks : List NodeD} {k : Nat} (h : k < ks.length) : (printK (ks.take k)).length + 22 * ks[k].wt ≤ 22 * wtAll ks := by
  have h1 := printK_len (ks.take k)
  have h2 := wtAll_take ks (k + 1)
  rw [List.take_succ_eq_append_getElem h, wtAll_append] at h2
  simp only [wtAll] at h2
  omega

/-- What writing leaves. -/
def WriteP (W : World) (B b : Nat) (l : List UInt8) (e : Ending) (w' : World) : Prop := e = .returned (.int .i64 0) ∧ BldU w' B b l ∧ Spares badBld B W w'

set_option maxRecDepth 100000 in
set_option maxHeartbeats 8000000 in
theorem write_c (B b : Nat) (hBb : B ≤ b) (hgB : 3 < B) (m : Nat) : ∀ (n : NodeD) (v : Value) (L : List UInt8) (W : World), n.wt ≤ m → n.wt ≤ 1048576 → nodeE n = 0 → L.length + 22 * n.wt ≤ 60000000 → NodeV W B n v → B ≤ W.heap.size → TabAt W → Bld W B b L →
    Calls Tryd.prog 19 #[.pointer (some ⟨b, 0, none⟩), v] W (WriteP W B b (L ++ printL n)) := by
  induction m with
  | zero => intro n v L W hm; have := wt_pos n; omega
  | succ m ih =>
    intro n v L W hm hn hE hL hv hB hT hbld
    obtain ⟨l, ps, t, ks⟩ := n
    obtain ⟨ap, cp, at_, ct, ak, ck, css, rfl, hp, ht, hk, hc⟩ := hv.open
    obtain ⟨-, hte, hke, hlk, hlt0⟩ := nodeE_zero hE
    have IH := Lib.hid ih
    have hwt : 1 + propsWt ps + t.length + wtAll ks = (NodeD.mk l ps t ks).wt := rfl
    have hw2 : wtAll ks ≤ 1048576 := by omega
    have hw3 : wtAll ks ≤ m := by omega
    have hw4 : propsWt ps ≤ 1048576 := by omega
    have hkl := wtAll_len ks
    have htl : t.length ≤ 1048576 := by omega
    have hpl := propsWt_len ps
    have hLl : L.length + 22 * (1 + propsWt ps + t.length + wtAll ks) ≤ 60000000 := by omega
    have Hpr : Hid (printL (.mk l ps t ks) = propsL ps ++ (if l then quoteL t else 91 :: (printK ks ++ [93]))) := rfl
    have HQ := fun W' (hW : Below B W W') (hs : B ≤ W'.heap.size) => Lib.hid (quote_ok _ _ t W' (ht.keep hW (Nat.le_refl _)) hs hte (by omega) (hT.keep hW hgB) (Nat.lt_of_lt_of_le hgB hs))
    have HT := fun W' (hW : Below B W W') => Lib.hid (hT.keep hW hgB)
    have HKe := Lib.hid (kidsE_mem hke)
    have hpm := propsC_len ps 123
    have Hpe : Hid (propsL ps = if ps.length = 0 then [] else propsC 123 ps ++ [125]) := rfl
    have HS0 := Lib.hid ((Spares.refl (bad := badBld) hB).alloc hB (Obj.cells #[.bool l, .slice ap ps.length cp, .slice at_ t.length ct, .slice ak ks.length ck] 26))
    have HB0 := Lib.hid (Bld.keep hbld (below_new W (Obj.cells #[.bool l, .slice ap ps.length cp, .slice at_ t.length ct, .slice ak ks.length ck] 26)))
    clear ih hv ht hwt hm hn hte hke hlk hlt0 hE hT hbld hL
    go_enter Tryd.func19, Tryd.ntmps19
    go_wp2_with fail
    go_loopw [16] (fun i wr => ∃ k : Nat, k ≤ ps.length ∧ i = .int .i64 k ∧ Bld wr B b (L ++ propsC 123 (ps.take k)) ∧ Spares badBld B (W.alloc (Obj.cells #[.bool l, .slice ap ps.length cp, .slice at_ t.length ct, .slice ak ks.length ck] 26)) wr) (fun i _ => ps.length - (intOf i).toNat)
    case atStart => exact ⟨0, Nat.zero_le _, rfl, HB0.out.cast (by simp [propsC]), Spares.refl (by simp; omega)⟩
    case round =>
      obtain ⟨k, hkn, rfl, hbld, hsp⟩ := hrel
      have hr2 := hp.keep (HS0.out.trans hsp).below (Nat.le_refl _)
      have hcl := propsC_len (ps.take k) 123
      have hck := propsWt_take ps k
      have hBw : B ≤ wr.heap.size := Nat.le_trans hB (Nat.le_trans HS0.out.size hsp.size)
      by_cases hlt : k < ps.length
      · have Hbld := Lib.hid hbld; have Hsp := Lib.hid hsp
        have Hss := Lib.hid (propsC_succ ps 123 k hlt)
        have hcw := propsWt_mem (List.getElem_mem hlt)
        obtain ⟨bb, off, rfl, hb, g0, g1⟩ := hr2.prop_at k hlt
        generalize ps[k] = p at hcw g0 g1 Hss
        obtain ⟨p1, p2⟩ := p
        simp only at hcw g0 g1 Hss
        generalize propsC 123 (ps.take k) = T at hcl Hss Hbld
        have hTl : T.length ≤ 1048576 := by omega
        have hl1 : p1.length ≤ 1048576 := by omega
        have hl2 : p2.length ≤ 1048576 := by omega
        have hLT : (L ++ T).length ≤ 80000000 := by simp only [List.length_append]; omega
        have HW := fun (c : UInt8) => Lib.hid (writeStringS_c B b (L ++ T) (c :: propL (p1, p2)) (wr.alloc (Obj.cells #[.string ⟨p1.toArray⟩, .string ⟨p2.toArray⟩] 47)) (Hbld.out.keep (below_new _ _)) (by simp only [propL, List.length_cons, List.length_append] at *; omega) (by simp; omega))
        clear hbld hsp hcl hck hcw hLT
        cases k with
        | zero =>
          rw [Nat.zero_mul, Nat.add_zero] at g0 g1
          have HW1 := HW 123
          clear HW
          go_wp2_with fail
          rw [str_prop2]
          refine HW1.out.mono ?_
          rintro e w2 ⟨rfl, hbld2, hsp2⟩
          have Hb2 := Lib.hid hbld2.bld; have Hs2 := Lib.hid ((Hsp.out.alloc (by simp; omega) _).trans hsp2)
          clear hbld2 hsp2 HW1
          go_wp2_with fail
          go_roundw
          case rel => exact ⟨1, by omega, by go_num, Hb2.out.cast (by rw [Hss.out]; simp), Hs2.out⟩
          case measure => simp [intOf]; omega
        | succ j =>
          have hj0 : (((j + 1 : Nat) : Int) == 0) = false := by simp only [beq_eq_false_iff_ne, ne_eq]; omega
          have hj1 : (((j : Int) + 1) == 0) = false := by simp only [beq_eq_false_iff_ne, ne_eq]; omega
          have HW1 := HW 44
          clear HW
          go_wp2_with fail
          rw [str_prop2]
          refine HW1.out.mono ?_
          rintro e w2 ⟨rfl, hbld2, hsp2⟩
          have Hb2 := Lib.hid hbld2.bld; have Hs2 := Lib.hid ((Hsp.out.alloc (by simp; omega) _).trans hsp2)
          clear hbld2 hsp2 HW1
          go_wp2_with fail
          go_roundw
          case rel => exact ⟨j + 1 + 1, by omega, by go_num, Hb2.out.cast (by rw [Hss.out]; simp), Hs2.out⟩
          case measure => simp [intOf]; omega
      · obtain rfl : k = ps.length := by omega
        rw [List.take_length] at hcl hbld
        obtain ⟨x0, x1, x2, x3⟩ := hsp.box4 rfl
        have hT0 : 0 < ps.length ∨ propsC 123 ps = [] := by
          rcases Nat.eq_zero_or_pos ps.length with h | h
          · right; rw [List.eq_nil_of_length_eq_zero h]; simp [propsC]
          · exact .inl h
        generalize propsC 123 ps = T at hpm Hpe hbld hT0 hcl
        have hTl : T.length ≤ propsWt ps := by omega
        have Hbld := Lib.hid hbld; have Hsp := Lib.hid hsp; have HT0 := Lib.hid hT0
        have hszl : W.heap.size < wr.heap.size := by have := hsp.size; simp at this; omega
        clear hbld hsp hpm hcl hck hT0
        by_cases hp0 : 0 < ps.length
        · have Hnz := Lib.hid hp0
          have HWb := Lib.hid (writeByteS_n B b (L ++ T) 125 125 rfl wr Hbld.out (by simp only [List.length_append]; omega) hBw)
          go_wp2_with fail
          refine HWb.out.mono ?_
          rintro e w1 ⟨rfl, hbld, hsp1⟩
          have Hb1 := Lib.hid hbld; have Hs1 := Lib.hid (Hsp.out.trans hsp1)
          obtain ⟨y0, y1, y2, y3⟩ := Hs1.out.box4 rfl
          have HPL : Hid (L ++ T ++ [125] = L ++ propsL ps) := by
            show L ++ T ++ [125] = L ++ propsL ps
            rw [Hpe.out, if_neg (by have := Hnz.out; omega)]; simp
          have hszl1 : W.heap.size < w1.heap.size := by have := Hs1.out.size; simp at this; omega
          have hBw1 : B ≤ w1.heap.size := by omega
          have Hb1' := Lib.hid (Hb1.out.cast HPL.out).bld
          clear hbld hsp1 HWb x0 x1 x2 x3 Hb1 hszl hBw
          have hppl := propsL_len ps
          cases l with
          | true =>
            have HQ1 := HQ w1 (HS0.out.trans Hs1.out).below hBw1
            have hql := quoteL_len t
            go_wp2_with fail
            refine HQ1.out.mono ?_
            rintro e w3 ⟨rfl, hbel⟩
            have HWs := Lib.hid (writeStringS_c B b (L ++ propsL ps) (quoteL t) w3 (Hb1'.out.keep hbel) (by simp only [List.length_append]; omega) (Nat.le_trans hBw1 hbel.size))
            have Hs3 := Lib.hid (Hs1.out.more hbel (by simp; omega))
            clear hbel HQ1
            go_wp2_with fail
            refine HWs.out.mono ?_
            rintro e w4 ⟨rfl, hbld, hsp⟩
            have Hb4 := Lib.hid hbld; have Hs4 := Lib.hid (Hs3.out.trans hsp)
            clear hbld hsp HWs
            go_wp2_with fail
            go_ret
            exact ⟨rfl, Hb4.out.cast (by rw [Hpr.out]; simp), HS0.out.trans Hs4.out⟩
          | false =>
            have HWb1 := Lib.hid (writeByteS_n B b (L ++ propsL ps) 91 91 rfl w1 Hb1'.out (by simp only [List.length_append]; omega) hBw1)
            go_wp2_with fail
            refine HWb1.out.mono ?_
            rintro e w3 ⟨rfl, hbld, hsp⟩
            have Hb3 := Lib.hid hbld; have Hs3 := Lib.hid (Hs1.out.trans hsp)
            obtain ⟨z0, z1, z2, z3⟩ := Hs3.out.box4 rfl
            have hsz3 : W.heap.size < w3.heap.size := by have := Hs3.out.size; simp at this; omega
            clear hbld hsp HWb1 y0 y1 y2 y3
            go_wp2_with fail
            go_loopw [57] (fun i wr => ∃ k : Nat, k ≤ ks.length ∧ i = .int .i64 k ∧ BldU wr B b (L ++ propsL ps ++ 91 :: printK (ks.take k)) ∧ Spares badBld B (W.alloc (Obj.cells #[.bool false, .slice ap ps.length cp, .slice at_ t.length ct, .slice ak ks.length ck] 26)) wr) (fun i _ => ks.length - (intOf i).toNat)
            case atStart => exact ⟨0, Nat.zero_le _, rfl, Hb3.out.cast (by simp [printK]), Hs3.out⟩
            case round =>
              obtain ⟨k, hkn, rfl, hbld, hsp⟩ := hrel
              have hW0 := (HS0.out.trans hsp).below
              have hr2 := hk.keep hW0 (Nat.le_refl _)
              have hc2 := KidsC.keep hW0 (Nat.le_refl _) ks css hc
              have hBw : B ≤ wr.heap.size := Nat.le_trans hB (Nat.le_trans HS0.out.size hsp.size)
              have hcl := printK_take_len ks k
              obtain ⟨X, hX⟩ : ∃ X, X = L ++ propsL ps ++ 91 :: printK (ks.take k) := ⟨_, rfl⟩
              have hXl : X.length = L.length + (propsL ps).length + 1 + (printK (ks.take k)).length := by rw [hX]; simp only [List.length_append, List.length_cons]; omega
              rw [← hX] at hbld
              have HX := Lib.hid hX
              have Hbld := Lib.hid hbld; have Hsp := Lib.hid hsp; have HW0 := Lib.hid hW0
              clear hbld hsp hX hW0 z0 z1 z2 z3
              by_cases hlt : k < ks.length
              · have Hss := Lib.hid (printK_succ hlt)
                have hkw := wtAll_mem (List.getElem_mem hlt)
                have hkq := printK_take_q hlt
                have hqe := HKe.out ks[k] (List.getElem_mem hlt)
                obtain ⟨bb, off, l', a1, n1, c1, a2, n2, c2, a3, n3, c3, rfl, hb, hnc, g0, g1, g2, g3⟩ := hr2.kid_at hc2 k hlt
                generalize ks[k] = q at hnc hkw Hss hqe hkq
                have hBx := below_new wr (Obj.cells #[.bool l', .slice a1 n1 c1, .slice a2 n2 c2, .slice a3 n3 c3] 26)
                have HC := Lib.hid (IH.out q (.agg #[.bool l', .slice a1 n1 c1, .slice a2 n2 c2, .slice a3 n3 c3]) X _ (by omega) (by omega) hqe (by omega) ⟨_, rfl, NodeC.keep (hBx.mono hBw) (Nat.le_refl _) _ _ hnc⟩ (Nat.le_trans hBw hBx.size) (HT _ (HW0.out.trans (hBx.mono hBw))).out (Bld.keep Hbld.out.bld hBx))
                clear hqe hBx hkq hXl hcl
                go_wp2_with fail
                refine HC.out.mono ?_
                rintro e w4 ⟨rfl, hbld, hsp⟩
                have Hb4 := Lib.hid hbld; have Hs4 := Lib.hid ((Hsp.out.alloc (by simp; omega) _).trans hsp)
                clear hbld hsp HC
                go_wp2_with fail
                go_roundw
                case rel => exact ⟨k + 1, by omega, by go_num, Hb4.out.cast (by rw [Hss.out, HX.out]; simp), Hs4.out⟩
                case measure => simp [intOf]; omega
              · obtain rfl : k = ks.length := by omega
                have HWe := Lib.hid (writeByteS_n B b X 93 93 rfl wr Hbld.out.bld (by omega) hBw)
                clear hXl hcl
                go_wp2_with fail
                refine HWe.out.mono ?_
                rintro e w4 ⟨rfl, hbld, hsp⟩
                have Hb4 := Lib.hid hbld; have Hs4 := Lib.hid (Hsp.out.trans hsp)
                clear hbld hsp HWe
                go_wp2_with fail
                go_ret
                exact ⟨rfl, Hb4.out.cast (by rw [HX.out, Hpr.out, List.take_length]; simp), HS0.out.trans Hs4.out⟩
        · have Hz : Hid (ps.length = 0 ∧ T = []) := by
            show ps.length = 0 ∧ T = []
            exact ⟨by omega, HT0.out.elim (fun h => absurd h hp0) id⟩
          have hp1 : ps.length ≤ 0 := by omega
          have hpd : decide ((0 : Int) < (ps.length : Int)) = false := decide_eq_false (by omega)
          have hpd2 : decide (0 < ps.length) = false := decide_eq_false (by omega)
          have Hb1' : Hid (Bld wr B b (L ++ propsL ps)) := by
            show Bld wr B b (L ++ propsL ps)
            refine Hbld.out.cast ?_
            rw [Hpe.out, if_pos Hz.out.1, Hz.out.2]
          have hBwr := hBw
          clear hp0 Hbld hBw
          have hppl := propsL_len ps
          cases l with
          | true =>
            have HQ1 := HQ wr (HS0.out.trans Hsp.out).below hBwr
            have hql := quoteL_len t
            go_wp2_with fail
            refine HQ1.out.mono ?_
            rintro e w3 ⟨rfl, hbel⟩
            have HWs := Lib.hid (writeStringS_c B b (L ++ propsL ps) (quoteL t) w3 (Hb1'.out.keep hbel) (by simp only [List.length_append]; omega) (Nat.le_trans hBwr hbel.size))
            have Hs3 := Lib.hid (Hsp.out.more hbel (by simp; omega))
            clear hbel HQ1
            go_wp2_with fail
            refine HWs.out.mono ?_
            rintro e w4 ⟨rfl, hbld, hsp⟩
            have Hb4 := Lib.hid hbld; have Hs4 := Lib.hid (Hs3.out.trans hsp)
            clear hbld hsp HWs
            go_wp2_with fail
            go_ret
            exact ⟨rfl, Hb4.out.cast (by rw [Hpr.out]; simp), HS0.out.trans Hs4.out⟩
          | false =>
            have HWb1 := Lib.hid (writeByteS_n B b (L ++ propsL ps) 91 91 rfl wr Hb1'.out (by simp only [List.length_append]; omega) hBwr)
            go_wp2_with fail
            refine HWb1.out.mono ?_
            rintro e w3 ⟨rfl, hbld, hsp⟩
            have Hb3 := Lib.hid hbld; have Hs3 := Lib.hid (Hsp.out.trans hsp)
            obtain ⟨z0, z1, z2, z3⟩ := Hs3.out.box4 rfl
            have hsz3 : W.heap.size < w3.heap.size := by have := Hs3.out.size; simp at this; omega
            clear hbld hsp HWb1 x0 x1 x2 x3
            go_wp2_with fail
            go_loopw [57] (fun i wr => ∃ k : Nat, k ≤ ks.length ∧ i = .int .i64 k ∧ BldU wr B b (L ++ propsL ps ++ 91 :: printK (ks.take k)) ∧ Spares badBld B (W.alloc (Obj.cells #[.bool false, .slice ap ps.length cp, .slice at_ t.length ct, .slice ak ks.length ck] 26)) wr) (fun i _ => ks.length - (intOf i).toNat)
            case atStart => exact ⟨0, Nat.zero_le _, rfl, Hb3.out.cast (by simp [printK]), Hs3.out⟩
            case round =>
              obtain ⟨k, hkn, rfl, hbld, hsp⟩ := hrel
              have hW0 := (HS0.out.trans hsp).below
              have hr2 := hk.keep hW0 (Nat.le_refl _)
              have hc2 := KidsC.keep hW0 (Nat.le_refl _) ks css hc
              have hBw : B ≤ wr.heap.size := Nat.le_trans hB (Nat.le_trans HS0.out.size hsp.size)
              have hcl := printK_take_len ks k
              obtain ⟨X, hX⟩ : ∃ X, X = L ++ propsL ps ++ 91 :: printK (ks.take k) := ⟨_, rfl⟩
              have hXl : X.length = L.length + (propsL ps).length + 1 + (printK (ks.take k)).length := by rw [hX]; simp only [List.length_append, List.length_cons]; omega
              rw [← hX] at hbld
              have HX := Lib.hid hX
              have Hbld := Lib.hid hbld; have Hsp := Lib.hid hsp; have HW0 := Lib.hid hW0
              clear hbld hsp hX hW0 z0 z1 z2 z3
              by_cases hlt : k < ks.length
              · have Hss := Lib.hid (printK_succ hlt)
                have hkw := wtAll_mem (List.getElem_mem hlt)
                have hkq := printK_take_q hlt
                have hqe := HKe.out ks[k] (List.getElem_mem hlt)
                obtain ⟨bb, off, l', a1, n1, c1, a2, n2, c2, a3, n3, c3, rfl, hb, hnc, g0, g1, g2, g3⟩ := hr2.kid_at hc2 k hlt
                generalize ks[k] = q at hnc hkw Hss hqe hkq
                have hBx := below_new wr (Obj.cells #[.bool l', .slice a1 n1 c1, .slice a2 n2 c2, .slice a3 n3 c3] 26)
                have HC := Lib.hid (IH.out q (.agg #[.bool l', .slice a1 n1 c1, .slice a2 n2 c2, .slice a3 n3 c3]) X _ (by omega) (by omega) hqe (by omega) ⟨_, rfl, NodeC.keep (hBx.mono hBw) (Nat.le_refl _) _ _ hnc⟩ (Nat.le_trans hBw hBx.size) (HT _ (HW0.out.trans (hBx.mono hBw))).out (Bld.keep Hbld.out.bld hBx))
                clear hqe hBx hkq hXl hcl
                go_wp2_with fail
                refine HC.out.mono ?_
                rintro e w4 ⟨rfl, hbld, hsp⟩
                have Hb4 := Lib.hid hbld; have Hs4 := Lib.hid ((Hsp.out.alloc (by simp; omega) _).trans hsp)
                clear hbld hsp HC
                go_wp2_with fail
                go_roundw
                case rel => exact ⟨k + 1, by omega, by go_num, Hb4.out.cast (by rw [Hss.out, HX.out]; simp), Hs4.out⟩
                case measure => simp [intOf]; omega
              · obtain rfl : k = ks.length := by omega
                have HWe := Lib.hid (writeByteS_n B b X 93 93 rfl wr Hbld.out.bld (by omega) hBw)
                clear hXl hcl
                go_wp2_with fail
                refine HWe.out.mono ?_
                rintro e w4 ⟨rfl, hbld, hsp⟩
                have Hb4 := Lib.hid hbld; have Hs4 := Lib.hid (Hsp.out.trans hsp)
                clear hbld hsp HWe
                go_wp2_with fail
                go_ret
                exact ⟨rfl, Hb4.out.cast (by rw [HX.out, Hpr.out, List.take_length]; simp), HS0.out.trans Hs4.out⟩

end Go.Proofs.YtmhgbocejjnoaaaDoor
