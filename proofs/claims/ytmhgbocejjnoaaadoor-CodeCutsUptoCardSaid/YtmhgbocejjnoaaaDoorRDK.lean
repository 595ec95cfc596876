/- Walk: CodeCuts. UNDER WAY: does not build yet (the arm of a printed tree wants the two Parse calls). -/
import Derived.Test.YtmhgbocejjnoaaaDoorRW9
import Derived.Test.YtmhgbocejjnoaaaDoorRDH
import Derived.Test.YtmhgbocejjnoaaaDoorRDI
import Derived.Test.YtmhgbocejjnoaaaDoorRDJ
namespace Go.Proofs.YtmhgbocejjnoaaaDoor
open Go.RowKit Go.Redl
set_option linter.unusedVariables false

set_option maxRecDepth 100000 in
set_option maxHeartbeats 2000000 in
theorem cuts_walk (n : NodeD) (v : Value) (b : UInt8) (w : World) (hn : n.wt ≤ 1048576) (hv : NodeV w w.heap.size n v) (hT : TabAt w) (hEr : ErrsAt w) (hg : 3 < w.heap.size) :
    Calls Tryd.prog 5 #[v, .int .u8 b.toNat] w fun e w' => e = .returned (.bool true) ∧ Below w.heap.size w w' := by
  have hv0 := hv
  obtain ⟨l, ps, t, ks⟩ := n
  obtain ⟨ap, cp, at_, ct, ak, ck, css, rfl, -, -, -, -⟩ := hv0.open
  generalize NodeD.mk l ps t ks = n at hv hn ⊢
  have hB0 := below_new w (Obj.cells #[.bool l, .slice ap ps.length cp, .slice at_ t.length ct, .slice ak ks.length ck] 26)
  have HL := Lib.hid (live_c _ (hT.keep hB0 hg) (Nat.lt_of_lt_of_le hg hB0.size))
  have HF := fun (w1 : World) (hb : Below w.heap.size w w1) => Lib.hid (rfew_c n _ 150 w1 (by omega) (by omega) (by omega) (hv.keep hb hb.size))
  cases hfew : fewB n 150 with
  | false =>
    rw [hfew] at HF
    clear hv0 hv hB0 hn hT hfew
    go_enter Tryd.func5, Tryd.ntmps5
    go_wp2_with fail
    refine HL.out.mono ?_
    rintro e w1 ⟨rfl, hbel⟩
    obtain ⟨x0, x1, x2, x3⟩ := box_keep (below_box hbel)
    have Hb1 := Lib.hid (below_unbox (below_box hbel))
    have HF1 := HF _ Hb1.out
    clear hbel HL HF
    go_wp2_with fail
    refine HF1.out.mono ?_
    rintro e w2 ⟨rfl, hbel⟩
    have Hb2 := Lib.hid (below_then Hb1.out hbel (Nat.le_refl _))
    clear hbel HF1 x0 x1 x2 x3
    go_wp2_with fail
    go_ret
    exact ⟨rfl, Hb2.out⟩
  | true =>
    rw [hfew] at HF
    by_cases hE : nodeE n = 0
    · have hfl := few_len n 150 hE (by unfold fewB at hfew; simpa using hfew)
      have hfn : 0 ≤ leftN n 150 := by unfold fewB at hfew; simpa using hfew
      have hhead : 1 ≤ (printL n).length := by obtain ⟨x, r, hx, -⟩ := printL_head n; rw [hx]; simp
      have HP := fun (w1 : World) (hb : Below w.heap.size w w1) => Lib.hid (print_ok n _ w1 hn (hv.keep hb hb.size) hE (hT.keep hb hg) (Nat.lt_of_lt_of_le hg hb.size))
      have HQ1 := fun (w1 : World) (hb : Below w.heap.size w w1) => parseT_c (printL n).dropLast w1 (by simp; omega) (hEr.keep hb) (hT.keep hb hg) (Nat.lt_of_lt_of_le hg hb.size)
      have HQ2 := fun (w1 : World) (hb : Below w.heap.size w w1) => parseT_c (printL n ++ [b]) w1 (by simp; omega) (hEr.keep hb) (hT.keep hb hg) (Nat.lt_of_lt_of_le hg hb.size)
      rw [parse_less hE] at HQ1
      rw [parse_more hE] at HQ2
      have hcut : (⟨(printL n).toArray⟩ : ByteArray).extract 0 ((printL n).length - 1) = ⟨(printL n).dropLast.toArray⟩ := by
        rw [ByteArray.extract_mk]; simp [List.dropLast_eq_take]
      have hadd : (⟨(printL n).toArray⟩ : ByteArray) ++ ⟨[b].toArray⟩ = ⟨(printL n ++ [b]).toArray⟩ := bytes_append _ _
      have hsz : (⟨(printL n).toArray⟩ : ByteArray).size = (printL n).length := rfl
      obtain ⟨S1, hS1⟩ : ∃ S1, S1 = (⟨(printL n).dropLast.toArray⟩ : ByteArray) := ⟨_, rfl⟩
      obtain ⟨S2, hS2⟩ : ∃ S2, S2 = (⟨(printL n ++ [b]).toArray⟩ : ByteArray) := ⟨_, rfl⟩
      obtain ⟨S, hS⟩ : ∃ S, S = (⟨(printL n).toArray⟩ : ByteArray) := ⟨_, rfl⟩
      rw [← hS1] at HQ1 hcut
      rw [← hS2] at HQ2 hadd
      obtain ⟨B1, hB1⟩ : ∃ B1, B1 = (⟨[b].toArray⟩ : ByteArray) := ⟨_, rfl⟩
      have HB1 := Lib.hid hB1
      have hB1s : B1.size = 1 := by rw [hB1]; rfl
      rw [← hB1] at hadd
      clear hB1
      rw [← hS] at HP hcut hadd hsz
      have hle : (printL n).length ≤ 9000 := by omega
      obtain ⟨L, hL⟩ : ∃ L, L = (printL n).length := ⟨_, rfl⟩
      rw [← hL] at hcut hsz hhead HQ1 HQ2 hle
      have hSe : S.toList.isEmpty = false := by
        rw [hS, ByteArray.toList_mk]
        cases hp : printL n with
        | nil => rw [hp] at hL; simp at hL; omega
        | cons x r => rfl
      obtain ⟨M, rfl⟩ : ∃ M, L = M + 1 := ⟨L - 1, by omega⟩
      rw [Nat.add_sub_cancel] at hcut HQ1
      have HQ1 := Lib.hid HQ1; have HQ2 := Lib.hid HQ2; have Hadd := Lib.hid hadd
      clear hv0 hv hB0 hn hT hEr hfew hE hS hS1 hS2 hL hfl hfn hadd
      go_enter Tryd.func5, Tryd.ntmps5
      go_wp2_with fail
      refine HL.out.mono ?_
      rintro e w1 ⟨rfl, hbel⟩
      obtain ⟨x0, x1, x2, x3⟩ := box_keep (below_box hbel)
      have Hb1 := Lib.hid (below_unbox (below_box hbel))
      have Hx1 := Lib.hid (below_box hbel)
      have HF1 := HF _ Hb1.out
      clear hbel HL HF
      go_wp2_with fail
      refine HF1.out.mono ?_
      rintro e w2 ⟨rfl, hbel⟩
      have Hb2 := Lib.hid (below_then Hb1.out hbel (Nat.le_refl _))
      have Hx2 := Lib.hid (below_then Hx1.out hbel (by simp))
      obtain ⟨y0, y1, y2, y3⟩ := box_keep Hx2.out
      have HP1 := HP _ Hb2.out
      clear hbel HF1 x0 x1 x2 x3 Hx1 HP
      go_wp2_with fail
      refine HP1.out.mono ?_
      rintro e w3 ⟨rfl, hbel⟩
      have Hb3 := Lib.hid (below_then Hb2.out hbel (Nat.le_refl _))
      have HQ3 := Lib.hid (HQ1.out w3 Hb3.out)
      clear hbel HP1 y0 y1 y2 y3 Hx2 HQ1
      go_wp2_with fail
      refine HQ3.out.mono ?_
      rintro e w4 ⟨rfl, -, hbel⟩
      have Hb4 := Lib.hid (below_then Hb3.out hbel (Nat.le_refl _))
      clear hbel HQ3
      have hC : (convert 41 9 (.slice (some ⟨w4.heap.size + 1, 0, none⟩) 1 1)).run Tryd.prog ((w4.alloc (Obj.cells #[.bool false, .slice none 0 0, .slice none 0 0, .slice none 0 0] 26)).alloc (Obj.cells #[.int .u8 b.toNat] 5)) = .ok (.string B1) ((w4.alloc (Obj.cells #[.bool false, .slice none 0 0, .slice none 0 0, .slice none 0 0] 26)).alloc (Obj.cells #[.int .u8 b.toNat] 5)) := by
        rw [HB1.out]
        refine run_convert_bytes_back _ _ _ 5 _ 1 [b] Tryd.underlying41 (by kernel_rfl) (by kernel_rfl) ?_
        intro j hj
        have hj0 : j = 0 := by simp at hj; omega
        subst hj0
        have hs4 : (w4.alloc (Obj.cells #[.bool false, .slice none 0 0, .slice none 0 0, .slice none 0 0] 26)).heap.size = w4.heap.size + 1 := by simp
        have := World.cell?_alloc_mark (w4.alloc (Obj.cells #[.bool false, .slice none 0 0, .slice none 0 0, .slice none 0 0] 26)) #[.int .u8 b.toNat] 5 (0, 0) 0
        rw [hs4] at this
        exact this
      have hadd := Hadd.out
      have Hb5 := Lib.hid (Hb4.out.alloc (by have := Hb4.out.size; exact this) (Obj.cells #[.bool false, .slice none 0 0, .slice none 0 0, .slice none 0 0] 26) |>.alloc (by have := Hb4.out.size; simp; omega) (Obj.cells #[.int .u8 b.toNat] 5))
      have HQ4 := Lib.hid (HQ2.out _ Hb5.out)
      have Hm := Lib.hid ((NodeAt.fresh w4 (.bool false) (.slice none 0 0) (.slice none 0 0) (.slice none 0 0)).alloc (Obj.cells #[.int .u8 b.toNat] 5))
      have hs5 : ((w4.alloc (Obj.cells #[.bool false, .slice none 0 0, .slice none 0 0, .slice none 0 0] 26)).alloc (Obj.cells #[.int .u8 b.toNat] 5)).heap.size = w4.heap.size + 2 := by simp
      clear HQ2
      go_wp2_with fail
      clear hC hadd
      refine HQ4.out.mono ?_
      rintro e w5 ⟨rfl, -, hbel⟩
      have Hb6 := Lib.hid (below_then Hb5.out hbel (Nat.le_refl _))
      have hm := Hm.out.keep (hbel.mono (by rw [hs5]; omega))
      have Hm2 := Lib.hid (hm.alloc (Obj.cells #[.bool false, .slice none 0 0, .slice none 0 0, .slice none 0 0] 26))
      obtain ⟨m0, m1, m2, m3, -, hmw⟩ := hm.facts
      have Hb7 := Lib.hid (Hb6.out.alloc Hb6.out.size (Obj.cells #[.bool false, .slice none 0 0, .slice none 0 0, .slice none 0 0] 26))
      have HSm := fun W => Lib.hid (same04_zero W)
      clear hbel hm HQ4 hs5
      go_wp2_with fail
      refine (HSm _).out.mono ?_
      rintro e w6 ⟨rfl, hbel⟩
      have Hb8 := Lib.hid (below_then Hb7.out hbel (Nat.le_refl _))
      have hk := (NodeAt.fresh w5 (.bool false) (.slice none 0 0) (.slice none 0 0) (.slice none 0 0)).keep (hbel.mono (by simp))
      obtain ⟨k0, k1, k2, k3, -, -⟩ := hk.facts
      clear hbel hk m0 m1 m2 m3
      go_wp2_with fail
      refine (HSm _).out.mono ?_
      rintro e w7 ⟨rfl, hbel⟩
      have Hb9 := Lib.hid (below_then Hb8.out hbel (Nat.le_refl _))
      clear hbel k0 k1 k2 k3
      go_wp2_with fail
      go_ret
      exact ⟨ret_bool (by simp), Hb9.out⟩
    · have HP := fun (w1 : World) (hb : Below w.heap.size w w1) => Lib.hid (print_no n _ w1 hn (hv.keep hb hb.size) hE)
      have hx0 : (nodeE n == 0) = false := by simpa using hE
      have hx1 : (nodeE n != 0) = true := by simpa using hE
      generalize nodeE n = x at HP hx0 hx1
      clear hv0 hv hB0 hn hT hfew hE
      go_enter Tryd.func5, Tryd.ntmps5
      go_wp2_with fail
      refine HL.out.mono ?_
      rintro e w1 ⟨rfl, hbel⟩
      obtain ⟨x0, x1, x2, x3⟩ := box_keep (below_box hbel)
      have Hb1 := Lib.hid (below_unbox (below_box hbel))
      have Hx1 := Lib.hid (below_box hbel)
      have HF1 := HF _ Hb1.out
      clear hbel HL HF
      go_wp2_with fail
      refine HF1.out.mono ?_
      rintro e w2 ⟨rfl, hbel⟩
      have Hb2 := Lib.hid (below_then Hb1.out hbel (Nat.le_refl _))
      have Hx2 := Lib.hid (below_then Hx1.out hbel (by simp))
      obtain ⟨y0, y1, y2, y3⟩ := box_keep Hx2.out
      have HP1 := HP _ Hb2.out
      clear hbel HF1 x0 x1 x2 x3 Hx1 HP
      go_wp2_with fail
      refine HP1.out.mono ?_
      rintro e w3 ⟨rfl, hbel⟩
      have Hb3 := Lib.hid (below_then Hb2.out hbel (Nat.le_refl _))
      obtain ⟨z0, z1, z2, z3⟩ := box_keep (below_then Hx2.out hbel (by simp))
      clear hbel HP1 y0 y1 y2 y3 Hx2 z0 z1 z2 z3
      go_wp2_with fail
      go_ret
      exact ⟨ret_bool (by simp), Hb3.out⟩

end Go.Proofs.YtmhgbocejjnoaaaDoor
