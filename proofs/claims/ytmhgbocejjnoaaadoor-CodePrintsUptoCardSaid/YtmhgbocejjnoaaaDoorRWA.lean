/- Walk: CodePrints. -/
import Derived.Test.YtmhgbocejjnoaaaDoorRW9
namespace Go.Proofs.YtmhgbocejjnoaaaDoor
open Go.RowKit Go.Redl
set_option linter.unusedVariables false

set_option maxRecDepth 100000 in
set_option maxHeartbeats 2000000 in
theorem prints_walk (n : NodeD) (v : Value) (w : World) (hn : n.wt ≤ 1048576) (hv : NodeV w w.heap.size n v) (hT : TabAt w) (hg : 3 < w.heap.size) :
    Calls Tryd.prog 3 #[v] w fun e w' => e = .returned (.bool true) ∧ Below w.heap.size w w' := by
  have hv0 := hv
  obtain ⟨l, ps, t, ks⟩ := n
  obtain ⟨ap, cp, at_, ct, ak, ck, css, rfl, -, -, -, -⟩ := hv0.open
  generalize NodeD.mk l ps t ks = n at hv hn ⊢
  have hB0 := below_new w (Obj.cells #[.bool l, .slice ap ps.length cp, .slice at_ t.length ct, .slice ak ks.length ck] 26)
  have HL := Lib.hid (live_c _ (hT.keep hB0 hg) (Nat.lt_of_lt_of_le hg hB0.size))
  have HF := fun (w1 : World) (hb : Below w.heap.size w w1) => Lib.hid (rfew_c n _ 200 w1 (by omega) (by omega) (by omega) (hv.keep hb hb.size))
  cases hfew : fewB n 200 with
  | false =>
    rw [hfew] at HF
    clear hv0 hv hB0 hn hT hfew
    go_enter Tryd.func3, Tryd.ntmps3
    go_wp2_with fail
    refine HL.out.mono ?_
    rintro e w1 ⟨rfl, hbel⟩
    obtain ⟨x0, x1, x2, x3⟩ := box_keep (below_box hbel)
    have Hb1 := Lib.hid (below_unbox (below_box hbel))
    have HF1 := HF _ Hb1.out
    clear hbel HL HF
    go_wp2_with fail
    refine HF1.out.mono ?_
    rintro e w2 ⟨rfl, hbel⟩
    have Hb2 := Lib.hid (below_then Hb1.out hbel (Nat.le_refl _))
    clear hbel HF1 x0 x1 x2 x3
    go_wp2_with fail
    go_ret
    exact ⟨rfl, Hb2.out⟩
  | true =>
    rw [hfew] at HF
    by_cases hE : nodeE n = 0
    · have HP := fun (w1 : World) (hb : Below w.heap.size w w1) => Lib.hid (print_ok n _ w1 hn (hv.keep hb hb.size) hE (hT.keep hb hg) (Nat.lt_of_lt_of_le hg hb.size))
      have HR := fun (w1 : World) (hb : Below w.heap.size w w1) => Lib.hid (rprint_ok n _ w1 hn (hv.keep hb hb.size) hE)
      obtain ⟨S, hS⟩ : ∃ S, S = (⟨(printL n).toArray⟩ : ByteArray) := ⟨_, rfl⟩
      rw [← hS] at HP HR
      clear hv0 hv hB0 hn hT hfew hE hS
      go_enter Tryd.func3, Tryd.ntmps3
      go_wp2_with fail
      refine HL.out.mono ?_
      rintro e w1 ⟨rfl, hbel⟩
      obtain ⟨x0, x1, x2, x3⟩ := box_keep (below_box hbel)
      have Hb1 := Lib.hid (below_unbox (below_box hbel))
      have Hx1 := Lib.hid (below_box hbel)
      have HF1 := HF _ Hb1.out
      clear hbel HL HF
      go_wp2_with fail
      refine HF1.out.mono ?_
      rintro e w2 ⟨rfl, hbel⟩
      have Hb2 := Lib.hid (below_then Hb1.out hbel (Nat.le_refl _))
      have Hx2 := Lib.hid (below_then Hx1.out hbel (by simp))
      obtain ⟨y0, y1, y2, y3⟩ := box_keep Hx2.out
      have HP1 := HP _ Hb2.out
      clear hbel HF1 x0 x1 x2 x3 Hx1 HP
      go_wp2_with fail
      refine HP1.out.mono ?_
      rintro e w3 ⟨rfl, hbel⟩
      have Hb3 := Lib.hid (below_then Hb2.out hbel (Nat.le_refl _))
      obtain ⟨z0, z1, z2, z3⟩ := box_keep (below_then Hx2.out hbel (by simp))
      have HR1 := HR _ Hb3.out
      clear hbel HP1 y0 y1 y2 y3 Hx2 HR
      go_wp2_with fail
      refine HR1.out.mono ?_
      rintro e w4 ⟨rfl, hbel⟩
      have Hb4 := Lib.hid (below_then Hb3.out hbel (Nat.le_refl _))
      clear hbel HR1 z0 z1 z2 z3
      go_wp2_with fail
      go_ret
      exact ⟨ret_bool (by simp), Hb4.out⟩
    · have HP := fun (w1 : World) (hb : Below w.heap.size w w1) => Lib.hid (print_no n _ w1 hn (hv.keep hb hb.size) hE)
      have HR := fun (w1 : World) (hb : Below w.heap.size w w1) => Lib.hid (rprint_no n _ w1 hn (hv.keep hb hb.size) hE)
      generalize nodeE n = x at HP HR
      clear hv0 hv hB0 hn hT hfew hE
      go_enter Tryd.func3, Tryd.ntmps3
      go_wp2_with fail
      refine HL.out.mono ?_
      rintro e w1 ⟨rfl, hbel⟩
      obtain ⟨x0, x1, x2, x3⟩ := box_keep (below_box hbel)
      have Hb1 := Lib.hid (below_unbox (below_box hbel))
      have Hx1 := Lib.hid (below_box hbel)
      have HF1 := HF _ Hb1.out
      clear hbel HL HF
      go_wp2_with fail
      refine HF1.out.mono ?_
      rintro e w2 ⟨rfl, hbel⟩
      have Hb2 := Lib.hid (below_then Hb1.out hbel (Nat.le_refl _))
      have Hx2 := Lib.hid (below_then Hx1.out hbel (by simp))
      obtain ⟨y0, y1, y2, y3⟩ := box_keep Hx2.out
      have HP1 := HP _ Hb2.out
      clear hbel HF1 x0 x1 x2 x3 Hx1 HP
      go_wp2_with fail
      refine HP1.out.mono ?_
      rintro e w3 ⟨rfl, hbel⟩
      have Hb3 := Lib.hid (below_then Hb2.out hbel (Nat.le_refl _))
      obtain ⟨z0, z1, z2, z3⟩ := box_keep (below_then Hx2.out hbel (by simp))
      have HR1 := HR _ Hb3.out
      clear hbel HP1 y0 y1 y2 y3 Hx2 HR
      go_wp2_with fail
      refine HR1.out.mono ?_
      rintro e w4 ⟨rfl, hbel⟩
      have Hb4 := Lib.hid (below_then Hb3.out hbel (Nat.le_refl _))
      clear hbel HR1 z0 z1 z2 z3
      go_wp2_with fail
      go_ret
      exact ⟨ret_bool (by simp), Hb4.out⟩

end Go.Proofs.YtmhgbocejjnoaaaDoor
