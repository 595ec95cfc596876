/- Walks: code.Print. -/
import Derived.Test.YtmhgbocejjnoaaaDoorRW6
namespace Go.Proofs.YtmhgbocejjnoaaaDoor
open Go.RowKit Go.Redl
set_option linter.unusedVariables false

theorem printL_ne (n : NodeD) : printL n ≠ [] := by
  obtain ⟨l, ps, t, ks⟩ := n
  rw [printL]
  cases l <;> simp [quoteL]

set_option maxRecDepth 100000 in
set_option maxHeartbeats 1000000 in
theorem print_no (n : NodeD) (v : Value) (W : World) (hn : n.wt ≤ 1048576) (hv : NodeV W W.heap.size n v) (hE : nodeE n ≠ 0) :
    Calls Tryd.prog 8 #[v] W fun e w' => e = .returned (.tuple #[.string ⟨#[]⟩, .int .i64 (nodeE n)]) ∧ Below W.heap.size W w' := by
  have hv0 := hv
  obtain ⟨l, ps, t, ks⟩ := n
  obtain ⟨ap, cp, at_, ct, ak, ck, css, rfl, -, -, -, -⟩ := hv0.open
  generalize NodeD.mk l ps t ks = n at hv hn hE ⊢
  have hB0 := below_new W (Obj.cells #[.bool l, .slice ap ps.length cp, .slice at_ t.length ct, .slice ak ks.length ck] 26)
  have HS := Lib.hid (ncheck_c n _ W.heap.size _ hn (hv.keep hB0 (Nat.le_refl _)) hB0.size)
  have hne : (nodeE n != 0) = true := by simpa using hE
  clear hv0 hv hB0 hn hE
  go_enter Tryd.func8, Tryd.ntmps8
  go_wp2_with fail
  refine HS.out.mono ?_
  rintro e w1 ⟨rfl, hbel⟩
  have Hb1 := Lib.hid (below_unbox (below_box hbel))
  clear hbel HS
  go_wp2_with fail
  go_ret2
  exact ⟨rfl, Hb1.out⟩

set_option maxRecDepth 100000 in
set_option maxHeartbeats 1000000 in
theorem print_ok (n : NodeD) (v : Value) (W : World) (hn : n.wt ≤ 1048576) (hv : NodeV W W.heap.size n v) (hE : nodeE n = 0) (hT : TabAt W) (hg : 3 < W.heap.size) :
    Calls Tryd.prog 8 #[v] W fun e w' => e = .returned (.tuple #[.string ⟨(printL n).toArray⟩, .int .i64 0]) ∧ Below W.heap.size W w' := by
  have hv0 := hv
  obtain ⟨l, ps, t, ks⟩ := n
  obtain ⟨ap, cp, at_, ct, ak, ck, css, rfl, -, -, -, -⟩ := hv0.open
  generalize NodeD.mk l ps t ks = n at hv hn hE ⊢
  have hB0 := below_new W (Obj.cells #[.bool l, .slice ap ps.length cp, .slice at_ t.length ct, .slice ak ks.length ck] 26)
  have HS := Lib.hid (ncheck_c n _ W.heap.size _ hn (hv.keep hB0 (Nat.le_refl _)) hB0.size)
  rw [hE] at HS
  have HW := fun (w1 : World) (hb : Below W.heap.size W w1) => Lib.hid (write_c w1.heap.size w1.heap.size (Nat.le_refl _) (Nat.lt_of_lt_of_le hg hb.size) _ n _ [] (w1.alloc (Obj.cells #[Value.pointer none, Value.slice none 0 0] 52)) (Nat.le_refl _) hn hE (by simp; omega)
    (hv.keep (hb.alloc hb.size _) hb.size) (by simp) (hT.keep (hb.alloc hb.size _) hg) (Lib.fresh_isBuilder 52 5 w1))
  have Hne := Lib.hid (printL_ne n)
  simp only [List.nil_append] at HW
  generalize printL n = P at HW Hne ⊢
  clear hv0 hv hB0 hn hE hT
  go_enter Tryd.func8, Tryd.ntmps8
  go_wp2_with fail
  refine HS.out.mono ?_
  rintro e w1 ⟨rfl, hbel⟩
  obtain ⟨x0, x1, x2, x3⟩ := box_keep (below_box hbel)
  have Hb1 := Lib.hid (below_unbox (below_box hbel))
  have hsz1 : W.heap.size < w1.heap.size := by have := (below_box hbel).size; simp at this; omega
  have HW1 := HW w1 Hb1.out
  clear hbel HS HW
  go_wp2_with fail
  refine HW1.out.mono ?_
  rintro e w2 ⟨rfl, hbld, hsp⟩
  have HS2 := Lib.hid (string_c w1.heap.size w1.heap.size P w2 hbld.bld Hne.out)
  have Hb2 := Lib.hid ((below_new w1 (Obj.cells #[Value.pointer none, Value.slice none 0 0] 52)).trans hsp.below)
  clear hbld hsp HW1 x0 x1 x2 x3
  go_wp2_with fail
  refine HS2.out.mono ?_
  rintro e w3 ⟨rfl, hbel⟩
  have Hb3 := Lib.hid (Hb1.out.trans ((Hb2.out.trans hbel).mono Hb1.out.size))
  clear hbel HS2
  go_wp2_with fail
  go_ret2
  exact ⟨rfl, Hb3.out⟩

end Go.Proofs.YtmhgbocejjnoaaaDoor
