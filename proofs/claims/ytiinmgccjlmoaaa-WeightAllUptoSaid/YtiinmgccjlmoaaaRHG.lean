/- Walks: the reference's wrong: whether something of a class is wrong with a Kid. -/
import Derived.Test.YtiinmgccjlmoaaaRHF
import Derived.Test.YtiinmgccjlmoaaaRSB
import Derived.Deep.QuietTactic
namespace Go.Proofs.Ytiinmgccjlmoaaa
open Go.RowKit Go.Redl
set_option linter.unusedVariables false

theorem int_dec (a b : Int) : (a == b) = decide (a = b) := by by_cases h : a = b <;> simp [h]
/-- The k-th Kid: its four cells, in plain words. -/
theorem kidO {w : World} {B cap : Nat} {a : Option Addr} {ks : List NodeD} {css : List Value} (h : RowA w B 4 a ks.length cap css) (hk : KidsC w B ks css) (i : Nat) (hi : i < ks.length) :
    ∃ b off ap cp at_ ct ak ck, a = some ⟨b, off, none⟩ ∧ b < B ∧ NodeV w B ks[i] (.agg #[.bool (leafOf ks[i]), .slice ap (propsOf ks[i]).length cp, .slice at_ (textOf ks[i]).length ct, .slice ak (kidsOf ks[i]).length ck]) ∧ RowA w B 2 ap (propsOf ks[i]).length cp (propCells (propsOf ks[i])) ∧
      w.cell? ⟨b, off + i * 4, none⟩ = some (.bool (leafOf ks[i])) ∧ w.cell? ⟨b, off + i * 4 + 1, none⟩ = some (.slice ap (propsOf ks[i]).length cp) ∧ w.cell? ⟨b, off + i * 4 + 2, none⟩ = some (.slice at_ (textOf ks[i]).length ct) ∧ w.cell? ⟨b, off + i * 4 + 3, none⟩ = some (.slice ak (kidsOf ks[i]).length ck) := by
  obtain ⟨b, off, l', a1, n1, c1, a2, n2, c2, a3, n3, c3, ha, hb, hnc, g0, g1, g2, g3⟩ := h.kid_at hk i hi
  generalize ks[i] = q at hnc ⊢
  obtain ⟨l, ps, t, ks'⟩ := q
  have hnv : NodeV w B (.mk l ps t ks') (.agg #[.bool l', .slice a1 n1 c1, .slice a2 n2 c2, .slice a3 n3 c3]) := ⟨_, rfl, hnc⟩
  obtain ⟨ap, cp, at_, ct, ak, ck, css', hv, h2, -, -, -⟩ := hnv.open
  simp only [Value.agg.injEq, Array.mk.injEq, List.cons.injEq, Value.bool.injEq, Value.slice.injEq, and_true] at hv
  obtain ⟨rfl, ⟨rfl, rfl, rfl⟩, ⟨rfl, rfl, rfl⟩, ⟨rfl, rfl, rfl⟩⟩ := hv
  exact ⟨b, off, _, _, _, _, _, _, ha, hb, hnv, h2, g0, g1, g2, g3⟩
theorem kid_get {ks : List NodeD} {i : Nat} (hi : i < ks.length) : kidAt ks i = ks[i] := by simp [kidAt, List.getD, List.getElem?_eq_getElem hi]
theorem field_act0 (x : Int) (s : List UInt8) : ∀ w : World, (Instr.field 24 (.agg #[.int .i64 x, strV s]) 0).run Try.prog w = .ok (.int .i64 x) w := by intro w; kernel_rfl
theorem ractOf_ent : ∀ args w, (callFunc 37 args).run Try.prog w = .ok (.enter 37 args) w := by intro args w; kernel_rfl

set_option maxRecDepth 100000 in
set_option maxHeartbeats 4000000 in
theorem wrong_c (r : RuleD) (a : Option Addr) (c : Nat) (n : NodeD) (v : Value) (cl : Int) (i : Nat) (W : World) (hr : RowA W W.heap.size 3 a r.kids.length c (pairCells r.kids)) (hn : r.kids.length ≤ 100000000) (hv : NodeV W W.heap.size n v) (hw : n.wt ≤ 100000000) (hi : i < (kidsOf n).length) :
    Calls Try.prog 63 #[.agg (ruleCells r a c).toArray, v, .int .i64 cl, .int .i64 i] W fun e w' => e = .returned (.bool (wrongB r (kidsOf n) cl i)) ∧ Below W.heap.size W w' := by
  have hv0 := hv
  obtain ⟨lf, ps, t, ks⟩ := n
  obtain ⟨ap, cp, at_, ct, ak, ck, css, rfl, -, -, hk, hkk⟩ := hv0.open
  simp only [kidsOf] at hi ⊢
  have hkl : ks.length ≤ 100000000 := by have := wtAll_len ks; simp only [NodeD.wt] at hw; omega
  have hqw : ks[i].wt ≤ 100000000 := by have := wtAll_mem (List.getElem_mem hi); simp only [NodeD.wt] at hw; omega
  have hY := fun (m : NodeD) (v : Value) (w1 : World) (hr : RowA w1 w1.heap.size 3 a r.kids.length c (pairCells r.kids)) (hv : NodeV w1 w1.heap.size m v) (hw : m.wt ≤ 100000000) => ractOf_c r a c m v w1 hr hn hv hw
  have hWB : wrongB r ks cl i = (if cl = 1 then decide ((actOf r ks[i]).1 = 2) else if cl = 2 then decide ((actOf r ks[i]).1 = 3) else if cl = 3 then decide ((actOf r ks[i]).1 = 4)
      else if cl = 4 then decide (0 < i) && (leafOf ks[i] && (leafOf (kidAt ks (i - 1)) && decide (propsOf ks[i] = propsOf (kidAt ks (i - 1)))))
      else if cl = 5 then leafOf ks[i] && (decide ((textOf ks[i]).length = 0) && decide (1 < ks.length)) else false) := by
    unfold wrongB; rw [kid_get hi]
  obtain ⟨ty, ⟨td, tt⟩, ⟨od, ot⟩, kids, fill, ft⟩ := r
  simp only [ruleCells] at hr hn hY ⊢
  obtain ⟨w0, hw0⟩ : ∃ w0, w0 = ((W.alloc (Obj.cells #[strV ty, .int .i64 td, strV tt, .int .i64 od, strV ot, .slice a kids.length c, .int .i64 fill, strV ft] 27)).alloc (Obj.cells #[.bool lf, .slice ap ps.length cp, .slice at_ t.length ct, .slice ak ks.length ck] 35)) := ⟨_, rfl⟩
  have hb0 : Below W.heap.size W w0 := by rw [hw0]; exact two_below _ _ _
  have hA : At w0 W.heap.size [strV ty, .int .i64 td, strV tt, .int .i64 od, strV ot, .slice a kids.length c, .int .i64 fill, strV ft] 27 := by rw [hw0]; exact (At.fresh W _ _).alloc _
  have hX : At w0 (W.heap.size + 1) [.bool lf, .slice ap ps.length cp, .slice at_ t.length ct, .slice ak ks.length ck] 35 := by rw [hw0]; exact At.second W _ _ _
  have hs0 : w0.heap.size = W.heap.size + 1 + 1 := by rw [hw0]; simp
  have hk0 := hk.keep hb0 hb0.size; have hkk0 := KidsC.keep hb0 hb0.size _ _ hkk
  have hpv : 0 < i → ∃ b off ap' cp' at' ct' ak' ck', ak = some ⟨b, off, none⟩ ∧ b < w0.heap.size ∧ RowA w0 w0.heap.size 2 ap' (propsOf (kidAt ks (i - 1))).length cp' (propCells (propsOf (kidAt ks (i - 1)))) ∧
      w0.cell? ⟨b, off + (i - 1) * 4, none⟩ = some (.bool (leafOf (kidAt ks (i - 1)))) ∧ w0.cell? ⟨b, off + (i - 1) * 4 + 1, none⟩ = some (.slice ap' (propsOf (kidAt ks (i - 1))).length cp') := fun h0 => by
    obtain ⟨b, off, ap', cp', at', ct', ak', ck', h1, h2, -, h4, h5, h6, -, -⟩ := kidO hk0 hkk0 (i - 1) (by omega)
    rw [kid_get (show i - 1 < ks.length by omega)]
    exact ⟨b, off, ap', cp', at', ct', ak', ck', h1, h2, h4, h5, h6⟩
  obtain ⟨kb, ko, qp, qpc, qt, qtc, qk, qkc, rfl, hkb, hqv, hqp, g0, g1, g2, g3⟩ := kidO hk0 hkk0 i hi
  have hiI : (i : Int) < ks.length := by omega
  generalize kidAt ks (i - 1) = pv at hWB hpv
  generalize ks[i] = q at hWB hqv hqp g0 g1 g2 g3 hqw
  have HY := Lib.hid (hY q _ _ (hr.keep (hb0.trans ((one_below w0 (Obj.cells #[.bool (leafOf q), .slice qp (propsOf q).length qpc, .slice qt (textOf q).length qtc, .slice qk (kidsOf q).length qkc] 35)).mono hb0.size)) (by simp; omega)) (hqv.keep (one_below w0 _) (by simp)) hqw)
  generalize actOf _ q = A at hWB HY
  obtain ⟨A1, A2⟩ := A
  simp only at hWB
  generalize leafOf q = ql at hWB g0 HY hqv
  generalize propsOf q = qps at hWB g1 HY hqp hqv
  generalize textOf q = qtx at hWB g2 HY hqv
  generalize kidsOf q = qks at g3 HY hqv
  have HWB := Lib.hid hWB; have Hpv := Lib.hid hpv; have Hqp := Lib.hid hqp
  have Hw0 := Lib.hid hw0; have Hb0 := Lib.hid hb0; have HA := Lib.hid hA; have HX := Lib.hid hX
  have hQ0 := At.fresh w0 [.bool ql, .slice qp qps.length qpc, .slice qt qtx.length qtc, .slice qk qks.length qkc] 35
  rw [hs0] at hQ0
  have HQ0 := Lib.hid hQ0
  clear hQ0
  obtain ⟨⟨x0, x1, x2, x3, x4, x5, x6, x7⟩, -, xl⟩ := hA.f8
  obtain ⟨⟨y0, y1, y2, y3⟩, -, yl⟩ := hX.f4
  clear hw0 hb0 hA hX hv hv0 hr hY hWB hpv hqp hqv hk hkk hk0 hkk0 hqw
  go_enter Try.func63, Try.ntmps63
  go_upto_region 1 with fail
  rw [← Hw0.out]
  clear Hw0
  go_wp2_with fail
  refine HY.out.mono ?_
  rintro e w2 ⟨rfl, hbel⟩
  have hb2 : Below w0.heap.size w0 w2 := (one_below w0 _).trans (hbel.mono (by simp))
  have Hb2 := Lib.hid (Hb0.out.trans (hb2.mono Hb0.out.size))
  have HX2 := Lib.hid (HX.out.kept hb2)
  have HQ2 := Lib.hid (HQ0.out.kept hbel)
  have Hpv2 := Lib.hid (fun (h0 : 0 < i) => by
    obtain ⟨b, off, ap', cp', at', ct', ak', ck', h1, h2, h4, h5, h6⟩ := Hpv.out h0
    exact (show ∃ ap' cp', RowA w2 w2.heap.size 2 ap' (propsOf pv).length cp' (propCells (propsOf pv)) ∧ w2.cell? ⟨kb, ko + (i - 1) * 4, none⟩ = some (.bool (leafOf pv)) ∧ w2.cell? ⟨kb, ko + (i - 1) * 4 + 1, none⟩ = some (.slice ap' (propsOf pv).length cp') by
      injection h1 with e1; injection e1 with e1 e2; subst e1; subst e2
      exact ⟨ap', cp', h4.keep hb2 hb2.size, (hb2.cell (by exact h2)).trans h5, (hb2.cell (by exact h2)).trans h6⟩))
  have Hqp2 := Lib.hid (Hqp.out.keep hb2 hb2.size)
  clear hbel hb2 HY HX HQ0 Hpv Hqp x0 x1 x2 x3 x4 x5 x6 x7 y0 y1 y2 y3 g0 g1 g2 g3 HA
  obtain ⟨⟨y0, y1, y2, y3⟩, -, yl⟩ := HX2.out.f4
  obtain ⟨⟨z0, z1, z2, z3⟩, -, zl⟩ := HQ2.out.f4
  have hfl := field_act0 A1 A2
  by_cases c1 : cl = 1
  · subst c1
    have HW := Lib.hid (show wrongB _ ks 1 i = decide (A1 = 2) from HWB.out.trans (if_pos rfl))
    clear HWB
    go_wp2_with fail
    go_ret
    exact ⟨ret_bool (by rw [HW.out]; exact int_dec _ _), Hb2.out⟩
  by_cases c2 : cl = 2
  · subst c2
    have HW := Lib.hid (show wrongB _ ks 2 i = decide (A1 = 3) from HWB.out.trans (by simp))
    clear HWB
    go_wp2_with fail
    go_ret
    exact ⟨ret_bool (by rw [HW.out]; exact int_dec _ _), Hb2.out⟩
  by_cases c3 : cl = 3
  · subst c3
    have HW := Lib.hid (show wrongB _ ks 3 i = decide (A1 = 4) from HWB.out.trans (by simp))
    clear HWB
    go_wp2_with fail
    go_ret
    exact ⟨ret_bool (by rw [HW.out]; exact int_dec _ _), Hb2.out⟩
  by_cases c4 : cl = 4
  · subst c4
    have HW := Lib.hid (show wrongB _ ks 4 i = (decide (0 < i) && (ql && (leafOf pv && decide (qps = propsOf pv)))) from HWB.out.trans (by simp))
    clear HWB
    by_cases h0 : 0 < i
    · obtain ⟨ap', cp', hpr, p0, p1⟩ := Hpv2.out h0
      have hposI : decide ((0 : Int) < (i : Int)) = true := by simp; omega
      have hsub : IntKind.i64.wrap ((i : Int) - 1) = ((i - 1 : Nat) : Int) := by rw [show ((i : Int) - 1) = ((i - 1 : Nat) : Int) by omega]; exact IntWalk.i64_in _ (by omega)
      have hi1 : ((i - 1 : Nat) : Int) < ks.length := by omega
      cases ql with
      | false =>
        clear hpr Hqp2
        go_wp2_with fail
        go_quiet (fail)
        go_wp2_with fail
        go_ret
        exact ⟨ret_bool (by rw [HW.out]; simp), below_drewN Hb2.out _⟩
      | true =>
        generalize leafOf pv = pl at HW p0
        generalize propsOf pv = pps at HW hpr p1
        cases pl with
        | false =>
          clear hpr Hqp2
          go_wp2_with fail
          go_quiet (fail)
          go_wp2_with fail
          go_ret
          exact ⟨ret_bool (by rw [HW.out]; simp), below_drewN Hb2.out _⟩
        | true =>
          have HQ : ∀ m, Hid (Calls Try.prog 68 #[.slice qp qps.length qpc, .slice ap' pps.length cp'] (w2.drewN m) fun e w' => e = .returned (.bool (decide (qps = pps))) ∧ ∃ m, w' = w2.drewN m) := fun m =>
            Lib.hid (Calls.quiet_of (rsamep_c qp ap' qpc cp' _ qps pps (w2.drewN m) (Hqp2.out.keep (below_drewN (Below.refl _ _) m) (Nat.le_refl _)) (hpr.keep (below_drewN (Below.refl _ _) m) (Nat.le_refl _))))
          clear hpr Hqp2
          go_wp2_with fail
          go_quiet (first | (go_at_call 68; exact (HQ _).out))
          go_wp2_with fail
          go_ret
          exact ⟨ret_bool (by rw [HW.out]; simp [h0]), below_drewN Hb2.out _⟩
    · have hposI : decide ((0 : Int) < (i : Int)) = false := by simp; omega
      have hi0 : i = 0 := by omega
      clear Hpv2
      go_wp2_with fail
      go_quiet (fail)
      go_wp2_with fail
      go_ret
      exact ⟨ret_bool (by rw [HW.out]; simp [hi0]), below_drewN Hb2.out _⟩
  by_cases c5 : cl = 5
  · subst c5
    have HW := Lib.hid (show wrongB _ ks 5 i = (ql && (decide (qtx.length = 0) && decide (1 < ks.length))) from HWB.out.trans (by simp))
    clear HWB
    cases ql with
    | false =>
      go_wp2_with fail
      go_ret
      exact ⟨ret_bool (by rw [HW.out]; simp), Hb2.out⟩
    | true =>
      by_cases ht : qtx.length = 0
      · have htI : (((qtx.length : Nat) : Int) == 0) = true := by simp [ht]
        go_wp2_with fail
        go_ret
        exact ⟨ret_bool (by rw [HW.out]; simp [ht]; omega), Hb2.out⟩
      · have htI : (((qtx.length : Nat) : Int) == 0) = false := by simp [ht]
        go_wp2_with fail
        go_ret
        exact ⟨ret_bool (by rw [HW.out]; simp [ht]), Hb2.out⟩
  · have HW := Lib.hid (show wrongB _ ks cl i = false from HWB.out.trans (by simp [c1, c2, c3, c4, c5]))
    have b1 : (cl == 1) = false := by simpa using c1
    have b2 : (cl == 2) = false := by simpa using c2
    have b3 : (cl == 3) = false := by simpa using c3
    have b4 : (cl == 4) = false := by simpa using c4
    have b5 : (cl == 5) = false := by simpa using c5
    clear HWB
    go_wp2_with fail
    go_ret
    exact ⟨ret_bool HW.out.symm, Hb2.out⟩

end Go.Proofs.Ytiinmgccjlmoaaa
