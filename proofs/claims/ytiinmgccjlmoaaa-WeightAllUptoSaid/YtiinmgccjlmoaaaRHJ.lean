/- Walks: valid's ways to look: merge, empty, fill. -/
import Derived.Test.YtiinmgccjlmoaaaRHI
namespace Go.Proofs.Ytiinmgccjlmoaaa
open Go.RowKit Go.Redl
set_option linter.unusedVariables false

/-- Whether a leaf has the same properties as the one ahead of it. -/
def mergeB (ks : List NodeD) (i : Nat) : Bool := decide (0 < i) && (leafOf (kidAt ks i) && (leafOf (kidAt ks (i - 1)) && decide (propsOf (kidAt ks i) = propsOf (kidAt ks (i - 1)))))
def emptyB (ks : List NodeD) (i : Nat) : Bool := leafOf (kidAt ks i) && (decide ((textOf (kidAt ks i)).length = 0) && decide (1 < ks.length))
theorem look_four (r : RuleD) (ks : List NodeD) : lookN r ks 4 = idxP (mergeB ks) ks.length := by
  unfold lookN; rw [if_neg (by omega)]; congr 1
theorem look_five (r : RuleD) (ks : List NodeD) : lookN r ks 5 = idxP (emptyB ks) ks.length := by
  unfold lookN; rw [if_neg (by omega)]; congr 1

set_option maxRecDepth 100000 in
set_option maxHeartbeats 2000000 in
theorem fill_c (e0 e1 e2 : Value) (ak : Option Addr) (kn ck : Nat) (e4 e5 e6 e7 e8 e9 : Value) (fl : Int) (e11 e12 : Value) (W : World) (hn : kn ≤ 100000000) :
    Calls Try.prog 91 #[.agg #[e0, e1, e2, .slice ak kn ck, e4, e5, e6, e7, e8, e9, .int .i64 fl, e11, e12]] W (LookP W (if kn = 0 ∧ fl ≠ 0 then 0 else -1) 1) := by
  obtain ⟨z, hz⟩ : ∃ z : Int, z = if kn = 0 ∧ fl ≠ 0 then 0 else -1 := ⟨_, rfl⟩
  rw [← hz]
  obtain ⟨w0, hw0⟩ : ∃ w0, w0 = W.alloc (Obj.cells #[e0, e1, e2, .slice ak kn ck, e4, e5, e6, e7, e8, e9, .int .i64 fl, e11, e12] 101) := ⟨_, rfl⟩
  have hb0 : Below W.heap.size W w0 := by rw [hw0]; exact one_below _ _
  have hA : At w0 W.heap.size [e0, e1, e2, .slice ak kn ck, e4, e5, e6, e7, e8, e9, .int .i64 fl, e11, e12] 101 := by rw [hw0]; exact At.fresh W _ _
  have x3 := hA.cell 3 rfl; have x10 := hA.cell 10 rfl; have xl := hA.lt
  have Hb0 := Lib.hid hb0; have Hw0 := Lib.hid hw0
  clear hb0 hA hw0
  by_cases h0 : kn = 0
  · have h0I : decide (0 < kn) = false := by simp; omega
    by_cases hf : fl = 0
    · have Hz := Lib.hid (show z = -1 by rw [hz, if_neg (fun h => h.2 hf)])
      have hfI : (fl == 0) = true := by simpa using hf
      clear h0 hf hz
      go_enter Try.func91, Try.ntmps91
      go_upto_region 1 with fail
      rw [← Hw0.out]
      clear Hw0
      go_wp2_with fail
      go_ret2
      rw [Hz.out]
      exact ⟨_, rfl, fun h => by omega, Hb0.out⟩
    · have Hz := Lib.hid (show z = 0 by rw [hz, if_pos ⟨h0, hf⟩])
      have hfI : (fl == 0) = false := by simpa using hf
      clear h0 hf hz
      go_enter Try.func91, Try.ntmps91
      go_upto_region 1 with fail
      rw [← Hw0.out]
      clear Hw0
      go_wp2_with fail
      go_ret2
      rw [Hz.out]
      exact ⟨_, rfl, fun h => rfl, Hb0.out⟩
  · have h0I : decide (0 < kn) = true := by simp; omega
    have Hz := Lib.hid (show z = -1 by rw [hz, if_neg (fun h => h0 h.1)])
    clear h0 hz
    go_enter Try.func91, Try.ntmps91
    go_upto_region 1 with fail
    rw [← Hw0.out]
    clear Hw0
    go_wp2_with fail
    go_ret2
    rw [Hz.out]
    exact ⟨_, rfl, fun h => by omega, Hb0.out⟩

set_option maxRecDepth 100000 in
theorem empty1_c (q : NodeD) (v : Value) (W : World) (hv : NodeV W W.heap.size q v) :
    Calls Try.prog 121 (#[v] ++ #[]) W fun e w' => e = .returned (.bool (leafOf q && decide ((textOf q).length = 0))) ∧ Below W.heap.size W w' := by
  obtain ⟨lf, ps, t, ks⟩ := q
  obtain ⟨ap, cp, at_, ct, ak, ck, css, rfl, -, -, -, -⟩ := hv.open
  have Hb := Lib.hid (one_below W (Obj.cells #[.bool lf, .slice ap ps.length cp, .slice at_ t.length ct, .slice ak ks.length ck] 35))
  show Calls Try.prog 121 #[.agg #[.bool lf, .slice ap ps.length cp, .slice at_ t.length ct, .slice ak ks.length ck]] W _
  simp only [leafOf, textOf]
  clear hv
  cases lf with
  | false =>
    go_enter Try.func121, Try.ntmps121
    go_wp2_with fail
    go_ret
    exact ⟨rfl, Hb.out⟩
  | true =>
    go_enter Try.func121, Try.ntmps121
    go_wp2_with fail
    go_ret
    exact ⟨ret_bool (by simp [int_dec]), Hb.out⟩
theorem empty1_ent : ∀ args w, (callFunc 121 args).run Try.prog w = .ok (.enter 121 args) w := by intro args w; kernel_rfl

set_option maxRecDepth 100000 in
set_option maxHeartbeats 2000000 in
theorem empty_c (e0 e1 e2 : Value) (ak : Option Addr) (ck : Nat) (ks : List NodeD) (css : List Value) (e4 e5 e6 e7 e8 e9 e10 e11 e12 : Value) (W : World) (hn : ks.length ≤ 100000000) (hk : RowA W W.heap.size 4 ak ks.length ck css) (hkk : KidsC W W.heap.size ks css) :
    Calls Try.prog 90 #[.agg #[e0, e1, e2, .slice ak ks.length ck, e4, e5, e6, e7, e8, e9, e10, e11, e12]] W (LookP W (idxP (emptyB ks) ks.length) 1) := by
  obtain ⟨w0, hw0⟩ : ∃ w0, w0 = W.alloc (Obj.cells #[e0, e1, e2, .slice ak ks.length ck, e4, e5, e6, e7, e8, e9, e10, e11, e12] 101) := ⟨_, rfl⟩
  have hb0 : Below W.heap.size W w0 := by rw [hw0]; exact one_below _ _
  have hA : At w0 W.heap.size [e0, e1, e2, .slice ak ks.length ck, e4, e5, e6, e7, e8, e9, e10, e11, e12] 101 := by rw [hw0]; exact At.fresh W _ _
  have x3 := hA.cell 3 rfl; have xl := hA.lt
  have hk0 := hk.keep hb0 hb0.size; have hkk0 := KidsC.keep hb0 hb0.size _ _ hkk
  have Hb0 := Lib.hid hb0; have Hw0 := Lib.hid hw0
  by_cases h2 : ks.length < 2
  · have h2I : decide ((ks.length : Int) < 2) = true := by simp; omega
    have Hz := Lib.hid (show idxP (emptyB ks) ks.length = -1 from idxP_none (fun j hj => by unfold emptyB; rw [decide_eq_false (show ¬ (1 < ks.length) by omega)]; simp))
    generalize idxP (emptyB ks) ks.length = z at Hz ⊢
    clear hb0 hA hw0 hk0 hkk0 hk hkk h2
    go_enter Try.func90, Try.ntmps90
    go_upto_region 1 with fail
    rw [← Hw0.out]
    clear Hw0
    go_wp2_with fail
    go_ret2
    rw [Hz.out]
    exact ⟨_, rfl, fun h => by omega, Hb0.out⟩
  · have h2I : decide ((ks.length : Int) < 2) = false := by simp; omega
    have hpe : emptyB ks = fun i => (leafOf (kidAt ks i) && decide ((textOf (kidAt ks i)).length = 0)) := by
      funext i; unfold emptyB; rw [decide_eq_true (show 1 < ks.length by omega)]; simp
    have HI := Lib.hid (idx_node ks.length ak ck 121 #[] (emptyB ks) w0 hn empty1_ent (fun j W' hj hb => by
      obtain ⟨b, off, a1, c1, a2, c2, a3, c3, ha, hlt, hnv, -, g0, g1, g2, g3⟩ := kidO (hk0.keep hb hb.size) (KidsC.keep hb hb.size _ _ hkk0) j hj
      refine ⟨b, off, _, _, _, _, ha, g0, g1, g2, g3, ?_⟩
      rw [hpe]
      simp only [kid_get hj]
      exact empty1_c _ _ _ hnv))
    generalize idxP (emptyB ks) ks.length = z at HI ⊢
    clear hb0 hA hw0 hk0 hkk0 hk hkk h2 hpe
    go_enter Try.func90, Try.ntmps90
    go_upto_region 1 with fail
    rw [← Hw0.out]
    clear Hw0
    go_wp2_with fail
    refine HI.out.mono ?_
    rintro e w1 ⟨rfl, hbel⟩
    have Hb1 := Lib.hid (Hb0.out.trans (hbel.mono Hb0.out.size))
    clear hbel HI
    go_wp2_with fail
    go_ret2
    exact ⟨_, rfl, fun h => rfl, Hb1.out⟩

end Go.Proofs.Ytiinmgccjlmoaaa
