/- Walks: node.Type, table's typed, ActOf, RuleOf. -/
import Derived.Test.YtiinmgccjlmoaaaRHC
import Derived.Test.YtiinmgccjlmoaaaRCO
namespace Go.Proofs.Ytiinmgccjlmoaaa
open Go.RowKit Go.Redl
set_option linter.unusedVariables false

theorem At.second (W : World) (o : Obj) (cs : List Value) (T : TypeId) : At ((W.alloc o).alloc (.cells cs.toArray T)) (W.heap.size + 1) cs T := by
  have h := At.fresh (W.alloc o) cs T
  rwa [show (W.alloc o).heap.size = W.heap.size + 1 by simp] at h
theorem At.third (W : World) (o o' : Obj) (cs : List Value) (T : TypeId) : At (((W.alloc o).alloc o').alloc (.cells cs.toArray T)) (W.heap.size + 1 + 1) cs T := by
  have h := At.second (W.alloc o) o' cs T
  rwa [show (W.alloc o).heap.size = W.heap.size + 1 by simp] at h
theorem At.fourth (W : World) (o o' o'' : Obj) (cs : List Value) (T : TypeId) : At ((((W.alloc o).alloc o').alloc o'').alloc (.cells cs.toArray T)) (W.heap.size + 1 + 1 + 1) cs T := by
  have h := At.third (W.alloc o) o' o'' cs T
  rwa [show (W.alloc o).heap.size = W.heap.size + 1 by simp] at h
theorem two_below (W : World) (o o' : Obj) : Below W.heap.size W ((W.alloc o).alloc o') := ((Below.refl _ _).alloc (Nat.le_refl _) o).alloc (by simp) o'
theorem three_below (W : World) (o o' o'' : Obj) : Below W.heap.size W (((W.alloc o).alloc o').alloc o'') := (two_below W o o').alloc (by simp; omega) o''
theorem four_below (W : World) (o o' o'' o3 : Obj) : Below W.heap.size W ((((W.alloc o).alloc o').alloc o'').alloc o3) := (three_below W o o' o'').alloc (by simp; omega) o3

set_option maxRecDepth 100000 in
set_option maxHeartbeats 1000000 in
theorem type_c (n : NodeD) (v : Value) (W : World) (hn : n.wt ≤ 100000000) (hv : NodeV W W.heap.size n v) : Calls Try.prog 25 #[v] W fun e w' => e = .returned (strV (typeN n)) ∧ Below W.heap.size W w' := by
  have hv0 := hv
  obtain ⟨lf, ps, t, ks⟩ := n
  obtain ⟨ap, cp, at_, ct, ak, ck, css, rfl, hp, -, -, -⟩ := hv0.open
  have hpl : ps.length ≤ 100000000 := by have := propsWt_len ps; simp only [NodeD.wt] at hn; omega
  have hb0 := one_below W (Obj.cells #[.bool lf, .slice ap ps.length cp, .slice at_ t.length ct, .slice ak ks.length ck] 35)
  have HG := Lib.hid (pget_c ps ap cp typeB _ (hp.keep hb0 hb0.size) hpl)
  have Hb0 := Lib.hid hb0
  cases lf with
  | true =>
    have HT : Hid (typeN (.mk true ps t ks) = []) := rfl
    clear hv hv0 hp hb0 hn HG
    go_enter Try.func25, Try.ntmps25
    go_wp2_with fail
    go_ret
    rw [HT.out]
    exact ⟨rfl, Hb0.out⟩
  | false =>
    have HT : Hid (typeN (.mk false ps t ks) = (getP ps typeB).getD []) := rfl
    clear hv hv0 hp hb0 hn
    go_enter Try.func25, Try.ntmps25
    go_wp2_with fail
    refine HG.out.mono ?_
    rintro e w1 ⟨rfl, hbel⟩
    have Hb1 := Lib.hid (Hb0.out.trans (hbel.mono Hb0.out.size))
    clear hbel HG
    go_wp2_with fail
    go_ret
    rw [HT.out]
    exact ⟨rfl, Hb1.out⟩

theorem type_ent : ∀ args w, (callFunc 25 args).run Try.prog w = .ok (.enter 25 args) w := by intro args w; kernel_rfl

/-! ### what a rule does with elements of a type -/
theorem actIn_some {r : RuleD} {k : List UInt8} {j : Nat} (hj : j < r.kids.length) (h : r.kids[j].1 = k) (hb : ∀ i (hi : i < j), (r.kids[i]'(by omega)).1 ≠ k) : actIn r k = r.kids[j].2 := by
  unfold actIn
  rw [find_idx (q := fun p => decide (p.1 = k)) hj (by simpa using h) (fun i hi => by simpa using hb i hi)]
  rfl
theorem actIn_none {r : RuleD} {k : List UInt8} (hb : ∀ i (hi : i < r.kids.length), r.kids[i].1 ≠ k) : actIn r k = r.other := by
  unfold actIn
  rw [find_none (fun i hi => by simpa using hb i hi)]
  rfl
set_option maxRecDepth 100000 in
theorem typed1_c (K : List UInt8) (d : Int) (t k : List UInt8) (N : Nat) (W : World) (hN : W.cell? ⟨N, 0, none⟩ = some (strV k)) :
    Calls Try.prog 116 #[.agg #[strV K, .int .i64 d, strV t], .pointer (some ⟨N, 0, none⟩)] W fun e w' => e = .returned (.bool (decide (K = k))) ∧ Below W.heap.size W w' := by
  have hlt := World.block_lt_of_cell? W _ hN
  have Hb := Lib.hid (one_below W (Obj.cells #[strV K, .int .i64 d, strV t] 92))
  go_enter Try.func116, Try.ntmps116
  go_wp2_with fail
  go_ret
  exact ⟨ret_bool (beq_dec _ _), Hb.out⟩
theorem typed1_ent : ∀ args w, (callFunc 116 args).run Try.prog w = .ok (.enter 116 args) w := by intro args w; kernel_rfl
theorem typed_ent : ∀ args w, (callFunc 85 args).run Try.prog w = .ok (.enter 85 args) w := by intro args w; kernel_rfl

abbrev ActP (W : World) (a : ActD) (e : Ending) (w' : World) : Prop := e = .returned (.agg #[.int .i64 a.1, strV a.2]) ∧ Below W.heap.size W w'
set_option maxRecDepth 100000 in
set_option maxHeartbeats 1000000 in
theorem typed_c (r : RuleD) (a : Option Addr) (c : Nat) (k : List UInt8) (W : World) (hr : RowA W W.heap.size 3 a r.kids.length c (pairCells r.kids)) (hn : r.kids.length ≤ 100000000) :
    Calls Try.prog 85 #[.agg (ruleCells r a c).toArray, strV k] W (ActP W (actIn r k)) := by
  have hs1 := fun (j : Nat) (hj : j < r.kids.length) h hb => actIn_some (r := r) (k := k) (j := j) hj h hb
  have hs2 := fun hb => actIn_none (r := r) (k := k) hb
  obtain ⟨R, hR⟩ : ∃ R, R = actIn r k := ⟨_, rfl⟩
  rw [← hR]
  rw [← hR] at hs1 hs2
  obtain ⟨ty, ⟨td, tt⟩, ⟨od, ot⟩, kids, fill, ft⟩ := r
  simp only at hr hn hs1 hs2
  have hcells : (ruleCells ⟨ty, (td, tt), (od, ot), kids, fill, ft⟩ a c).toArray = #[strV ty, .int .i64 td, strV tt, .int .i64 od, strV ot, .slice a kids.length c, .int .i64 fill, strV ft] := rfl
  rw [hcells]
  obtain ⟨w0, hw0⟩ : ∃ w0, w0 = (((W.alloc (Obj.cells #[strV ty, .int .i64 td, strV tt, .int .i64 od, strV ot, .slice a kids.length c, .int .i64 fill, strV ft] 27)).alloc (Obj.cells #[strV k] 9)).alloc (Obj.cells #[.int .i64 0, strV []] 24)) := ⟨_, rfl⟩
  have hb0 : Below W.heap.size W w0 := by rw [hw0]; exact three_below _ _ _ _
  have hA : At w0 W.heap.size [strV ty, .int .i64 td, strV tt, .int .i64 od, strV ot, .slice a kids.length c, .int .i64 fill, strV ft] 27 := by rw [hw0]; exact ((At.fresh W _ _).alloc _).alloc _
  have hK : At w0 (W.heap.size + 1) [strV k] 9 := by rw [hw0]; exact (At.second W _ _ _).alloc _
  have hX : At w0 (W.heap.size + 1 + 1) [.int .i64 0, strV []] 24 := by rw [hw0]; exact At.third W _ _ _ _
  have hr0 := hr.keep hb0 hb0.size
  have hgd : ∀ j (hj : j < kids.length), kids.getD j ([], 0, []) = kids[j] := fun j hj => by simp [List.getD, List.getElem?_eq_getElem hj]
  have HI := Lib.hid (idx_pair kids.length a c 116 #[.pointer (some ⟨W.heap.size + 1, 0, none⟩)] (fun j => decide ((kids.getD j ([], 0, [])).1 = k)) w0 hn typed1_ent (fun j W' hj hb => by
    obtain ⟨b, off, ha, -, h0, h1, h2⟩ := (hr0.keep hb hb.size).pair_at j hj
    refine ⟨b, off, _, _, _, ha, h0, h1, h2, ?_⟩
    rw [hgd j hj]
    exact typed1_c kids[j].1 kids[j].2.1 kids[j].2.2 k _ W' ((hK.kept hb).cell 0 rfl)))
  have Hr := Lib.hid hr0; have Hb0 := Lib.hid hb0; have HA := Lib.hid hA; have HX := Lib.hid hX
  obtain ⟨⟨x0, x1, x2, x3, x4, x5, x6, x7⟩, -, xl⟩ := hA.f8
  have Hw0 := Lib.hid hw0
  have hcl : W.heap.size ≤ W.heap.size + 1 + 1 := by omega
  rcases idxP_cases (fun j => decide ((kids.getD j ([], 0, [])).1 = k)) kids.length with ⟨j, hj, hp, hmin, he⟩ | ⟨hall, he⟩
  · rw [he] at HI
    have HG := Lib.hid (hs1 j hj (by have h := of_decide_eq_true hp; rw [hgd j hj] at h; exact h) (fun i hi => by have h := of_decide_eq_false (hmin i hi); rw [hgd i (by omega)] at h; exact h))
    have hji : (j : Int) < kids.length := by omega
    clear he hmin hp hr hr0 hb0 hK hA hX hs1 hs2 hR hcells hw0
    go_enter Try.func85, Try.ntmps85
    go_upto_region 1 with fail
    rw [← Hw0.out]
    clear Hw0
    go_wp2_with fail
    refine HI.out.mono ?_
    rintro e w1 ⟨rfl, hbel⟩
    obtain ⟨b, off, rfl, -, h0, h1, h2⟩ := (Hr.out.keep hbel hbel.size).pair_at j hj
    have Hb1 := Lib.hid (Hb0.out.trans (hbel.mono Hb0.out.size))
    obtain ⟨⟨y0, y1, y2, y3, y4, y5, y6, y7⟩, -, yl⟩ := (HA.out.kept hbel).f8
    obtain ⟨⟨z0, z1⟩, zf, zl⟩ := (HX.out.kept hbel).f2
    generalize kids[j] = q at h0 h1 h2 HG
    obtain ⟨q0, q1, q2⟩ := q
    clear hbel HI x0 x1 x2 x3 x4 x5 x6 x7
    go_wp2_with fail
    refine bodyPost_ret (v := .agg #[.int .i64 q1, strV q2]) (by simp [results, Try.results85, go_sem, z0, z1]) rfl ?_
    rw [HG.out]
    exact ⟨rfl, below_s2 Hb1.out hcl _ _⟩
  · rw [he] at HI
    have HG := Lib.hid (hs2 (fun i hi => by have h := of_decide_eq_false (hall i hi); rw [hgd i hi] at h; exact h))
    clear he hall hr hr0 hb0 hK hA hX hs1 hs2 hR hcells hw0
    go_enter Try.func85, Try.ntmps85
    go_upto_region 1 with fail
    rw [← Hw0.out]
    clear Hw0
    go_wp2_with fail
    refine HI.out.mono ?_
    rintro e w1 ⟨rfl, hbel⟩
    have Hb1 := Lib.hid (Hb0.out.trans (hbel.mono Hb0.out.size))
    obtain ⟨⟨y0, y1, y2, y3, y4, y5, y6, y7⟩, -, yl⟩ := (HA.out.kept hbel).f8
    obtain ⟨⟨z0, z1⟩, zf, zl⟩ := (HX.out.kept hbel).f2
    clear hbel HI x0 x1 x2 x3 x4 x5 x6 x7
    go_wp2_with fail
    refine bodyPost_ret (v := .agg #[.int .i64 od, strV ot]) (by simp [results, Try.results85, go_sem, z0, z1]) rfl ?_
    rw [HG.out]
    exact ⟨rfl, below_s2 Hb1.out hcl _ _⟩

set_option maxRecDepth 100000 in
set_option maxHeartbeats 2000000 in
theorem actOf_c (r : RuleD) (a : Option Addr) (c : Nat) (n : NodeD) (v : Value) (W : World) (hr : RowA W W.heap.size 3 a r.kids.length c (pairCells r.kids)) (hn : r.kids.length ≤ 100000000) (hv : NodeV W W.heap.size n v) (hw : n.wt ≤ 100000000) :
    Calls Try.prog 55 #[.agg (ruleCells r a c).toArray, v] W (ActP W (actOf r n)) := by
  have hv0 := hv
  obtain ⟨lf, ps, t, ks⟩ := n
  obtain ⟨ap, cp, at_, ct, ak, ck, css, rfl, -, -, -, -⟩ := hv0.open
  have hl : leafOf (.mk lf ps t ks) = lf := rfl
  generalize NodeD.mk lf ps t ks = n at hv hw hl ⊢
  have hR : actOf r n = if lf then r.text else actIn r (typeN n) := by unfold actOf; rw [hl]
  rw [hR]
  have hY := fun (w1 : World) (hr : RowA w1 w1.heap.size 3 a r.kids.length c (pairCells r.kids)) => typed_c r a c (typeN n) w1 hr hn
  obtain ⟨R, hR2⟩ : ∃ R, R = actIn r (typeN n) := ⟨_, rfl⟩
  rw [← hR2] at hY ⊢
  obtain ⟨ty, ⟨td, tt⟩, ⟨od, ot⟩, kids, fill, ft⟩ := r
  simp only [ruleCells] at hr hn hY ⊢
  obtain ⟨w0, hw0⟩ : ∃ w0, w0 = (((W.alloc (Obj.cells #[strV ty, .int .i64 td, strV tt, .int .i64 od, strV ot, .slice a kids.length c, .int .i64 fill, strV ft] 27)).alloc (Obj.cells #[.bool lf, .slice ap ps.length cp, .slice at_ t.length ct, .slice ak ks.length ck] 35)).alloc (Obj.cells #[.int .i64 0, strV []] 24)) := ⟨_, rfl⟩
  have hb0 : Below W.heap.size W w0 := by rw [hw0]; exact three_below _ _ _ _
  have hA : At w0 W.heap.size [strV ty, .int .i64 td, strV tt, .int .i64 od, strV ot, .slice a kids.length c, .int .i64 fill, strV ft] 27 := by rw [hw0]; exact ((At.fresh W _ _).alloc _).alloc _
  have hK : At w0 (W.heap.size + 1) [.bool lf, .slice ap ps.length cp, .slice at_ t.length ct, .slice ak ks.length ck] 35 := by rw [hw0]; exact (At.second W _ _ _).alloc _
  have hX : At w0 (W.heap.size + 1 + 1) [.int .i64 0, strV []] 24 := by rw [hw0]; exact At.third W _ _ _ _
  have HT := Lib.hid (type_c n _ w0.drew hw (hv.keep (hb0.drew) hb0.size))
  have HY := Lib.hid (fun (w1 : World) (hb : Below w0.heap.size w0 w1) => hY w1 (hr.keep (hb0.trans (hb.mono hb0.size)) (Nat.le_trans hb0.size hb.size)))
  have hcl : W.heap.size ≤ W.heap.size + 1 + 1 := by omega
  have Hw0 := Lib.hid hw0; have Hb0 := Lib.hid hb0; have HA := Lib.hid hA; have HK := Lib.hid hK; have HX := Lib.hid hX
  obtain ⟨⟨x0, x1, x2, x3, x4, x5, x6, x7⟩, -, xl⟩ := hA.f8
  obtain ⟨⟨y0, y1, y2, y3⟩, -, yl⟩ := hK.f4
  obtain ⟨⟨z0, z1⟩, zf, zl⟩ := hX.f2
  clear hw0 hb0 hA hK hX hv hv0 hr hY hR hR2 hl
  cases lf with
  | true =>
    clear HT HY
    go_enter Try.func55, Try.ntmps55
    go_upto_region 1 with fail
    rw [← Hw0.out]
    clear Hw0
    go_wp2_with fail
    refine bodyPost_ret (v := .agg #[.int .i64 td, strV tt]) (by simp [results, Try.results55, go_sem, z0, z1]) rfl ?_
    exact ⟨rfl, below_s2 Hb0.out hcl _ _⟩
  | false =>
    go_enter Try.func55, Try.ntmps55
    go_upto_region 1 with fail
    rw [← Hw0.out]
    clear Hw0
    go_wp2_with fail
    go_region_law (first
      | (refine step_call rfl 25 _ _ rfl type_ent [.agg #[.bool false, .slice ap ps.length cp, .slice at_ t.length ct, .slice ak ks.length ck]] ?_ _ HT.out ?_
         · go_simp
         rintro e w1 ⟨rfl, hbel⟩
         refine ⟨_, rfl, ?_⟩
         have hb1 : Below w0.heap.size w0 w1 := ((Below.refl w0.heap.size w0).drew).trans hbel
         have Hb1 := Lib.hid hb1
         have HY1 := Lib.hid (HY.out w1 hb1)
         obtain ⟨⟨p0, p1, p2, p3, p4, p5, p6, p7⟩, -, pl⟩ := (HA.out.kept hb1).f8
         obtain ⟨⟨q0, q1, q2, q3⟩, -, ql⟩ := (HK.out.kept hb1).f4
         clear hbel hb1)
      | (refine step_call rfl 85 _ _ rfl typed_ent [.agg #[strV ty, .int .i64 td, strV tt, .int .i64 od, strV ot, .slice a kids.length c, .int .i64 fill, strV ft], strV (typeN n)] ?_ _ HY1.out ?_
         · go_simp
         rintro e w2 ⟨rfl, hbel⟩
         refine ⟨_, rfl, ?_⟩
         have hb2 : Below w0.heap.size w0 w2 := Hb1.out.trans (hbel.mono Hb1.out.size)
         have Hb2 := Lib.hid (Hb0.out.trans (hb2.mono Hb0.out.size))
         obtain ⟨⟨r0, r1⟩, rf, rl⟩ := (HX.out.kept hb2).f2
         clear hbel hb2))
    all_goals
      go_wp2_with fail
      refine bodyPost_ret (v := .agg #[.int .i64 R.1, strV R.2]) (by simp [results, Try.results55, go_sem, r0, r1]) rfl ?_
      exact ⟨rfl, below_s2 Hb2.out hcl _ _⟩


end Go.Proofs.Ytiinmgccjlmoaaa
