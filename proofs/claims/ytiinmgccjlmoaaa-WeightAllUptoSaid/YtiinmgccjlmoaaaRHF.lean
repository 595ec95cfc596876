/- Walks: the reference's Get, Type, act, ActOf, RuleOf. -/
import Derived.Test.YtiinmgccjlmoaaaRHE
import Derived.Deep.LoopGhost
namespace Go.Proofs.Ytiinmgccjlmoaaa
open Go.RowKit Go.Redl
set_option linter.unusedVariables false

theorem beq_yes {a b : List UInt8} (h : a = b) : (a == b) = true := by simp [h]
theorem beq_no {a b : List UInt8} (h : a ≠ b) : (a == b) = false := by simp [h]
set_option maxRecDepth 100000 in
set_option maxHeartbeats 1000000 in
theorem rpget_c (ps : List PropD) (a : Option Addr) (cap : Nat) (k : List UInt8) (W : World) (hr : RowA W W.heap.size 2 a ps.length cap (propCells ps)) (hn : ps.length ≤ 100000000) :
    Calls Try.prog 64 #[.slice a ps.length cap, strV k] W (GetPP W ps k) := by
  have hs1 := fun (j : Nat) (hj : j < ps.length) h hb => getP_some (ps := ps) (k := k) (j := j) hj h hb
  have hs2 := fun hb => getP_none (ps := ps) (k := k) hb
  unfold GetPP
  obtain ⟨R, hR⟩ : ∃ R, R = getP ps k := ⟨_, rfl⟩
  rw [← hR] at hs1 hs2 ⊢
  have Hr := Lib.hid hr; have Hs1 := Lib.hid hs1; have Hs2 := Lib.hid hs2
  clear hr hs1 hs2 hR
  go_enter Try.func64, Try.ntmps64
  go_wp2_with fail
  go_loopg [10] ps.length (fun g i wr => ∃ j : Nat, j + g = ps.length ∧ i = .int .i64 j ∧ (∀ i (hi : i < j) (hl : i < ps.length), ps[i].1 ≠ k) ∧ Below W.heap.size W wr)
  case atStart => exact ⟨0, by omega, rfl, by intro i hi; omega, Below.refl _ _⟩
  case round =>
    obtain ⟨j, hg, rfl, hb, hbr⟩ := hrel
    have Hbr := Lib.hid hbr; have Hb := Lib.hid hb
    by_cases hlt : j < ps.length
    · have hlti : (j : Int) < ps.length := by omega
      obtain ⟨b, off, rfl, -, h0, h1⟩ := (Hr.out.keep hbr (Nat.le_refl _)).prop_at j hlt
      have Hj := Lib.hid (Hs1.out j hlt)
      by_cases he : ps[j].1 = k
      · have Hj2 := Lib.hid (Hj.out he (fun i hi => Hb.out i hi (by omega)))
        have hbe := beq_yes he
        generalize ps[j] = q at h0 h1 Hj2 hbe
        clear hb hbr Hj he
        go_wp2_with fail
        go_ret2
        rw [Hj2.out]
        exact ⟨rfl, Hbr.out.alloc Hbr.out.size _⟩
      · have Hb2 := Lib.hid (show ∀ i (hi : i < j + 1) (hl : i < ps.length), ps[i].1 ≠ k from fun i hi hl => by
          rcases Nat.lt_or_ge i j with h | h
          · exact Hb.out i h hl
          · obtain rfl : i = j := by omega
            exact he)
        have hbe := beq_no he
        generalize ps[j] = q at h0 h1 hbe
        clear hb hbr Hj he
        go_wp2_with fail
        go_roundg (gk - 1)
        case measure => omega
        case rel => exact ⟨j + 1, by omega, by go_num, Hb2.out, Hbr.out.alloc Hbr.out.size _⟩
    · obtain rfl : j = ps.length := by omega
      have Hj2 := Lib.hid (Hs2.out (fun i hi => Hb.out i hi hi))
      clear hb hbr
      go_wp2_with fail
      go_ret2
      rw [Hj2.out]
      exact ⟨rfl, Hbr.out⟩
set_option maxRecDepth 100000 in
set_option maxHeartbeats 1000000 in
theorem rtype_c (n : NodeD) (v : Value) (W : World) (hn : n.wt ≤ 100000000) (hv : NodeV W W.heap.size n v) : Calls Try.prog 35 #[v] W fun e w' => e = .returned (strV (typeN n)) ∧ Below W.heap.size W w' := by
  have hv0 := hv
  obtain ⟨lf, ps, t, ks⟩ := n
  obtain ⟨ap, cp, at_, ct, ak, ck, css, rfl, hp, -, -, -⟩ := hv0.open
  have hpl : ps.length ≤ 100000000 := by have := propsWt_len ps; simp only [NodeD.wt] at hn; omega
  have hb0 := one_below W (Obj.cells #[.bool lf, .slice ap ps.length cp, .slice at_ t.length ct, .slice ak ks.length ck] 35)
  have HG := Lib.hid (rpget_c ps ap cp typeB _ (hp.keep hb0 hb0.size) hpl)
  have Hb0 := Lib.hid hb0
  cases lf with
  | true =>
    have HT : Hid (typeN (.mk true ps t ks) = []) := rfl
    clear hv hv0 hp hb0 hn HG
    go_enter Try.func35, Try.ntmps35
    go_wp2_with fail
    go_ret
    rw [HT.out]
    exact ⟨rfl, Hb0.out⟩
  | false =>
    have HT : Hid (typeN (.mk false ps t ks) = (getP ps typeB).getD []) := rfl
    clear hv hv0 hp hb0 hn
    go_enter Try.func35, Try.ntmps35
    go_wp2_with fail
    refine HG.out.mono ?_
    rintro e w1 ⟨rfl, hbel⟩
    have Hb1 := Lib.hid (Hb0.out.trans (hbel.mono Hb0.out.size))
    clear hbel HG
    go_wp2_with fail
    go_ret
    rw [HT.out]
    exact ⟨rfl, Hb1.out⟩

theorem rtype_ent : ∀ args w, (callFunc 35 args).run Try.prog w = .ok (.enter 35 args) w := by intro args w; kernel_rfl

set_option maxRecDepth 100000 in
set_option maxHeartbeats 1000000 in
theorem ract_c (r : RuleD) (a : Option Addr) (c : Nat) (k : List UInt8) (W : World) (hr : RowA W W.heap.size 3 a r.kids.length c (pairCells r.kids)) (hn : r.kids.length ≤ 100000000) :
    Calls Try.prog 66 #[.agg (ruleCells r a c).toArray, strV k] W (ActP W (actIn r k)) := by
  have hs1 := fun (j : Nat) (hj : j < r.kids.length) h hb => actIn_some (r := r) (k := k) (j := j) hj h hb
  have hs2 := fun hb => actIn_none (r := r) (k := k) hb
  obtain ⟨R, hR⟩ : ∃ R, R = actIn r k := ⟨_, rfl⟩
  rw [← hR]
  rw [← hR] at hs1 hs2
  obtain ⟨ty, ⟨td, tt⟩, ⟨od, ot⟩, kids, fill, ft⟩ := r
  simp only [ruleCells] at hr hn hs1 hs2 ⊢
  obtain ⟨w0, hw0⟩ : ∃ w0, w0 = ((W.alloc (Obj.cells #[strV ty, .int .i64 td, strV tt, .int .i64 od, strV ot, .slice a kids.length c, .int .i64 fill, strV ft] 27)).alloc (Obj.cells #[.int .i64 0, strV []] 24)) := ⟨_, rfl⟩
  have hb0 : Below W.heap.size W w0 := by rw [hw0]; exact two_below _ _ _
  have hA : At w0 W.heap.size [strV ty, .int .i64 td, strV tt, .int .i64 od, strV ot, .slice a kids.length c, .int .i64 fill, strV ft] 27 := by rw [hw0]; exact (At.fresh W _ _).alloc _
  have hX : At w0 (W.heap.size + 1) [.int .i64 0, strV []] 24 := by rw [hw0]; exact At.second W _ _ _
  have Hr := Lib.hid hr; have Hb0 := Lib.hid hb0; have HA := Lib.hid hA; have HX := Lib.hid hX; have Hs1 := Lib.hid hs1; have Hs2 := Lib.hid hs2
  have Hw0 := Lib.hid hw0
  have hcl : W.heap.size ≤ W.heap.size + 1 := by omega
  obtain ⟨⟨x0, x1, x2, x3, x4, x5, x6, x7⟩, -, xl⟩ := hA.f8
  clear hr hs1 hs2 hR hw0 hb0 hA hX
  go_enter Try.func66, Try.ntmps66
  go_upto_region 1 with fail
  rw [← Hw0.out]
  clear Hw0
  go_wp2_with fail
  go_loopg [10] kids.length (fun g i wr => ∃ j : Nat, j + g = kids.length ∧ i = .int .i64 j ∧ (∀ i (hi : i < j) (hl : i < kids.length), kids[i].1 ≠ k) ∧ Below w0.heap.size w0 wr)
  case atStart => exact ⟨0, by omega, rfl, by intro i hi; omega, Below.refl _ _⟩
  case round =>
    obtain ⟨j, hg, rfl, hb, hbr⟩ := hrel
    have Hbr := Lib.hid hbr; have Hb := Lib.hid hb
    have HbW := Lib.hid (Hb0.out.trans (hbr.mono Hb0.out.size))
    by_cases hlt : j < kids.length
    · have hlti : (j : Int) < kids.length := by omega
      obtain ⟨b, off, rfl, -, h0, h1, h2⟩ := (Hr.out.keep HbW.out (Nat.le_refl _)).pair_at j hlt
      have Hj := Lib.hid (Hs1.out j hlt)
      by_cases he : kids[j].1 = k
      · have Hj2 := Lib.hid (Hj.out he (fun i hi => Hb.out i hi (by omega)))
        have hbe := beq_yes he
        generalize kids[j] = q at h0 h1 h2 Hj2 hbe
        obtain ⟨q0, q1, q2⟩ := q
        obtain ⟨⟨v0, v1⟩, vf, vl⟩ := (HX.out.kept hbr).f2
        have hlt3 := HX.out.lt
        clear hb hbr Hj he x0 x1 x2 x3 x4 x5 x6 x7
        go_wp2_with fail
        refine bodyPost_ret (v := .agg #[.int .i64 q1, strV q2]) (by simp [results, Try.results66, go_sem, v0, v1, vl]) rfl ?_
        rw [Hj2.out]
        exact ⟨rfl, (below_s2 HbW.out hcl _ _).alloc (by have := HbW.out.size; simpa [World.setCell] using this) _⟩
      · have Hb2 := Lib.hid (show ∀ i (hi : i < j + 1) (hl : i < kids.length), kids[i].1 ≠ k from fun i hi hl => by
          rcases Nat.lt_or_ge i j with h | h
          · exact Hb.out i h hl
          · obtain rfl : i = j := by omega
            exact he)
        have hbe := beq_no he
        generalize kids[j] = q at h0 h1 h2 hbe
        obtain ⟨q0, q1, q2⟩ := q
        clear hb hbr Hj he
        go_wp2_with fail
        go_roundg (gk - 1)
        case measure => omega
        case rel => exact ⟨j + 1, by omega, by go_num, Hb2.out, Hbr.out.alloc Hbr.out.size _⟩
    · obtain rfl : j = kids.length := by omega
      have Hj2 := Lib.hid (Hs2.out (fun i hi => Hb.out i hi hi))
      obtain ⟨⟨y0, y1, y2, y3, y4, y5, y6, y7⟩, -, yl⟩ := (HA.out.kept hbr).f8
      obtain ⟨⟨z0, z1⟩, zf, zl⟩ := (HX.out.kept hbr).f2
      clear hb hbr x0 x1 x2 x3 x4 x5 x6 x7
      go_wp2_with fail
      refine bodyPost_ret (v := .agg #[.int .i64 od, strV ot]) (by simp [results, Try.results66, go_sem, z0, z1]) rfl ?_
      rw [Hj2.out]
      exact ⟨rfl, below_s2 HbW.out hcl _ _⟩
theorem ract_ent : ∀ args w, (callFunc 66 args).run Try.prog w = .ok (.enter 66 args) w := by intro args w; kernel_rfl
set_option maxRecDepth 100000 in
set_option maxHeartbeats 2000000 in
theorem ractOf_c (r : RuleD) (a : Option Addr) (c : Nat) (n : NodeD) (v : Value) (W : World) (hr : RowA W W.heap.size 3 a r.kids.length c (pairCells r.kids)) (hn : r.kids.length ≤ 100000000) (hv : NodeV W W.heap.size n v) (hw : n.wt ≤ 100000000) :
    Calls Try.prog 37 #[.agg (ruleCells r a c).toArray, v] W (ActP W (actOf r n)) := by
  have hv0 := hv
  obtain ⟨lf, ps, t, ks⟩ := n
  obtain ⟨ap, cp, at_, ct, ak, ck, css, rfl, -, -, -, -⟩ := hv0.open
  have hl : leafOf (.mk lf ps t ks) = lf := rfl
  generalize NodeD.mk lf ps t ks = n at hv hw hl ⊢
  have hR : actOf r n = if lf then r.text else actIn r (typeN n) := by unfold actOf; rw [hl]
  rw [hR]
  have hY := fun (w1 : World) (hr : RowA w1 w1.heap.size 3 a r.kids.length c (pairCells r.kids)) => ract_c r a c (typeN n) w1 hr hn
  obtain ⟨R, hR2⟩ : ∃ R, R = actIn r (typeN n) := ⟨_, rfl⟩
  rw [← hR2] at hY ⊢
  obtain ⟨ty, ⟨td, tt⟩, ⟨od, ot⟩, kids, fill, ft⟩ := r
  simp only [ruleCells] at hr hn hY ⊢
  obtain ⟨w0, hw0⟩ : ∃ w0, w0 = (((W.alloc (Obj.cells #[strV ty, .int .i64 td, strV tt, .int .i64 od, strV ot, .slice a kids.length c, .int .i64 fill, strV ft] 27)).alloc (Obj.cells #[.bool lf, .slice ap ps.length cp, .slice at_ t.length ct, .slice ak ks.length ck] 35)).alloc (Obj.cells #[.int .i64 0, strV []] 24)) := ⟨_, rfl⟩
  have hb0 : Below W.heap.size W w0 := by rw [hw0]; exact three_below _ _ _ _
  have hA : At w0 W.heap.size [strV ty, .int .i64 td, strV tt, .int .i64 od, strV ot, .slice a kids.length c, .int .i64 fill, strV ft] 27 := by rw [hw0]; exact ((At.fresh W _ _).alloc _).alloc _
  have hK : At w0 (W.heap.size + 1) [.bool lf, .slice ap ps.length cp, .slice at_ t.length ct, .slice ak ks.length ck] 35 := by rw [hw0]; exact (At.second W _ _ _).alloc _
  have hX : At w0 (W.heap.size + 1 + 1) [.int .i64 0, strV []] 24 := by rw [hw0]; exact At.third W _ _ _ _
  have HT := Lib.hid (rtype_c n _ w0.drew hw (hv.keep (hb0.drew) hb0.size))
  have HY := Lib.hid (fun (w1 : World) (hb : Below w0.heap.size w0 w1) => hY w1 (hr.keep (hb0.trans (hb.mono hb0.size)) (Nat.le_trans hb0.size hb.size)))
  have hcl : W.heap.size ≤ W.heap.size + 1 + 1 := by omega
  have Hw0 := Lib.hid hw0; have Hb0 := Lib.hid hb0; have HA := Lib.hid hA; have HK := Lib.hid hK; have HX := Lib.hid hX
  obtain ⟨⟨x0, x1, x2, x3, x4, x5, x6, x7⟩, -, xl⟩ := hA.f8
  obtain ⟨⟨y0, y1, y2, y3⟩, -, yl⟩ := hK.f4
  obtain ⟨⟨z0, z1⟩, zf, zl⟩ := hX.f2
  clear hw0 hb0 hA hK hX hv hv0 hr hY hR hR2 hl
  cases lf with
  | true =>
    clear HT HY
    go_enter Try.func37, Try.ntmps37
    go_upto_region 1 with fail
    rw [← Hw0.out]
    clear Hw0
    go_wp2_with fail
    refine bodyPost_ret (v := .agg #[.int .i64 td, strV tt]) (by simp [results, Try.results37, go_sem, z0, z1]) rfl ?_
    exact ⟨rfl, below_s2 Hb0.out hcl _ _⟩
  | false =>
    go_enter Try.func37, Try.ntmps37
    go_upto_region 1 with fail
    rw [← Hw0.out]
    clear Hw0
    go_wp2_with fail
    go_region_law (first
      | (refine step_call rfl 35 _ _ rfl rtype_ent [.agg #[.bool false, .slice ap ps.length cp, .slice at_ t.length ct, .slice ak ks.length ck]] ?_ _ HT.out ?_
         · go_simp
         rintro e w1 ⟨rfl, hbel⟩
         refine ⟨_, rfl, ?_⟩
         have hb1 : Below w0.heap.size w0 w1 := ((Below.refl w0.heap.size w0).drew).trans hbel
         have Hb1 := Lib.hid hb1
         have HY1 := Lib.hid (HY.out w1 hb1)
         obtain ⟨⟨p0, p1, p2, p3, p4, p5, p6, p7⟩, -, pl⟩ := (HA.out.kept hb1).f8
         obtain ⟨⟨q0, q1, q2, q3⟩, -, ql⟩ := (HK.out.kept hb1).f4
         clear hbel hb1)
      | (refine step_call rfl 66 _ _ rfl ract_ent [.agg #[strV ty, .int .i64 td, strV tt, .int .i64 od, strV ot, .slice a kids.length c, .int .i64 fill, strV ft], strV (typeN n)] ?_ _ HY1.out ?_
         · go_simp
         rintro e w2 ⟨rfl, hbel⟩
         refine ⟨_, rfl, ?_⟩
         have hb2 : Below w0.heap.size w0 w2 := Hb1.out.trans (hbel.mono Hb1.out.size)
         have Hb2 := Lib.hid (Hb0.out.trans (hb2.mono Hb0.out.size))
         obtain ⟨⟨r0, r1⟩, rf, rl⟩ := (HX.out.kept hb2).f2
         clear hbel hb2))
    all_goals
      go_wp2_with fail
      refine bodyPost_ret (v := .agg #[.int .i64 R.1, strV R.2]) (by simp [results, Try.results37, go_sem, r0, r1]) rfl ?_
      exact ⟨rfl, below_s2 Hb2.out hcl _ _⟩


/-- A rule handed back, its Kids where they lay. -/
abbrev RuleB (B : Nat) (W : World) (r : RuleD) (e : Ending) (w' : World) : Prop :=
  ∃ a c, e = .returned (.agg #[strV r.type, .int .i64 r.text.1, strV r.text.2, .int .i64 r.other.1, strV r.other.2, .slice a r.kids.length c, .int .i64 r.fill, strV r.fillT]) ∧ RowA w' B 3 a r.kids.length c (pairCells r.kids) ∧ Below W.heap.size W w'

set_option maxRecDepth 100000 in
set_option maxHeartbeats 2000000 in
theorem rruleOf_c (s : SchemaD) (v : Value) (k : List UInt8) (B : Nat) (W : World) (hB : B ≤ W.heap.size) (hw : s.wt ≤ 100000000) (hv : SchemaV W B s v) :
    Calls Try.prog 34 #[v, strV k] W (RuleB B W (ruleOf s k)) := by
  have hs1 := fun (j : Nat) (hj : j < s.rules.length) h hb => ruleOf_some (s := s) (k := k) (j := j) hj h hb
  have hs2 := fun hb => ruleOf_none (s := s) (k := k) hb
  obtain ⟨R, hR⟩ : ∃ R, R = ruleOf s k := ⟨_, rfl⟩
  rw [← hR] at hs1 hs2 ⊢
  have hrl : s.rules.length ≤ 100000000 := by have := rulesWt_len s.rules; unfold SchemaD.wt at hw; omega
  obtain ⟨a, c, css, ea, ec, o0, o1, o2, o3, o4, o5, rfl, h1, h2, h3, -⟩ := hv.open
  obtain ⟨rs, ⟨ty, ⟨td, tt⟩, ⟨od, ot⟩, kids, fill, ft⟩, order, scap⟩ := s
  simp only at hs1 hs2 hrl h1 h2 h3 ⊢
  obtain ⟨w0, hw0⟩ : ∃ w0, w0 = ((W.alloc (Obj.cells #[.slice a rs.length c, strV ty, .int .i64 td, strV tt, .int .i64 od, strV ot, .slice ea kids.length ec, .int .i64 fill, strV ft, .int .i64 o0, .int .i64 o1, .int .i64 o2, .int .i64 o3, .int .i64 o4, .int .i64 o5, .int .i64 scap] 30)).alloc (Obj.cells #[strV [], .int .i64 0, strV [], .int .i64 0, strV [], .slice none 0 0, .int .i64 0, strV []] 27)) := ⟨_, rfl⟩
  have hb0 : Below W.heap.size W w0 := by rw [hw0]; exact two_below _ _ _
  have hA : At w0 W.heap.size [.slice a rs.length c, strV ty, .int .i64 td, strV tt, .int .i64 od, strV ot, .slice ea kids.length ec, .int .i64 fill, strV ft, .int .i64 o0, .int .i64 o1, .int .i64 o2, .int .i64 o3, .int .i64 o4, .int .i64 o5, .int .i64 scap] 30 := by rw [hw0]; exact (At.fresh W _ _).alloc _
  have hX : At w0 (W.heap.size + 1) [strV [], .int .i64 0, strV [], .int .i64 0, strV [], .slice none 0 0, .int .i64 0, strV []] 27 := by rw [hw0]; exact At.second W _ _ _
  have Hr := Lib.hid h1; have Hc := Lib.hid h2; have H3 := Lib.hid h3; have Hb0 := Lib.hid hb0; have HA := Lib.hid hA; have HX := Lib.hid hX
  have Hs1 := Lib.hid hs1; have Hs2 := Lib.hid hs2
  have Hw0 := Lib.hid hw0
  have hcl : W.heap.size ≤ W.heap.size + 1 := by omega
  obtain ⟨⟨x0, x1, x2, x3, x4, x5, x6, x7, x8, x9, x10, x11, x12, x13, x14, x15⟩, -, xl⟩ := hA.f16
  clear hv hs1 hs2 hR h1 h2 h3 hw0 hb0 hA hX hw
  go_enter Try.func34, Try.ntmps34
  go_upto_region 1 with fail
  rw [← Hw0.out]
  clear Hw0
  go_wp2_with fail
  go_loopg [10] rs.length (fun g i wr => ∃ j : Nat, j + g = rs.length ∧ i = .int .i64 j ∧ (∀ i (hi : i < j) (hl : i < rs.length), rs[i].type ≠ k) ∧ Below w0.heap.size w0 wr)
  case atStart => exact ⟨0, by omega, rfl, by intro i hi; omega, Below.refl _ _⟩
  case round =>
    obtain ⟨j, hg, rfl, hb, hbr⟩ := hrel
    have Hbr := Lib.hid hbr; have Hb := Lib.hid hb
    have HbW := Lib.hid (Hb0.out.trans (hbr.mono Hb0.out.size))
    by_cases hlt : j < rs.length
    · have hlti : (j : Int) < rs.length := by omega
      obtain ⟨b, off, ra, rc, rfl, -, hrr, g0, g1, g2, g3, g4, g5, g6, g7⟩ := rule8 (Hr.out.keep (HbW.out.mono hB) (Nat.le_refl _)) (RulesC.keep (HbW.out.mono hB) (Nat.le_refl _) Hc.out) j hlt
      have Hrr := Lib.hid hrr
      have Hj := Lib.hid (Hs1.out j hlt)
      by_cases he : rs[j].type = k
      · have Hj2 := Lib.hid (Hj.out he (fun i hi => Hb.out i hi (by omega)))
        have hbe := beq_yes he
        generalize rs[j] = q at g0 g1 g2 g3 g4 g5 g6 g7 Hj2 hbe Hrr
        obtain ⟨⟨v0, v1, v2, v3, v4, v5, v6, v7⟩, vf, vl⟩ := (HX.out.kept hbr).f8
        clear hb hbr Hj he hrr x0 x1 x2 x3 x4 x5 x6 x7 x8 x9 x10 x11 x12 x13 x14 x15
        go_wp2_with fail
        refine bodyPost_ret (v := .agg #[strV q.type, .int .i64 q.text.1, strV q.text.2, .int .i64 q.other.1, strV q.other.2, .slice ra q.kids.length rc, .int .i64 q.fill, strV q.fillT]) (by simp [results, Try.results34, go_sem, v0, v1, v2, v3, v4, v5, v6, v7, vl]) rfl ?_
        rw [Hj2.out]
        have hbf := (below_s8 HbW.out hcl (strV q.type) (.int .i64 q.text.1) (strV q.text.2) (.int .i64 q.other.1) (strV q.other.2) (.slice ra q.kids.length rc) (.int .i64 q.fill) (strV q.fillT)).alloc (by have := HbW.out.size; simpa [World.setCell] using this) (Obj.cells #[strV q.type, .int .i64 q.text.1, strV q.text.2, .int .i64 q.other.1, strV q.other.2, .slice ra q.kids.length rc, .int .i64 q.fill, strV q.fillT] 27)
        have hbf2 := (below_s8 (Below.refl W.heap.size wr) hcl (strV q.type) (.int .i64 q.text.1) (strV q.text.2) (.int .i64 q.other.1) (strV q.other.2) (.slice ra q.kids.length rc) (.int .i64 q.fill) (strV q.fillT)).alloc (by have := HbW.out.size; simpa [World.setCell] using this) (Obj.cells #[strV q.type, .int .i64 q.text.1, strV q.text.2, .int .i64 q.other.1, strV q.other.2, .slice ra q.kids.length rc, .int .i64 q.fill, strV q.fillT] 27)
        exact ⟨ra, rc, rfl, Hrr.out.keep (hbf2.mono hB) (Nat.le_refl _), hbf⟩
      · have Hb2 := Lib.hid (show ∀ i (hi : i < j + 1) (hl : i < rs.length), rs[i].type ≠ k from fun i hi hl => by
          rcases Nat.lt_or_ge i j with h | h
          · exact Hb.out i h hl
          · obtain rfl : i = j := by omega
            exact he)
        have hbe := beq_no he
        generalize rs[j] = q at g0 g1 g2 g3 g4 g5 g6 g7 hbe
        clear hb hbr Hj he hrr Hrr
        go_wp2_with fail
        go_roundg (gk - 1)
        case measure => omega
        case rel => exact ⟨j + 1, by omega, by go_num, Hb2.out, Hbr.out.alloc Hbr.out.size _⟩
    · obtain rfl : j = rs.length := by omega
      have Hj2 := Lib.hid (Hs2.out (fun i hi => Hb.out i hi hi))
      obtain ⟨⟨y0, y1, y2, y3, y4, y5, y6, y7, y8, y9, y10, y11, y12, y13, y14, y15⟩, -, yl⟩ := (HA.out.kept hbr).f16
      obtain ⟨⟨z0, z1, z2, z3, z4, z5, z6, z7⟩, zf, zl⟩ := (HX.out.kept hbr).f8
      clear hb hbr x0 x1 x2 x3 x4 x5 x6 x7 x8 x9 x10 x11 x12 x13 x14 x15
      go_wp2_with fail
      refine bodyPost_ret (v := .agg #[strV ty, .int .i64 td, strV tt, .int .i64 od, strV ot, .slice ea kids.length ec, .int .i64 fill, strV ft]) (by simp [results, Try.results34, go_sem, z0, z1, z2, z3, z4, z5, z6, z7]) rfl ?_
      rw [Hj2.out]
      have hbf := below_s8 HbW.out hcl (strV ty) (.int .i64 td) (strV tt) (.int .i64 od) (strV ot) (.slice ea kids.length ec) (.int .i64 fill) (strV ft)
      exact ⟨ea, ec, rfl, H3.out.keep (hbf.mono hB) (Nat.le_refl _), hbf⟩

end Go.Proofs.Ytiinmgccjlmoaaa
