/- Walks: table.RuleOf. -/
import Derived.Test.YtiinmgccjlmoaaaRHD
namespace Go.Proofs.Ytiinmgccjlmoaaa
open Go.RowKit Go.Redl
set_option linter.unusedVariables false

theorem info_pair : (Try.prog.info? 92).map (fun i => (i.zero, i.size, i.bytes)) = some (some (.agg #[.string ⟨#[]⟩, .int .i64 0, .string ⟨#[]⟩]), 3, 40) := by kernel_rfl
set_option maxRecDepth 100000 in
set_option maxHeartbeats 400000 in
theorem clone_pair (B n : Nat) (a : Option Addr) (cap : Nat) (cs : List Value) (w : World) (hr : RowA w B 3 a n cap cs) (hB : B ≤ w.heap.size) (hn : n ≤ 100000000) :
    Calls Try.prog 53 #[.slice a n cap] w (MadeRow w 92 3 n cs) := by
  have hel := fun (w : World) => Lib.run_eql_slice_nil w (P := Try.prog) 25 92 a n cap 0 0 Try.underlying25
  cases ha : a with
  | none =>
    subst ha
    obtain rfl := hr.nil rfl
    obtain rfl : n = 0 := by have := hr.le; omega
    have hcs : cs = [] := List.eq_nil_of_length_eq_zero (by simpa using hr.len)
    subst hcs
    go_enter Try.func53, Try.ntmps53
    go_wp2_with fail
    go_ret
    exact ⟨_, rfl, World.ownsRow_nil _ _ _ _, Below.refl _ _⟩
  | some ad =>
    subst ha
    go_enter Try.func53, Try.ntmps53
    go_wp2_with (at_builtin; refine wpList_app rfl _ _ 25 rfl w.heap.size 92 (.agg #[.string ⟨#[]⟩, .int .i64 0, .string ⟨#[]⟩]) 3 40 Try.underlying25 info_pair rfl (by decide) _ 0 [] rfl ?hown _ n cap B cs rfl ?hr ?h63 ?hb ?hbase ?_)
    case hown => exact World.ownsRow_lit w #[] 0 (Nat.le_refl _) (Nat.zero_le _) rfl
    case hr => exact hr.keep ((Below.refl _ _).alloc hB _) (Nat.le_refl _)
    case h63 => unfold maxLen; omega
    case hb => omega
    case hbase => simp
    intro v' w1 hown hgrow
    have Ho := Lib.hid hown; have Hg := Lib.hid hgrow; clear hown hgrow hel hr
    go_wp2_with fail
    go_ret
    refine ⟨v', rfl, by simpa using Ho.out, ((Below.refl _ _).alloc (Nat.le_refl _) _).grown Hg.out (by simp) ?_⟩
    simp [Value.ownBlock]


/-- A schema's sixteen cells. -/
theorem _root_.Go.Redl.SchemaV.open {w : World} {B : Nat} {s : SchemaD} {v : Value} (h : SchemaV w B s v) :
    ∃ a c css ea ec o0 o1 o2 o3 o4 o5, v = .agg #[.slice a s.rules.length c, strV s.els.type, .int .i64 s.els.text.1, strV s.els.text.2, .int .i64 s.els.other.1, strV s.els.other.2, .slice ea s.els.kids.length ec, .int .i64 s.els.fill, strV s.els.fillT, .int .i64 o0, .int .i64 o1, .int .i64 o2, .int .i64 o3, .int .i64 o4, .int .i64 o5, .int .i64 s.cap] ∧
      RowA w B 8 a s.rules.length c css ∧ RulesC w B s.rules css ∧ RowA w B 3 ea s.els.kids.length ec (pairCells s.els.kids) ∧ s.order = [o0, o1, o2, o3, o4, o5] := by
  obtain ⟨cs, rfl, a, c, css, es, rfl, h1, h2, ⟨ea, ec, rfl, h3⟩, h4⟩ := h
  match ho : s.order, h4 with
  | [o0, o1, o2, o3, o4, o5], _ => exact ⟨a, c, css, ea, ec, o0, o1, o2, o3, o4, o5, rfl, h1, h2, h3, rfl⟩
/-- The k-th rule of a row: its eight cells one by one. -/
theorem rule8 {w : World} {B n cap : Nat} {a : Option Addr} {rs : List RuleD} {css : List Value} (h : RowA w B 8 a n cap css) (hr : RulesC w B rs css) (k : Nat) (hk : k < rs.length) :
    ∃ b off ra rc, a = some ⟨b, off, none⟩ ∧ b < B ∧ RowA w B 3 ra rs[k].kids.length rc (pairCells rs[k].kids) ∧ w.cell? ⟨b, off + k * 8, none⟩ = some (strV rs[k].type) ∧ w.cell? ⟨b, off + k * 8 + 1, none⟩ = some (.int .i64 rs[k].text.1) ∧
      w.cell? ⟨b, off + k * 8 + 2, none⟩ = some (strV rs[k].text.2) ∧ w.cell? ⟨b, off + k * 8 + 3, none⟩ = some (.int .i64 rs[k].other.1) ∧ w.cell? ⟨b, off + k * 8 + 4, none⟩ = some (strV rs[k].other.2) ∧ w.cell? ⟨b, off + k * 8 + 5, none⟩ = some (.slice ra rs[k].kids.length rc) ∧
      w.cell? ⟨b, off + k * 8 + 6, none⟩ = some (.int .i64 rs[k].fill) ∧ w.cell? ⟨b, off + k * 8 + 7, none⟩ = some (strV rs[k].fillT) := by
  obtain ⟨b, off, ra, rc, h1, h2, h3, h4⟩ := h.rule_at hr k hk
  exact ⟨b, off, ra, rc, h1, h2, h3, h4 0 _ rfl, h4 1 _ rfl, h4 2 _ rfl, h4 3 _ rfl, h4 4 _ rfl, h4 5 _ rfl, h4 6 _ rfl, h4 7 _ rfl⟩
theorem ruleOf_some {s : SchemaD} {k : List UInt8} {j : Nat} (hj : j < s.rules.length) (h : s.rules[j].type = k) (hb : ∀ i (hi : i < j), (s.rules[i]'(by omega)).type ≠ k) : ruleOf s k = s.rules[j] := by
  unfold ruleOf
  rw [find_idx (q := fun r => decide (r.type = k)) hj (by simpa using h) (fun i hi => by simpa using hb i hi)]
  rfl
theorem ruleOf_none {s : SchemaD} {k : List UInt8} (hb : ∀ i (hi : i < s.rules.length), s.rules[i].type ≠ k) : ruleOf s k = s.els := by
  unfold ruleOf
  rw [find_none (fun i hi => by simpa using hb i hi)]
  rfl
theorem ruleOf_cases (s : SchemaD) (k : List UInt8) : ruleOf s k ∈ s.rules ∨ ruleOf s k = s.els := by
  unfold ruleOf
  cases h : s.rules.find? (fun r => decide (r.type = k)) with
  | none => exact .inr rfl
  | some r => exact .inl (List.mem_of_find?_eq_some h)
theorem ruleOf_wt (s : SchemaD) (k : List UInt8) : (ruleOf s k).wt ≤ s.wt := by
  unfold SchemaD.wt
  rcases ruleOf_cases s k with h | h
  · have := rulesWt_mem h; omega
  · rw [h]; omega
theorem kids_wt (r : RuleD) : 3 * r.kids.length ≤ r.wt := by
  have := pairsWt_len r.kids
  unfold RuleD.wt; omega

set_option maxRecDepth 100000 in
theorem ruleOf1_c (ty : List UInt8) (td : Int) (tt : List UInt8) (od : Int) (ot : List UInt8) (sl : Option Addr) (sn sc : Nat) (fl : Int) (ft k : List UInt8) (N : Nat) (W : World) (hN : W.cell? ⟨N, 0, none⟩ = some (strV k)) :
    Calls Try.prog 52 #[.agg #[strV ty, .int .i64 td, strV tt, .int .i64 od, strV ot, .slice sl sn sc, .int .i64 fl, strV ft], .pointer (some ⟨N, 0, none⟩)] W fun e w' => e = .returned (.bool (decide (ty = k))) ∧ Below W.heap.size W w' := by
  have hlt := World.block_lt_of_cell? W _ hN
  have Hb := Lib.hid (one_below W (Obj.cells #[strV ty, .int .i64 td, strV tt, .int .i64 od, strV ot, .slice sl sn sc, .int .i64 fl, strV ft] 27))
  go_enter Try.func52, Try.ntmps52
  go_wp2_with fail
  go_ret
  exact ⟨ret_bool (beq_dec _ _), Hb.out⟩
theorem ruleOf1_ent : ∀ args w, (callFunc 52 args).run Try.prog w = .ok (.enter 52 args) w := by intro args w; kernel_rfl

/-- A rule handed back. -/
abbrev RuleP (W : World) (r : RuleD) (e : Ending) (w' : World) : Prop :=
  ∃ a c, e = .returned (.agg #[strV r.type, .int .i64 r.text.1, strV r.text.2, .int .i64 r.other.1, strV r.other.2, .slice a r.kids.length c, .int .i64 r.fill, strV r.fillT]) ∧ RowQ w' (fun b => W.heap.size ≤ b) 3 a r.kids.length c (pairCells r.kids) ∧ Below W.heap.size W w'

set_option maxRecDepth 100000 in
set_option maxHeartbeats 4000000 in
theorem ruleOf_c (s : SchemaD) (v : Value) (k : List UInt8) (W : World) (hw : s.wt ≤ 100000000) (hv : SchemaV W W.heap.size s v) :
    Calls Try.prog 24 #[v, strV k] W (RuleP W (ruleOf s k)) := by
  have hs1 := fun (j : Nat) (hj : j < s.rules.length) h hb => ruleOf_some (s := s) (k := k) (j := j) hj h hb
  have hs2 := fun hb => ruleOf_none (s := s) (k := k) hb
  have hRw : (ruleOf s k).kids.length ≤ 100000000 := by have := kids_wt (ruleOf s k); have := ruleOf_wt s k; omega
  obtain ⟨R, hR⟩ : ∃ R, R = ruleOf s k := ⟨_, rfl⟩
  rw [← hR] at hs1 hs2 hRw ⊢
  have hrl : s.rules.length ≤ 100000000 := by have := rulesWt_len s.rules; unfold SchemaD.wt at hw; omega
  obtain ⟨a, c, css, ea, ec, o0, o1, o2, o3, o4, o5, rfl, h1, h2, h3, -⟩ := hv.open
  obtain ⟨rs, ⟨ty, ⟨td, tt⟩, ⟨od, ot⟩, kids, fill, ft⟩, order, scap⟩ := s
  simp only at hs1 hs2 hrl h1 h2 h3 ⊢
  obtain ⟨w0, hw0⟩ : ∃ w0, w0 = ((((W.alloc (Obj.cells #[.slice a rs.length c, strV ty, .int .i64 td, strV tt, .int .i64 od, strV ot, .slice ea kids.length ec, .int .i64 fill, strV ft, .int .i64 o0, .int .i64 o1, .int .i64 o2, .int .i64 o3, .int .i64 o4, .int .i64 o5, .int .i64 scap] 30)).alloc (Obj.cells #[strV k] 9)).alloc (Obj.cells #[strV [], .int .i64 0, strV [], .int .i64 0, strV [], .slice none 0 0, .int .i64 0, strV []] 27)).alloc (Obj.cells #[strV ty, .int .i64 td, strV tt, .int .i64 od, strV ot, .slice ea kids.length ec, .int .i64 fill, strV ft] 27)) := ⟨_, rfl⟩
  have hb0 : Below W.heap.size W w0 := by rw [hw0]; exact four_below _ _ _ _ _
  have hA : At w0 W.heap.size [.slice a rs.length c, strV ty, .int .i64 td, strV tt, .int .i64 od, strV ot, .slice ea kids.length ec, .int .i64 fill, strV ft, .int .i64 o0, .int .i64 o1, .int .i64 o2, .int .i64 o3, .int .i64 o4, .int .i64 o5, .int .i64 scap] 30 := by rw [hw0]; exact (((At.fresh W _ _).alloc _).alloc _).alloc _
  have hK : At w0 (W.heap.size + 1) [strV k] 9 := by rw [hw0]; exact ((At.second W _ _ _).alloc _).alloc _
  have hX : At w0 (W.heap.size + 1 + 1) [strV [], .int .i64 0, strV [], .int .i64 0, strV [], .slice none 0 0, .int .i64 0, strV []] 27 := by rw [hw0]; exact (At.third W _ _ _ _).alloc _
  have hY : At w0 (W.heap.size + 1 + 1 + 1) [strV ty, .int .i64 td, strV tt, .int .i64 od, strV ot, .slice ea kids.length ec, .int .i64 fill, strV ft] 27 := by rw [hw0]; exact At.fourth W _ _ _ _ _
  have hr0 := h1.keep hb0 hb0.size; have hc0 := RulesC.keep hb0 hb0.size h2
  have hgd : ∀ j (hj : j < rs.length), (rs.map (·.type)).getD j [] = rs[j].type := fun j hj => by simp [List.getD, List.getElem?_eq_getElem hj]
  have HI := Lib.hid (idx_rule rs.length a c 52 #[.pointer (some ⟨W.heap.size + 1, 0, none⟩)] (fun j => decide ((rs.map (·.type)).getD j [] = k)) w0 hrl ruleOf1_ent (fun j W' hj hb => by
    obtain ⟨b, off, ra, rc, ha, -, -, g0, g1, g2, g3, g4, g5, g6, g7⟩ := rule8 (hr0.keep hb hb.size) (RulesC.keep hb hb.size hc0) j hj
    refine ⟨b, off, _, _, _, _, _, _, _, _, ha, g0, g1, g2, g3, g4, g5, g6, g7, ?_⟩
    rw [hgd j hj]
    exact ruleOf1_c _ _ _ _ _ _ _ _ _ _ _ _ W' ((hK.kept hb).cell 0 rfl)))
  have Hr := Lib.hid h1; have Hc := Lib.hid h2; have H3 := Lib.hid h3; have Hb0 := Lib.hid hb0; have HA := Lib.hid hA; have HX := Lib.hid hX; have HY := Lib.hid hY
  have Hs1 := Lib.hid hs1; have Hs2 := Lib.hid hs2; have Hgd := Lib.hid hgd
  have Hw0 := Lib.hid hw0
  obtain ⟨⟨x0, x1, x2, x3, x4, x5, x6, x7, x8, x9, x10, x11, x12, x13, x14, x15⟩, -, xl⟩ := hA.f16
  obtain ⟨⟨y0, y1, y2, y3, y4, y5, y6, y7⟩, yf, yl⟩ := hY.f8
  have hcl : W.heap.size ≤ W.heap.size + 1 + 1 := by omega
  have hcl2 : W.heap.size ≤ W.heap.size + 1 + 1 + 1 := by omega
  clear hv hs1 hs2 hR h1 h2 h3 hw0 hb0 hA hK hX hY hr0 hc0 hgd hw
  go_enter Try.func24, Try.ntmps24
  go_upto_region 2 with fail
  rw [← Hw0.out]
  clear Hw0
  go_wp2_with fail
  refine HI.out.mono ?_
  rintro e w1 ⟨rfl, hbel⟩
  have Hb1 := Lib.hid (Hb0.out.trans (hbel.mono Hb0.out.size))
  have HA1 := Lib.hid (HA.out.kept hbel); have HX1 := Lib.hid (HX.out.kept hbel); have HY1 := Lib.hid (HY.out.kept hbel)
  clear hbel HI x0 x1 x2 x3 x4 x5 x6 x7 x8 x9 x10 x11 x12 x13 x14 x15 y0 y1 y2 y3 y4 y5 y6 y7 yf HA HX HY
  obtain ⟨⟨x0, x1, x2, x3, x4, x5, x6, x7, x8, x9, x10, x11, x12, x13, x14, x15⟩, -, xl⟩ := HA1.out.f16
  obtain ⟨⟨y0, y1, y2, y3, y4, y5, y6, y7⟩, yf, yl⟩ := HY1.out.f8
  obtain ⟨z, hz⟩ : ∃ z, z = idxP (fun j => decide ((rs.map (·.type)).getD j [] = k)) rs.length := ⟨_, rfl⟩
  rw [← hz]
  have Hz := Lib.hid hz
  clear hz
  go_upto_if 14 with fail
  go_cut [] (fun wx => ∃ ra rc, At wx (W.heap.size + 1 + 1 + 1) [strV R.type, .int .i64 R.text.1, strV R.text.2, .int .i64 R.other.1, strV R.other.2, .slice ra R.kids.length rc, .int .i64 R.fill, strV R.fillT] 27 ∧
    At wx (W.heap.size + 1 + 1) [strV [], .int .i64 0, strV [], .int .i64 0, strV [], .slice none 0 0, .int .i64 0, strV []] 27 ∧ RowA wx W.heap.size 3 ra R.kids.length rc (pairCells R.kids) ∧ Below W.heap.size W wx)
  case first =>
    rcases idxP_cases (fun j => decide ((rs.map (·.type)).getD j [] = k)) rs.length with ⟨j, hj, hp, hmin, he⟩ | ⟨hall, he⟩
    · have hze : z = (j : Int) := Hz.out.trans he
      subst hze
      have HG := Lib.hid (Hs1.out j hj (by have h := of_decide_eq_true hp; rw [Hgd.out j hj] at h; exact h) (fun i hi => by have h := of_decide_eq_false (hmin i hi); rw [Hgd.out i (by omega)] at h; exact h))
      have hji : (j : Int) < rs.length := by omega
      obtain ⟨b, off, ra, rc, rfl, -, hrr, g0, g1, g2, g3, g4, g5, g6, g7⟩ := rule8 (Hr.out.keep Hb1.out (Nat.le_refl _)) (RulesC.keep Hb1.out (Nat.le_refl _) Hc.out) j hj
      have Hrr := Lib.hid hrr
      generalize rs[j] = q at g0 g1 g2 g3 g4 g5 g6 g7 HG Hrr
      clear he hmin hp hrr Hz
      go_wp2_with fail
      go_meet
      case rel =>
        rw [HG.out]
        exact ⟨ra, rc, HY1.out.s8 _ _ _ _ _ _ _ _, HX1.out.n8 (by omega) _ _ _ _ _ _ _ _, Hrr.out.keep (below_s8 (Below.refl _ _) hcl2 _ _ _ _ _ _ _ _) (Nat.le_refl _), below_s8 Hb1.out hcl2 _ _ _ _ _ _ _ _⟩
    · have hze : z = -1 := Hz.out.trans he
      subst hze
      have HG := Lib.hid (Hs2.out (fun i hi => by have h := of_decide_eq_false (hall i hi); rw [Hgd.out i hi] at h; exact h))
      clear he hall Hz
      go_wp2_with fail
      go_meet
      case rel =>
        rw [HG.out]
        exact ⟨ea, ec, HY1.out, HX1.out, H3.out.keep Hb1.out (Nat.le_refl _), Hb1.out⟩
  case rest =>
    obtain ⟨ra, rc, hy, hx, hrr, hb⟩ := hcut
    have HY2 := Lib.hid hy; have HX2 := Lib.hid hx; have Hb2 := Lib.hid hb
    have hlt2 := hy.lt
    have HC := Lib.hid (clone_pair W.heap.size R.kids.length ra rc (pairCells R.kids) wc hrr hb.size hRw)
    clear x0 x1 x2 x3 x4 x5 x6 x7 x8 x9 x10 x11 x12 x13 x14 x15 y0 y1 y2 y3 y4 y5 y6 y7 yf hy hx hrr hb HA1 HX1 HY1 Hs1 Hs2 Hz Hgd
    obtain ⟨⟨y0, y1, y2, y3, y4, y5, y6, y7⟩, yf, yl⟩ := HY2.out.f8
    go_wp2_with fail
    refine HC.out.mono ?_
    rintro e w2 ⟨v2, rfl, hown, hbel⟩
    obtain ⟨ka, kc, rfl, hq⟩ := rowq_own hown (pairCells_one _)
    have Hq := Lib.hid hq
    have Hb3 := Lib.hid (Hb2.out.trans (hbel.mono Hb2.out.size))
    have HY3 := Lib.hid (HY2.out.kept hbel); have HX3 := Lib.hid (HX2.out.kept hbel)
    clear hbel hown hq HC y0 y1 y2 y3 y4 y5 y6 y7 yf HY2 HX2
    obtain ⟨⟨y0, y1, y2, y3, y4, y5, y6, y7⟩, yf, yl⟩ := HY3.out.f8
    obtain ⟨⟨z0, z1, z2, z3, z4, z5, z6, z7⟩, zf, zl⟩ := HX3.out.f8
    go_wp2_with fail
    refine bodyPost_ret (v := .agg #[strV R.type, .int .i64 R.text.1, strV R.text.2, .int .i64 R.other.1, strV R.other.2, .slice ka R.kids.length kc, .int .i64 R.fill, strV R.fillT]) (by simp [results, Try.results24, go_sem, z0, z1, z2, z3, z4, z5, z6, z7]) rfl ?_
    have hn3 : ¬ (wc.heap.size ≤ W.heap.size + 1 + 1 + 1) := by omega
    have hn2 : ¬ (wc.heap.size ≤ W.heap.size + 1 + 1) := by omega
    exact ⟨ka, kc, rfl, (rowq_s8 (rowq_set Hq.out hn3) hn2 _ _ _ _ _ _ _ _).keep (Nat.le_refl _) (fun _ _ _ => rfl) (fun b hb _ => Nat.le_trans Hb2.out.size hb), below_s8 (Hb3.out.setCell (p := ⟨W.heap.size + 1 + 1 + 1, 5, none⟩) hcl2 _) hcl _ _ _ _ _ _ _ _⟩

end Go.Proofs.Ytiinmgccjlmoaaa
