/- Parts of the proof, one behind the other: RHE, RHF, RHG, RHI, RHJ, RHK. -/
import Derived.Test.YtbommcakcmhalaaGreatDoorLM6
import Derived.Deep.LoopGhost
import Derived.Deep.QuietTactic
import Derived.Deep.DeepCutAuto
import Derived.Deep.RegionHeld3
/- Walks: table.RuleOf. -/
set_option linter.unusedVariables false
set_option linter.unusedSimpArgs false
set_option maxHeartbeats 4000000
set_option maxRecDepth 100000
namespace Go.Proofs.YtbommcakcmhalaaGreatDoor
open Go.RowKit Go.Redl
theorem info_pair : (Tryz.prog.info? 143).map (fun i => (i.zero, i.size, i.bytes)) = some (some (.agg #[.string ⟨#[]⟩, .int .i64 0, .string ⟨#[]⟩]), 3, 40) := by kernel_rfl
theorem clone_pair (B n : Nat) (a : Option Addr) (cap : Nat) (cs : List Value) (w : World) (hr : RowA w B 3 a n cap cs) (hB : B <= w.heap.size) (hn : n <= 100000000) :
 Calls Tryz.prog 110 #[.slice a n cap] w (MadeRow w 143 3 n cs) := by
 have hel := fun (w : World) => Lib.run_eql_slice_nil w (P := Tryz.prog) 25 143 a n cap 0 0 Tryz.underlying25
 cases ha : a with
 | none =>
   subst ha
   obtain rfl := hr.nil rfl
   obtain rfl : n = 0 := by have := hr.le; omega
   have hcs : cs = [] := List.eq_nil_of_length_eq_zero (by simpa using hr.len)
   subst hcs
   go_enter Tryz.func110, Tryz.ntmps110
   go_wp2_with fail
   go_ret
   exact ⟨_, rfl, World.ownsRow_nil _ _ _ _, Below.refl _ _⟩
 | some ad =>
   subst ha
   go_enter Tryz.func110, Tryz.ntmps110
   go_wp2_with (at_builtin; refine wpList_app rfl _ _ 25 rfl w.heap.size 143 (.agg #[.string ⟨#[]⟩, .int .i64 0, .string ⟨#[]⟩]) 3 40 Tryz.underlying25 info_pair rfl (by decide) _ 0 [] rfl ?hown _ n cap B cs rfl ?hr ?h63 ?hb ?hbase ?_)
   case hown => exact World.ownsRow_lit w #[] 0 (Nat.le_refl _) (Nat.zero_le _) rfl
   case hr => exact hr.keep ((Below.refl _ _).alloc hB _) (Nat.le_refl _)
   case h63 => unfold maxLen; omega
   case hb => omega
   case hbase => simp
   intro v' w1 hown hgrow
   have Ho := Lib.hid hown; have Hg := Lib.hid hgrow; clear hown hgrow hel hr
   go_wp2_with fail
   go_ret
   refine ⟨v', rfl, by simpa using Ho.out, ((Below.refl _ _).alloc (Nat.le_refl _) _).grown Hg.out (by simp) ?_⟩
   simp [Value.ownBlock]
/-- A schema's sixteen cells. -/
theorem _root_.Go.Redl.SchemaV.open {w : World} {B : Nat} {s : SchemaD} {v : Value} (h : SchemaV w B s v) :
 ∃ a c css ea ec o0 o1 o2 o3 o4 o5, v = .agg #[.slice a s.rules.length c, strV s.els.type, .int .i64 s.els.text.1, strV s.els.text.2, .int .i64 s.els.other.1, strV s.els.other.2, .slice ea s.els.kids.length ec, .int .i64 s.els.fill, strV s.els.fillT, .int .i64 o0, .int .i64 o1, .int .i64 o2, .int .i64 o3, .int .i64 o4, .int .i64 o5, .int .i64 s.cap] /\
   RowA w B 8 a s.rules.length c css /\ RulesC w B s.rules css /\ RowA w B 3 ea s.els.kids.length ec (pairCells s.els.kids) /\ s.order = [o0, o1, o2, o3, o4, o5] := by
 obtain ⟨cs, rfl, a, c, css, es, rfl, h1, h2, ⟨ea, ec, rfl, h3⟩, h4⟩ := h
 match ho : s.order, h4 with
 | [o0, o1, o2, o3, o4, o5], _ => exact ⟨a, c, css, ea, ec, o0, o1, o2, o3, o4, o5, rfl, h1, h2, h3, rfl⟩
/-- The k-th rule of a row: its eight cells one by one. -/
theorem rule8 {w : World} {B n cap : Nat} {a : Option Addr} {rs : List RuleD} {css : List Value} (h : RowA w B 8 a n cap css) (hr : RulesC w B rs css) (k : Nat) (hk : k < rs.length) :
 ∃ b off ra rc, a = some ⟨b, off, none⟩ /\ b < B /\ RowA w B 3 ra rs[k].kids.length rc (pairCells rs[k].kids) /\ w.cell? ⟨b, off + k * 8, none⟩ = some (strV rs[k].type) /\ w.cell? ⟨b, off + k * 8 + 1, none⟩ = some (.int .i64 rs[k].text.1) /\
   w.cell? ⟨b, off + k * 8 + 2, none⟩ = some (strV rs[k].text.2) /\ w.cell? ⟨b, off + k * 8 + 3, none⟩ = some (.int .i64 rs[k].other.1) /\ w.cell? ⟨b, off + k * 8 + 4, none⟩ = some (strV rs[k].other.2) /\ w.cell? ⟨b, off + k * 8 + 5, none⟩ = some (.slice ra rs[k].kids.length rc) /\
   w.cell? ⟨b, off + k * 8 + 6, none⟩ = some (.int .i64 rs[k].fill) /\ w.cell? ⟨b, off + k * 8 + 7, none⟩ = some (strV rs[k].fillT) := by
 obtain ⟨b, off, ra, rc, h1, h2, h3, h4⟩ := h.rule_at hr k hk
 exact ⟨b, off, ra, rc, h1, h2, h3, h4 0 _ rfl, h4 1 _ rfl, h4 2 _ rfl, h4 3 _ rfl, h4 4 _ rfl, h4 5 _ rfl, h4 6 _ rfl, h4 7 _ rfl⟩
theorem ruleOf_some {s : SchemaD} {k : List UInt8} {j : Nat} (hj : j < s.rules.length) (h : s.rules[j].type = k) (hb : ∀ i (hi : i < j), (s.rules[i]'(by omega)).type ≠ k) : ruleOf s k = s.rules[j] := by
 unfold ruleOf
 rw [find_idx (q := fun r => decide (r.type = k)) hj (by simpa using h) (fun i hi => by simpa using hb i hi)]
 rfl
theorem ruleOf_none {s : SchemaD} {k : List UInt8} (hb : ∀ i (hi : i < s.rules.length), s.rules[i].type ≠ k) : ruleOf s k = s.els := by
 unfold ruleOf
 rw [find_none (fun i hi => by simpa using hb i hi)]
 rfl
theorem ruleOf_cases (s : SchemaD) (k : List UInt8) : ruleOf s k ∈ s.rules ∨ ruleOf s k = s.els := by
 unfold ruleOf
 cases h : s.rules.find? (fun r => decide (r.type = k)) with
 | none => exact .inr rfl
 | some r => exact .inl (List.mem_of_find?_eq_some h)
theorem ruleOf_wt (s : SchemaD) (k : List UInt8) : (ruleOf s k).wt <= s.wt := by
 unfold SchemaD.wt
 rcases ruleOf_cases s k with h | h
 . have := rulesWt_mem h; omega
 . rw [h]; omega
theorem kids_wt (r : RuleD) : 3 * r.kids.length <= r.wt := by
 have := pairsWt_len r.kids
 unfold RuleD.wt; omega
theorem ruleOf1_c (ty : List UInt8) (td : Int) (tt : List UInt8) (od : Int) (ot : List UInt8) (sl : Option Addr) (sn sc : Nat) (fl : Int) (ft k : List UInt8) (N : Nat) (W : World) (hN : W.cell? ⟨N, 0, none⟩ = some (strV k)) :
 Calls Tryz.prog 109 #[.agg #[strV ty, .int .i64 td, strV tt, .int .i64 od, strV ot, .slice sl sn sc, .int .i64 fl, strV ft], .pointer (some ⟨N, 0, none⟩)] W fun e w' => e = .returned (.bool (decide (ty = k))) /\ Below W.heap.size W w' := by
 have hlt := World.block_lt_of_cell? W _ hN
 have Hb := Lib.hid (one_below W (Obj.cells #[strV ty, .int .i64 td, strV tt, .int .i64 od, strV ot, .slice sl sn sc, .int .i64 fl, strV ft] 27))
 go_enter Tryz.func109, Tryz.ntmps109
 go_wp2_with fail
 go_ret
 exact ⟨ret_bool (beq_dec _ _), Hb.out⟩
theorem ruleOf1_ent : ∀ args w, (callFunc 109 args).run Tryz.prog w = .ok (.enter 109 args) w := by intro args w; kernel_rfl
/-- A rule handed back. -/
abbrev RuleP (W : World) (r : RuleD) (e : Ending) (w' : World) : Prop :=
 ∃ a c, e = .returned (.agg #[strV r.type, .int .i64 r.text.1, strV r.text.2, .int .i64 r.other.1, strV r.other.2, .slice a r.kids.length c, .int .i64 r.fill, strV r.fillT]) /\ RowQ w' (fun b => W.heap.size <= b) 3 a r.kids.length c (pairCells r.kids) /\ Below W.heap.size W w'
theorem ruleOf_c (s : SchemaD) (v : Value) (k : List UInt8) (W : World) (hw : s.wt <= 100000000) (hv : SchemaV W W.heap.size s v) :
 Calls Tryz.prog 56 #[v, strV k] W (RuleP W (ruleOf s k)) := by
 have hs1 := fun (j : Nat) (hj : j < s.rules.length) h hb => ruleOf_some (s := s) (k := k) (j := j) hj h hb
 have hs2 := fun hb => ruleOf_none (s := s) (k := k) hb
 have hRw : (ruleOf s k).kids.length <= 100000000 := by have := kids_wt (ruleOf s k); have := ruleOf_wt s k; omega
 obtain ⟨R, hR⟩ : ∃ R, R = ruleOf s k := ⟨_, rfl⟩
 rw [<- hR] at hs1 hs2 hRw ⊢
 have hrl : s.rules.length <= 100000000 := by have := rulesWt_len s.rules; unfold SchemaD.wt at hw; omega
 obtain ⟨a, c, css, ea, ec, o0, o1, o2, o3, o4, o5, rfl, h1, h2, h3, -⟩ := hv.open
 obtain ⟨rs, ⟨ty, ⟨td, tt⟩, ⟨od, ot⟩, kids, fill, ft⟩, order, scap⟩ := s
 simp only at hs1 hs2 hrl h1 h2 h3 ⊢
 obtain ⟨w0, hw0⟩ : ∃ w0, w0 = ((((W.alloc (Obj.cells #[.slice a rs.length c, strV ty, .int .i64 td, strV tt, .int .i64 od, strV ot, .slice ea kids.length ec, .int .i64 fill, strV ft, .int .i64 o0, .int .i64 o1, .int .i64 o2, .int .i64 o3, .int .i64 o4, .int .i64 o5, .int .i64 scap] 30)).alloc (Obj.cells #[strV k] 9)).alloc (Obj.cells #[strV [], .int .i64 0, strV [], .int .i64 0, strV [], .slice none 0 0, .int .i64 0, strV []] 27)).alloc (Obj.cells #[strV ty, .int .i64 td, strV tt, .int .i64 od, strV ot, .slice ea kids.length ec, .int .i64 fill, strV ft] 27)) := ⟨_, rfl⟩
 have hb0 : Below W.heap.size W w0 := by rw [hw0]; exact four_below _ _ _ _ _
 have hA : At w0 W.heap.size [.slice a rs.length c, strV ty, .int .i64 td, strV tt, .int .i64 od, strV ot, .slice ea kids.length ec, .int .i64 fill, strV ft, .int .i64 o0, .int .i64 o1, .int .i64 o2, .int .i64 o3, .int .i64 o4, .int .i64 o5, .int .i64 scap] 30 := by rw [hw0]; exact (((At.fresh W _ _).alloc _).alloc _).alloc _
 have hK : At w0 (W.heap.size + 1) [strV k] 9 := by rw [hw0]; exact ((At.second W _ _ _).alloc _).alloc _
 have hX : At w0 (W.heap.size + 1 + 1) [strV [], .int .i64 0, strV [], .int .i64 0, strV [], .slice none 0 0, .int .i64 0, strV []] 27 := by rw [hw0]; exact (At.third W _ _ _ _).alloc _
 have hY : At w0 (W.heap.size + 1 + 1 + 1) [strV ty, .int .i64 td, strV tt, .int .i64 od, strV ot, .slice ea kids.length ec, .int .i64 fill, strV ft] 27 := by rw [hw0]; exact At.fourth W _ _ _ _ _
 have hr0 := h1.keep hb0 hb0.size; have hc0 := RulesC.keep hb0 hb0.size h2
 have hgd : ∀ j (hj : j < rs.length), (rs.map (·.type)).getD j [] = rs[j].type := fun j hj => by simp [List.getD, List.getElem?_eq_getElem hj]
 have HI := Lib.hid (idx_rule rs.length a c 109 #[.pointer (some ⟨W.heap.size + 1, 0, none⟩)] (fun j => decide ((rs.map (·.type)).getD j [] = k)) w0 hrl ruleOf1_ent (fun j W' hj hb => by
  obtain ⟨b, off, ra, rc, ha, -, -, g0, g1, g2, g3, g4, g5, g6, g7⟩ := rule8 (hr0.keep hb hb.size) (RulesC.keep hb hb.size hc0) j hj
  refine ⟨b, off, _, _, _, _, _, _, _, _, ha, g0, g1, g2, g3, g4, g5, g6, g7, ?_⟩
  rw [hgd j hj]
  exact ruleOf1_c _ _ _ _ _ _ _ _ _ _ _ _ W' ((hK.kept hb).cell 0 rfl)))
 have Hr := Lib.hid h1; have Hc := Lib.hid h2; have H3 := Lib.hid h3; have Hb0 := Lib.hid hb0; have HA := Lib.hid hA; have HX := Lib.hid hX; have HY := Lib.hid hY
 have Hs1 := Lib.hid hs1; have Hs2 := Lib.hid hs2; have Hgd := Lib.hid hgd
 have Hw0 := Lib.hid hw0
 obtain ⟨⟨x0, x1, x2, x3, x4, x5, x6, x7, x8, x9, x10, x11, x12, x13, x14, x15⟩, -, xl⟩ := hA.f16
 obtain ⟨⟨y0, y1, y2, y3, y4, y5, y6, y7⟩, yf, yl⟩ := hY.f8
 have hcl : W.heap.size <= W.heap.size + 1 + 1 := by omega
 have hcl2 : W.heap.size <= W.heap.size + 1 + 1 + 1 := by omega
 clear hv hs1 hs2 hR h1 h2 h3 hw0 hb0 hA hK hX hY hr0 hc0 hgd hw
 go_enter Tryz.func56, Tryz.ntmps56
 go_upto_region 2 with fail
 rw [<- Hw0.out]
 clear Hw0
 go_wp2_with fail
 refine HI.out.mono ?_
 rintro e w1 ⟨rfl, hbel⟩
 have Hb1 := Lib.hid (Hb0.out.trans (hbel.mono Hb0.out.size))
 have HA1 := Lib.hid (HA.out.kept hbel); have HX1 := Lib.hid (HX.out.kept hbel); have HY1 := Lib.hid (HY.out.kept hbel)
 clear hbel HI x0 x1 x2 x3 x4 x5 x6 x7 x8 x9 x10 x11 x12 x13 x14 x15 y0 y1 y2 y3 y4 y5 y6 y7 yf HA HX HY
 obtain ⟨⟨x0, x1, x2, x3, x4, x5, x6, x7, x8, x9, x10, x11, x12, x13, x14, x15⟩, -, xl⟩ := HA1.out.f16
 obtain ⟨⟨y0, y1, y2, y3, y4, y5, y6, y7⟩, yf, yl⟩ := HY1.out.f8
 obtain ⟨z, hz⟩ : ∃ z, z = idxP (fun j => decide ((rs.map (·.type)).getD j [] = k)) rs.length := ⟨_, rfl⟩
 rw [<- hz]
 have Hz := Lib.hid hz
 clear hz
 go_upto_if 14 with fail
 go_cut [] (fun wx => ∃ ra rc, At wx (W.heap.size + 1 + 1 + 1) [strV R.type, .int .i64 R.text.1, strV R.text.2, .int .i64 R.other.1, strV R.other.2, .slice ra R.kids.length rc, .int .i64 R.fill, strV R.fillT] 27 /\
  At wx (W.heap.size + 1 + 1) [strV [], .int .i64 0, strV [], .int .i64 0, strV [], .slice none 0 0, .int .i64 0, strV []] 27 /\ RowA wx W.heap.size 3 ra R.kids.length rc (pairCells R.kids) /\ Below W.heap.size W wx)
 case first =>
  rcases idxP_cases (fun j => decide ((rs.map (·.type)).getD j [] = k)) rs.length with ⟨j, hj, hp, hmin, he⟩ | ⟨hall, he⟩
  . have hze : z = (j : Int) := Hz.out.trans he
    subst hze
    have HG := Lib.hid (Hs1.out j hj (by have h := of_decide_eq_true hp; rw [Hgd.out j hj] at h; exact h) (fun i hi => by have h := of_decide_eq_false (hmin i hi); rw [Hgd.out i (by omega)] at h; exact h))
    have hji : (j : Int) < rs.length := by omega
    obtain ⟨b, off, ra, rc, rfl, -, hrr, g0, g1, g2, g3, g4, g5, g6, g7⟩ := rule8 (Hr.out.keep Hb1.out (Nat.le_refl _)) (RulesC.keep Hb1.out (Nat.le_refl _) Hc.out) j hj
    have Hrr := Lib.hid hrr
    generalize rs[j] = q at g0 g1 g2 g3 g4 g5 g6 g7 HG Hrr
    clear he hmin hp hrr Hz
    go_wp2_with fail
    go_meet
    case rel =>
     rw [HG.out]
     exact ⟨ra, rc, HY1.out.s8 _ _ _ _ _ _ _ _, HX1.out.n8 (by omega) _ _ _ _ _ _ _ _, Hrr.out.keep (below_s8 (Below.refl _ _) hcl2 _ _ _ _ _ _ _ _) (Nat.le_refl _), below_s8 Hb1.out hcl2 _ _ _ _ _ _ _ _⟩
  . have hze : z = -1 := Hz.out.trans he
    subst hze
    have HG := Lib.hid (Hs2.out (fun i hi => by have h := of_decide_eq_false (hall i hi); rw [Hgd.out i hi] at h; exact h))
    clear he hall Hz
    go_wp2_with fail
    go_meet
    case rel =>
     rw [HG.out]
     exact ⟨ea, ec, HY1.out, HX1.out, H3.out.keep Hb1.out (Nat.le_refl _), Hb1.out⟩
 case rest =>
  obtain ⟨ra, rc, hy, hx, hrr, hb⟩ := hcut
  have HY2 := Lib.hid hy; have HX2 := Lib.hid hx; have Hb2 := Lib.hid hb
  have hlt2 := hy.lt
  have HC := Lib.hid (clone_pair W.heap.size R.kids.length ra rc (pairCells R.kids) wc hrr hb.size hRw)
  clear x0 x1 x2 x3 x4 x5 x6 x7 x8 x9 x10 x11 x12 x13 x14 x15 y0 y1 y2 y3 y4 y5 y6 y7 yf hy hx hrr hb HA1 HX1 HY1 Hs1 Hs2 Hz Hgd
  obtain ⟨⟨y0, y1, y2, y3, y4, y5, y6, y7⟩, yf, yl⟩ := HY2.out.f8
  go_wp2_with fail
  refine HC.out.mono ?_
  rintro e w2 ⟨v2, rfl, hown, hbel⟩
  obtain ⟨ka, kc, rfl, hq⟩ := rowq_own hown (pairCells_one _)
  have Hq := Lib.hid hq
  have Hb3 := Lib.hid (Hb2.out.trans (hbel.mono Hb2.out.size))
  have HY3 := Lib.hid (HY2.out.kept hbel); have HX3 := Lib.hid (HX2.out.kept hbel)
  clear hbel hown hq HC y0 y1 y2 y3 y4 y5 y6 y7 yf HY2 HX2
  obtain ⟨⟨y0, y1, y2, y3, y4, y5, y6, y7⟩, yf, yl⟩ := HY3.out.f8
  obtain ⟨⟨z0, z1, z2, z3, z4, z5, z6, z7⟩, zf, zl⟩ := HX3.out.f8
  go_wp2_with fail
  refine bodyPost_ret (v := .agg #[strV R.type, .int .i64 R.text.1, strV R.text.2, .int .i64 R.other.1, strV R.other.2, .slice ka R.kids.length kc, .int .i64 R.fill, strV R.fillT]) (by simp [results, Tryz.results56, go_sem, z0, z1, z2, z3, z4, z5, z6, z7]) rfl ?_
  have hn3 : ¬ (wc.heap.size <= W.heap.size + 1 + 1 + 1) := by omega
  have hn2 : ¬ (wc.heap.size <= W.heap.size + 1 + 1) := by omega
  exact ⟨ka, kc, rfl, (rowq_s8 (rowq_set Hq.out hn3) hn2 _ _ _ _ _ _ _ _).keep (Nat.le_refl _) (fun _ _ _ => rfl) (fun b hb _ => Nat.le_trans Hb2.out.size hb), below_s8 (Hb3.out.setCell (p := ⟨W.heap.size + 1 + 1 + 1, 5, none⟩) hcl2 _) hcl _ _ _ _ _ _ _ _⟩
end Go.Proofs.YtbommcakcmhalaaGreatDoor
/- Walks: the reference's Get, Type, act, ActOf, RuleOf. -/
namespace Go.Proofs.YtbommcakcmhalaaGreatDoor
open Go.RowKit Go.Redl
theorem beq_no {a b : List UInt8} (h : a ≠ b) : (a == b) = false := by simp [h]
end Go.Proofs.YtbommcakcmhalaaGreatDoor
/- Walks: the reference's wrong: whether something of a class is wrong with a Kid. -/
namespace Go.Proofs.YtbommcakcmhalaaGreatDoor
open Go.RowKit Go.Redl
theorem int_dec (a b : Int) : (a == b) = decide (a = b) := by by_cases h : a = b <;> simp [h]
/-- The k-th Kid: its four cells, in plain words. -/
theorem kidO {w : World} {B cap : Nat} {a : Option Addr} {ks : List NodeD} {css : List Value} (h : RowA w B 4 a ks.length cap css) (hk : KidsC w B ks css) (i : Nat) (hi : i < ks.length) :
 ∃ b off ap cp at_ ct ak ck, a = some ⟨b, off, none⟩ /\ b < B /\ NodeV w B ks[i] (.agg #[.bool (leafOf ks[i]), .slice ap (propsOf ks[i]).length cp, .slice at_ (textOf ks[i]).length ct, .slice ak (kidsOf ks[i]).length ck]) /\ RowA w B 2 ap (propsOf ks[i]).length cp (propCells (propsOf ks[i])) /\
   w.cell? ⟨b, off + i * 4, none⟩ = some (.bool (leafOf ks[i])) /\ w.cell? ⟨b, off + i * 4 + 1, none⟩ = some (.slice ap (propsOf ks[i]).length cp) /\ w.cell? ⟨b, off + i * 4 + 2, none⟩ = some (.slice at_ (textOf ks[i]).length ct) /\ w.cell? ⟨b, off + i * 4 + 3, none⟩ = some (.slice ak (kidsOf ks[i]).length ck) := by
 obtain ⟨b, off, l', a1, n1, c1, a2, n2, c2, a3, n3, c3, ha, hb, hnc, g0, g1, g2, g3⟩ := h.kid_at hk i hi
 generalize ks[i] = q at hnc ⊢
 obtain ⟨l, ps, t, ks'⟩ := q
 have hnv : NodeV w B (.mk l ps t ks') (.agg #[.bool l', .slice a1 n1 c1, .slice a2 n2 c2, .slice a3 n3 c3]) := ⟨_, rfl, hnc⟩
 obtain ⟨ap, cp, at_, ct, ak, ck, css', hv, h2, -, -, -⟩ := hnv.open
 simp only [Value.agg.injEq, Array.mk.injEq, List.cons.injEq, Value.bool.injEq, Value.slice.injEq, and_true] at hv
 obtain ⟨rfl, ⟨rfl, rfl, rfl⟩, ⟨rfl, rfl, rfl⟩, ⟨rfl, rfl, rfl⟩⟩ := hv
 exact ⟨b, off, _, _, _, _, _, _, ha, hb, hnv, h2, g0, g1, g2, g3⟩
theorem kid_get {ks : List NodeD} {i : Nat} (hi : i < ks.length) : kidAt ks i = ks[i] := by simp [kidAt, List.getD, List.getElem?_eq_getElem hi]
end Go.Proofs.YtbommcakcmhalaaGreatDoor
/- Walks: valid's ways to look: doing, merge, empty, fill. -/
namespace Go.Proofs.YtbommcakcmhalaaGreatDoor
open Go.RowKit Go.Redl
def actRow (l : List ActD) : List Value := l.flatMap actCells
theorem actRow_len (l : List ActD) : (actRow l).length = l.length * 2 := by
 induction l with
 | nil => rfl
 | cons p l ih => simp only [actRow, actCells, List.flatMap_cons, List.length_append, List.length_cons, List.length_nil] at *; omega
theorem actRow_at : ∀ (l : List ActD) (i : Nat) (hi : i < l.length), (actRow l)[i * 2]? = some (.int .i64 l[i].1) /\ (actRow l)[i * 2 + 1]? = some (strV l[i].2)
 | [], i, hi => absurd hi (by simp)
 | p :: l, 0, hi => by simp [actRow, actCells]
 | p :: l, i + 1, hi => by
   have h := actRow_at l i (by simpa using hi)
   have e : actRow (p :: l) = .int .i64 p.1 :: strV p.2 :: actRow l := by simp [actRow, actCells]
   rw [e, show (i + 1) * 2 = i * 2 + 1 + 1 by omega]
   simpa using h
theorem act_at {w : World} {B n cap : Nat} {a : Option Addr} {l : List ActD} (h : RowA w B 2 a n cap (actRow l)) (k : Nat) (hk : k < l.length) :
 ∃ b off, a = some ⟨b, off, none⟩ /\ b < B /\ w.cell? ⟨b, off + k * 2, none⟩ = some (.int .i64 l[k].1) /\ w.cell? ⟨b, off + k * 2 + 1, none⟩ = some (strV l[k].2) := by
 obtain ⟨h1, h2⟩ := actRow_at l k hk
 obtain ⟨b, off, ha, hb, hc⟩ := h.some_ (by intro e; rw [e] at h1; simp at h1)
 exact ⟨b, off, ha, hb, hc _ _ h1, by have := hc _ _ h2; rwa [<- Nat.add_assoc] at this⟩
/-- The first place that is done so. -/
def doAt (l : List ActD) (d : Int) : Int := idxP (fun i => decide ((l.getD i (0, [])).1 = d)) l.length
/-- What a way to look tells. -/
def LookP (W : World) (at_ : Int) (m : Nat) (e : Ending) (w' : World) : Prop := ∃ k : Int, e = .returned (.tuple #[.int .i64 at_, .int .i64 k]) /\ (0 <= at_ -> k = m) /\ Below W.heap.size W w'
theorem doing1_c (x : Int) (t : List UInt8) (d : Int) (N : Nat) (W : World) (hN : W.cell? ⟨N, 0, none⟩ = some (.int .i64 d)) :
 Calls Tryz.prog 179 #[.agg #[.int .i64 x, strV t], .pointer (some ⟨N, 0, none⟩)] W fun e w' => e = .returned (.bool (decide (x = d))) /\ Below W.heap.size W w' := by
 have hlt := World.block_lt_of_cell? W _ hN
 have Hb := Lib.hid (one_below W (Obj.cells #[.int .i64 x, strV t] 24))
 go_enter Tryz.func179, Tryz.ntmps179
 go_wp2_with fail
 go_ret
 exact ⟨ret_bool (int_dec _ _), Hb.out⟩
theorem doing1_ent : ∀ args w, (callFunc 179 args).run Tryz.prog w = .ok (.enter 179 args) w := by intro args w; kernel_rfl
/-- An element's thirteen cells: e0..e11 whatever they are, then what is done with each of its Kids. -/
theorem doing_c (e0 e1 e2 e3 e4 e5 e6 e7 e8 e9 e10 e11 : Value) (aa : Option Addr) (ac : Nat) (l : List ActD) (d : Int) (W : World) (hr : RowA W W.heap.size 2 aa l.length ac (actRow l)) (hn : l.length <= 100000000) :
 Calls Tryz.prog 121 #[.agg #[e0, e1, e2, e3, e4, e5, e6, e7, e8, e9, e10, e11, .slice aa l.length ac], .int .i64 d] W (LookP W (doAt l d) (if d = 4 then runA l (doAt l d).toNat else 1)) := by
 obtain ⟨mz, hmz⟩ : ∃ mz, mz = (if d = 4 then runA l (doAt l d).toNat else 1) := ⟨_, rfl⟩
 rw [<- hmz]
 obtain ⟨w0, hw0⟩ : ∃ w0, w0 = (W.alloc (Obj.cells #[e0, e1, e2, e3, e4, e5, e6, e7, e8, e9, e10, e11, .slice aa l.length ac] 112)).alloc (Obj.cells #[.int .i64 d] 3) := ⟨_, rfl⟩
 have hb0 : Below W.heap.size W w0 := by rw [hw0]; exact two_below _ _ _
 have hA : At w0 W.heap.size [e0, e1, e2, e3, e4, e5, e6, e7, e8, e9, e10, e11, .slice aa l.length ac] 112 := by rw [hw0]; exact (At.fresh W _ _).alloc _
 have hX : At w0 (W.heap.size + 1) [.int .i64 d] 3 := by rw [hw0]; exact At.second W _ _ _
 have hr0 := hr.keep hb0 hb0.size
 have hgd : ∀ j (hj : j < l.length), l.getD j (0, []) = l[j] := fun j hj => by simp [List.getD, List.getElem?_eq_getElem hj]
 have HI := Lib.hid (idx_act l.length aa ac 179 #[.pointer (some ⟨W.heap.size + 1, 0, none⟩)] (fun j => decide ((l.getD j (0, [])).1 = d)) w0 hn doing1_ent (fun j W' hj hb => by
  obtain ⟨b, off, ha, -, h0, h1⟩ := act_at (hr0.keep hb hb.size) j hj
  refine ⟨b, off, _, _, ha, h0, h1, ?_⟩
  rw [hgd j hj]
  exact doing1_c l[j].1 l[j].2 d _ W' ((hX.kept hb).cell 0 rfl)))
 have Hcs := Lib.hid (idxP_cases (fun j => decide ((l.getD j (0, [])).1 = d)) l.length)
 have hdo : doAt l d = idxP (fun j => decide ((l.getD j (0, [])).1 = d)) l.length := rfl
 rw [<- hdo] at HI Hcs
 generalize doAt l d = z at HI Hcs hmz ⊢
 have Hmz := Lib.hid hmz
 clear hmz
 have Hr := Lib.hid hr0; have Hb0 := Lib.hid hb0; have HA := Lib.hid hA; have HX := Lib.hid hX; have Hw0 := Lib.hid hw0; have Hgd := Lib.hid hgd
 have x12 := hA.cell 12 rfl
 have xl := hA.lt
 clear hdo hw0 hb0 hA hX hr0 hr hgd
 go_enter Tryz.func121, Tryz.ntmps121
 go_upto_region 1 with fail
 rw [<- Hw0.out]
 clear Hw0
 go_wp2_with fail
 refine HI.out.mono ?_
 rintro e w1 ⟨rfl, hbel⟩
 have Hb1 := Lib.hid (Hb0.out.trans (hbel.mono Hb0.out.size))
 have Hr1 := Lib.hid (Hr.out.keep hbel hbel.size)
 have y12 := (HA.out.kept hbel).cell 12 rfl
 have yl := (HA.out.kept hbel).lt
 have z0 := (HX.out.kept hbel).cell 0 rfl
 have zl := (HX.out.kept hbel).lt
 clear hbel HI x12 xl HA HX Hr Hb0
 rcases Hcs.out with ⟨j, hj, hp, -, he⟩ | ⟨-, he⟩
 . subst he
   have hnl : decide ((j : Int) < 0) = false := by simp
   clear hp Hcs
   by_cases h4 : d = 4
   . subst h4
     obtain ⟨b, off, rfl, hb, g0, g1⟩ := act_at Hr1.out j hj
     have hji : (j : Int) < l.length := by omega
     have Hg0 := Lib.hid g0; have Hg1 := Lib.hid g1
     clear g0 g1
     go_wp2_with fail
     go_loopg [5] (l.length - 1) (fun g m wr => ∃ mm : Nat, m = .int .i64 mm /\ 1 <= mm /\ j + mm <= l.length /\ mm + g = l.length /\ (∀ q (hq : q < mm) (hl : j + q < l.length), l[j + q] = l[j]) /\ Below w1.heap.size w1 wr)
     case atStart =>
      refine ⟨1, rfl, by omega, by omega, by omega, fun q hq hl => ?_, Below.refl _ _⟩
      obtain rfl : q = 0 := by omega
      rfl
     case round =>
      obtain ⟨mm, rfl, h1, hjm, hg, hal, hbr⟩ := hrel
      have Hal := Lib.hid hal; have Hbr := Lib.hid hbr
      have y12' := (hbr.cell (by exact yl)).trans y12
      have g0 := (hbr.cell (by exact hb)).trans Hg0.out
      have g1 := (hbr.cell (by exact hb)).trans Hg1.out
      have yl' := Nat.lt_of_lt_of_le yl hbr.size
      have HbF := Lib.hid (Hb1.out.trans (hbr.mono Hb1.out.size))
      have hwr : IntKind.i64.wrap ((j : Int) + (mm : Int)) = ((j + mm : Nat) : Int) := by rw [show (j : Int) + (mm : Int) = ((j + mm : Nat) : Int) by omega]; exact IntWalk.i64_in _ (by omega)
      clear hal hbr y12 z0 zl yl
      by_cases hlt : j + mm < l.length
      . have h5I : ((j + mm : Nat) : Int) < (l.length : Int) := by omega
        have h4I : (j : Int) + (mm : Int) < (l.length : Int) := by omega
        obtain ⟨b', off', hbe, -, k0, k1⟩ := act_at (Hr1.out.keep Hbr.out Hbr.out.size) (j + mm) hlt
        injection hbe with hbe; injection hbe with e1 e2; subst e1; subst e2
        by_cases hx : l[j + mm].1 = l[j].1
        . by_cases hy : l[j + mm].2 = l[j].2
          . have hxy : l[j + mm] = l[j] := Prod.ext hx hy
            have Hal2 := Lib.hid (show ∀ q (hq : q < mm + 1) (hl : j + q < l.length), l[j + q] = l[j] from fun q hq hl => by
             rcases Nat.lt_or_ge q mm with h | h
             . exact Hal.out q h hl
             . obtain rfl : q = mm := by omega
               exact hxy)
            rw [hxy] at k0 k1
            generalize l[j] = B at g0 g1 k0 k1
            clear hx hy hxy
            go_wp2_with fail
            go_quiet (fail)
            go_wp2_with fail
            go_roundg (l.length - (mm + 1))
            case measure => omega
            case rel => exact ⟨mm + 1, by go_num, by omega, by omega, by omega, Hal2.out, below_drewN Hbr.out _⟩
          . have Hm := Lib.hid (runA_eq hj h1 hjm (fun q hq => Hal.out q hq (by omega)) (fun h e => hy (congrArg Prod.snd e)))
            have hb2 := beq_no hy
            rw [hx] at k0
            generalize l[j + mm].2 = A2 at k1 hb2
            generalize l[j] = B at g0 g1 k0 hb2
            clear hx hy
            go_wp2_with fail
            go_quiet (fail)
            go_wp2_with fail
            go_ret2
            exact ⟨_, rfl, fun _ => by rw [Hmz.out]; simp [Hm.out], below_drewN HbF.out _⟩
        . have Hm := Lib.hid (runA_eq hj h1 hjm (fun q hq => Hal.out q hq (by omega)) (fun h e => hx (congrArg Prod.fst e)))
          have hb1 : (l[j + mm].1 == l[j].1) = false := by simpa using hx
          generalize l[j + mm] = A at k0 k1 hb1
          generalize l[j] = B at g0 g1 hb1
          clear hx
          go_wp2_with fail
          go_quiet (fail)
          go_wp2_with fail
          go_ret2
          exact ⟨_, rfl, fun _ => by rw [Hmz.out]; simp [Hm.out], below_drewN HbF.out _⟩
      . have h4I : decide ((j : Int) + (mm : Int) < (l.length : Int)) = false := by simp; omega
        have Hm := Lib.hid (runA_eq hj h1 hjm (fun q hq => Hal.out q hq (by omega)) (fun h e => hlt h))
        go_wp2_with fail
        go_quiet (fail)
        go_wp2_with fail
        go_ret2
        exact ⟨_, rfl, fun _ => by rw [Hmz.out]; simp [Hm.out], below_drewN HbF.out _⟩
   . have hd4 : (d != 4) = true := by simpa using h4
     go_wp2_with fail
     go_ret2
     exact ⟨_, rfl, fun _ => by rw [Hmz.out, if_neg h4]; rfl, Hb1.out⟩
 . subst he
   clear Hcs
   go_wp2_with fail
   go_ret2
   exact ⟨_, rfl, fun h => by omega, Hb1.out⟩
end Go.Proofs.YtbommcakcmhalaaGreatDoor
/- Walks: valid's ways to look: merge, empty, fill. -/
namespace Go.Proofs.YtbommcakcmhalaaGreatDoor
open Go.RowKit Go.Redl
/-- Whether a leaf has the same properties as the one ahead of it. -/
def mergeB (ks : List NodeD) (i : Nat) : Bool := decide (0 < i) && (leafOf (kidAt ks i) && (leafOf (kidAt ks (i - 1)) && decide (propsOf (kidAt ks i) = propsOf (kidAt ks (i - 1)))))
def emptyB (ks : List NodeD) (i : Nat) : Bool := leafOf (kidAt ks i) && (decide ((textOf (kidAt ks i)).length = 0) && decide (1 < ks.length))
theorem look_four (r : RuleD) (ks : List NodeD) : lookN r ks 4 = idxP (mergeB ks) ks.length := by
 unfold lookN; rw [if_neg (by omega)]; congr 1
theorem look_five (r : RuleD) (ks : List NodeD) : lookN r ks 5 = idxP (emptyB ks) ks.length := by
 unfold lookN; rw [if_neg (by omega)]; congr 1
theorem fill_c (e0 e1 e2 : Value) (ak : Option Addr) (kn ck : Nat) (e4 e5 e6 e7 e8 e9 : Value) (fl : Int) (e11 e12 : Value) (W : World) (hn : kn <= 100000000) :
 Calls Tryz.prog 124 #[.agg #[e0, e1, e2, .slice ak kn ck, e4, e5, e6, e7, e8, e9, .int .i64 fl, e11, e12]] W (LookP W (if kn = 0 /\ fl ≠ 0 then 0 else -1) 1) := by
 obtain ⟨z, hz⟩ : ∃ z : Int, z = if kn = 0 /\ fl ≠ 0 then 0 else -1 := ⟨_, rfl⟩
 rw [<- hz]
 obtain ⟨w0, hw0⟩ : ∃ w0, w0 = W.alloc (Obj.cells #[e0, e1, e2, .slice ak kn ck, e4, e5, e6, e7, e8, e9, .int .i64 fl, e11, e12] 112) := ⟨_, rfl⟩
 have hb0 : Below W.heap.size W w0 := by rw [hw0]; exact one_below _ _
 have hA : At w0 W.heap.size [e0, e1, e2, .slice ak kn ck, e4, e5, e6, e7, e8, e9, .int .i64 fl, e11, e12] 112 := by rw [hw0]; exact At.fresh W _ _
 have x3 := hA.cell 3 rfl; have x10 := hA.cell 10 rfl; have xl := hA.lt
 have Hb0 := Lib.hid hb0; have Hw0 := Lib.hid hw0
 clear hb0 hA hw0
 by_cases h0 : kn = 0
 . have h0I : decide (0 < kn) = false := by simp; omega
   by_cases hf : fl = 0
   . have Hz := Lib.hid (show z = -1 by rw [hz, if_neg (fun h => h.2 hf)])
     have hfI : (fl == 0) = true := by simpa using hf
     clear h0 hf hz
     go_enter Tryz.func124, Tryz.ntmps124
     go_upto_region 1 with fail
     rw [<- Hw0.out]
     clear Hw0
     go_wp2_with fail
     go_ret2
     rw [Hz.out]
     exact ⟨_, rfl, fun h => by omega, Hb0.out⟩
   . have Hz := Lib.hid (show z = 0 by rw [hz, if_pos ⟨h0, hf⟩])
     have hfI : (fl == 0) = false := by simpa using hf
     clear h0 hf hz
     go_enter Tryz.func124, Tryz.ntmps124
     go_upto_region 1 with fail
     rw [<- Hw0.out]
     clear Hw0
     go_wp2_with fail
     go_ret2
     rw [Hz.out]
     exact ⟨_, rfl, fun h => rfl, Hb0.out⟩
 . have h0I : decide (0 < kn) = true := by simp; omega
   have Hz := Lib.hid (show z = -1 by rw [hz, if_neg (fun h => h0 h.1)])
   clear h0 hz
   go_enter Tryz.func124, Tryz.ntmps124
   go_upto_region 1 with fail
   rw [<- Hw0.out]
   clear Hw0
   go_wp2_with fail
   go_ret2
   rw [Hz.out]
   exact ⟨_, rfl, fun h => by omega, Hb0.out⟩
theorem empty1_c (q : NodeD) (v : Value) (W : World) (hv : NodeV W W.heap.size q v) :
 Calls Tryz.prog 180 (#[v] ++ #[]) W fun e w' => e = .returned (.bool (leafOf q && decide ((textOf q).length = 0))) /\ Below W.heap.size W w' := by
 obtain ⟨lf, ps, t, ks⟩ := q
 obtain ⟨ap, cp, at_, ct, ak, ck, css, rfl, -, -, -, -⟩ := hv.open
 have Hb := Lib.hid (one_below W (Obj.cells #[.bool lf, .slice ap ps.length cp, .slice at_ t.length ct, .slice ak ks.length ck] 35))
 show Calls Tryz.prog 180 #[.agg #[.bool lf, .slice ap ps.length cp, .slice at_ t.length ct, .slice ak ks.length ck]] W _
 simp only [leafOf, textOf]
 clear hv
 cases lf with
 | false =>
   go_enter Tryz.func180, Tryz.ntmps180
   go_wp2_with fail
   go_ret
   exact ⟨rfl, Hb.out⟩
 | true =>
   go_enter Tryz.func180, Tryz.ntmps180
   go_wp2_with fail
   go_ret
   exact ⟨ret_bool (by simp [int_dec]), Hb.out⟩
theorem empty1_ent : ∀ args w, (callFunc 180 args).run Tryz.prog w = .ok (.enter 180 args) w := by intro args w; kernel_rfl
theorem empty_c (e0 e1 e2 : Value) (ak : Option Addr) (ck : Nat) (ks : List NodeD) (css : List Value) (e4 e5 e6 e7 e8 e9 e10 e11 e12 : Value) (W : World) (hn : ks.length <= 100000000) (hk : RowA W W.heap.size 4 ak ks.length ck css) (hkk : KidsC W W.heap.size ks css) :
 Calls Tryz.prog 123 #[.agg #[e0, e1, e2, .slice ak ks.length ck, e4, e5, e6, e7, e8, e9, e10, e11, e12]] W (LookP W (idxP (emptyB ks) ks.length) 1) := by
 obtain ⟨w0, hw0⟩ : ∃ w0, w0 = W.alloc (Obj.cells #[e0, e1, e2, .slice ak ks.length ck, e4, e5, e6, e7, e8, e9, e10, e11, e12] 112) := ⟨_, rfl⟩
 have hb0 : Below W.heap.size W w0 := by rw [hw0]; exact one_below _ _
 have hA : At w0 W.heap.size [e0, e1, e2, .slice ak ks.length ck, e4, e5, e6, e7, e8, e9, e10, e11, e12] 112 := by rw [hw0]; exact At.fresh W _ _
 have x3 := hA.cell 3 rfl; have xl := hA.lt
 have hk0 := hk.keep hb0 hb0.size; have hkk0 := KidsC.keep hb0 hb0.size _ _ hkk
 have Hb0 := Lib.hid hb0; have Hw0 := Lib.hid hw0
 by_cases h2 : ks.length < 2
 . have h2I : decide ((ks.length : Int) < 2) = true := by simp; omega
   have Hz := Lib.hid (show idxP (emptyB ks) ks.length = -1 from idxP_none (fun j hj => by unfold emptyB; rw [decide_eq_false (show ¬ (1 < ks.length) by omega)]; simp))
   generalize idxP (emptyB ks) ks.length = z at Hz ⊢
   clear hb0 hA hw0 hk0 hkk0 hk hkk h2
   go_enter Tryz.func123, Tryz.ntmps123
   go_upto_region 1 with fail
   rw [<- Hw0.out]
   clear Hw0
   go_wp2_with fail
   go_ret2
   rw [Hz.out]
   exact ⟨_, rfl, fun h => by omega, Hb0.out⟩
 . have h2I : decide ((ks.length : Int) < 2) = false := by simp; omega
   have hpe : emptyB ks = fun i => (leafOf (kidAt ks i) && decide ((textOf (kidAt ks i)).length = 0)) := by
    funext i; unfold emptyB; rw [decide_eq_true (show 1 < ks.length by omega)]; simp
   have HI := Lib.hid (idx_node ks.length ak ck 180 #[] (emptyB ks) w0 hn empty1_ent (fun j W' hj hb => by
    obtain ⟨b, off, a1, c1, a2, c2, a3, c3, ha, hlt, hnv, -, g0, g1, g2, g3⟩ := kidO (hk0.keep hb hb.size) (KidsC.keep hb hb.size _ _ hkk0) j hj
    refine ⟨b, off, _, _, _, _, ha, g0, g1, g2, g3, ?_⟩
    rw [hpe]
    simp only [kid_get hj]
    exact empty1_c _ _ _ hnv))
   generalize idxP (emptyB ks) ks.length = z at HI ⊢
   clear hb0 hA hw0 hk0 hkk0 hk hkk h2 hpe
   go_enter Tryz.func123, Tryz.ntmps123
   go_upto_region 1 with fail
   rw [<- Hw0.out]
   clear Hw0
   go_wp2_with fail
   refine HI.out.mono ?_
   rintro e w1 ⟨rfl, hbel⟩
   have Hb1 := Lib.hid (Hb0.out.trans (hbel.mono Hb0.out.size))
   clear hbel HI
   go_wp2_with fail
   go_ret2
   exact ⟨_, rfl, fun h => rfl, Hb1.out⟩
end Go.Proofs.YtbommcakcmhalaaGreatDoor
/- Walks: valid's ways to look: merge. -/
namespace Go.Proofs.YtbommcakcmhalaaGreatDoor
open Go.RowKit Go.Redl
theorem At.s4 {w : World} {N : Nat} {c0 c1 c2 c3 : Value} {T : TypeId} (h : At w N [c0, c1, c2, c3] T) (d0 d1 d2 d3 : Value) : At ((((w.setCell ⟨N, 0, none⟩ d0).setCell ⟨N, 1, none⟩ d1).setCell ⟨N, 2, none⟩ d2).setCell ⟨N, 3, none⟩ d3) N [d0, d1, d2, d3] T := by
 have h0 : At (w.setCell ⟨N, 0, none⟩ d0) N [d0, c1, c2, c3] T := h.set 0 d0
 have h1 : At ((w.setCell ⟨N, 0, none⟩ d0).setCell ⟨N, 1, none⟩ d1) N [d0, d1, c2, c3] T := h0.set 1 d1
 have h2 : At (((w.setCell ⟨N, 0, none⟩ d0).setCell ⟨N, 1, none⟩ d1).setCell ⟨N, 2, none⟩ d2) N [d0, d1, d2, c3] T := h1.set 2 d2
 exact h2.set 3 d3
theorem At.n4 {w : World} {N M : Nat} {cs : List Value} {T : TypeId} (h : At w M cs T) (hne : M ≠ N) (d0 d1 d2 d3 : Value) : At ((((w.setCell ⟨N, 0, none⟩ d0).setCell ⟨N, 1, none⟩ d1).setCell ⟨N, 2, none⟩ d2).setCell ⟨N, 3, none⟩ d3) M cs T :=
 (((h.set_ne hne _).set_ne hne _).set_ne hne _).set_ne hne _
theorem kid_as {w : World} {B cap : Nat} {a : Option Addr} {ks : List NodeD} {css : List Value} {b off : Nat} (h : RowA w B 4 a ks.length cap css) (hk : KidsC w B ks css) (ha : a = some ⟨b, off, none⟩) (i : Nat) (hi : i < ks.length) :
 ∃ ap cp at_ ct ak ck, NodeV w B ks[i] (.agg #[.bool (leafOf ks[i]), .slice ap (propsOf ks[i]).length cp, .slice at_ (textOf ks[i]).length ct, .slice ak (kidsOf ks[i]).length ck]) /\ RowA w B 2 ap (propsOf ks[i]).length cp (propCells (propsOf ks[i])) /\
   w.cell? ⟨b, off + i * 4, none⟩ = some (.bool (leafOf ks[i])) /\ w.cell? ⟨b, off + i * 4 + 1, none⟩ = some (.slice ap (propsOf ks[i]).length cp) /\ w.cell? ⟨b, off + i * 4 + 2, none⟩ = some (.slice at_ (textOf ks[i]).length ct) /\ w.cell? ⟨b, off + i * 4 + 3, none⟩ = some (.slice ak (kidsOf ks[i]).length ck) := by
 obtain ⟨b', off', ap, cp, at_, ct, ak, ck, ha', hb, h1, h2, h3, h4, h5, h6⟩ := kidO h hk i hi
 rw [ha] at ha'; injection ha' with e; injection e with e1 e2; subst e1; subst e2
 exact ⟨_, _, _, _, _, _, h1, h2, h3, h4, h5, h6⟩
theorem merge_c (e0 e1 e2 : Value) (ak : Option Addr) (ck : Nat) (ks : List NodeD) (css : List Value) (e4 e5 e6 e7 e8 e9 e10 e11 e12 : Value) (W : World) (hn : ks.length <= 100000000) (hk : RowA W W.heap.size 4 ak ks.length ck css) (hkk : KidsC W W.heap.size ks css) :
 Calls Tryz.prog 122 #[.agg #[e0, e1, e2, .slice ak ks.length ck, e4, e5, e6, e7, e8, e9, e10, e11, e12]] W (LookP W (idxP (mergeB ks) ks.length) 1) := by
 obtain ⟨z, hz⟩ : ∃ z, z = idxP (mergeB ks) ks.length := ⟨_, rfl⟩
 rw [<- hz]
 have Hzs := Lib.hid (show ∀ k : Nat, k < ks.length -> mergeB ks k = true -> (∀ j, j < k -> mergeB ks j = false) -> z = (k : Int) from fun k h1 h2 h3 => by rw [hz]; exact idxP_some h1 h2 h3)
 have Hzn := Lib.hid (show (∀ j, j < ks.length -> mergeB ks j = false) -> z = -1 from fun h => by rw [hz]; exact idxP_none h)
 obtain ⟨w0, hw0⟩ : ∃ w0, w0 = W.alloc (Obj.cells #[e0, e1, e2, .slice ak ks.length ck, e4, e5, e6, e7, e8, e9, e10, e11, e12] 112) := ⟨_, rfl⟩
 have hb0 : Below W.heap.size W w0 := by rw [hw0]; exact one_below _ _
 have hA : At w0 W.heap.size [e0, e1, e2, .slice ak ks.length ck, e4, e5, e6, e7, e8, e9, e10, e11, e12] 112 := by rw [hw0]; exact At.fresh W _ _
 have Hk := Lib.hid (hk.keep hb0 hb0.size); have Hkk := Lib.hid (KidsC.keep hb0 hb0.size _ _ hkk)
 have Hb0 := Lib.hid hb0; have Hw0 := Lib.hid hw0; have HA := Lib.hid hA
 clear hz hb0 hA hw0 hk hkk
 go_enter Tryz.func122, Tryz.ntmps122
 go_upto_region 1 with fail
 rw [<- Hw0.out]
 clear Hw0
 go_wp2_with fail
 go_loopg [4] ks.length (fun g i wr => ∃ k : Nat, i = .int .i64 k /\ 1 <= k /\ k + g = ks.length + 1 /\ (∀ j, j < k -> mergeB ks j = false) /\ Below w0.heap.size w0 wr)
 case atStart =>
  refine ⟨1, rfl, by omega, by omega, fun j hj => ?_, Below.refl _ _⟩
  obtain rfl : j = 0 := by omega
  rfl
 case round =>
  obtain ⟨k, rfl, h1, hg, hbj, hbr⟩ := hrel
  have Hbj := Lib.hid hbj; have Hbr := Lib.hid hbr
  have HbW := Lib.hid (Hb0.out.trans (hbr.mono Hb0.out.size))
  have x3 := (HA.out.kept hbr).cell 3 rfl
  have xl := (HA.out.kept hbr).lt
  by_cases hlt : k < ks.length
  . have hltI : (k : Int) < ks.length := by omega
    have hsub : IntKind.i64.wrap ((k : Int) - 1) = ((k - 1 : Nat) : Int) := by rw [show ((k : Int) - 1) = ((k - 1 : Nat) : Int) by omega]; exact IntWalk.i64_in _ (by omega)
    have hi1 : ((k - 1 : Nat) : Int) < ks.length := by omega
    have hkr := Hk.out.keep hbr hbr.size; have hkkr := KidsC.keep hbr hbr.size _ _ Hkk.out
    obtain ⟨kb, ko, a1, c1, a2, c2, a3, c3, rfl, hkb, -, hpa, g0, g1, g2, g3⟩ := kidO hkr hkkr (k - 1) (by omega)
    obtain ⟨b1, d1, b2, d2, b3, d3, -, hpb, f0, f1, f2, f3⟩ := kid_as hkr hkkr rfl k hlt
    have hmb : mergeB ks k = (leafOf ks[k] && (leafOf ks[k - 1] && decide (propsOf ks[k] = propsOf ks[k - 1]))) := by
     unfold mergeB; rw [kid_get hlt, kid_get (show k - 1 < ks.length by omega), decide_eq_true (show 0 < k by omega)]; rfl
    generalize ks[k - 1] = qa at hpa g0 g1 g2 g3 hmb
    generalize ks[k] = qb at hpb f0 f1 f2 f3 hmb
    have Hmb := Lib.hid hmb
    have HS0 := Lib.hid (fun (w' : World) (hb : Below wr.heap.size wr w') => And.intro ((hb.cell (by exact xl)).trans x3) (And.intro
     (show w'.cell? ⟨kb, ko + (k - 1) * 4, none⟩ = some (.bool (leafOf qa)) /\ w'.cell? ⟨kb, ko + (k - 1) * 4 + 1, none⟩ = some (.slice a1 (propsOf qa).length c1) /\ w'.cell? ⟨kb, ko + (k - 1) * 4 + 2, none⟩ = some (.slice a2 (textOf qa).length c2) /\ w'.cell? ⟨kb, ko + (k - 1) * 4 + 3, none⟩ = some (.slice a3 (kidsOf qa).length c3) from ⟨(hb.cell (by exact hkb)).trans g0, (hb.cell (by exact hkb)).trans g1, (hb.cell (by exact hkb)).trans g2, (hb.cell (by exact hkb)).trans g3⟩)
     (show w'.cell? ⟨kb, ko + k * 4, none⟩ = some (.bool (leafOf qb)) /\ w'.cell? ⟨kb, ko + k * 4 + 1, none⟩ = some (.slice b1 (propsOf qb).length d1) /\ w'.cell? ⟨kb, ko + k * 4 + 2, none⟩ = some (.slice b2 (textOf qb).length d2) /\ w'.cell? ⟨kb, ko + k * 4 + 3, none⟩ = some (.slice b3 (kidsOf qb).length d3) from ⟨(hb.cell (by exact hkb)).trans f0, (hb.cell (by exact hkb)).trans f1, (hb.cell (by exact hkb)).trans f2, (hb.cell (by exact hkb)).trans f3⟩)))
    have Hpa := Lib.hid hpa; have Hpb := Lib.hid hpb
    clear hkr hkkr hpa hpb hmb hbj hbr
    go_upto_region 4 with fail
    go_cut [5, 6] (fun p q wx => ∃ M1 M2 : Nat, p = .pointer (some ⟨M1, 0, none⟩) /\ q = .pointer (some ⟨M2, 0, none⟩) /\ At wx M1 [.bool (leafOf qa), .slice a1 (propsOf qa).length c1, .slice a2 (textOf qa).length c2, .slice a3 (kidsOf qa).length c3] 35 /\ At wx M2 [.bool (leafOf qb), .slice b1 (propsOf qb).length d1, .slice b2 (textOf qb).length d2, .slice b3 (kidsOf qb).length d3] 35 /\ Below wr.heap.size wr wx)
    case first =>
     go_region_held3 (fun w' => w'.cell? ⟨W.heap.size, 3, none⟩ = some (.slice (some ⟨kb, ko, none⟩) ks.length ck) /\ (w'.cell? ⟨kb, ko + (k - 1) * 4, none⟩ = some (.bool (leafOf qa)) /\ w'.cell? ⟨kb, ko + (k - 1) * 4 + 1, none⟩ = some (.slice a1 (propsOf qa).length c1) /\ w'.cell? ⟨kb, ko + (k - 1) * 4 + 2, none⟩ = some (.slice a2 (textOf qa).length c2) /\ w'.cell? ⟨kb, ko + (k - 1) * 4 + 3, none⟩ = some (.slice a3 (kidsOf qa).length c3)) /\ (w'.cell? ⟨kb, ko + k * 4, none⟩ = some (.bool (leafOf qb)) /\ w'.cell? ⟨kb, ko + k * 4 + 1, none⟩ = some (.slice b1 (propsOf qb).length d1) /\ w'.cell? ⟨kb, ko + k * 4 + 2, none⟩ = some (.slice b2 (textOf qb).length d2) /\ w'.cell? ⟨kb, ko + k * 4 + 3, none⟩ = some (.slice b3 (kidsOf qb).length d3))) (refine HS0.out _ (by (repeat (first | with_reducible exact Below.refl _ _ | with_reducible refine Below.drew ?_ | with_reducible refine Below.alloc ?_ ?_ _ | with_reducible refine Below.setCell ?_ ?_ _)) <;> (first | exact Nat.le_refl _ | (simp; done) | (simp; omega))))
      (fail)
     all_goals
      go_wp2_with fail
      go_meet
      case rel =>
       first
        | exact ⟨_, _, rfl, rfl, (At.fresh wr [.bool (leafOf qa), .slice a1 (propsOf qa).length c1, .slice a2 (textOf qa).length c2, .slice a3 (kidsOf qa).length c3] 35).alloc _, At.second wr _ [.bool (leafOf qb), .slice b1 (propsOf qb).length d1, .slice b2 (textOf qb).length d2, .slice b3 (kidsOf qb).length d3] _, (two_below wr _ _).drew⟩
        | exact ⟨_, _, rfl, rfl, At.second wr _ [.bool (leafOf qa), .slice a1 (propsOf qa).length c1, .slice a2 (textOf qa).length c2, .slice a3 (kidsOf qa).length c3] _, (At.fresh wr [.bool (leafOf qb), .slice b1 (propsOf qb).length d1, .slice b2 (textOf qb).length d2, .slice b3 (kidsOf qb).length d3] 35).alloc _, (two_below wr _ _).drew⟩
    case rest =>
     obtain ⟨M1, M2, rfl, rfl, hm1, hm2, hb⟩ := hcut
     have hpa := Hpa.out.keep hb hb.size; have hpb := Hpb.out.keep hb hb.size
     obtain ⟨⟨m0, m1, m2, m3⟩, -, ml⟩ := hm1.f4
     obtain ⟨⟨n0, n1, n2, n3⟩, -, nl⟩ := hm2.f4
     have Hb2 := Lib.hid (Hbr.out.trans (hb.mono Hbr.out.size))
     have HbF := Lib.hid (HbW.out.trans (hb.mono HbW.out.size))
     generalize leafOf qa = la at Hmb m0
     generalize leafOf qb = lb at Hmb n0
     generalize propsOf qa = pa at Hmb m1 hpa
     generalize propsOf qb = pb at Hmb n1 hpb
     have Hno := Lib.hid (fun (h : mergeB ks k = false) => show ∀ j, j < k + 1 -> mergeB ks j = false from fun j hj => by
      rcases Nat.lt_or_ge j k with h' | h'
      . exact Hbj.out j h'
      . obtain rfl : j = k := by omega
        exact h)
     clear hb hm1 hm2 HS0
     cases la with
     | false =>
       clear hpa hpb
       go_wp2_with fail
       go_roundg (ks.length + 1 - (k + 1))
       case measure => omega
       case rel => exact ⟨k + 1, by go_num, by omega, by omega, Hno.out (by rw [Hmb.out]; simp), Hb2.out⟩
     | true =>
       cases lb with
       | false =>
         clear hpa hpb
         go_wp2_with fail
         go_roundg (ks.length + 1 - (k + 1))
         case measure => omega
         case rel => exact ⟨k + 1, by go_num, by omega, by omega, Hno.out (by rw [Hmb.out]; simp), Hb2.out⟩
       | true =>
         have HP := Lib.hid (psame_c a1 b1 c1 d1 _ pa pb _ hpa hpb)
         clear hpa hpb
         by_cases he : pa = pb
         . rw [decide_eq_true he] at HP
           have Hz := Lib.hid (Hzs.out k hlt (by rw [Hmb.out, he]; simp) Hbj.out)
           clear he
           go_wp2_with fail
           refine HP.out.mono ?_
           rintro e w5 ⟨rfl, hd⟩
           have Hd := Lib.hid hd.below
           clear hd HP
           go_wp2_with fail
           go_ret2
           rw [Hz.out]
           exact ⟨_, rfl, fun _ => rfl, HbF.out.trans (Hd.out _)⟩
         . rw [decide_eq_false he] at HP
           have Hno2 := Lib.hid (Hno.out (by rw [Hmb.out, decide_eq_false (fun h => he h.symm)]; simp))
           clear he
           go_wp2_with fail
           refine HP.out.mono ?_
           rintro e w5 ⟨rfl, hd⟩
           have Hd := Lib.hid hd.below
           clear hd HP
           go_wp2_with fail
           go_roundg (ks.length + 1 - (k + 1))
           case measure => omega
           case rel => exact ⟨k + 1, by go_num, by omega, by omega, Hno2.out, Hb2.out.trans (Hd.out _)⟩
  . have hltI : decide ((k : Int) < ks.length) = false := by simp; omega
    have Hz := Lib.hid (Hzn.out (fun j hj => hbj j (by omega)))
    clear hbj hbr
    go_wp2_with fail
    go_ret2
    rw [Hz.out]
    exact ⟨_, rfl, fun h => by omega, HbW.out⟩
end Go.Proofs.YtbommcakcmhalaaGreatDoor
