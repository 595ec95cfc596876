/- Parts of the proof, one behind the other: RHF, RHG, RHI, RHJ, RHK, RHL, RHH, RHM, RHQ. -/
import Derived.Test.YtajclfjedlkbcaaGreatDoorWD8
import Derived.Deep.LoopGhost
import Derived.Test.YtajclfjedlkbcaaGreatDoorWD5
import Derived.Deep.QuietTactic
import Derived.Deep.DeepCutAuto
import Derived.Deep.RegionHeld3
import Derived.Test.YtajclfjedlkbcaaGreatDoorWD6
import Derived.Test.YtajclfjedlkbcaaGreatDoorWD4
import Derived.Test.YtajclfjedlkbcaaGreatDoorWD3
/- Walks: the reference's Get, Type, act, ActOf, RuleOf. -/
namespace Go.Proofs.YtajclfjedlkbcaaGreatDoor
open Go.RowKit Go.Redl
set_option linter.unusedVariables false

theorem beq_yes {a b : List UInt8} (h : a = b) : (a == b) = true := by simp [h]
theorem beq_no {a b : List UInt8} (h : a ≠ b) : (a == b) = false := by simp [h]
set_option maxRecDepth 100000 in
set_option maxHeartbeats 1000000 in
theorem ract_c (r : RuleD) (a : Option Addr) (c : Nat) (k : List UInt8) (W : World) (hr : RowA W W.heap.size 3 a r.kids.length c (pairCells r.kids)) (hn : r.kids.length ≤ 100000000) :
    Calls Tryz.prog 107 #[.agg (ruleCells r a c).toArray, strV k] W (ActP W (actIn r k)) := by
  have hs1 := fun (j : Nat) (hj : j < r.kids.length) h hb => actIn_some (r := r) (k := k) (j := j) hj h hb
  have hs2 := fun hb => actIn_none (r := r) (k := k) hb
  obtain ⟨R, hR⟩ : ∃ R, R = actIn r k := ⟨_, rfl⟩
  rw [← hR]
  rw [← hR] at hs1 hs2
  obtain ⟨ty, ⟨td, tt⟩, ⟨od, ot⟩, kids, fill, ft⟩ := r
  simp only [ruleCells] at hr hn hs1 hs2 ⊢
  obtain ⟨w0, hw0⟩ : ∃ w0, w0 = ((W.alloc (Obj.cells #[strV ty, .int .i64 td, strV tt, .int .i64 od, strV ot, .slice a kids.length c, .int .i64 fill, strV ft] 27)).alloc (Obj.cells #[.int .i64 0, strV []] 24)) := ⟨_, rfl⟩
  have hb0 : Below W.heap.size W w0 := by rw [hw0]; exact two_below _ _ _
  have hA : At w0 W.heap.size [strV ty, .int .i64 td, strV tt, .int .i64 od, strV ot, .slice a kids.length c, .int .i64 fill, strV ft] 27 := by rw [hw0]; exact (At.fresh W _ _).alloc _
  have hX : At w0 (W.heap.size + 1) [.int .i64 0, strV []] 24 := by rw [hw0]; exact At.second W _ _ _
  have Hr := Lib.hid hr; have Hb0 := Lib.hid hb0; have HA := Lib.hid hA; have HX := Lib.hid hX; have Hs1 := Lib.hid hs1; have Hs2 := Lib.hid hs2
  have Hw0 := Lib.hid hw0
  have hcl : W.heap.size ≤ W.heap.size + 1 := by omega
  obtain ⟨⟨x0, x1, x2, x3, x4, x5, x6, x7⟩, -, xl⟩ := hA.f8
  clear hr hs1 hs2 hR hw0 hb0 hA hX
  go_enter Tryz.func107, Tryz.ntmps107
  go_upto_region 1 with fail
  rw [← Hw0.out]
  clear Hw0
  go_wp2_with fail
  go_loopg [10] kids.length (fun g i wr => ∃ j : Nat, j + g = kids.length ∧ i = .int .i64 j ∧ (∀ i (hi : i < j) (hl : i < kids.length), kids[i].1 ≠ k) ∧ Below w0.heap.size w0 wr)
  case atStart => exact ⟨0, by omega, rfl, by intro i hi; omega, Below.refl _ _⟩
  case round =>
    obtain ⟨j, hg, rfl, hb, hbr⟩ := hrel
    have Hbr := Lib.hid hbr; have Hb := Lib.hid hb
    have HbW := Lib.hid (Hb0.out.trans (hbr.mono Hb0.out.size))
    by_cases hlt : j < kids.length
    · have hlti : (j : Int) < kids.length := by omega
      obtain ⟨b, off, rfl, -, h0, h1, h2⟩ := (Hr.out.keep HbW.out (Nat.le_refl _)).pair_at j hlt
      have Hj := Lib.hid (Hs1.out j hlt)
      by_cases he : kids[j].1 = k
      · have Hj2 := Lib.hid (Hj.out he (fun i hi => Hb.out i hi (by omega)))
        have hbe := beq_yes he
        generalize kids[j] = q at h0 h1 h2 Hj2 hbe
        obtain ⟨q0, q1, q2⟩ := q
        obtain ⟨⟨v0, v1⟩, vf, vl⟩ := (HX.out.kept hbr).f2
        have hlt3 := HX.out.lt
        clear hb hbr Hj he x0 x1 x2 x3 x4 x5 x6 x7
        go_wp2_with fail
        refine bodyPost_ret (v := .agg #[.int .i64 q1, strV q2]) (by simp [results, Tryz.results107, go_sem, v0, v1, vl]) rfl ?_
        rw [Hj2.out]
        exact ⟨rfl, (below_s2 HbW.out hcl _ _).alloc (by have := HbW.out.size; simpa [World.setCell] using this) _⟩
      · have Hb2 := Lib.hid (show ∀ i (hi : i < j + 1) (hl : i < kids.length), kids[i].1 ≠ k from fun i hi hl => by
          rcases Nat.lt_or_ge i j with h | h
          · exact Hb.out i h hl
          · obtain rfl : i = j := by omega
            exact he)
        have hbe := beq_no he
        generalize kids[j] = q at h0 h1 h2 hbe
        obtain ⟨q0, q1, q2⟩ := q
        clear hb hbr Hj he
        go_wp2_with fail
        go_roundg (gk - 1)
        case measure => omega
        case rel => exact ⟨j + 1, by omega, by go_num, Hb2.out, Hbr.out.alloc Hbr.out.size _⟩
    · obtain rfl : j = kids.length := by omega
      have Hj2 := Lib.hid (Hs2.out (fun i hi => Hb.out i hi hi))
      obtain ⟨⟨y0, y1, y2, y3, y4, y5, y6, y7⟩, -, yl⟩ := (HA.out.kept hbr).f8
      obtain ⟨⟨z0, z1⟩, zf, zl⟩ := (HX.out.kept hbr).f2
      clear hb hbr x0 x1 x2 x3 x4 x5 x6 x7
      go_wp2_with fail
      refine bodyPost_ret (v := .agg #[.int .i64 od, strV ot]) (by simp [results, Tryz.results107, go_sem, z0, z1]) rfl ?_
      rw [Hj2.out]
      exact ⟨rfl, below_s2 HbW.out hcl _ _⟩
theorem ract_ent : ∀ args w, (callFunc 107 args).run Tryz.prog w = .ok (.enter 107 args) w := by intro args w; kernel_rfl
/-- A rule handed back, its Kids where they lay. -/
abbrev RuleB (B : Nat) (W : World) (r : RuleD) (e : Ending) (w' : World) : Prop :=
  ∃ a c, e = .returned (.agg #[strV r.type, .int .i64 r.text.1, strV r.text.2, .int .i64 r.other.1, strV r.other.2, .slice a r.kids.length c, .int .i64 r.fill, strV r.fillT]) ∧ RowA w' B 3 a r.kids.length c (pairCells r.kids) ∧ Below W.heap.size W w'

set_option maxRecDepth 100000 in
set_option maxHeartbeats 2000000 in
theorem rruleOf_c (s : SchemaD) (v : Value) (k : List UInt8) (B : Nat) (W : World) (hB : B ≤ W.heap.size) (hw : s.wt ≤ 100000000) (hv : SchemaV W B s v) :
    Calls Tryz.prog 62 #[v, strV k] W (RuleB B W (ruleOf s k)) := by
  have hs1 := fun (j : Nat) (hj : j < s.rules.length) h hb => ruleOf_some (s := s) (k := k) (j := j) hj h hb
  have hs2 := fun hb => ruleOf_none (s := s) (k := k) hb
  obtain ⟨R, hR⟩ : ∃ R, R = ruleOf s k := ⟨_, rfl⟩
  rw [← hR] at hs1 hs2 ⊢
  have hrl : s.rules.length ≤ 100000000 := by have := rulesWt_len s.rules; unfold SchemaD.wt at hw; omega
  obtain ⟨a, c, css, ea, ec, o0, o1, o2, o3, o4, o5, rfl, h1, h2, h3, -⟩ := hv.open
  obtain ⟨rs, ⟨ty, ⟨td, tt⟩, ⟨od, ot⟩, kids, fill, ft⟩, order, scap⟩ := s
  simp only at hs1 hs2 hrl h1 h2 h3 ⊢
  obtain ⟨w0, hw0⟩ : ∃ w0, w0 = ((W.alloc (Obj.cells #[.slice a rs.length c, strV ty, .int .i64 td, strV tt, .int .i64 od, strV ot, .slice ea kids.length ec, .int .i64 fill, strV ft, .int .i64 o0, .int .i64 o1, .int .i64 o2, .int .i64 o3, .int .i64 o4, .int .i64 o5, .int .i64 scap] 30)).alloc (Obj.cells #[strV [], .int .i64 0, strV [], .int .i64 0, strV [], .slice none 0 0, .int .i64 0, strV []] 27)) := ⟨_, rfl⟩
  have hb0 : Below W.heap.size W w0 := by rw [hw0]; exact two_below _ _ _
  have hA : At w0 W.heap.size [.slice a rs.length c, strV ty, .int .i64 td, strV tt, .int .i64 od, strV ot, .slice ea kids.length ec, .int .i64 fill, strV ft, .int .i64 o0, .int .i64 o1, .int .i64 o2, .int .i64 o3, .int .i64 o4, .int .i64 o5, .int .i64 scap] 30 := by rw [hw0]; exact (At.fresh W _ _).alloc _
  have hX : At w0 (W.heap.size + 1) [strV [], .int .i64 0, strV [], .int .i64 0, strV [], .slice none 0 0, .int .i64 0, strV []] 27 := by rw [hw0]; exact At.second W _ _ _
  have Hr := Lib.hid h1; have Hc := Lib.hid h2; have H3 := Lib.hid h3; have Hb0 := Lib.hid hb0; have HA := Lib.hid hA; have HX := Lib.hid hX
  have Hs1 := Lib.hid hs1; have Hs2 := Lib.hid hs2
  have Hw0 := Lib.hid hw0
  have hcl : W.heap.size ≤ W.heap.size + 1 := by omega
  obtain ⟨⟨x0, x1, x2, x3, x4, x5, x6, x7, x8, x9, x10, x11, x12, x13, x14, x15⟩, -, xl⟩ := hA.f16
  clear hv hs1 hs2 hR h1 h2 h3 hw0 hb0 hA hX hw
  go_enter Tryz.func62, Tryz.ntmps62
  go_upto_region 1 with fail
  rw [← Hw0.out]
  clear Hw0
  go_wp2_with fail
  go_loopg [10] rs.length (fun g i wr => ∃ j : Nat, j + g = rs.length ∧ i = .int .i64 j ∧ (∀ i (hi : i < j) (hl : i < rs.length), rs[i].type ≠ k) ∧ Below w0.heap.size w0 wr)
  case atStart => exact ⟨0, by omega, rfl, by intro i hi; omega, Below.refl _ _⟩
  case round =>
    obtain ⟨j, hg, rfl, hb, hbr⟩ := hrel
    have Hbr := Lib.hid hbr; have Hb := Lib.hid hb
    have HbW := Lib.hid (Hb0.out.trans (hbr.mono Hb0.out.size))
    by_cases hlt : j < rs.length
    · have hlti : (j : Int) < rs.length := by omega
      obtain ⟨b, off, ra, rc, rfl, -, hrr, g0, g1, g2, g3, g4, g5, g6, g7⟩ := rule8 (Hr.out.keep (HbW.out.mono hB) (Nat.le_refl _)) (RulesC.keep (HbW.out.mono hB) (Nat.le_refl _) Hc.out) j hlt
      have Hrr := Lib.hid hrr
      have Hj := Lib.hid (Hs1.out j hlt)
      by_cases he : rs[j].type = k
      · have Hj2 := Lib.hid (Hj.out he (fun i hi => Hb.out i hi (by omega)))
        have hbe := beq_yes he
        generalize rs[j] = q at g0 g1 g2 g3 g4 g5 g6 g7 Hj2 hbe Hrr
        obtain ⟨⟨v0, v1, v2, v3, v4, v5, v6, v7⟩, vf, vl⟩ := (HX.out.kept hbr).f8
        clear hb hbr Hj he hrr x0 x1 x2 x3 x4 x5 x6 x7 x8 x9 x10 x11 x12 x13 x14 x15
        go_wp2_with fail
        refine bodyPost_ret (v := .agg #[strV q.type, .int .i64 q.text.1, strV q.text.2, .int .i64 q.other.1, strV q.other.2, .slice ra q.kids.length rc, .int .i64 q.fill, strV q.fillT]) (by simp [results, Tryz.results62, go_sem, v0, v1, v2, v3, v4, v5, v6, v7, vl]) rfl ?_
        rw [Hj2.out]
        have hbf := (below_s8 HbW.out hcl (strV q.type) (.int .i64 q.text.1) (strV q.text.2) (.int .i64 q.other.1) (strV q.other.2) (.slice ra q.kids.length rc) (.int .i64 q.fill) (strV q.fillT)).alloc (by have := HbW.out.size; simpa [World.setCell] using this) (Obj.cells #[strV q.type, .int .i64 q.text.1, strV q.text.2, .int .i64 q.other.1, strV q.other.2, .slice ra q.kids.length rc, .int .i64 q.fill, strV q.fillT] 27)
        have hbf2 := (below_s8 (Below.refl W.heap.size wr) hcl (strV q.type) (.int .i64 q.text.1) (strV q.text.2) (.int .i64 q.other.1) (strV q.other.2) (.slice ra q.kids.length rc) (.int .i64 q.fill) (strV q.fillT)).alloc (by have := HbW.out.size; simpa [World.setCell] using this) (Obj.cells #[strV q.type, .int .i64 q.text.1, strV q.text.2, .int .i64 q.other.1, strV q.other.2, .slice ra q.kids.length rc, .int .i64 q.fill, strV q.fillT] 27)
        exact ⟨ra, rc, rfl, Hrr.out.keep (hbf2.mono hB) (Nat.le_refl _), hbf⟩
      · have Hb2 := Lib.hid (show ∀ i (hi : i < j + 1) (hl : i < rs.length), rs[i].type ≠ k from fun i hi hl => by
          rcases Nat.lt_or_ge i j with h | h
          · exact Hb.out i h hl
          · obtain rfl : i = j := by omega
            exact he)
        have hbe := beq_no he
        generalize rs[j] = q at g0 g1 g2 g3 g4 g5 g6 g7 hbe
        clear hb hbr Hj he hrr Hrr
        go_wp2_with fail
        go_roundg (gk - 1)
        case measure => omega
        case rel => exact ⟨j + 1, by omega, by go_num, Hb2.out, Hbr.out.alloc Hbr.out.size _⟩
    · obtain rfl : j = rs.length := by omega
      have Hj2 := Lib.hid (Hs2.out (fun i hi => Hb.out i hi hi))
      obtain ⟨⟨y0, y1, y2, y3, y4, y5, y6, y7, y8, y9, y10, y11, y12, y13, y14, y15⟩, -, yl⟩ := (HA.out.kept hbr).f16
      obtain ⟨⟨z0, z1, z2, z3, z4, z5, z6, z7⟩, zf, zl⟩ := (HX.out.kept hbr).f8
      clear hb hbr x0 x1 x2 x3 x4 x5 x6 x7 x8 x9 x10 x11 x12 x13 x14 x15
      go_wp2_with fail
      refine bodyPost_ret (v := .agg #[strV ty, .int .i64 td, strV tt, .int .i64 od, strV ot, .slice ea kids.length ec, .int .i64 fill, strV ft]) (by simp [results, Tryz.results62, go_sem, z0, z1, z2, z3, z4, z5, z6, z7]) rfl ?_
      rw [Hj2.out]
      have hbf := below_s8 HbW.out hcl (strV ty) (.int .i64 td) (strV tt) (.int .i64 od) (strV ot) (.slice ea kids.length ec) (.int .i64 fill) (strV ft)
      exact ⟨ea, ec, rfl, H3.out.keep (hbf.mono hB) (Nat.le_refl _), hbf⟩

end Go.Proofs.YtajclfjedlkbcaaGreatDoor
/- Walks: the reference's wrong: whether something of a class is wrong with a Kid. -/
namespace Go.Proofs.YtajclfjedlkbcaaGreatDoor
open Go.RowKit Go.Redl
set_option linter.unusedVariables false

theorem int_dec (a b : Int) : (a == b) = decide (a = b) := by by_cases h : a = b <;> simp [h]
/-- The k-th Kid: its four cells, in plain words. -/
theorem kidO {w : World} {B cap : Nat} {a : Option Addr} {ks : List NodeD} {css : List Value} (h : RowA w B 4 a ks.length cap css) (hk : KidsC w B ks css) (i : Nat) (hi : i < ks.length) :
    ∃ b off ap cp at_ ct ak ck, a = some ⟨b, off, none⟩ ∧ b < B ∧ NodeV w B ks[i] (.agg #[.bool (leafOf ks[i]), .slice ap (propsOf ks[i]).length cp, .slice at_ (textOf ks[i]).length ct, .slice ak (kidsOf ks[i]).length ck]) ∧ RowA w B 2 ap (propsOf ks[i]).length cp (propCells (propsOf ks[i])) ∧
      w.cell? ⟨b, off + i * 4, none⟩ = some (.bool (leafOf ks[i])) ∧ w.cell? ⟨b, off + i * 4 + 1, none⟩ = some (.slice ap (propsOf ks[i]).length cp) ∧ w.cell? ⟨b, off + i * 4 + 2, none⟩ = some (.slice at_ (textOf ks[i]).length ct) ∧ w.cell? ⟨b, off + i * 4 + 3, none⟩ = some (.slice ak (kidsOf ks[i]).length ck) := by
  obtain ⟨b, off, l', a1, n1, c1, a2, n2, c2, a3, n3, c3, ha, hb, hnc, g0, g1, g2, g3⟩ := h.kid_at hk i hi
  generalize ks[i] = q at hnc ⊢
  obtain ⟨l, ps, t, ks'⟩ := q
  have hnv : NodeV w B (.mk l ps t ks') (.agg #[.bool l', .slice a1 n1 c1, .slice a2 n2 c2, .slice a3 n3 c3]) := ⟨_, rfl, hnc⟩
  obtain ⟨ap, cp, at_, ct, ak, ck, css', hv, h2, -, -, -⟩ := hnv.open
  simp only [Value.agg.injEq, Array.mk.injEq, List.cons.injEq, Value.bool.injEq, Value.slice.injEq, and_true] at hv
  obtain ⟨rfl, ⟨rfl, rfl, rfl⟩, ⟨rfl, rfl, rfl⟩, ⟨rfl, rfl, rfl⟩⟩ := hv
  exact ⟨b, off, _, _, _, _, _, _, ha, hb, hnv, h2, g0, g1, g2, g3⟩
theorem kid_get {ks : List NodeD} {i : Nat} (hi : i < ks.length) : kidAt ks i = ks[i] := by simp [kidAt, List.getD, List.getElem?_eq_getElem hi]
theorem field_act0 (x : Int) (s : List UInt8) : ∀ w : World, (Instr.field 24 (.agg #[.int .i64 x, strV s]) 0).run Tryz.prog w = .ok (.int .i64 x) w := by intro w; kernel_rfl
end Go.Proofs.YtajclfjedlkbcaaGreatDoor
/- Walks: valid's ways to look: doing, merge, empty, fill. -/
namespace Go.Proofs.YtajclfjedlkbcaaGreatDoor
open Go.RowKit Go.Redl
set_option linter.unusedVariables false

def actRow (l : List ActD) : List Value := l.flatMap actCells
theorem actRow_len (l : List ActD) : (actRow l).length = l.length * 2 := by
  induction l with
  | nil => rfl
  | cons p l ih => simp only [actRow, actCells, List.flatMap_cons, List.length_append, List.length_cons, List.length_nil] at *; omega
theorem actRow_at : ∀ (l : List ActD) (i : Nat) (hi : i < l.length), (actRow l)[i * 2]? = some (.int .i64 l[i].1) ∧ (actRow l)[i * 2 + 1]? = some (strV l[i].2)
  | [], i, hi => absurd hi (by simp)
  | p :: l, 0, hi => by simp [actRow, actCells]
  | p :: l, i + 1, hi => by
    have h := actRow_at l i (by simpa using hi)
    have e : actRow (p :: l) = .int .i64 p.1 :: strV p.2 :: actRow l := by simp [actRow, actCells]
    rw [e, show (i + 1) * 2 = i * 2 + 1 + 1 by omega]
    simpa using h
theorem act_at {w : World} {B n cap : Nat} {a : Option Addr} {l : List ActD} (h : RowA w B 2 a n cap (actRow l)) (k : Nat) (hk : k < l.length) :
    ∃ b off, a = some ⟨b, off, none⟩ ∧ b < B ∧ w.cell? ⟨b, off + k * 2, none⟩ = some (.int .i64 l[k].1) ∧ w.cell? ⟨b, off + k * 2 + 1, none⟩ = some (strV l[k].2) := by
  obtain ⟨h1, h2⟩ := actRow_at l k hk
  obtain ⟨b, off, ha, hb, hc⟩ := h.some_ (by intro e; rw [e] at h1; simp at h1)
  exact ⟨b, off, ha, hb, hc _ _ h1, by have := hc _ _ h2; rwa [← Nat.add_assoc] at this⟩

/-- The first place that is done so. -/
def doAt (l : List ActD) (d : Int) : Int := idxP (fun i => decide ((l.getD i (0, [])).1 = d)) l.length
/-- What a way to look tells. -/
def LookP (W : World) (at_ : Int) (m : Nat) (e : Ending) (w' : World) : Prop := ∃ k : Int, e = .returned (.tuple #[.int .i64 at_, .int .i64 k]) ∧ (0 ≤ at_ → k = m) ∧ Below W.heap.size W w'

end Go.Proofs.YtajclfjedlkbcaaGreatDoor
/- Walks: valid's ways to look: merge, empty, fill. -/
namespace Go.Proofs.YtajclfjedlkbcaaGreatDoor
open Go.RowKit Go.Redl
set_option linter.unusedVariables false

/-- Whether a leaf has the same properties as the one ahead of it. -/
def mergeB (ks : List NodeD) (i : Nat) : Bool := decide (0 < i) && (leafOf (kidAt ks i) && (leafOf (kidAt ks (i - 1)) && decide (propsOf (kidAt ks i) = propsOf (kidAt ks (i - 1)))))
def emptyB (ks : List NodeD) (i : Nat) : Bool := leafOf (kidAt ks i) && (decide ((textOf (kidAt ks i)).length = 0) && decide (1 < ks.length))
theorem look_four (r : RuleD) (ks : List NodeD) : lookN r ks 4 = idxP (mergeB ks) ks.length := by
  unfold lookN; rw [if_neg (by omega)]; congr 1
theorem look_five (r : RuleD) (ks : List NodeD) : lookN r ks 5 = idxP (emptyB ks) ks.length := by
  unfold lookN; rw [if_neg (by omega)]; congr 1

end Go.Proofs.YtajclfjedlkbcaaGreatDoor
/- Walks: valid's ways to look: merge. -/
namespace Go.Proofs.YtajclfjedlkbcaaGreatDoor
open Go.RowKit Go.Redl
set_option linter.unusedVariables false

theorem At.s4 {w : World} {N : Nat} {c0 c1 c2 c3 : Value} {T : TypeId} (h : At w N [c0, c1, c2, c3] T) (d0 d1 d2 d3 : Value) : At ((((w.setCell ⟨N, 0, none⟩ d0).setCell ⟨N, 1, none⟩ d1).setCell ⟨N, 2, none⟩ d2).setCell ⟨N, 3, none⟩ d3) N [d0, d1, d2, d3] T := by
  have h0 : At (w.setCell ⟨N, 0, none⟩ d0) N [d0, c1, c2, c3] T := h.set 0 d0
  have h1 : At ((w.setCell ⟨N, 0, none⟩ d0).setCell ⟨N, 1, none⟩ d1) N [d0, d1, c2, c3] T := h0.set 1 d1
  have h2 : At (((w.setCell ⟨N, 0, none⟩ d0).setCell ⟨N, 1, none⟩ d1).setCell ⟨N, 2, none⟩ d2) N [d0, d1, d2, c3] T := h1.set 2 d2
  exact h2.set 3 d3
theorem At.n4 {w : World} {N M : Nat} {cs : List Value} {T : TypeId} (h : At w M cs T) (hne : M ≠ N) (d0 d1 d2 d3 : Value) : At ((((w.setCell ⟨N, 0, none⟩ d0).setCell ⟨N, 1, none⟩ d1).setCell ⟨N, 2, none⟩ d2).setCell ⟨N, 3, none⟩ d3) M cs T :=
  (((h.set_ne hne _).set_ne hne _).set_ne hne _).set_ne hne _
theorem below_s4 {B : Nat} {W w : World} {N : Nat} (h : Below B W w) (hN : B ≤ N) (d0 d1 d2 d3 : Value) : Below B W ((((w.setCell ⟨N, 0, none⟩ d0).setCell ⟨N, 1, none⟩ d1).setCell ⟨N, 2, none⟩ d2).setCell ⟨N, 3, none⟩ d3) :=
  (((h.setCell (p := ⟨N, 0, none⟩) hN _).setCell (p := ⟨N, 1, none⟩) hN _).setCell (p := ⟨N, 2, none⟩) hN _).setCell (p := ⟨N, 3, none⟩) hN _
theorem rowq_s4 {w : World} {ok : Nat → Prop} {sz n cap N : Nat} {a : Option Addr} {cs : List Value} (h : RowQ w ok sz a n cap cs) (hne : ¬ ok N) (d0 d1 d2 d3 : Value) : RowQ ((((w.setCell ⟨N, 0, none⟩ d0).setCell ⟨N, 1, none⟩ d1).setCell ⟨N, 2, none⟩ d2).setCell ⟨N, 3, none⟩ d3) ok sz a n cap cs :=
  rowq_set (rowq_set (rowq_set (rowq_set h hne) hne) hne) hne


theorem kid_as {w : World} {B cap : Nat} {a : Option Addr} {ks : List NodeD} {css : List Value} {b off : Nat} (h : RowA w B 4 a ks.length cap css) (hk : KidsC w B ks css) (ha : a = some ⟨b, off, none⟩) (i : Nat) (hi : i < ks.length) :
    ∃ ap cp at_ ct ak ck, NodeV w B ks[i] (.agg #[.bool (leafOf ks[i]), .slice ap (propsOf ks[i]).length cp, .slice at_ (textOf ks[i]).length ct, .slice ak (kidsOf ks[i]).length ck]) ∧ RowA w B 2 ap (propsOf ks[i]).length cp (propCells (propsOf ks[i])) ∧
      w.cell? ⟨b, off + i * 4, none⟩ = some (.bool (leafOf ks[i])) ∧ w.cell? ⟨b, off + i * 4 + 1, none⟩ = some (.slice ap (propsOf ks[i]).length cp) ∧ w.cell? ⟨b, off + i * 4 + 2, none⟩ = some (.slice at_ (textOf ks[i]).length ct) ∧ w.cell? ⟨b, off + i * 4 + 3, none⟩ = some (.slice ak (kidsOf ks[i]).length ck) := by
  obtain ⟨b', off', ap, cp, at_, ct, ak, ck, ha', hb, h1, h2, h3, h4, h5, h6⟩ := kidO h hk i hi
  rw [ha] at ha'; injection ha' with e; injection e with e1 e2; subst e1; subst e2
  exact ⟨_, _, _, _, _, _, h1, h2, h3, h4, h5, h6⟩

end Go.Proofs.YtajclfjedlkbcaaGreatDoor
/- Walks: valid's looks: how each class is looked for. -/
namespace Go.Proofs.YtajclfjedlkbcaaGreatDoor
open Go.RowKit Go.Redl
set_option linter.unusedVariables false
set_option linter.unusedSimpArgs false

/-- What a function value tells, called with nothing. -/
def LookF (w : World) (v : Value) (z : Int) (m : Nat) : Prop :=
  ∃ (f : FuncId) (first caps : Array Value), v = .func (.func f) first caps ∧ (∀ args w, (callFunc f args).run Tryz.prog w = .ok (.enter f args) w) ∧
    ∀ w', Below w.heap.size w w' → Calls Tryz.prog f (first ++ caps) w' (LookP w' z m)
theorem LookF.kept {w w' : World} {v : Value} {z : Int} {m : Nat} (h : LookF w v z m) (hb : Below w.heap.size w w') : LookF w' v z m := by
  obtain ⟨f, first, caps, hv, he, hc⟩ := h
  exact ⟨f, first, caps, hv, he, fun w2 hb2 => hc w2 (hb.trans (hb2.mono hb.size))⟩

theorem LookF.cap {w : World} {f : FuncId} {caps : Array Value} {z : Int} {m : Nat} (he : ∀ args w, (callFunc f args).run Tryz.prog w = .ok (.enter f args) w) (h : ∀ w', Below w.heap.size w w' → Calls Tryz.prog f caps w' (LookP w' z m)) : LookF w (.func (.func f) #[] caps) z m :=
  ⟨f, #[], caps, rfl, he, fun w' hb => by rw [Array.empty_append]; exact h w' hb⟩
theorem LookF.meth {w : World} {f : FuncId} {first : Array Value} {z : Int} {m : Nat} (he : ∀ args w, (callFunc f args).run Tryz.prog w = .ok (.enter f args) w) (h : ∀ w', Below w.heap.size w w' → Calls Tryz.prog f first w' (LookP w' z m)) : LookF w (.func (.func f) first #[]) z m :=
  ⟨f, first, #[], rfl, he, fun w' hb => by rw [Array.append_empty]; exact h w' hb⟩

theorem At.f7 {w : World} {N : Nat} {c0 c1 c2 c3 c4 c5 c6 : Value} {T : TypeId} (h : At w N [c0, c1, c2, c3, c4, c5, c6] T) : (w.cell? ⟨N, 0, none⟩ = some c0 ∧ w.cell? ⟨N, 1, none⟩ = some c1 ∧ w.cell? ⟨N, 2, none⟩ = some c2 ∧ w.cell? ⟨N, 3, none⟩ = some c3 ∧ w.cell? ⟨N, 4, none⟩ = some c4 ∧ w.cell? ⟨N, 5, none⟩ = some c5 ∧ w.cell? ⟨N, 6, none⟩ = some c6) ∧ (∀ j, w.frozen? ⟨N, j, none⟩ = false) ∧ N < w.heap.size :=
  ⟨⟨h.cell 0 rfl, h.cell 1 rfl, h.cell 2 rfl, h.cell 3 rfl, h.cell 4 rfl, h.cell 5 rfl, h.cell 6 rfl⟩, fun j => Lib.frozen_of_heap h _, h.lt⟩

theorem At.s7 {w : World} {N : Nat} {c0 c1 c2 c3 c4 c5 c6 : Value} {T : TypeId} (h : At w N [c0, c1, c2, c3, c4, c5, c6] T) (d0 d1 d2 d3 d4 d5 d6 : Value) : At (((((((w.setCell ⟨N, 0, none⟩ d0).setCell ⟨N, 1, none⟩ d1).setCell ⟨N, 2, none⟩ d2).setCell ⟨N, 3, none⟩ d3).setCell ⟨N, 4, none⟩ d4).setCell ⟨N, 5, none⟩ d5).setCell ⟨N, 6, none⟩ d6) N [d0, d1, d2, d3, d4, d5, d6] T := by
  have h0 : At (w.setCell ⟨N, 0, none⟩ d0) N [d0, c1, c2, c3, c4, c5, c6] T := h.set 0 d0
  have h1 : At ((w.setCell ⟨N, 0, none⟩ d0).setCell ⟨N, 1, none⟩ d1) N [d0, d1, c2, c3, c4, c5, c6] T := h0.set 1 d1
  have h2 : At (((w.setCell ⟨N, 0, none⟩ d0).setCell ⟨N, 1, none⟩ d1).setCell ⟨N, 2, none⟩ d2) N [d0, d1, d2, c3, c4, c5, c6] T := h1.set 2 d2
  have h3 : At ((((w.setCell ⟨N, 0, none⟩ d0).setCell ⟨N, 1, none⟩ d1).setCell ⟨N, 2, none⟩ d2).setCell ⟨N, 3, none⟩ d3) N [d0, d1, d2, d3, c4, c5, c6] T := h2.set 3 d3
  have h4 : At (((((w.setCell ⟨N, 0, none⟩ d0).setCell ⟨N, 1, none⟩ d1).setCell ⟨N, 2, none⟩ d2).setCell ⟨N, 3, none⟩ d3).setCell ⟨N, 4, none⟩ d4) N [d0, d1, d2, d3, d4, c5, c6] T := h3.set 4 d4
  have h5 : At ((((((w.setCell ⟨N, 0, none⟩ d0).setCell ⟨N, 1, none⟩ d1).setCell ⟨N, 2, none⟩ d2).setCell ⟨N, 3, none⟩ d3).setCell ⟨N, 4, none⟩ d4).setCell ⟨N, 5, none⟩ d5) N [d0, d1, d2, d3, d4, d5, c6] T := h4.set 5 d5
  exact h5.set 6 d6
theorem At.n7 {w : World} {N M : Nat} {cs : List Value} {T : TypeId} (h : At w M cs T) (hne : M ≠ N) (d0 d1 d2 d3 d4 d5 d6 : Value) : At (((((((w.setCell ⟨N, 0, none⟩ d0).setCell ⟨N, 1, none⟩ d1).setCell ⟨N, 2, none⟩ d2).setCell ⟨N, 3, none⟩ d3).setCell ⟨N, 4, none⟩ d4).setCell ⟨N, 5, none⟩ d5).setCell ⟨N, 6, none⟩ d6) M cs T :=
  ((((((h.set_ne hne _).set_ne hne _).set_ne hne _).set_ne hne _).set_ne hne _).set_ne hne _).set_ne hne _
theorem below_s7 {B : Nat} {W w : World} {N : Nat} (h : Below B W w) (hN : B ≤ N) (d0 d1 d2 d3 d4 d5 d6 : Value) : Below B W (((((((w.setCell ⟨N, 0, none⟩ d0).setCell ⟨N, 1, none⟩ d1).setCell ⟨N, 2, none⟩ d2).setCell ⟨N, 3, none⟩ d3).setCell ⟨N, 4, none⟩ d4).setCell ⟨N, 5, none⟩ d5).setCell ⟨N, 6, none⟩ d6) :=
  ((((((h.setCell (p := ⟨N, 0, none⟩) hN _).setCell (p := ⟨N, 1, none⟩) hN _).setCell (p := ⟨N, 2, none⟩) hN _).setCell (p := ⟨N, 3, none⟩) hN _).setCell (p := ⟨N, 4, none⟩) hN _).setCell (p := ⟨N, 5, none⟩) hN _).setCell (p := ⟨N, 6, none⟩) hN _
theorem rowq_s7 {w : World} {ok : Nat → Prop} {sz n cap N : Nat} {a : Option Addr} {cs : List Value} (h : RowQ w ok sz a n cap cs) (hne : ¬ ok N) (d0 d1 d2 d3 d4 d5 d6 : Value) : RowQ (((((((w.setCell ⟨N, 0, none⟩ d0).setCell ⟨N, 1, none⟩ d1).setCell ⟨N, 2, none⟩ d2).setCell ⟨N, 3, none⟩ d3).setCell ⟨N, 4, none⟩ d4).setCell ⟨N, 5, none⟩ d5).setCell ⟨N, 6, none⟩ d6) ok sz a n cap cs :=
  rowq_set (rowq_set (rowq_set (rowq_set (rowq_set (rowq_set (rowq_set h hne) hne) hne) hne) hne) hne) hne


/-- A call of a function value, as one operation. -/
theorem wp_callv {P : Program} {o : Oper} {a : Act} {w : World} {K : Act → World → Prop} {Q : Exit → Act → World → Prop}
    (f : FuncId) (s : Operand) (caps : Array Value) (args : Array Operand) (tys : Array TypeId) (ho : o.op = .call { callee := .value s, args := args, argTypes := tys }) (hs : a.eval s = .func (.func f) #[] caps)
    (he : ∀ args w, (callFunc f args).run P w = .ok (.enter f args) w) (vals : List Value) (hv : args.toList.map a.eval = vals) (R : Ending → World → Prop) (hC : Calls P f (vals.toArray ++ caps) w R)
    (h : ∀ e w', R e w' → ∃ v, e = .returned v ∧ K (a.put o.dst v) w') : Oper.wp P o a w K Q := by
  unfold Oper.wp
  have hv' : args.map a.eval = vals.toArray := by rw [← hv]; apply Array.ext'; simp
  have hr : (execOp a.eval o).run P w = .ok (.enter f (vals.toArray ++ caps)) w := by
    simp [execOp, ho, resolve, invoke, hs, Deferred.ofValue, hv', he]
  rw [hr]
  show Calls P f (vals.toArray ++ caps) w _
  refine hC.mono fun e w' hR => ?_
  obtain ⟨v, rfl, hk⟩ := h e w' hR
  exact hk

end Go.Proofs.YtajclfjedlkbcaaGreatDoor
/- Walks: the reference's Find. -/
namespace Go.Proofs.YtajclfjedlkbcaaGreatDoor
open Go.RowKit Go.Redl
set_option linter.unusedVariables false

/-- The same for an operation behind '&&' or '||'. -/
theorem step_callg {P : Program} {ops : Array Oper} {o : Oper} {a : Act} {w : World} {K : Act → World → Prop} {Q : Exit → Act → World → Prop} {E : Prop}
    (hw : Region.wanted o (yielded ops a.tmps) = true) (f : FuncId) (args : Array Operand) (tys : Array TypeId) (ho : o.op = .call { callee := .value (.func f), args := args, argTypes := tys })
    (he : ∀ args w, (callFunc f args).run P w = .ok (.enter f args) w) (vals : List Value) (hv : args.toList.map a.eval = vals) (R : Ending → World → Prop) (hC : Calls P f vals.toArray w R)
    (h : ∀ e w', R e w' → ∃ v, e = .returned v ∧ K (a.put o.dst v) w') : if Region.wanted o (yielded ops a.tmps) = true then Oper.wp P o a w K Q else E := by
  rw [if_pos hw]
  unfold Oper.wp
  have hv' : args.map a.eval = vals.toArray := by rw [← hv]; apply Array.ext'; simp
  have hr : (execOp a.eval o).run P w = .ok (.enter f vals.toArray) w := by
    simp [execOp, ho, resolve, invoke, Act.eval, Deferred.ofValue, hv', he]
  rw [hr]
  show Calls P f vals.toArray w _
  refine hC.mono fun e w' hR => ?_
  obtain ⟨v, rfl, hk⟩ := h e w' hR
  exact hk
theorem findL_hit {r : RuleD} {ks : List NodeD} {c : Int} {cs : List Int} {j : Int} (h : lookN r ks c = j) (h0 : 0 ≤ j) : findL r ks (c :: cs) = (c, j, (manyN r ks c : Int)) := by
  unfold findL; rw [h, if_pos h0]
theorem findL_miss {r : RuleD} {ks : List NodeD} {c : Int} {cs : List Int} (h : lookN r ks c = -1) : findL r ks (c :: cs) = findL r ks cs := by
  conv => lhs; unfold findL
  rw [h, if_neg (by omega)]
theorem index6 (o0 o1 o2 o3 o4 o5 : Int) (k : Nat) (hk : k < 6) : ∀ w : World, (Instr.index 28 (.agg #[.int .i64 o0, .int .i64 o1, .int .i64 o2, .int .i64 o3, .int .i64 o4, .int .i64 o5]) (.int .i64 k)).run Tryz.prog w = .ok (.int .i64 ([o0, o1, o2, o3, o4, o5].getD k 0)) w := by
  have h : k = 0 ∨ k = 1 ∨ k = 2 ∨ k = 3 ∨ k = 4 ∨ k = 5 := by omega
  rcases h with rfl | rfl | rfl | rfl | rfl | rfl
  all_goals
    intro w
    kernel_rfl
theorem look_yes {r : RuleD} {ks : List NodeD} {c : Int} {j : Nat} (hj : j < ks.length) (h : wrongB r ks c j = true) (hb : ∀ i, i < j → wrongB r ks c i = false) : lookN r ks c = j := by
  have h6 : c ≠ 6 := by rintro rfl; simp [wrongB] at h
  unfold lookN; rw [if_neg h6]; exact idxP_some hj h hb
theorem look_no {r : RuleD} {ks : List NodeD} {c : Int} (h : ¬ (c = 6 ∧ ks.length = 0 ∧ r.fill ≠ 0)) (hb : ∀ i, i < ks.length → wrongB r ks c i = false) : lookN r ks c = -1 := by
  unfold lookN
  by_cases h6 : c = 6
  · rw [if_pos h6, if_neg (fun e => h ⟨h6, e⟩)]
  · rw [if_neg h6]; exact idxP_none hb
theorem look_six {r : RuleD} {ks : List NodeD} (h1 : ks.length = 0) (h2 : r.fill ≠ 0) : lookN r ks 6 = 0 := by
  unfold lookN; rw [if_pos rfl, if_pos ⟨h1, h2⟩]
theorem many_run {r : RuleD} {ks : List NodeD} {j : Nat} (h : lookN r ks 3 = j) : manyN r ks 3 = runA (actsOf r ks) j := by
  unfold manyN; rw [if_pos rfl, h]; rfl
theorem many_one {r : RuleD} {ks : List NodeD} {c : Int} (h : c ≠ 3) : manyN r ks c = 1 := by
  unfold manyN; rw [if_neg h]
/-- Whether one more is done alike. -/
def moreB (r : RuleD) (ks : List NodeD) (c : Int) (j m : Nat) : Bool := decide (c = 3) && (decide (j + m < ks.length) && decide (actOf r (kidAt ks (j + m)) = actOf r (kidAt ks j)))
theorem many_eq {r : RuleD} {ks : List NodeD} {c : Int} {j m : Nat} (hj : j < ks.length) (hl : lookN r ks c = j) (h1 : 1 ≤ m) (hm : j + m ≤ ks.length) (hal : c = 3 → ∀ q, q < m → actOf r (kidAt ks (j + q)) = actOf r (kidAt ks j)) (hone : c ≠ 3 → m = 1) (hno : moreB r ks c j m = false) : manyN r ks c = m := by
  by_cases h3 : c = 3
  · subst h3
    rw [many_run hl]
    have hg : ∀ i (h : i < ks.length), (actsOf r ks)[i]'(by simpa using h) = actOf r (kidAt ks i) := fun i h => by rw [List.getElem_map, kid_get h]
    refine runA_eq (by simpa using hj) h1 (by simpa using hm) (fun q hq => ?_) (fun h => ?_)
    · rw [hg _ (by omega), hg _ hj]; exact hal rfl q hq
    · have h' : j + m < ks.length := by simpa using h
      rw [hg _ h', hg _ hj]
      intro e
      have hy : moreB r ks 3 j m = true := by unfold moreB; rw [decide_eq_true h', decide_eq_true e]; rfl
      rw [hno] at hy; cases hy
  · rw [many_one h3, hone h3]
theorem rruleOf_ent : ∀ args w, (callFunc 62 args).run Tryz.prog w = .ok (.enter 62 args) w := by intro args w; kernel_rfl
abbrev FindP (W : World) (f : FindD) (e : Ending) (w' : World) : Prop := e = .returned (.agg #[.int .i64 f.1, .int .i64 f.2.1, .int .i64 f.2.2]) ∧ Below W.heap.size W w'

end Go.Proofs.YtajclfjedlkbcaaGreatDoor
/- Walks: valid.Find. -/
namespace Go.Proofs.YtajclfjedlkbcaaGreatDoor
open Go.RowKit Go.Redl
set_option linter.unusedVariables false
set_option linter.unusedSimpArgs false

theorem _root_.Go.Redl.Below.and {w0 w w1 : World} (h : Below w0.heap.size w0 w) (h1 : Below w.heap.size w w1) : Below w0.heap.size w0 w1 := h.trans (h1.mono h.size)
theorem idxP_congr {p q : Nat → Bool} {n : Nat} (h : ∀ i, i < n → p i = q i) : idxP p n = idxP q n := by
  rcases idxP_cases q n with ⟨k, hk, hp, hm, he⟩ | ⟨hm, he⟩
  · rw [he]; exact idxP_some hk (by rw [h k hk]; exact hp) (fun j hj => by rw [h j (by omega)]; exact hm j hj)
  · rw [he]; exact idxP_none (fun j hj => by rw [h j hj]; exact hm j hj)
theorem look_do (r : RuleD) (ks : List NodeD) (d : Int) : doAt (actsOf r ks) d = idxP (fun i => decide ((actOf r (kidAt ks i)).1 = d)) ks.length := by
  unfold doAt
  rw [show (actsOf r ks).length = ks.length by simp]
  refine idxP_congr fun i hi => ?_
  rw [kid_get hi]
  simp [List.getD, List.getElem?_eq_getElem hi]
theorem look_one (r : RuleD) (ks : List NodeD) : lookN r ks 1 = doAt (actsOf r ks) 2 := by
  rw [look_do]; unfold lookN; rw [if_neg (by omega)]; congr 1
theorem look_two (r : RuleD) (ks : List NodeD) : lookN r ks 2 = doAt (actsOf r ks) 3 := by
  rw [look_do]; unfold lookN; rw [if_neg (by omega)]; congr 1
theorem look_three (r : RuleD) (ks : List NodeD) : lookN r ks 3 = doAt (actsOf r ks) 4 := by
  rw [look_do]; unfold lookN; rw [if_neg (by omega)]; congr 1
theorem look_last (r : RuleD) (ks : List NodeD) : lookN r ks 6 = if ks.length = 0 ∧ r.fill ≠ 0 then 0 else -1 := by
  unfold lookN; rw [if_pos rfl]
theorem info_act : (Tryz.prog.info? 24).map (fun i => (i.zero, i.size, i.bytes)) = some (some (.agg #[.int .i64 0, .string ⟨#[]⟩]), 2, 24) := by kernel_rfl
theorem ruleOf_ent : ∀ args w, (callFunc 57 args).run Tryz.prog w = .ok (.enter 57 args) w := by intro args w; kernel_rfl
/-- What make lays for n actions. -/
def zeroActs (n : Nat) : List Value := (List.replicate n (0, ([] : List UInt8))).flatMap actCells
theorem made_acts (n : Nat) : (madeCells (#[.int .i64 0, .string ⟨#[]⟩] : Array Value) (n * 2)) = (zeroActs n).toArray := by
  apply Array.ext'
  unfold madeCells zeroActs
  simp only [Array.toList_map, Array.toList_range]
  induction n with
  | zero => simp
  | succ n ih =>
    rw [show (n + 1) * 2 = n * 2 + 1 + 1 by omega, List.range_succ, List.range_succ, List.replicate_succ', List.flatMap_append]
    simp only [List.map_append, List.append_assoc, ih]
    congr 1
    simp [actCells, strV]
theorem At.s13 {w : World} {N : Nat} {c0 c1 c2 c3 c4 c5 c6 c7 c8 c9 c10 c11 c12 : Value} {T : TypeId} (h : At w N [c0, c1, c2, c3, c4, c5, c6, c7, c8, c9, c10, c11, c12] T) (d0 d1 d2 d3 d4 d5 d6 d7 d8 d9 d10 d11 d12 : Value) : At (((((((((((((w.setCell ⟨N, 0, none⟩ d0).setCell ⟨N, 1, none⟩ d1).setCell ⟨N, 2, none⟩ d2).setCell ⟨N, 3, none⟩ d3).setCell ⟨N, 4, none⟩ d4).setCell ⟨N, 5, none⟩ d5).setCell ⟨N, 6, none⟩ d6).setCell ⟨N, 7, none⟩ d7).setCell ⟨N, 8, none⟩ d8).setCell ⟨N, 9, none⟩ d9).setCell ⟨N, 10, none⟩ d10).setCell ⟨N, 11, none⟩ d11).setCell ⟨N, 12, none⟩ d12) N [d0, d1, d2, d3, d4, d5, d6, d7, d8, d9, d10, d11, d12] T := by
  have h0 : At (w.setCell ⟨N, 0, none⟩ d0) N [d0, c1, c2, c3, c4, c5, c6, c7, c8, c9, c10, c11, c12] T := h.set 0 d0
  have h1 : At ((w.setCell ⟨N, 0, none⟩ d0).setCell ⟨N, 1, none⟩ d1) N [d0, d1, c2, c3, c4, c5, c6, c7, c8, c9, c10, c11, c12] T := h0.set 1 d1
  have h2 : At (((w.setCell ⟨N, 0, none⟩ d0).setCell ⟨N, 1, none⟩ d1).setCell ⟨N, 2, none⟩ d2) N [d0, d1, d2, c3, c4, c5, c6, c7, c8, c9, c10, c11, c12] T := h1.set 2 d2
  have h3 : At ((((w.setCell ⟨N, 0, none⟩ d0).setCell ⟨N, 1, none⟩ d1).setCell ⟨N, 2, none⟩ d2).setCell ⟨N, 3, none⟩ d3) N [d0, d1, d2, d3, c4, c5, c6, c7, c8, c9, c10, c11, c12] T := h2.set 3 d3
  have h4 : At (((((w.setCell ⟨N, 0, none⟩ d0).setCell ⟨N, 1, none⟩ d1).setCell ⟨N, 2, none⟩ d2).setCell ⟨N, 3, none⟩ d3).setCell ⟨N, 4, none⟩ d4) N [d0, d1, d2, d3, d4, c5, c6, c7, c8, c9, c10, c11, c12] T := h3.set 4 d4
  have h5 : At ((((((w.setCell ⟨N, 0, none⟩ d0).setCell ⟨N, 1, none⟩ d1).setCell ⟨N, 2, none⟩ d2).setCell ⟨N, 3, none⟩ d3).setCell ⟨N, 4, none⟩ d4).setCell ⟨N, 5, none⟩ d5) N [d0, d1, d2, d3, d4, d5, c6, c7, c8, c9, c10, c11, c12] T := h4.set 5 d5
  have h6 : At (((((((w.setCell ⟨N, 0, none⟩ d0).setCell ⟨N, 1, none⟩ d1).setCell ⟨N, 2, none⟩ d2).setCell ⟨N, 3, none⟩ d3).setCell ⟨N, 4, none⟩ d4).setCell ⟨N, 5, none⟩ d5).setCell ⟨N, 6, none⟩ d6) N [d0, d1, d2, d3, d4, d5, d6, c7, c8, c9, c10, c11, c12] T := h5.set 6 d6
  have h7 : At ((((((((w.setCell ⟨N, 0, none⟩ d0).setCell ⟨N, 1, none⟩ d1).setCell ⟨N, 2, none⟩ d2).setCell ⟨N, 3, none⟩ d3).setCell ⟨N, 4, none⟩ d4).setCell ⟨N, 5, none⟩ d5).setCell ⟨N, 6, none⟩ d6).setCell ⟨N, 7, none⟩ d7) N [d0, d1, d2, d3, d4, d5, d6, d7, c8, c9, c10, c11, c12] T := h6.set 7 d7
  have h8 : At (((((((((w.setCell ⟨N, 0, none⟩ d0).setCell ⟨N, 1, none⟩ d1).setCell ⟨N, 2, none⟩ d2).setCell ⟨N, 3, none⟩ d3).setCell ⟨N, 4, none⟩ d4).setCell ⟨N, 5, none⟩ d5).setCell ⟨N, 6, none⟩ d6).setCell ⟨N, 7, none⟩ d7).setCell ⟨N, 8, none⟩ d8) N [d0, d1, d2, d3, d4, d5, d6, d7, d8, c9, c10, c11, c12] T := h7.set 8 d8
  have h9 : At ((((((((((w.setCell ⟨N, 0, none⟩ d0).setCell ⟨N, 1, none⟩ d1).setCell ⟨N, 2, none⟩ d2).setCell ⟨N, 3, none⟩ d3).setCell ⟨N, 4, none⟩ d4).setCell ⟨N, 5, none⟩ d5).setCell ⟨N, 6, none⟩ d6).setCell ⟨N, 7, none⟩ d7).setCell ⟨N, 8, none⟩ d8).setCell ⟨N, 9, none⟩ d9) N [d0, d1, d2, d3, d4, d5, d6, d7, d8, d9, c10, c11, c12] T := h8.set 9 d9
  have h10 : At (((((((((((w.setCell ⟨N, 0, none⟩ d0).setCell ⟨N, 1, none⟩ d1).setCell ⟨N, 2, none⟩ d2).setCell ⟨N, 3, none⟩ d3).setCell ⟨N, 4, none⟩ d4).setCell ⟨N, 5, none⟩ d5).setCell ⟨N, 6, none⟩ d6).setCell ⟨N, 7, none⟩ d7).setCell ⟨N, 8, none⟩ d8).setCell ⟨N, 9, none⟩ d9).setCell ⟨N, 10, none⟩ d10) N [d0, d1, d2, d3, d4, d5, d6, d7, d8, d9, d10, c11, c12] T := h9.set 10 d10
  have h11 : At ((((((((((((w.setCell ⟨N, 0, none⟩ d0).setCell ⟨N, 1, none⟩ d1).setCell ⟨N, 2, none⟩ d2).setCell ⟨N, 3, none⟩ d3).setCell ⟨N, 4, none⟩ d4).setCell ⟨N, 5, none⟩ d5).setCell ⟨N, 6, none⟩ d6).setCell ⟨N, 7, none⟩ d7).setCell ⟨N, 8, none⟩ d8).setCell ⟨N, 9, none⟩ d9).setCell ⟨N, 10, none⟩ d10).setCell ⟨N, 11, none⟩ d11) N [d0, d1, d2, d3, d4, d5, d6, d7, d8, d9, d10, d11, c12] T := h10.set 11 d11
  exact h11.set 12 d12
theorem At.n13 {w : World} {N M : Nat} {cs : List Value} {T : TypeId} (h : At w M cs T) (hne : M ≠ N) (d0 d1 d2 d3 d4 d5 d6 d7 d8 d9 d10 d11 d12 : Value) : At (((((((((((((w.setCell ⟨N, 0, none⟩ d0).setCell ⟨N, 1, none⟩ d1).setCell ⟨N, 2, none⟩ d2).setCell ⟨N, 3, none⟩ d3).setCell ⟨N, 4, none⟩ d4).setCell ⟨N, 5, none⟩ d5).setCell ⟨N, 6, none⟩ d6).setCell ⟨N, 7, none⟩ d7).setCell ⟨N, 8, none⟩ d8).setCell ⟨N, 9, none⟩ d9).setCell ⟨N, 10, none⟩ d10).setCell ⟨N, 11, none⟩ d11).setCell ⟨N, 12, none⟩ d12) M cs T :=
  ((((((((((((h.set_ne hne _).set_ne hne _).set_ne hne _).set_ne hne _).set_ne hne _).set_ne hne _).set_ne hne _).set_ne hne _).set_ne hne _).set_ne hne _).set_ne hne _).set_ne hne _).set_ne hne _
theorem below_s13 {B : Nat} {W w : World} {N : Nat} (h : Below B W w) (hN : B ≤ N) (d0 d1 d2 d3 d4 d5 d6 d7 d8 d9 d10 d11 d12 : Value) : Below B W (((((((((((((w.setCell ⟨N, 0, none⟩ d0).setCell ⟨N, 1, none⟩ d1).setCell ⟨N, 2, none⟩ d2).setCell ⟨N, 3, none⟩ d3).setCell ⟨N, 4, none⟩ d4).setCell ⟨N, 5, none⟩ d5).setCell ⟨N, 6, none⟩ d6).setCell ⟨N, 7, none⟩ d7).setCell ⟨N, 8, none⟩ d8).setCell ⟨N, 9, none⟩ d9).setCell ⟨N, 10, none⟩ d10).setCell ⟨N, 11, none⟩ d11).setCell ⟨N, 12, none⟩ d12) :=
  ((((((((((((h.setCell (p := ⟨N, 0, none⟩) hN _).setCell (p := ⟨N, 1, none⟩) hN _).setCell (p := ⟨N, 2, none⟩) hN _).setCell (p := ⟨N, 3, none⟩) hN _).setCell (p := ⟨N, 4, none⟩) hN _).setCell (p := ⟨N, 5, none⟩) hN _).setCell (p := ⟨N, 6, none⟩) hN _).setCell (p := ⟨N, 7, none⟩) hN _).setCell (p := ⟨N, 8, none⟩) hN _).setCell (p := ⟨N, 9, none⟩) hN _).setCell (p := ⟨N, 10, none⟩) hN _).setCell (p := ⟨N, 11, none⟩) hN _).setCell (p := ⟨N, 12, none⟩) hN _
theorem rowq_s13 {w : World} {ok : Nat → Prop} {sz n cap N : Nat} {a : Option Addr} {cs : List Value} (h : RowQ w ok sz a n cap cs) (hne : ¬ ok N) (d0 d1 d2 d3 d4 d5 d6 d7 d8 d9 d10 d11 d12 : Value) : RowQ (((((((((((((w.setCell ⟨N, 0, none⟩ d0).setCell ⟨N, 1, none⟩ d1).setCell ⟨N, 2, none⟩ d2).setCell ⟨N, 3, none⟩ d3).setCell ⟨N, 4, none⟩ d4).setCell ⟨N, 5, none⟩ d5).setCell ⟨N, 6, none⟩ d6).setCell ⟨N, 7, none⟩ d7).setCell ⟨N, 8, none⟩ d8).setCell ⟨N, 9, none⟩ d9).setCell ⟨N, 10, none⟩ d10).setCell ⟨N, 11, none⟩ d11).setCell ⟨N, 12, none⟩ d12) ok sz a n cap cs :=
  rowq_set (rowq_set (rowq_set (rowq_set (rowq_set (rowq_set (rowq_set (rowq_set (rowq_set (rowq_set (rowq_set (rowq_set (rowq_set h hne) hne) hne) hne) hne) hne) hne) hne) hne) hne) hne) hne) hne

theorem At.drew {w : World} {N : Nat} {cs : List Value} {T : TypeId} (h : At w N cs T) : At w.drew N cs T := h
theorem At.lay {w : World} {N : Nat} {cs : List Value} {T : TypeId} {G : Prop} (h : At w N cs T) (k : Hid (At w N cs T) → G) : G := k h
theorem rowq_alloc {w : World} {ok : Nat → Prop} {sz n cap : Nat} {a : Option Addr} {cs : List Value} (h : RowQ w ok sz a n cap cs) (o : Obj) : RowQ (w.alloc o) ok sz a n cap cs :=
  h.keep (by simp) (fun b _ hlt => Lib.alloc_old _ _ _ hlt) (fun _ hb _ => hb)
theorem At.fresh2 {W : World} {N : Nat} {cs : List Value} {T : TypeId} (h : N = W.heap.size) : At (W.alloc (.cells cs.toArray T)) N cs T := h ▸ At.fresh W cs T
theorem zeroActs_succ (m : Nat) : zeroActs (m + 1) = .int .i64 0 :: strV [] :: zeroActs m := by
  simp [zeroActs, List.replicate_succ, actCells]
/-- The next action's two cells, among those that are there and those that are not yet. -/
theorem acts_slot {w : World} {N k m : Nat} {l : List ActD} {T : TypeId} (hl : l.length = k) (hm : 0 < m) (h : At w N (actRow l ++ zeroActs m) T) :
    w.cell? ⟨N, k * 2, none⟩ = some (.int .i64 0) ∧ w.cell? ⟨N, k * 2 + 1, none⟩ = some (strV []) ∧ ∀ j, w.frozen? ⟨N, j, none⟩ = false := by
  obtain ⟨m, rfl⟩ : ∃ m', m = m' + 1 := ⟨m - 1, by omega⟩
  have hr := actRow_len l
  rw [zeroActs_succ] at h
  refine ⟨h.cell _ ?_, h.cell _ ?_, fun j => Lib.frozen_of_heap h _⟩
  · rw [List.getElem?_append_right (by omega), hr, hl, Nat.sub_self]; rfl
  · rw [List.getElem?_append_right (by omega), hr, hl, Nat.add_sub_cancel_left]; rfl
theorem acts_put {w : World} {N k m : Nat} {l : List ActD} {T : TypeId} (A : ActD) (hl : l.length = k) (hm : 0 < m) (h : At w N (actRow l ++ zeroActs m) T) :
    At ((w.setCell ⟨N, k * 2, none⟩ (.int .i64 A.1)).setCell ⟨N, k * 2 + 1, none⟩ (strV A.2)) N (actRow (l ++ [A]) ++ zeroActs (m - 1)) T := by
  obtain ⟨m, rfl⟩ : ∃ m', m = m' + 1 := ⟨m - 1, by omega⟩
  have hr := actRow_len l
  have h2 := (h.set (k * 2) (.int .i64 A.1)).set (k * 2 + 1) (strV A.2)
  rw [zeroActs_succ, List.set_append_right _ _ (by omega), hr, hl, Nat.sub_self, List.set_append_right _ _ (by omega), hr, hl, Nat.add_sub_cancel_left] at h2
  have e : actRow (l ++ [A]) = actRow l ++ [.int .i64 A.1, strV A.2] := by simp [actRow, actCells]
  rw [e]
  simpa using h2
theorem acts_row {w : World} {N : Nat} {l : List ActD} {T : TypeId} (hl : l.length ≤ 100000000) (h : At w N (actRow l) T) : RowA w w.heap.size 2 (some ⟨N, 0, none⟩) l.length l.length (actRow l) := by
  refine ⟨actRow_len l, Nat.le_refl _, by unfold maxLen; omega, fun u hu => ?_, (fun e => by cases e), fun _ => ⟨N, 0, rfl, h.lt, fun j u hj => by rw [Nat.zero_add]; exact h.cell j hj⟩⟩
  unfold actRow at hu
  obtain ⟨a, -, ha⟩ := List.mem_flatMap.1 hu
  simp [actCells] at ha
  rcases ha with rfl | rfl <;> rfl
theorem findL_skip {r : RuleD} {ks : List NodeD} {c : Int} {cs : List Int} (h : ¬ 0 ≤ lookN r ks c) : findL r ks (c :: cs) = findL r ks cs := by
  conv => lhs; unfold findL
  rw [if_neg h]
theorem At.f13' {w : World} {N : Nat} {c0 c1 c2 c3 c4 c5 c6 c7 c8 c9 c10 c11 c12 : Value} {T : TypeId} (h : At w N [c0, c1, c2, c3, c4, c5, c6, c7, c8, c9, c10, c11, c12] T) : ∀ j, w.frozen? ⟨N, j, none⟩ = false := fun j => h.f13.2.1 j

end Go.Proofs.YtajclfjedlkbcaaGreatDoor
/- Walks: fix's small parts: under, at, kid, typed. -/
namespace Go.Proofs.YtajclfjedlkbcaaGreatDoor
open Go.RowKit Go.Redl
set_option linter.unusedVariables false
set_option linter.unusedSimpArgs false

/-- A path made. -/
abbrev PathP (W : World) (zs : List Int) (e : Ending) (w' : World) : Prop := ∃ a c, e = .returned (.slice a zs.length c) ∧ PathQ w' (fun b => W.heap.size ≤ b) a c zs ∧ Below W.heap.size W w'
/-- A box's cells as a row. -/
theorem rowq_at {w : World} {N : Nat} {cs : List Value} {T : TypeId} {ok : Nat → Prop} (h : At w N cs T) (n sz : Nat) (hl : cs.length = n * sz) (hn : n ≤ 100000000) (h1 : ∀ u ∈ cs, u.oneCell' = true) (hok : ok N) : RowQ w ok sz (some ⟨N, 0, none⟩) n n cs :=
  ⟨hl, Nat.le_refl _, by unfold maxLen; omega, h1, (fun e => by cases e), fun _ => ⟨N, 0, rfl, hok, h.lt, fun j u hj => by rw [Nat.zero_add]; exact h.cell j hj⟩⟩
theorem ints_one (zs : List Int) : ∀ u ∈ zs.map (Value.int .i64), u.oneCell' = true := by
  intro u hu; obtain ⟨z, -, rfl⟩ := List.mem_map.1 hu; rfl
theorem row_two (w : World) (v0 v1 : Value) (E B : Nat) (h0 : v0.oneCell' = true) (h1 : v1.oneCell' = true) (hB : w.heap.size < B) : RowA (w.alloc (.cells #[v0, v1] E)) B 1 (some ⟨w.heap.size, 0, none⟩) 2 2 [v0, v1] := by
  refine ⟨rfl, Nat.le_refl _, by unfold maxLen; omega, by simp [h0, h1], (fun e => by cases e), fun _ => ⟨w.heap.size, 0, rfl, hB, fun j u hj => ?_⟩⟩
  have h := At.fresh w [v0, v1] E
  rw [Nat.zero_add]; exact h.cell j hj

/-- A node handed back, where it lies. -/
abbrev KidP (W : World) (q : NodeD) (e : Ending) (w' : World) : Prop := ∃ v, e = .returned v ∧ NodeV w' w'.heap.size q v ∧ Below W.heap.size W w'
end Go.Proofs.YtajclfjedlkbcaaGreatDoor
