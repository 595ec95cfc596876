/- Parts of the proof, one behind the other: RMX, RQF. -/
import Derived.Maps.RangeWalk
import Derived.Deep.RegionHeld3
import Derived.Test.YtajclfjedlkbcaaGreatDoorWD15
import Derived.Test.YtajclfjedlkbcaaGreatDoorWD13
import Derived.Maps.AppendAt
/- Walk: table.Names. -/
namespace Go.Proofs.YtajclfjedlkbcaaGreatDoor
open Go.RowKit Go.Redl Go.Maps
set_option linter.unusedVariables false
set_option linter.unusedSimpArgs false

/-- Block M holds just these texts, in some order. -/
def St (w : World) (M : Nat) (L : List (List UInt8)) : Prop := ∃ acc, SetAt w M L.length acc ∧ ∀ x, x ∈ acc ↔ x ∈ L
theorem St.kept {w w' : World} {M : Nat} {L : List (List UInt8)} (h : St w M L) (hb : Below w.heap.size w w') : St w' M L := by
  obtain ⟨acc, h1, h2⟩ := h
  exact ⟨acc, h1.kept hb, h2⟩
theorem St.lt {w : World} {M : Nat} {L : List (List UInt8)} (h : St w M L) : M < w.heap.size := by
  obtain ⟨acc, h1, h2⟩ := h
  exact h1.lt
theorem St.drew {w : World} {M : Nat} {L : List (List UInt8)} (h : St w M L) : St w.drew M L := h
theorem St.put {w : World} {M : Nat} {L : List (List UInt8)} (h : St w M L) (hn : L.length < maxLen) (k : List UInt8) (hk : k.length ≤ maxLen) :
    ∃ w', (Instr.mapUpdate 99 (.map (some M)) (strV k) (.bool true)).run Tryz.prog w = .ok () w' ∧ St w' M (L ++ [k]) ∧ w.grownBy w' (some M) := by
  obtain ⟨acc, h1, h2⟩ := h
  obtain ⟨w', r1, r2, r3⟩ := h1.put hn k hk
  exact ⟨w', r1, ⟨acc ++ [k], by simpa using r2, fun x => by simp [h2 x]⟩, r3⟩
theorem St.same {w : World} {M : Nat} {L L' : List (List UInt8)} (h : St w M L) (hl : L.length = L'.length) (hm : ∀ x, x ∈ L ↔ x ∈ L') : St w M L' := by
  obtain ⟨acc, h1, h2⟩ := h
  exact ⟨acc, by rw [← hl]; exact h1, fun x => (h2 x).trans (hm x)⟩
/-- A text put in, as one operation of a plain region. -/
theorem wpList_putT {ops : Array Oper} {rest : List Oper} {o : Oper} {a : Act} {w : World} {Q : Exit → Act → World → Prop} (hg : o.guard = none) (m x v : Operand) (ho : o.op = .mapUpdate 99 m x v)
    (b : Nat) (L : List (List UInt8)) (k : List UInt8) (hm : a.eval m = .map (some b)) (hx : a.eval x = strV k) (hv : a.eval v = .bool true) (h : St w b L) (hn : L.length < maxLen) (hk : k.length ≤ maxLen)
    (hK : ∀ w', St w' b (L ++ [k]) → w.grownBy w' (some b) → wpList Tryz.prog ops Q rest (a.put o.dst undef) w') : wpList Tryz.prog ops Q (o :: rest) a w := by
  obtain ⟨w', hrun, r1, r2⟩ := h.put hn k hk
  refine wpList_plain hg fun K' hK' => ?_
  unfold Oper.wp
  simp [execOp, ho, hm, hx, hv, hrun, Result.andThen]
  exact hK' _ _ (hK w' r1 r2)
/-- The four names of a rule by itself. -/
abbrev fourN (r : RuleD) : List (List UInt8) := [r.type, r.text.2, r.other.2, r.fillT]
abbrev pairN (l : List PairD) : List (List UInt8) := l.flatMap fun p => [p.1, p.2.2]
theorem flat_take_succ {α : Type} {f : α → List (List UInt8)} {l : List α} {k : Nat} (hk : k < l.length) : (l.take (k + 1)).flatMap f = (l.take k).flatMap f ++ f l[k] := by
  rw [List.take_succ_eq_append_getElem hk, List.flatMap_append]
  simp
theorem flat_prefix {α : Type} (f : α → List (List UInt8)) (l : List α) (k : Nat) : (l.take k).flatMap f <+: l.flatMap f := by
  refine ⟨(l.drop k).flatMap f, ?_⟩
  rw [← List.flatMap_append, List.take_append_drop]
/-- All that stays, but what block M holds. -/
theorem gb_below {B M : Nat} {w w' : World} (h : w.grownBy w' (some M)) (hB : B ≤ w.heap.size) (hM : B ≤ M) : Below B w w' := (Below.refl B w).grown h hB (fun k e => by cases e; exact hM)
theorem gb_of {w w' : World} {M : Nat} (h : Below w.heap.size w w') : w.grownBy w' (some M) := ⟨h.os, h.tape, h.output, h.size, fun k hk _ => h.block k hk⟩
theorem rowq_gb {w w' : World} {B M sz n cap : Nat} {a : Option Addr} {cs : List Value} (h : RowQ w (fun b => B ≤ b) sz a n cap cs) (hg : w.grownBy w' (some M)) (hM : M < B) : RowQ w' (fun b => B ≤ b) sz a n cap cs :=
  h.keep hg.size (fun b hb hlt => hg.block b hlt (fun e => by injection e with e; omega)) (fun b hb _ => hb)
theorem rule8q {w : World} {B B' n cap : Nat} {a : Option Addr} {rs : List RuleD} {css : List Value} (h : RowA w B' 8 a n cap css) (hr : RulesC w B rs css) (k : Nat) (hk : k < rs.length) :
    ∃ b off ra rc, a = some ⟨b, off, none⟩ ∧ b < B' ∧ RowA w B 3 ra rs[k].kids.length rc (pairCells rs[k].kids) ∧ w.cell? ⟨b, off + k * 8, none⟩ = some (strV rs[k].type) ∧ w.cell? ⟨b, off + k * 8 + 1, none⟩ = some (.int .i64 rs[k].text.1) ∧
      w.cell? ⟨b, off + k * 8 + 2, none⟩ = some (strV rs[k].text.2) ∧ w.cell? ⟨b, off + k * 8 + 3, none⟩ = some (.int .i64 rs[k].other.1) ∧ w.cell? ⟨b, off + k * 8 + 4, none⟩ = some (strV rs[k].other.2) ∧ w.cell? ⟨b, off + k * 8 + 5, none⟩ = some (.slice ra rs[k].kids.length rc) ∧
      w.cell? ⟨b, off + k * 8 + 6, none⟩ = some (.int .i64 rs[k].fill) ∧ w.cell? ⟨b, off + k * 8 + 7, none⟩ = some (strV rs[k].fillT) := by
  obtain ⟨cs, ⟨ra, rc, rfl, h2⟩, h3⟩ := hr.at_ k hk
  have h0 := h3 0 _ (show (ruleCells rs[k] ra rc)[0]? = some (strV rs[k].type) from rfl)
  obtain ⟨b, off, ha, hb, hc⟩ := h.some_ (by rintro rfl; simp at h0)
  have h4 : ∀ j u, (ruleCells rs[k] ra rc)[j]? = some u → w.cell? ⟨b, off + k * 8 + j, none⟩ = some u := fun j u hj => by
    have := hc _ u (h3 j u hj)
    rwa [← Nat.add_assoc] at this
  exact ⟨b, off, ra, rc, ha, hb, h2, h4 0 _ rfl, h4 1 _ rfl, h4 2 _ rfl, h4 3 _ rfl, h4 4 _ rfl, h4 5 _ rfl, h4 6 _ rfl, h4 7 _ rfl⟩
theorem pairN_take {l : List PairD} {j : Nat} (h : j < l.length) : pairN (l.take (j + 1)) = pairN (l.take j) ++ [l[j].1, l[j].2.2] := flat_take_succ h
/-- A bool, wrapped. -/
structure BoolX where
  b : Bool
abbrev boolX (c : BoolX) : Value := .bool c.b
set_option maxRecDepth 100000 in
theorem plainB_inv {v : Value} {y : DataW Unit × List MemPlace} (h : plainElem (H := Unit) Tryz.prog 4 v = some y) : ∃ c : BoolX, v = boolX c := by
  unfold plainElem at h
  rw [Tryz.underlying4] at h
  cases v with
  | bool b => exact ⟨⟨b⟩, rfl⟩
  | _ => cases h
abbrev fullL (l : List (List UInt8)) : List (List UInt8) := l.filter fun x => decide (x ≠ [])
theorem full_len (l : List (List UInt8)) : (fullL l).length ≤ l.length := List.length_filter_le _ _
theorem names_ent : ∀ args w, (callFunc 54 args).run Tryz.prog w = .ok (.enter 54 args) w := by intro args w; kernel_rfl
/-- Names handed back: all that rules hold but the empty one, in a row of their own. -/
abbrev NamesP (s : SchemaD) (W : World) (e : Ending) (w' : World) : Prop :=
  ∃ (v : Value) (out : List (List UInt8)), e = .returned v ∧ w'.ownsRow W.heap.size 9 1 v out.length (out.map strV) ∧ (∀ x, x ∈ out ↔ x ∈ flatN s ∧ x ≠ []) ∧ out.length ≤ s.wt ∧ Below W.heap.size W w'

set_option maxRecDepth 100000 in
set_option maxHeartbeats 8000000 in
theorem names_c (s : SchemaD) (v : Value) (W : World) (hw : s.wt ≤ 100000000) (hv : SchemaV W W.heap.size s v) : Calls Tryz.prog 54 #[v] W (NamesP s W) := by
  have Hv := Lib.hid (fun (w' : World) (hb : Below W.heap.size W w') => hv.keep hb hb.size)
  obtain ⟨sa, sc, css, ea, ec, o0, o1, o2, o3, o4, o5, rfl, -, -, -, -⟩ := hv.open
  have Hwt := Lib.hid hw
  have hfl := flat_len s
  have hfl2 : (flatN s).length ≤ 100000000 := Nat.le_trans hfl hw
  have Hfl := Lib.hid hfl2
  obtain ⟨w0, hw0⟩ : ∃ w0, w0 = W.alloc (Obj.cells #[.slice sa s.rules.length sc, strV s.els.type, .int .i64 s.els.text.1, strV s.els.text.2, .int .i64 s.els.other.1, strV s.els.other.2, .slice ea s.els.kids.length ec, .int .i64 s.els.fill, strV s.els.fillT, .int .i64 o0, .int .i64 o1, .int .i64 o2, .int .i64 o3, .int .i64 o4, .int .i64 o5, .int .i64 s.cap] 30) := ⟨_, rfl⟩
  have hb0 : Below W.heap.size W w0 := by rw [hw0]; exact one_below _ _
  have hA : At w0 W.heap.size [.slice sa s.rules.length sc, strV s.els.type, .int .i64 s.els.text.1, strV s.els.text.2, .int .i64 s.els.other.1, strV s.els.other.2, .slice ea s.els.kids.length ec, .int .i64 s.els.fill, strV s.els.fillT, .int .i64 o0, .int .i64 o1, .int .i64 o2, .int .i64 o3, .int .i64 o4, .int .i64 o5, .int .i64 s.cap] 30 := by rw [hw0]; exact At.fresh W _ _
  have hM0 := hA.lt
  obtain ⟨M, hM⟩ : ∃ M, M = w0.heap.size := ⟨_, rfl⟩
  obtain ⟨w1, hw1⟩ : ∃ w1, w1 = w0.alloc (.map #[] 0) := ⟨_, rfl⟩
  have hmm := @run_makeMap Tryz.prog
  have hb1 : Below W.heap.size W w1 := by rw [hw1]; exact hb0.alloc hb0.size _
  have HS1 := Lib.hid (show St w1 M [] by rw [hw1, hM]; exact ⟨[], SetAt.fresh w0, fun x => Iff.rfl⟩)
  have hld := load_at (P := Tryz.prog) (show At w1 W.heap.size _ _ by rw [hw1]; exact hA.alloc _) Tryz.underlying30 rfl (by kernel_rfl)
  simp [go_sem] at hld
  have HC := Lib.hid (rules_cB s _ W.heap.size w1 hw (hv.keep hb1 (Nat.le_refl _)) hb1.size)
  have Hw0 := Lib.hid hw0; have Hw1 := Lib.hid hw1; have Hb1 := Lib.hid hb1
  have hMW : W.heap.size < M := by rw [hM]; exact hM0
  have HM1 := Lib.hid (show M < w1.heap.size by rw [hw1, hM]; simp)
  have HM := Lib.hid hM
  have h3w : (s.rules.length + 1) * 1 ≤ 100000000 * 1 := by have := rulesWt_len s.rules; unfold SchemaD.wt RuleD.wt at hw; omega
  have hrl1 : (allR s).length ≤ 100000000 := by rw [all_len]; omega
  clear hv hw hfl hfl2 hw0 hb0 hA hM hw1 hb1 hM0 h3w
  go_enter Tryz.func54, Tryz.ntmps54
  go_upto_region 1 with fail
  rw [← Hw0.out]
  clear Hw0
  go_upto_region 2 with fail
  rw [← Hw1.out, ← HM.out]
  clear Hw1 HM hmm
  go_wp2_with fail
  refine HC.out.mono ?_
  rintro e w2 ⟨ra, rc, css2, rfl, hrow, hrcs, hbel⟩
  have HS2 := Lib.hid (HS1.out.kept hbel)
  have Hb2 := Lib.hid (Hb1.out.trans (hbel.mono Hb1.out.size))
  have Hrow := Lib.hid hrow; have Hrcs := Lib.hid hrcs; have Hs12 := Lib.hid hbel.size
  obtain ⟨rs, hrs⟩ : ∃ rs, rs = allR s := ⟨_, rfl⟩
  have Hrs := Lib.hid hrs
  rw [← hrs] at Hrow Hrcs hrl1 ⊢
  clear hrow hrcs hbel HC HS1 hld hrs
  go_wp2_with fail
  go_loopg [16] rs.length (fun g i wr => ∃ k : Nat, i = .int .i64 k ∧ k + g = rs.length ∧ Hid (St wr M ((rs.take k).flatMap ruleNames)) ∧ Hid (w2.grownBy wr (some M)))
  case atStart => exact ⟨0, rfl, by omega, (show St w2 M ((rs.take 0).flatMap ruleNames) from HS2.out), (show World.grownBy _ _ _ from World.grownBy.refl _ _)⟩
  case round =>
    obtain ⟨k, rfl, hg, hst, hbr⟩ := hrel
    obtain ⟨wR, rfl⟩ : ∃ z, z = wr := ⟨_, rfl⟩
    obtain ⟨G, rfl⟩ : ∃ z, z = gk := ⟨_, rfl⟩
    have Hbr := Lib.hid (show Below W.heap.size W wR from Hb2.out.trans (gb_below hbr.out Hb2.out.size (by omega)))
    have HrowR := Lib.hid (rowq_gb Hrow.out hbr.out HM1.out)
    have HrcsR := Lib.hid (RulesC.keep (gb_below hbr.out (Nat.le_trans Hb1.out.size Hs12.out) (by omega)) (Nat.le_refl _) Hrcs.out)
    by_cases hlt : k < rs.length
    ·
      have hlti : (k : Int) < rs.length := by omega
      obtain ⟨b, off, qa, qc, rfl, hlb, hkr, p0, p1, p2, p3, p4, p5, p6, p7⟩ := rule8q HrowR.out.row HrcsR.out k hlt
      have Hts := Lib.hid (flat_take_succ (f := ruleNames) hlt)
      have Hpre := Lib.hid (show (rs.take k).flatMap ruleNames ++ ruleNames rs[k] <+: flatN s by rw [← Hts.out, Hrs.out]; exact flat_prefix ruleNames _ _)
      generalize rs[k] = q at hkr p0 p1 p2 p3 p4 p5 p6 p7 Hts Hpre
      obtain ⟨PRE, hPRE⟩ : ∃ PRE, PRE = (rs.take k).flatMap ruleNames := ⟨_, rfl⟩
      rw [← hPRE] at hst Hts Hpre
      have HPRE := Lib.hid hPRE
      have Hkr := Lib.hid hkr
      obtain ⟨w3, hw3⟩ : ∃ w3, w3 = wR.alloc (Obj.cells #[strV q.type, .int .i64 q.text.1, strV q.text.2, .int .i64 q.other.1, strV q.other.2, .slice qa q.kids.length qc, .int .i64 q.fill, strV q.fillT] 27) := ⟨_, rfl⟩
      obtain ⟨w4, hw4⟩ : ∃ w4, w4 = w3.alloc (Obj.cells #[strV q.type, strV q.text.2, strV q.other.2, strV q.fillT] 9) := ⟨_, rfl⟩
      have hX3 : At w3 wR.heap.size [strV q.type, .int .i64 q.text.1, strV q.text.2, .int .i64 q.other.1, strV q.other.2, .slice qa q.kids.length qc, .int .i64 q.fill, strV q.fillT] 27 := by rw [hw3]; exact At.fresh wR _ _
      have hb3 : Below wR.heap.size wR w3 := by rw [hw3]; exact one_below _ _
      have hb4 : Below wR.heap.size wR w4 := by rw [hw4]; exact hb3.trans ((one_below w3 _).mono hb3.size)
      have HX4 := Lib.hid (show At w4 wR.heap.size [strV q.type, .int .i64 q.text.1, strV q.text.2, .int .i64 q.other.1, strV q.other.2, .slice qa q.kids.length qc, .int .i64 q.fill, strV q.fillT] 27 by rw [hw4]; exact hX3.alloc _)
      have HY4 := Lib.hid (show At w4 w3.heap.size ((fourN q).map strV) 9 by rw [hw4]; exact At.fresh w3 _ _)
      have Hb4 := Lib.hid hb4
      have Hw3 := Lib.hid hw3; have Hw4 := Lib.hid hw4
      have HS4 := Lib.hid (hst.out.kept hb4)
      have HMR := Lib.hid (show M < wR.heap.size from hst.out.lt)
      have hM3 : wR.heap.size < w3.heap.size := hX3.lt
      obtain ⟨⟨x0, x1, x2, x3, x4, x5, x6, x7⟩, -, xl⟩ := hX3.f8
      clear hw3 hw4 hX3 hb3 hb4 hlb hkr hPRE hst
      go_upto_region 5 with fail
      rw [← Hw3.out]
      clear Hw3 p0 p1 p2 p3 p4 p5 p6 p7
      go_wp2_with fail
      rw [← Hw4.out]
      clear Hw4 x0 x1 x2 x3 x4 x5 x6 x7
      go_loopg [32] 4 (fun g i wx => ∃ j : Nat, i = .int .i64 j ∧ j + g = 4 ∧ Hid (St wx M (PRE ++ (fourN q).take j)) ∧ Hid (w4.grownBy wx (some M)))
      case atStart => exact ⟨0, rfl, by omega, (show St w4 M (PRE ++ (fourN q).take 0) by simpa using HS4.out), (show World.grownBy _ _ _ from World.grownBy.refl _ _)⟩
      case round =>
        obtain ⟨j, rfl, hg2, hst, hbw⟩ := hrel
        obtain ⟨wI, rfl⟩ : ∃ z, z = wr := ⟨_, rfl⟩
        have HXI := Lib.hid (HX4.out.grown hbw.out (by intro e; injection e with e; have := HMR.out; omega))
        have hYI := HY4.out.grown hbw.out (by intro e; injection e with e; have := HMR.out; omega)
        have hfour : (fourN q).length = 4 := rfl
        by_cases hj : j < 4
        · have hji : (j : Int) < 4 := by omega
          have hjf : j < (fourN q).length := hj
          have hc := hYI.cell j (v := strV (fourN q)[j]) (by rw [List.getElem?_map, List.getElem?_eq_getElem hjf]; rfl)
          have Hts2 := Lib.hid (List.take_succ_eq_append_getElem hjf)
          have Hin := Lib.hid (show (fourN q)[j].length ≤ maxLen ∧ (PRE ++ (fourN q).take j).length < maxLen from by
            have h1 : (fourN q)[j] ∈ flatN s := Hpre.out.subset (List.mem_append_right _ (List.mem_append_left _ (List.getElem_mem hjf)))
            have h2 := flat_wt h1
            have h3 := Hwt.out
            have h4 := Hpre.out.length_le
            have h5 : (ruleNames q).length = 4 + (pairN q.kids).length := by simp [ruleNames, pairN]; omega
            have h6 := Hfl.out
            simp only [List.length_append, List.length_take, hfour] at h4 ⊢
            unfold maxLen
            refine ⟨by omega, by omega⟩)
          generalize (fourN q)[j] = t at hc Hts2 Hin
          clear hYI hjf hfour
          go_wp2_with (at_mapUpdate; refine wpList_putT rfl _ _ _ rfl M (PRE ++ (fourN q).take j) t rfl rfl rfl hst.out ?hn ?hk ?_)
          case hn => exact Hin.out.2
          case hk => exact Hin.out.1
          intro w5 hs5 hg5
          have HS5 := Lib.hid (show St w5 M (PRE ++ (fourN q).take (j + 1)) by rw [Hts2.out]; exact hs5)
          have HG5 := Lib.hid (grownBy_trans hbw.out hg5)
          clear hs5 hg5 hc
          go_wp2_with fail
          go_roundg (4 - (j + 1))
          case measure => omega
          case rel => exact ⟨j + 1, by go_num, by omega, HS5, HG5⟩
        · obtain rfl : j = 4 := by omega
          have HS5 := Lib.hid (show St wI M (PRE ++ fourN q ++ pairN (q.kids.take 0)) by have h := hst.out; rw [show (fourN q).take 4 = fourN q from rfl] at h; simpa [pairN] using h)
          obtain ⟨⟨x0, x1, x2, x3, x4, x5, x6, x7⟩, -, xl⟩ := HXI.out.f8
          have HbI := Lib.hid (show Below W.heap.size W wI from (Hbr.out.trans (Hb4.out.mono Hbr.out.size)).trans (gb_below hbw.out (Nat.le_trans Hbr.out.size Hb4.out.size) (by omega)))
          have HGI := Lib.hid (show w2.grownBy wI (some M) from grownBy_trans hbr.out (grownBy_trans (gb_of Hb4.out) hbw.out))
          have hqk : q.kids.length ≤ 100000000 := by
            have h4 := Hpre.out.length_le
            have h5 : (ruleNames q).length = 4 + 2 * q.kids.length := by
              unfold ruleNames
              rw [List.length_append, show (q.kids.flatMap (fun p => [p.1, p.2.2])).length = 2 * q.kids.length from by
                generalize q.kids = l
                induction l with
                | nil => rfl
                | cons p l ih => rw [List.flatMap_cons, List.length_append, ih]; simp; omega]
              rfl
            have h6 := Hfl.out
            rw [List.length_append] at h4
            omega
          have HGR := Lib.hid (show wR.grownBy wI (some M) from grownBy_trans (gb_of Hb4.out) hbw.out)
          clear hst hYI hfour x0 x1 x2 x3 x4 x6 x7
          go_wp2_with fail
          go_loopg [42] q.kids.length (fun g i wx => ∃ j : Nat, i = .int .i64 j ∧ j + g = q.kids.length ∧ Hid (St wx M (PRE ++ fourN q ++ pairN (q.kids.take j))) ∧ Hid (wI.grownBy wx (some M)))
          case atStart => exact ⟨0, rfl, by omega, HS5, (show World.grownBy _ _ _ from World.grownBy.refl _ _)⟩
          case round =>
            obtain ⟨j, rfl, hg3, hst, hbk⟩ := hrel
            obtain ⟨wJ, rfl⟩ : ∃ z, z = wr := ⟨_, rfl⟩
            have HGJ := Lib.hid (grownBy_trans HGI.out hbk.out)
            by_cases hj : j < q.kids.length
            · have hji : (j : Int) < q.kids.length := by omega
              have HbRJ := gb_below (grownBy_trans HGR.out hbk.out) Hbr.out.size (Nat.le_of_lt hMW)
              obtain ⟨pb, po, rfl, hpb, c0, c1, c2⟩ := (Hkr.out.keep HbRJ (Nat.le_refl _)).pair_at j hj
              have Hts3 := Lib.hid (pairN_take hj)
              have Hin := Lib.hid (show (q.kids[j].1.length ≤ maxLen ∧ q.kids[j].2.2.length ≤ maxLen) ∧ (PRE ++ fourN q ++ pairN (q.kids.take j)).length + 1 < maxLen from by
                have hm1 : q.kids[j].1 ∈ flatN s := Hpre.out.subset (List.mem_append_right _ (List.mem_append_right _ (List.mem_flatMap.2 ⟨_, List.getElem_mem hj, by simp⟩)))
                have hm2 : q.kids[j].2.2 ∈ flatN s := Hpre.out.subset (List.mem_append_right _ (List.mem_append_right _ (List.mem_flatMap.2 ⟨_, List.getElem_mem hj, by simp⟩)))
                have h1 := flat_wt hm1
                have h2 := flat_wt hm2
                have h3 := Hwt.out
                have h4 := Hpre.out.length_le
                have h5 : (ruleNames q).length = 4 + (pairN q.kids).length := by simp [ruleNames, pairN]; omega
                have h6 := Hfl.out
                have h7 : (pairN (q.kids.take j)).length ≤ (pairN q.kids).length := (flat_prefix (fun p : PairD => [p.1, p.2.2]) q.kids j).length_le
                have h8 : (fourN q).length = 4 := rfl
                rw [List.length_append, h5] at h4
                rw [List.length_append, List.length_append, h8]
                unfold maxLen
                exact ⟨⟨by omega, by omega⟩, by omega⟩)
              generalize q.kids[j] = p at c0 c1 c2 Hts3 Hin
              obtain ⟨p0, p1, p2⟩ := p
              simp only at c0 c1 c2 Hin
              obtain ⟨w6, hw6⟩ : ∃ w6, w6 = wJ.alloc (Obj.cells #[strV p0, .int .i64 p1, strV p2] 70) := ⟨_, rfl⟩
              have hb6 : Below wJ.heap.size wJ w6 := by rw [hw6]; exact one_below _ _
              have hX6 : At w6 wJ.heap.size [strV p0, .int .i64 p1, strV p2] 70 := by rw [hw6]; exact At.fresh wJ _ _
              have HMJ := Lib.hid (show M < wJ.heap.size from hst.out.lt)
              obtain ⟨L, hL⟩ : ∃ L, L = PRE ++ fourN q ++ pairN (q.kids.take j) := ⟨_, rfl⟩
              have hs6 : St w6 M L := by rw [hL]; exact hst.out.kept hb6
              have HL := Lib.hid hL
              have hin := Hin.out
              rw [← hL] at hin
              have hne6 : (some M : Option Nat) ≠ some wJ.heap.size := by intro e; injection e with e; have := HMJ.out; omega
              obtain ⟨wa, ea, sa, ga⟩ := hs6.drew.put (by omega) p0 hin.1.1
              obtain ⟨wab, eab, sab, gab⟩ := sa.put (by simp; omega) p2 hin.1.2
              obtain ⟨wb, eb, sb, gb⟩ := hs6.drew.put (by omega) p2 hin.1.2
              obtain ⟨wba, eba, sba, gba⟩ := sb.put (by simp; omega) p0 hin.1.1
              have X6 := Lib.hid hX6.f3.1
              have XA := Lib.hid (At.grown (w := w6.drew) hX6 ga hne6).f3.1
              have XB := Lib.hid (At.grown (w := w6.drew) hX6 gb hne6).f3.1
              have XAB := Lib.hid ((At.grown (w := w6.drew) hX6 ga hne6).grown gab hne6).f3.1
              have XBA := Lib.hid ((At.grown (w := w6.drew) hX6 gb hne6).grown gba hne6).f3.1
              have HGa := Lib.hid (show wI.grownBy wab (some M) from grownBy_trans hbk.out (grownBy_trans (gb_of hb6) (grownBy_trans (show w6.grownBy wa (some M) from ⟨ga.os, ga.tape, ga.output, ga.size, ga.block⟩) gab)))
              have HGb := Lib.hid (show wI.grownBy wba (some M) from grownBy_trans hbk.out (grownBy_trans (gb_of hb6) (grownBy_trans (show w6.grownBy wb (some M) from ⟨gb.os, gb.tape, gb.output, gb.size, gb.block⟩) gba)))
              have HSa := Lib.hid (show St wab M (PRE ++ fourN q ++ pairN (q.kids.take (j + 1))) from sab.same (by rw [Hts3.out, hL]; simp) (fun x => by rw [Hts3.out, hL]; simp [or_assoc]))
              have HSb := Lib.hid (show St wba M (PRE ++ fourN q ++ pairN (q.kids.take (j + 1))) from sba.same (by rw [Hts3.out, hL]; simp) (fun x => by rw [Hts3.out, hL]; simp [or_assoc, or_comm, or_left_comm]))
              have Hw6 := Lib.hid hw6
              clear hw6 hX6 hb6 hs6 hL hin hne6 hpb hst sa sb ga gb gab gba sab sba
              go_upto_region 13 with fail
              rw [← Hw6.out]
              clear Hw6 c0 c1 c2
              go_region_held3 (fun w' => w'.cell? ⟨wJ.heap.size, 0, none⟩ = some (strV p0) ∧ w'.cell? ⟨wJ.heap.size, 1, none⟩ = some (.int .i64 p1) ∧ w'.cell? ⟨wJ.heap.size, 2, none⟩ = some (strV p2)) (first | exact X6.out | exact XA.out | exact XB.out | exact XAB.out | exact XBA.out)
                (fail)
              all_goals
                go_wp2_with fail
                go_roundg (q.kids.length - (j + 1))
                case measure => omega
                case rel => first | exact ⟨j + 1, by go_num, by omega, HSa, HGa⟩ | exact ⟨j + 1, by go_num, by omega, HSb, HGb⟩
            · obtain rfl : j = q.kids.length := by omega
              have HSF := Lib.hid (show St wJ M ((rs.take (k + 1)).flatMap ruleNames) by
                have h := hst.out
                rw [List.take_length] at h
                rw [Hts.out]
                unfold ruleNames
                simpa [pairN] using h)
              clear hst
              go_wp2_with fail
              go_roundg (rs.length - (k + 1))
              case measure => omega
              case rel => exact ⟨k + 1, by go_num, by omega, HSF, HGJ⟩
    · obtain rfl : k = rs.length := by omega
      obtain ⟨acc, hset, hmem⟩ := (show St wR M (flatN s) by have h := hst.out; rw [List.take_length, Hrs.out] at h; exact h)
      obtain ⟨N0, hN0⟩ : ∃ N0, N0 = (flatN s).length := ⟨_, rfl⟩
      have hsz := World.ownsMap.size_le hset
      rw [← hN0] at hset hsz
      have HN0 := Lib.hid (show N0 ≤ 100000000 ∧ N0 ≤ s.wt by rw [hN0]; exact ⟨Hfl.out, flat_len s⟩)
      have Hmem := Lib.hid hmem
      have Hsz := Lib.hid hsz
      obtain ⟨D0, hD0⟩ : ∃ D0, D0 = setS acc := ⟨_, rfl⟩
      have hown : wR.ownsMap Tryz.prog 9 (plainElem (H := Unit) Tryz.prog 4) M N0 D0 := by rw [hD0]; exact hset
      rw [← hD0] at Hsz
      have HD0 := Lib.hid hD0
      have hMR := hset.lt
      obtain ⟨i0, hi, hz0, hz1, hz2⟩ := info_parts info_strT
      clear hst hset hmem hsz hN0 hD0
      go_wp2_with (first
        | (at_range; refine wpList_range_own _ rfl _ 99 rfl 9 4 strLaw Tryz.underlying99 _ M N0 _ rfl hown ?_; intro w7 hrg0 hg0 hs0)
        | go_in)
      go_frame
      go_loopw [10] (fun u wr => ∃ (v : Value) (left : Lit → Bool) (cnt : Nat) (ss : List (List UInt8)), v = u ∧ wr.ranges Tryz.prog 9 (plainElem (H := Unit) Tryz.prog 4) M wR.heap.size N0 D0 left cnt ∧ ss.length + cnt ≤ Maps.size D0 ∧
          wr.ownsRow wR.heap.size 9 1 v (fullL ss).length ((fullL ss).map strV) ∧ Collected D0 left ss ∧ Below wR.heap.size wR wr)
        (fun _ wr => wr.rangeLeft M wR.heap.size)
      case atStart =>
        exact ⟨_, _, _, [], rfl, hrg0, by simp, World.ownsRow_nil _ _ _ _, Collected.start D0, (Below.refl _ _).grown hg0 (Nat.le_refl _) (fun j hj => by cases hj)⟩
      case round =>
        obtain ⟨v, left, cnt, ss, rfl, hrg, hcs, hrow, hC, hnx⟩ := hrel
        go_wp2_with (first
          | (at_next; refine wpList_next_ranges _ rfl _ rfl 9 strLaw (plainElem (H := Unit) Tryz.prog 4) encStr boolX (fun key kl hk => by obtain ⟨x, hx, _⟩ := Maps.keyOf_str Tryz.underlying9 hk; exact ⟨x, hx⟩) (fun v y hv => plainB_inv hv) M wR.heap.size N0 _ _ _ rfl hrg ?_ ?_)
          | go_in)
        ·
          intro hc0 hl0
          have hlen : (fullL ss).length ≤ s.wt ∧ (fullL ss).length ≤ 100000000 := by have h1 := full_len ss; have h2 := HN0.out; have h3 := Hsz.out; constructor <;> omega
          have HC := Lib.hid (sortS_c (fullL ss) v wR.heap.size wr hrow hlen.2)
          have Hmm := Lib.hid (show ∀ x, x ∈ srtS (fullL ss) ↔ x ∈ flatN s ∧ x ≠ [] from fun x => by
            rw [List.mem_mergeSort, List.mem_filter, hC.2 x, hl0, HD0.out, setS_has, ← Hmem.out x]
            simp)
          have Hlen := Lib.hid hlen
          have Hrow := Lib.hid hrow
          have Hnx := Lib.hid hnx
          have HSE := sortS_ent
          clear hrow hnx hC hlen hrg hcs hown hc0 hl0
          go_wp2_with fail
          refine HC.out.mono ?_
          rintro e w8 ⟨rfl, hown2, hgrow⟩
          have Ho2 := Lib.hid hown2
          have Hb8 := Lib.hid (Hnx.out.grown hgrow Hnx.out.size (fun k hk => (Hrow.out.lt k hk).1))
          clear hown2 hgrow HC
          go_wp2_with fail
          go_ret
          refine ⟨v, srtS (fullL ss), rfl, ?_, Hmm.out, by rw [List.length_mergeSort]; exact Hlen.out.1, Hbr.out.trans (Hb8.out.mono Hbr.out.size)⟩
          rw [List.length_mergeSort]
          exact own_mono Ho2.out Hbr.out.size
        ·
          intro x c kl yd yp w8 cnt2 hkey hlk hv hat hrg2 hlt hg2 hs2 hen
          obtain ⟨x', ex, rfl, hxl⟩ := Maps.keyOf_str Tryz.underlying9 hkey
          obtain rfl : x = x' := encStr_inj ex
          have hrow2 := hrow.kept hg2 (Or.inr (row_ne_iter hrow hrg).symm)
          have hnx2 := hnx.grown hg2 hnx.size (fun j hj => by cases hj; exact Nat.le_refl _)
          have hC2 := hC.step hlk hat
          have hlt2 : cnt2 < wr.rangeLeft M wR.heap.size := by rw [hrg.left_eq]; exact hlt
          have hfl := full_len ss
          have hN := HN0.out.1
          have hsz := Hsz.out
          have Hrg2 := Lib.hid hrg2; have Hnx2 := Lib.hid hnx2; have HC2 := Lib.hid hC2; have Hcs2 := Lib.hid (show (ss ++ [x]).length + cnt2 ≤ Maps.size D0 by simp; omega)
          have Hlt2 := Lib.hid hlt2
          clear hs2 hg2 hat hv hlk hkey hC hrow hrg hnx hC2 hnx2 hlt hlt2 ex hown
          cases x with
          | nil =>
            have Hf := Lib.hid (show fullL (ss ++ [[]]) = fullL ss by simp [fullL])
            go_wp2_with fail
            go_roundw
            case rel => exact ⟨v, _, cnt2, ss ++ [[]], rfl, Hrg2.out, Hcs2.out, by rw [Hf.out]; exact hrow2, HC2.out, Hnx2.out⟩
            case measure => rw [Hrg2.out.left_eq]; exact Hlt2.out
          | cons x0 xs =>
            have Hf := Lib.hid (show fullL (ss ++ [x0 :: xs]) = fullL ss ++ [x0 :: xs] by simp [fullL])
            have hne : ((⟨(x0 :: xs).toArray⟩ : ByteArray).toList.isEmpty) = false := by rw [ByteArray.toList_mk]; rfl
            go_wp2_with (at_builtin; refine wpList_append_own _ rfl _ _ 91 rfl wR.heap.size 9 i0 (.string ⟨#[]⟩) 1 16 Tryz.underlying91 hi hz0 hz1 hz2 rfl (by decide) _ _ _ rfl (hrow2.alloc _) ⟨w8.heap.size, 0, none⟩ 1 1 [strV (x0 :: xs)] rfl rfl (cell_one_new _ _ _) (by simp [Value.oneCell']) (by unfold maxLen at *; omega) (by omega) (by have := Hnx2.out.size; simp; omega) ?_; intro v' w9 hown' hg3 hnil3; go_frame)
            have Hs8 := Lib.hid Hnx2.out.size
            have hrg3 := (Hrg2.out.alloc (Obj.cells #[strV (x0 :: xs)] 9)).kept hg3 (row_ne_low hrow2 hMR) (row_ne_iter hrow2 Hrg2.out)
            have hb9 := (Hnx2.out.alloc Hs8.out (Obj.cells #[strV (x0 :: xs)] 9)).grown hg3 (Nat.le_trans Hs8.out (one_below w8 _).size) (fun j hj => (hrow2.lt j hj).1)
            have Hrg3 := Lib.hid hrg3; have Hb9 := Lib.hid hb9
            have Ho9 := Lib.hid (show w9.ownsRow wR.heap.size 9 1 v' (fullL (ss ++ [x0 :: xs])).length ((fullL (ss ++ [x0 :: xs])).map strV) by rw [Hf.out]; simpa using hown')
            clear hrg3 hb9 hown' hg3 hnil3 hrow2
            go_roundw
            case rel => exact ⟨v', _, cnt2, ss ++ [x0 :: xs], rfl, Hrg3.out, Hcs2.out, Ho9.out, HC2.out, Hb9.out⟩
            case measure => rw [Hrg3.out.left_eq]; exact Hlt2.out

end Go.Proofs.YtajclfjedlkbcaaGreatDoor
/- Walk: the reference's Names. -/
namespace Go.Proofs.YtajclfjedlkbcaaGreatDoor
open Go.RowKit Go.Redl
set_option linter.unusedVariables false
set_option linter.unusedSimpArgs false

theorem nil_or_snoc {α : Type} (l : List α) : l = [] ∨ ∃ o p, l = o ++ [p] := by
  rcases List.eq_nil_or_concat l with h | ⟨o, p, h⟩
  · exact .inl h
  · exact .inr ⟨o, p, by rw [h, List.concat_eq_append]⟩
theorem rnames_ent : ∀ args w, (callFunc 106 args).run Tryz.prog w = .ok (.enter 106 args) w := by intro args w; kernel_rfl
theorem strs_one (l : List (List UInt8)) : ∀ u ∈ l.map strV, u.oneCell' = true := fun u hu => by obtain ⟨t, -, rfl⟩ := List.mem_map.1 hu; rfl
set_option maxRecDepth 100000 in
set_option maxHeartbeats 8000000 in
theorem rnames_c (s : SchemaD) (v : Value) (B : Nat) (W : World) (hw : s.wt ≤ 100000000) (hv : SchemaV W B s v) (hB : B ≤ W.heap.size) : Calls Tryz.prog 106 #[v] W (NamesP s W) := by
  have hv0 := hv
  obtain ⟨sa, sc, css, ea, ec, o0, o1, o2, o3, o4, o5, rfl, -, -, -, -⟩ := hv.open
  have Hwt := Lib.hid hw
  have Hfl := Lib.hid (show (flatN s).length ≤ 100000000 from Nat.le_trans (flat_len s) hw)
  obtain ⟨w0, hw0⟩ : ∃ w0, w0 = W.alloc (Obj.cells #[.slice sa s.rules.length sc, strV s.els.type, .int .i64 s.els.text.1, strV s.els.text.2, .int .i64 s.els.other.1, strV s.els.other.2, .slice ea s.els.kids.length ec, .int .i64 s.els.fill, strV s.els.fillT, .int .i64 o0, .int .i64 o1, .int .i64 o2, .int .i64 o3, .int .i64 o4, .int .i64 o5, .int .i64 s.cap] 30) := ⟨_, rfl⟩
  have hb0 : Below W.heap.size W w0 := by rw [hw0]; exact one_below _ _
  have hA : At w0 W.heap.size [.slice sa s.rules.length sc, strV s.els.type, .int .i64 s.els.text.1, strV s.els.text.2, .int .i64 s.els.other.1, strV s.els.other.2, .slice ea s.els.kids.length ec, .int .i64 s.els.fill, strV s.els.fillT, .int .i64 o0, .int .i64 o1, .int .i64 o2, .int .i64 o3, .int .i64 o4, .int .i64 o5, .int .i64 s.cap] 30 := by rw [hw0]; exact At.fresh W _ _
  have hld := load_at (P := Tryz.prog) hA Tryz.underlying30 rfl (by kernel_rfl)
  simp [go_sem] at hld
  have HC := Lib.hid (rall_x s _ B w0 hw (hv0.keep (hb0.mono hB) (Nat.le_refl _)) (Nat.le_trans hB hb0.size))
  have Hw0 := Lib.hid hw0; have Hb0 := Lib.hid hb0
  have hrl1 : (allR s).length ≤ 100000000 := by have := rulesWt_len s.rules; unfold SchemaD.wt RuleD.wt at hw; rw [all_len]; omega
  have HB := Lib.hid hB
  have xl := hA.lt
  clear hv hv0 hw hw0 hb0 hA hB
  go_enter Tryz.func106, Tryz.ntmps106
  go_upto_region 1 with fail
  rw [← Hw0.out]
  clear Hw0
  go_wp2_with fail
  refine HC.out.mono ?_
  rintro e w2 ⟨ra, rc, css2, rfl, hrow, hrcs, hbel⟩
  have Hb2 := Lib.hid (Hb0.out.trans (hbel.mono Hb0.out.size))
  have HB2 := Lib.hid (Nat.le_trans HB.out Hb2.out.size)
  have Hrow := Lib.hid hrow.row; have Hrcs := Lib.hid hrcs
  obtain ⟨rs, hrs⟩ : ∃ rs, rs = allR s := ⟨_, rfl⟩
  have Hrs := Lib.hid hrs
  rw [← hrs] at Hrow Hrcs hrl1 ⊢
  clear hrow hrcs hbel HC hld hrs xl
  go_wp2_with fail
  go_loopg [15, 3] rs.length (fun g i uu wr => ∃ (k : Nat) (u : Value), i = .int .i64 k ∧ u = uu ∧ k + g = rs.length ∧ Hid (wr.ownsRow w2.heap.size 9 1 u ((rs.take k).flatMap ruleNames).length (((rs.take k).flatMap ruleNames).map strV)) ∧ Hid (Below w2.heap.size w2 wr))
  case atStart => exact ⟨0, _, rfl, rfl, by omega, (show World.ownsRow _ _ _ _ _ _ _ from World.ownsRow_nil _ _ _ _), (show Below _ _ _ from Below.refl _ _)⟩
  case round =>
    obtain ⟨k, u, rfl, rfl, hg, hown, hbr⟩ := hrel
    obtain ⟨wR, rfl⟩ : ∃ z, z = wr := ⟨_, rfl⟩
    by_cases hlt : k < rs.length
    ·
      have hlti : (k : Int) < rs.length := by omega
      obtain ⟨b, off, qa, qc, rfl, hlb, hkr, p0, p1, p2, p3, p4, p5, p6, p7⟩ := rule8q Hrow.out Hrcs.out k hlt
      have hcl := fun (j : Nat) => hbr.out.cell (p := ⟨b, j, none⟩) hlb
      replace p0 := (hcl _).trans p0
      replace p1 := (hcl _).trans p1
      replace p2 := (hcl _).trans p2
      replace p3 := (hcl _).trans p3
      replace p4 := (hcl _).trans p4
      replace p5 := (hcl _).trans p5
      replace p6 := (hcl _).trans p6
      replace p7 := (hcl _).trans p7
      clear hcl
      have Hts := Lib.hid (flat_take_succ (f := ruleNames) hlt)
      have Hpre := Lib.hid (show (rs.take k).flatMap ruleNames ++ ruleNames rs[k] <+: flatN s by rw [← Hts.out, Hrs.out]; exact flat_prefix ruleNames _ _)
      generalize rs[k] = q at hkr p0 p1 p2 p3 p4 p5 p6 p7 Hts Hpre
      obtain ⟨PRE, hPRE⟩ : ∃ PRE, PRE = (rs.take k).flatMap ruleNames := ⟨_, rfl⟩
      rw [← hPRE] at hown Hts Hpre
      have Hlen := Lib.hid (show PRE.length + 4 + 2 * q.kids.length ≤ 100000000 by
        have h4 := Hpre.out.length_le
        have h5 : (ruleNames q).length = 4 + 2 * q.kids.length := by
          unfold ruleNames
          rw [List.length_append, show (q.kids.flatMap (fun p => [p.1, p.2.2])).length = 2 * q.kids.length from by
            generalize q.kids = l
            induction l with
            | nil => rfl
            | cons p l ih => rw [List.flatMap_cons, List.length_append, ih]; simp; omega]
          rfl
        have h6 := Hfl.out
        rw [List.length_append, h5] at h4
        omega)
      have HPRE := Lib.hid hPRE
      have Hkr := Lib.hid (fun (w' : World) (hb : Below w2.heap.size w2 w') => hkr.keep (hb.mono HB2.out) (Nat.le_refl _))
      obtain ⟨w3, hw3⟩ : ∃ w3, w3 = wR.alloc (Obj.cells #[strV q.type, .int .i64 q.text.1, strV q.text.2, .int .i64 q.other.1, strV q.other.2, .slice qa q.kids.length qc, .int .i64 q.fill, strV q.fillT] 27) := ⟨_, rfl⟩
      have hX3 : At w3 wR.heap.size [strV q.type, .int .i64 q.text.1, strV q.text.2, .int .i64 q.other.1, strV q.other.2, .slice qa q.kids.length qc, .int .i64 q.fill, strV q.fillT] 27 := by rw [hw3]; exact At.fresh wR _ _
      have hb3 : Below wR.heap.size wR w3 := by rw [hw3]; exact one_below _ _
      have Hb3 := Lib.hid hb3; have Hw3 := Lib.hid hw3; have HX3 := Lib.hid hX3
      have Ho3 := Lib.hid (own_keep hown.out hb3)
      obtain ⟨⟨x0, x1, x2, x3, x4, x5, x6, x7⟩, -, xl⟩ := hX3.f8
      clear hw3 hX3 hb3 hlb hkr hPRE
      go_upto_region 5 with fail
      rw [← Hw3.out]
      clear Hw3 p0 p1 p2 p3 p4 p5 p6 p7
      have hlen := Hlen.out
      go_upto_region 6 with (at_builtin; refine wpList_app rfl _ _ 91 rfl w2.heap.size 9 (.string ⟨#[]⟩) 1 16 Tryz.underlying91 info_strT rfl (by decide) _ _ _ rfl (own_keep Ho3.out (one_below w3 _)) _ 4 4 (w3.heap.size + 1) ((fourN q).map strV) rfl (row_strs (T := 9) (At.fresh w3 ((fourN q).map strV) _) (by show 4 ≤ 100000000; omega)) (by unfold maxLen; omega) (by omega) (Nat.le_trans (Nat.le_trans hbr.out.size Hb3.out.size) (one_below w3 _).size) ?_; intro v4 w4 hown4 hgrow4; go_frame)
      have hb34 : Below w2.heap.size w2 (w3.alloc (Obj.cells #[strV q.type, strV q.text.2, strV q.other.2, strV q.fillT] 9)) := (hbr.out.trans (Hb3.out.mono hbr.out.size)).trans ((one_below w3 _).mono (Nat.le_trans hbr.out.size Hb3.out.size))
      have Hb4 := Lib.hid (hb34.grown hgrow4 hb34.size (fun j hj => (Ho3.out.lt j hj).1))
      have Ho4 := Lib.hid (show w4.ownsRow w2.heap.size 9 1 v4 (PRE ++ fourN q ++ pairN (q.kids.take 0)).length ((PRE ++ fourN q ++ pairN (q.kids.take 0)).map strV) by
        rw [show PRE ++ fourN q ++ pairN (q.kids.take 0) = PRE ++ fourN q by simp [pairN], List.map_append, List.length_append]
        exact hown4)
      have HX4 := Lib.hid ((HX3.out.alloc (Obj.cells #[strV q.type, strV q.text.2, strV q.other.2, strV q.fillT] 9)).grown hgrow4 (fun e => by have := (hown.out.lt _ e).2; omega))
      have y5 := HX4.out.cell 5 (v := .slice qa q.kids.length qc) rfl
      have hxl4 := HX4.out.lt
      have hkl : q.kids.length ≤ 100000000 := by omega
      clear hown4 hgrow4 hb34 x0 x1 x2 x3 x4 x5 x6 x7 xl Ho3 HX3 hlen
      go_wp2_with fail
      go_loopg [35, 3] q.kids.length (fun g i u wx => ∃ j : Nat, i = .int .i64 j ∧ j + g = q.kids.length ∧ Hid (wx.ownsRow w2.heap.size 9 1 u (PRE ++ fourN q ++ pairN (q.kids.take j)).length ((PRE ++ fourN q ++ pairN (q.kids.take j)).map strV)) ∧ Hid (Below w2.heap.size w2 wx))
      case atStart => exact ⟨0, rfl, by omega, Ho4, Hb4⟩
      case round =>
        obtain ⟨j, rfl, hg3, hox, hbk⟩ := hrel
        obtain ⟨wJ, rfl⟩ : ∃ z, z = wr := ⟨_, rfl⟩
        by_cases hj : j < q.kids.length
        · have hji : (j : Int) < q.kids.length := by omega
          obtain ⟨pb, po, rfl, hpb, c0, c1, c2⟩ := (Hkr.out wJ hbk.out).pair_at j hj
          have Hts3 := Lib.hid (pairN_take hj)
          generalize q.kids[j] = p at c0 c1 c2 Hts3
          obtain ⟨p0, p1, p2⟩ := p
          simp only at c0 c1 c2
          obtain ⟨L, hL⟩ : ∃ L, L = PRE ++ fourN q ++ pairN (q.kids.take j) := ⟨_, rfl⟩
          rw [← hL] at hox
          have HL := Lib.hid (show PRE ++ fourN q ++ pairN (q.kids.take (j + 1)) = L ++ [p0, p2] by rw [Hts3.out, hL]; simp)
          have hLl : L.length + 2 ≤ 100000000 := by
            have h9 := Hlen.out
            have h8 : (pairN (q.kids.take j)).length = 2 * j := by
              rw [show pairN (q.kids.take j) = (q.kids.take j).flatMap (fun p => [p.1, p.2.2]) from rfl]
              have : ∀ l : List PairD, (l.flatMap (fun p => [p.1, p.2.2])).length = 2 * l.length := by
                intro l
                induction l with
                | nil => rfl
                | cons p l ih => rw [List.flatMap_cons, List.length_append, ih]; simp; omega
              rw [this, List.length_take, Nat.min_eq_left (by omega)]
            have h7 : (fourN q).length = 4 := rfl
            rw [hL, List.length_append, List.length_append, h7, h8]
            omega
          obtain ⟨w6, hw6⟩ : ∃ w6, w6 = wJ.alloc (Obj.cells #[strV p0, .int .i64 p1, strV p2] 70) := ⟨_, rfl⟩
          have hb6 : Below wJ.heap.size wJ w6 := by rw [hw6]; exact one_below _ _
          have hX6 : At w6 wJ.heap.size [strV p0, .int .i64 p1, strV p2] 70 := by rw [hw6]; exact At.fresh wJ _ _
          have Ho6 := Lib.hid (own_keep hox.out hb6)
          obtain ⟨⟨x0, x1, x2⟩, -, xl⟩ := hX6.f3
          have Hw6 := Lib.hid hw6; have Hb6 := Lib.hid hb6
          clear hw6 hX6 hb6 hpb hL
          go_upto_region 9 with fail
          rw [← Hw6.out]
          clear Hw6 c0 c1 c2
          go_upto_region 10 with (at_builtin; refine wpList_app rfl _ _ 91 rfl w2.heap.size 9 (.string ⟨#[]⟩) 1 16 Tryz.underlying91 info_strT rfl (by decide) _ _ _ rfl (own_keep Ho6.out (one_below w6 _)) _ 2 2 (w6.heap.size + 1) ([p0, p2].map strV) rfl (row_strs (T := 9) (At.fresh w6 ([p0, p2].map strV) _) (by show 2 ≤ 100000000; omega)) (by unfold maxLen; omega) (by omega) (Nat.le_trans (Nat.le_trans hbk.out.size Hb6.out.size) (one_below w6 _).size) ?_; intro v7 w7 hown7 hgrow7; go_frame)
          have hb67 : Below w2.heap.size w2 (w6.alloc (Obj.cells #[strV p0, strV p2] 9)) := (hbk.out.trans (Hb6.out.mono hbk.out.size)).trans ((one_below w6 _).mono (Nat.le_trans hbk.out.size Hb6.out.size))
          have Hb7 := Lib.hid (show Below w2.heap.size w2 w7 from hb67.grown hgrow7 hb67.size (fun j hj => (Ho6.out.lt j hj).1))
          have Ho7 := Lib.hid (show w7.ownsRow w2.heap.size 9 1 v7 (PRE ++ fourN q ++ pairN (q.kids.take (j + 1))).length ((PRE ++ fourN q ++ pairN (q.kids.take (j + 1))).map strV) by
            rw [HL.out, List.map_append, List.length_append]
            exact hown7)
          clear hown7 hgrow7 hb67 x0 x1 x2 xl Ho6 hox
          go_wp2_with fail
          go_roundg (q.kids.length - (j + 1))
          case measure => omega
          case rel => exact ⟨j + 1, by go_num, by omega, Ho7, Hb7⟩
        · obtain rfl : j = q.kids.length := by omega
          have hf : PRE ++ fourN q ++ pairN (q.kids.take q.kids.length) = (rs.take (k + 1)).flatMap ruleNames := by
            rw [Hts.out, List.take_length]
            unfold ruleNames
            simp [pairN]
          have HoF := Lib.hid (show wJ.ownsRow w2.heap.size 9 1 _ ((rs.take (k + 1)).flatMap ruleNames).length (((rs.take (k + 1)).flatMap ruleNames).map strV) by rw [← hf]; exact hox.out)
          clear hox hf y5
          go_wp2_with fail
          go_roundg (rs.length - (k + 1))
          case measure => omega
          case rel => exact ⟨k + 1, _, by go_num, rfl, by omega, HoF, hbk⟩
    · obtain rfl : k = rs.length := by omega
      obtain ⟨l, hl⟩ : ∃ l, l = flatN s := ⟨_, rfl⟩
      obtain ⟨la, lc, hlv, hlr⟩ : ∃ la lc, u = .slice la l.length lc ∧ RowA wR wR.heap.size 1 la l.length lc (l.map strV) := by
        have h := hown.out
        rw [List.take_length, Hrs.out] at h
        rw [hl]
        exact row_of_own h (strs_one _)
      subst hlv
      have HbR := Lib.hid (Hb2.out.trans (hbr.out.mono Hb2.out.size))
      have Hlw := Lib.hid (show l.length ≤ 100000000 ∧ l.length ≤ s.wt by rw [hl]; exact ⟨Hfl.out, flat_len s⟩)
      have Hl := Lib.hid hl
      have Hlr := Lib.hid hlr
      have Hpr := Lib.hid (show (aftB none) = aftB none from rfl)
      have hll := Hlw.out.1
      have hl0 : leftL l [] ≤ l.length := List.length_filter_le _ _
      clear hl hown hbr hlr
      go_wp2_with fail
      go_loopg [8] (leftL l []) (fun g oo wr => ∃ (ov : Value) (out : List (List UInt8)), ov = oo ∧ Hid (Picked l out) ∧ Hid (leftL l out = g) ∧ out.length + g ≤ leftL l [] ∧ Hid (wr.ownsRow wR.heap.size 9 1 ov out.length (out.map strV)) ∧ Hid (Below wR.heap.size wR wr))
      case atStart => exact ⟨_, [], rfl, (show Picked l [] from Picked.start l), (show leftL l [] = leftL l [] from rfl), by simp, (show World.ownsRow _ _ _ _ _ _ _ from World.ownsRow_nil _ _ _ _), (show Below _ _ _ from Below.refl _ _)⟩
      case round =>
        obtain ⟨ov, out, rfl, hpk, hlg, hlen, hown, hbr⟩ := hrel
        obtain ⟨wI, rfl⟩ : ∃ z, z = wr := ⟨_, rfl⟩
        obtain ⟨G, rfl⟩ : ∃ z, z = gk := ⟨_, rfl⟩
        obtain ⟨oa, oc, hov, hor⟩ := row_of_own hown.out (strs_one _)
        subst hov
        have Hor := Lib.hid hor
        have hol : out.length ≤ 100000000 := by omega
        clear hor
        go_wp2_with fail
        go_loopg [51, 9] l.length (fun g i m wx => ∃ (j : Nat) (M : List UInt8), i = .int .i64 j ∧ m = strV M ∧ Hid (M = leastL out.getLast? (l.take j)) ∧ j + g = l.length ∧ Hid (Below wI.heap.size wI wx))
        case atStart => exact ⟨0, [], rfl, rfl, (show [] = leastL out.getLast? (l.take 0) from rfl), by omega, (show Below _ _ _ from Below.refl _ _)⟩
        case round =>
          obtain ⟨j, M, rfl, rfl, hM, hg4, hbk⟩ := hrel
          obtain ⟨wJ, rfl⟩ : ∃ z, z = wr := ⟨_, rfl⟩
          by_cases hj : j < l.length
          ·
            have hji : (j : Int) < l.length := by omega
            have HbRJ := Lib.hid (hbr.out.trans (hbk.out.mono hbr.out.size))
            obtain ⟨b, off, rfl, hlb, hc⟩ := text_at (Hlr.out.keep HbRJ.out HbRJ.out.size) j hj
            have Hst := Lib.hid (show leastL out.getLast? (l.take (j + 1)) = leastStep out.getLast? M l[j] by rw [List.take_succ_eq_append_getElem hj, leastL_snoc, hM.out])
            generalize l[j] = x at hc Hst
            obtain ⟨C, hC⟩ : ∃ C, C = (aftB out.getLast? x && (decide (M = []) || lessB x M)) := ⟨_, rfl⟩
            have HC := Lib.hid hC
            clear hC hlb
            go_upto_region 17 with fail
            go_cut [80] (fun v wx => v = .bool C ∧ Hid (Below wJ.heap.size wJ wx))
            case first =>
              clear hc
              cases x with
              | nil =>
                have HC2 := Lib.hid (show C = false by rw [HC.out]; unfold aftB; simp)
                go_wp2_with fail
                go_meet
                case rel => exact ⟨by rw [HC2.out], (show Below _ _ _ from Below.refl _ _)⟩
              | cons x0 xs =>
                have hne : ((⟨(x0 :: xs).toArray⟩ : ByteArray).toList.isEmpty) = false := by rw [ByteArray.toList_mk]; rfl
                rcases nil_or_snoc out with he | ⟨o', p, he⟩
                · have HC1 := Lib.hid (show C = (decide (M = []) || lessB (x0 :: xs) M) by rw [HC.out, he]; unfold aftB; simp)
                  have hz0 : ((out.length : Int) == 0) = true := by rw [he]; rfl
                  clear he
                  cases M with
                  | nil =>
                    have HC2 := Lib.hid (show C = true by rw [HC1.out]; simp)
                    go_wp2_with fail
                    go_meet
                    case rel => exact ⟨by rw [HC2.out], (show Below _ _ _ from Below.refl _ _)⟩
                  | cons m0 ms =>
                    cases hb1 : Op.bytesLess (x0 :: xs) (m0 :: ms)
                    · have HC2 := Lib.hid (show C = false by rw [HC1.out]; simp [lessB, hb1])
                      go_wp2_with fail
                      go_meet
                      case rel => exact ⟨by rw [HC2.out], (show Below _ _ _ from Below.refl _ _)⟩
                    · have HC2 := Lib.hid (show C = true by rw [HC1.out]; simp [lessB, hb1])
                      go_wp2_with fail
                      go_meet
                      case rel => exact ⟨by rw [HC2.out], (show Below _ _ _ from Below.refl _ _)⟩
                · have hlen1 : out.length = o'.length + 1 := by rw [he]; simp
                  obtain ⟨N, hN⟩ : ∃ N, N = o'.length := ⟨_, rfl⟩
                  obtain ⟨b2, off2, hoa, hob, hoc⟩ := text_at (Hor.out.keep hbk.out hbk.out.size) N (by omega)
                  subst hoa
                  rw [show out[N]'(by omega) = p by simp [he, hN]] at hoc
                  have HC1 := Lib.hid (show C = (!(Op.bytesLess (x0 :: xs) p || (x0 :: xs) == p) && (decide (M = []) || lessB (x0 :: xs) M)) by rw [HC.out, he]; unfold aftB; simp [lessB])
                  have hs1 : IntKind.i64.wrap ((out.length : Int) - 1) = (N : Int) := (IntWalk.i64_in _ (by omega)).trans (by omega)
                  have hl1 : (N : Int) < (out.length : Int) := by omega
                  have hz0 : ((out.length : Int) == 0) = false := beq_eq_false_iff_ne.2 (by omega)
                  clear hlen1 hN he
                  clear hob
                  cases hb1 : Op.bytesLess (x0 :: xs) p
                  · cases hb2 : ((x0 :: xs) == p)
                    · have HC3 := Lib.hid (show C = (decide (M = []) || lessB (x0 :: xs) M) by rw [HC1.out, hb1, hb2]; simp)
                      cases M with
                      | nil =>
                        have HC2 := Lib.hid (show C = true by rw [HC3.out]; simp)
                        go_wp2_with fail
                        go_meet
                        case rel => exact ⟨by rw [HC2.out], (show Below _ _ _ from Below.refl _ _)⟩
                      | cons m0 ms =>
                        cases hb3 : Op.bytesLess (x0 :: xs) (m0 :: ms)
                        · have HC2 := Lib.hid (show C = false by rw [HC3.out]; simp [lessB, hb3])
                          go_wp2_with fail
                          go_meet
                          case rel => exact ⟨by rw [HC2.out], (show Below _ _ _ from Below.refl _ _)⟩
                        · have HC2 := Lib.hid (show C = true by rw [HC3.out]; simp [lessB, hb3])
                          go_wp2_with fail
                          go_meet
                          case rel => exact ⟨by rw [HC2.out], (show Below _ _ _ from Below.refl _ _)⟩
                    · have HC2 := Lib.hid (show C = false by rw [HC1.out, hb1, hb2]; simp)
                      go_wp2_with fail
                      go_meet
                      case rel => exact ⟨by rw [HC2.out], (show Below _ _ _ from Below.refl _ _)⟩
                  · have HC2 := Lib.hid (show C = false by rw [HC1.out, hb1]; simp)
                    go_wp2_with fail
                    go_meet
                    case rel => exact ⟨by rw [HC2.out], (show Below _ _ _ from Below.refl _ _)⟩
            case rest =>
              obtain ⟨w5, rfl⟩ : ∃ z, z = wc := ⟨_, rfl⟩
              obtain ⟨rfl, hby⟩ := hcut
              have Hb5 := Lib.hid (show Below wI.heap.size wI w5 from hbk.out.trans (hby.out.mono hbk.out.size))
              clear hby hc
              cases C with
              | true =>
                have HM := Lib.hid (show x = leastL out.getLast? (l.take (j + 1)) by rw [Hst.out]; unfold leastStep; rw [← HC.out]; rfl)
                go_wp2_with fail
                go_roundg (l.length - (j + 1))
                case measure => omega
                case rel => exact ⟨j + 1, x, by go_num, rfl, HM, by omega, Hb5⟩
              | false =>
                have HM := Lib.hid (show M = leastL out.getLast? (l.take (j + 1)) by rw [Hst.out]; unfold leastStep; rw [← HC.out]; rfl)
                go_wp2_with fail
                go_roundg (l.length - (j + 1))
                case measure => omega
                case rel => exact ⟨j + 1, M, by go_num, rfl, HM, by omega, Hb5⟩
          · obtain rfl : j = l.length := by omega
            have HM := Lib.hid (show M = leastL out.getLast? l by have h := hM.out; rw [List.take_length] at h; exact h)
            have HbRJ := Lib.hid (hbr.out.trans (hbk.out.mono hbr.out.size))
            have Ho := Lib.hid (own_keep hown.out hbk.out)
            clear hM
            cases M with
            | nil =>
              have Hd := Lib.hid (hpk.out.done HM.out.symm)
              go_wp2_with fail
              go_ret
              refine ⟨_, out, rfl, own_mono Ho.out HbR.out.size, fun x => ?_, ?_, HbR.out.trans (HbRJ.out.mono HbR.out.size)⟩
              · rw [Hd.out x, Hl.out]
              · have h1 := Hlw.out.2; omega
            | cons m0 ms =>
              have Hp := Lib.hid (hpk.out.push (by rw [← HM.out]; simp))
              rw [← HM.out] at Hp
              obtain ⟨i0, hi, hz0, hz1, hz2⟩ := info_parts info_strT
              have hsz := HbRJ.out.size
              go_wp2_with (at_builtin; refine wpList_append_own _ rfl _ _ 91 rfl wR.heap.size 9 i0 (.string ⟨#[]⟩) 1 16 Tryz.underlying91 hi hz0 hz1 hz2 rfl (by decide) _ _ _ rfl (Ho.out.alloc _) ⟨wJ.heap.size, 0, none⟩ 1 1 [strV (m0 :: ms)] rfl rfl (cell_one_new _ _ _) (by simp [Value.oneCell']) (by unfold maxLen; omega) (by omega) (by simp; omega) ?_; intro v' w9 hown' hg3 hnil3; go_frame)
              have hb9 := (HbRJ.out.alloc hsz (Obj.cells #[strV (m0 :: ms)] 9)).grown hg3 (Nat.le_trans hsz (one_below wJ _).size) (fun j hj => (Ho.out.lt j hj).1)
              have Hb9 := Lib.hid hb9
              have Ho9 := Lib.hid (show w9.ownsRow wR.heap.size 9 1 v' (out ++ [m0 :: ms]).length ((out ++ [m0 :: ms]).map strV) by simpa using hown')
              have Hll := Lib.hid (show (out ++ [m0 :: ms]).length + leftL l (out ++ [m0 :: ms]) ≤ leftL l [] ∧ leftL l (out ++ [m0 :: ms]) < G from by have h1 := Hp.out.2; rw [hlg.out] at h1; rw [List.length_append]; exact ⟨by simp; omega, h1⟩)
              clear hb9 hown' hg3 hnil3 hi hz0 hz1 hz2 hsz
              go_roundg (leftL l (out ++ [m0 :: ms]))
              case measure => exact Hll.out.2
              case rel => exact ⟨v', out ++ [m0 :: ms], rfl, Hp.out.1, (show leftL l _ = leftL l _ from rfl), Hll.out.1, Ho9, Hb9⟩

end Go.Proofs.YtajclfjedlkbcaaGreatDoor
