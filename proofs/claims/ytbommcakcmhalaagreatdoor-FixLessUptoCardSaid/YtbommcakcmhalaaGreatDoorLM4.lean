/- Parts of the proof, one behind the other: RN4, RHA, RCR, RCT, RHN, RHB, RG4. -/
import Derived.Test.YtbommcakcmhalaaGreatDoorLM2
import Derived.OpenShut
import Derived.Test.YtbommcakcmhalaaGreatDoorLM3
/- Schemas as plain data; how they lie in memory; one that came in. -/
set_option linter.unusedVariables false
set_option linter.unusedSimpArgs false
set_option maxHeartbeats 1000000
set_option maxRecDepth 100000
namespace Go.Redl
open Go.RowKit
abbrev ActD := Int × List UInt8
abbrev PairD := List UInt8 × ActD
/-- A rule. -/
structure RuleD where
 type : List UInt8
 text : ActD
 other : ActD
 kids : List PairD
 fill : Int
 fillT : List UInt8
/-- A schema. -/
structure SchemaD where
 rules : List RuleD
 els : RuleD
 order : List Int
 cap : Int
abbrev strV (s : List UInt8) : Value := .string ⟨s.toArray⟩
def actCells (a : ActD) : List Value := [.int .i64 a.1, strV a.2]
def pairCells (l : List PairD) : List Value := l.flatMap fun p => [strV p.1, .int .i64 p.2.1, strV p.2.2]
theorem pairCells_one (l : List PairD) : ∀ u ∈ pairCells l, u.oneCell' = true := by
 intro u hu
 simp only [pairCells, List.mem_flatMap] at hu
 obtain ⟨p, -, hp⟩ := hu
 simp at hp
 rcases hp with rfl | rfl | rfl <;> rfl
theorem pairCells_at : ∀ (l : List PairD) (i : Nat) (hi : i < l.length), (pairCells l)[i * 3]? = some (strV l[i].1) /\ (pairCells l)[i * 3 + 1]? = some (.int .i64 l[i].2.1) /\ (pairCells l)[i * 3 + 2]? = some (strV l[i].2.2)
 | [], i, hi => absurd hi (by simp)
 | p :: l, 0, hi => by simp [pairCells]
 | p :: l, i + 1, hi => by
   have h := pairCells_at l i (by simpa using hi)
   have e : pairCells (p :: l) = strV p.1 :: .int .i64 p.2.1 :: strV p.2.2 :: pairCells l := by simp [pairCells]
   rw [e, show (i + 1) * 3 = i * 3 + 1 + 1 + 1 by omega]
   simpa using h
/-- The eight cells of a rule, but for where its row lies. -/
def ruleCells (r : RuleD) (a : Option Addr) (c : Nat) : List Value := [strV r.type, .int .i64 r.text.1, strV r.text.2, .int .i64 r.other.1, strV r.other.2, .slice a r.kids.length c, .int .i64 r.fill, strV r.fillT]
def RuleC (w : World) (B : Nat) (r : RuleD) (cs : List Value) : Prop := ∃ a c, cs = ruleCells r a c /\ RowA w B 3 a r.kids.length c (pairCells r.kids)
def RulesC (w : World) (B : Nat) : List RuleD -> List Value -> Prop
 | [], css => css = []
 | r :: rs, css => ∃ c1 c2, css = c1 ++ c2 /\ RuleC w B r c1 /\ RulesC w B rs c2
def SchemaC (w : World) (B : Nat) (s : SchemaD) (cs : List Value) : Prop :=
 ∃ a c css ec, cs = .slice a s.rules.length c :: (ec ++ (s.order.map (Value.int .i64) ++ [.int .i64 s.cap])) /\ RowA w B 8 a s.rules.length c css /\ RulesC w B s.rules css /\ RuleC w B s.els ec /\ s.order.length = 6
def SchemaV (w : World) (B : Nat) (s : SchemaD) (v : Value) : Prop := ∃ cs : List Value, v = .agg cs.toArray /\ SchemaC w B s cs
def RuleV (w : World) (B : Nat) (r : RuleD) (v : Value) : Prop := ∃ cs : List Value, v = .agg cs.toArray /\ RuleC w B r cs
theorem RuleC.keep {w w' : World} {B B' : Nat} {r : RuleD} {cs : List Value} (h : RuleC w B r cs) (hb : Below B w w') (hB : B <= B') : RuleC w' B' r cs := by
 obtain ⟨a, c, h1, h2⟩ := h
 exact ⟨a, c, h1, h2.keep hb hB⟩
theorem RulesC.keep {w w' : World} {B B' : Nat} (hb : Below B w w') (hB : B <= B') : ∀ {rs : List RuleD} {css : List Value}, RulesC w B rs css -> RulesC w' B' rs css
 | [], css, h => h
 | r :: rs, css, h => by
   obtain ⟨c1, c2, h1, h2, h3⟩ := h
   exact ⟨c1, c2, h1, h2.keep hb hB, RulesC.keep hb hB h3⟩
theorem SchemaC.keep {w w' : World} {B B' : Nat} {s : SchemaD} {cs : List Value} (h : SchemaC w B s cs) (hb : Below B w w') (hB : B <= B') : SchemaC w' B' s cs := by
 obtain ⟨a, c, css, ec, h1, h2, h3, h4, h5⟩ := h
 exact ⟨a, c, css, ec, h1, h2.keep hb hB, RulesC.keep hb hB h3, h4.keep hb hB, h5⟩
theorem SchemaV.keep {w w' : World} {B B' : Nat} {s : SchemaD} {v : Value} (h : SchemaV w B s v) (hb : Below B w w') (hB : B <= B') : SchemaV w' B' s v := by
 obtain ⟨cs, h1, h2⟩ := h
 exact ⟨cs, h1, h2.keep hb hB⟩
theorem RuleV.keep {w w' : World} {B B' : Nat} {r : RuleD} {v : Value} (h : RuleV w B r v) (hb : Below B w w') (hB : B <= B') : RuleV w' B' r v := by
 obtain ⟨cs, h1, h2⟩ := h
 exact ⟨cs, h1, h2.keep hb hB⟩
theorem RuleC.one {w : World} {B : Nat} {r : RuleD} {cs : List Value} (h : RuleC w B r cs) : ∀ u ∈ cs, u.oneCell' = true := by
 obtain ⟨a, c, rfl, -⟩ := h
 intro u hu
 simp [ruleCells] at hu
 rcases hu with rfl | rfl | rfl | rfl | rfl | rfl | rfl | rfl <;> rfl
theorem RuleC.len {w : World} {B : Nat} {r : RuleD} {cs : List Value} (h : RuleC w B r cs) : cs.length = 8 := by
 obtain ⟨a, c, rfl, -⟩ := h
 rfl
theorem RulesC.one {w : World} {B : Nat} : ∀ {rs : List RuleD} {css : List Value}, RulesC w B rs css -> ∀ u ∈ css, u.oneCell' = true
 | [], css, h => by rw [show css = [] from h]; simp
 | r :: rs, css, h => by
   obtain ⟨c1, c2, rfl, h2, h3⟩ := h
   intro u hu
   rcases List.mem_append.1 hu with hu | hu
   . exact h2.one u hu
   . exact RulesC.one h3 u hu
theorem RulesC.at_ {w : World} {B : Nat} : ∀ {rs : List RuleD} {css : List Value}, RulesC w B rs css -> ∀ (k : Nat) (hk : k < rs.length), ∃ cs, RuleC w B rs[k] cs /\ ∀ j u, cs[j]? = some u -> css[k * 8 + j]? = some u
 | [], css, h, k, hk => absurd hk (by simp)
 | r :: rs, css, h, 0, hk => by
   obtain ⟨c1, c2, rfl, h2, h3⟩ := h
   refine ⟨c1, h2, fun j u hj => ?_⟩
   rw [Nat.zero_mul, Nat.zero_add, List.getElem?_append_left (List.getElem?_eq_some_iff.1 hj).1]
   exact hj
 | r :: rs, css, h, k + 1, hk => by
   obtain ⟨c1, c2, rfl, h2, h3⟩ := h
   obtain ⟨cs, h4, h5⟩ := RulesC.at_ h3 k (by simpa using hk)
   refine ⟨cs, h4, fun j u hj => ?_⟩
   rw [List.getElem?_append_right (by rw [h2.len]; omega), h2.len, show (k + 1) * 8 + j - 8 = k * 8 + j by omega]
   exact h5 j u hj
/-- The k-th rule of a row: its eight cells. -/
theorem RowA.rule_at {w : World} {B n cap : Nat} {a : Option Addr} {rs : List RuleD} {css : List Value} (h : RowA w B 8 a n cap css) (hr : RulesC w B rs css) (k : Nat) (hk : k < rs.length) :
 ∃ b off ra rc, a = some ⟨b, off, none⟩ /\ b < B /\ RowA w B 3 ra rs[k].kids.length rc (pairCells rs[k].kids) /\ ∀ j u, (ruleCells rs[k] ra rc)[j]? = some u -> w.cell? ⟨b, off + k * 8 + j, none⟩ = some u := by
 obtain ⟨cs, ⟨ra, rc, rfl, h2⟩, h3⟩ := hr.at_ k hk
 have h0 := h3 0 _ (show (ruleCells rs[k] ra rc)[0]? = some (strV rs[k].type) from rfl)
 obtain ⟨b, off, ha, hb, hc⟩ := h.some_ (by rintro rfl; simp at h0)
 refine ⟨b, off, ra, rc, ha, hb, h2, fun j u hj => ?_⟩
 have := hc _ u (h3 j u hj)
 rwa [<- Nat.add_assoc] at this
/-- The k-th pair of a rule. -/
theorem RowA.pair_at {w : World} {B n cap : Nat} {a : Option Addr} {l : List PairD} (h : RowA w B 3 a n cap (pairCells l)) (k : Nat) (hk : k < l.length) :
 ∃ b off, a = some ⟨b, off, none⟩ /\ b < B /\ w.cell? ⟨b, off + k * 3, none⟩ = some (strV l[k].1) /\ w.cell? ⟨b, off + k * 3 + 1, none⟩ = some (.int .i64 l[k].2.1) /\ w.cell? ⟨b, off + k * 3 + 2, none⟩ = some (strV l[k].2.2) := by
 obtain ⟨h1, h2, h3⟩ := pairCells_at l k hk
 obtain ⟨b, off, ha, hb, hc⟩ := h.some_ (by intro e; rw [e] at h1; simp at h1)
 exact ⟨b, off, ha, hb, hc _ _ h1, by have := hc _ _ h2; rwa [<- Nat.add_assoc] at this, by have := hc _ _ h3; rwa [<- Nat.add_assoc] at this⟩
/-- How much a schema holds. -/
def pairsWt : List PairD -> Nat
 | [] => 0
 | p :: l => 3 + p.1.length + p.2.2.length + pairsWt l
def RuleD.wt (r : RuleD) : Nat := 6 + r.type.length + r.text.2.length + r.other.2.length + r.fillT.length + pairsWt r.kids
def rulesWt : List RuleD -> Nat
 | [] => 0
 | r :: rs => r.wt + rulesWt rs
def SchemaD.wt (s : SchemaD) : Nat := rulesWt s.rules + s.els.wt
theorem pairsWt_len (l : List PairD) : 3 * l.length <= pairsWt l := by
 induction l with
 | nil => simp [pairsWt]
 | cons p l ih => simp only [pairsWt, List.length_cons]; omega
theorem pairsWt_mem {l : List PairD} {p : PairD} (h : p ∈ l) : 3 + p.1.length + p.2.2.length <= pairsWt l := by
 induction l with
 | nil => cases h
 | cons q l ih =>
   simp only [pairsWt]
   rcases List.mem_cons.1 h with rfl | h
   . omega
   . have := ih h; omega
theorem rulesWt_len (l : List RuleD) : 6 * l.length <= rulesWt l := by
 induction l with
 | nil => simp [rulesWt]
 | cons p l ih => simp only [rulesWt, RuleD.wt, List.length_cons]; omega
theorem rulesWt_mem {l : List RuleD} {r : RuleD} (h : r ∈ l) : r.wt <= rulesWt l := by
 induction l with
 | nil => cases h
 | cons q l ih =>
   simp only [rulesWt]
   rcases List.mem_cons.1 h with rfl | h
   . omega
   . have := ih h; omega
end Go.Redl
namespace Go.Proofs.YtbommcakcmhalaaGreatDoor
open Go.RowKit Go.Redl Go.Deep
def ActΦ {H : Type} (a : ActD) (cs : List Value) (d : DataW H) : Prop := cs = actCells a /\ 1 + a.2.length <= Rows.uptoBulk d
def PairΦ {H : Type} (p : PairD) (cs : List Value) (d : DataW H) : Prop := cs = [strV p.1, .int .i64 p.2.1, strV p.2.2] /\ 3 + p.1.length + p.2.2.length <= Rows.uptoBulk d
def RuleΦ {H : Type} (W : World) (r : RuleD) (cs : List Value) (d : DataW H) : Prop := RuleC W W.heap.size r cs /\ r.wt <= Rows.uptoBulk d
theorem act_of_trod {H : Type} {enc : TypeId × Value -> H} {W : World} {fuel : Nat} {cs : List Value} {x : DataW H × List MemPlace} (h : DataW.trod enc Tryz.prog W 0 (fun _ => true) true fuel 24 cs = some x) : ∃ a, ActΦ a cs x.1 := by
 obtain ⟨xs, n, rfl, rfl, hl, hx, hf⟩ := DataW.trod_struct Tryz.underlying24 h
 rw [show Tryz.prog.cellsOf 24 = 2 by kernel_rfl] at hl
 match xs, hx, cs, hl with
 | [y0, y1], _, [v0, v1], _ =>
   have g0 := hf 0 _ rfl
   have g1 := hf 1 _ rfl
   have k0 : Tryz.prog.cellsOf 3 = 1 := by kernel_rfl
   have k1 : Tryz.prog.cellsOf 9 = 1 := by kernel_rfl
   simp [k0, k1] at g0 g1
   obtain ⟨z, e0, rfl, -⟩ := DataW.trod_int Tryz.underlying3 g0
   obtain ⟨s, e1, rfl, -⟩ := DataW.trod_string Tryz.underlying9 g1
   simp at e0 e1
   subst e0; subst e1
   refine ⟨(z, s.data.toList), ?_, ?_⟩
   . simp only [actCells, strV, list_string]
   . simp [Rows.uptoBulk, Rows.uptoBulkAll]; omega
theorem pair_of_trod {H : Type} {enc : TypeId × Value -> H} {W : World} {fuel : Nat} {cs : List Value} {x : DataW H × List MemPlace} (h : DataW.trod enc Tryz.prog W 0 (fun _ => true) true fuel 143 cs = some x) : ∃ p, PairΦ p cs x.1 := by
 obtain ⟨xs, n, rfl, rfl, hl, hx, hf⟩ := DataW.trod_struct Tryz.underlying143 h
 rw [show Tryz.prog.cellsOf 143 = 3 by kernel_rfl] at hl
 match xs, hx, cs, hl with
 | [y0, y1], _, [v0, v1, v2], _ =>
   have g0 := hf 0 _ rfl
   have g1 := hf 1 _ rfl
   have k0 : Tryz.prog.cellsOf 9 = 1 := by kernel_rfl
   have k1 : Tryz.prog.cellsOf 24 = 2 := by kernel_rfl
   simp [k0, k1] at g0 g1
   obtain ⟨s, e0, rfl, -⟩ := DataW.trod_string Tryz.underlying9 g0
   obtain ⟨a, ha, hb⟩ := act_of_trod g1
   simp [actCells] at e0 ha
   obtain ⟨rfl, rfl⟩ := ha
   subst e0
   refine ⟨(s.data.toList, a), ?_, ?_⟩
   . simp only [strV, list_string]
   . simp [Rows.uptoBulk, Rows.uptoBulkAll] at *; omega
theorem elems_pairs {H : Type} : ∀ {l : List PairD} {css : List Value} {ds : List (DataW H)}, Elems PairΦ l css ds -> css = pairCells l /\ pairsWt l <= Rows.uptoBulkAll ds
 | [], css, ds, h => by obtain ⟨rfl, rfl⟩ := h; exact ⟨rfl, by simp [pairsWt]⟩
 | p :: l, css, ds, h => by
   obtain ⟨c, cs, d, ds', rfl, rfl, ⟨rfl, hb⟩, hr⟩ := h
   obtain ⟨rfl, h2⟩ := elems_pairs hr
   exact ⟨by simp [pairCells], by simp only [pairsWt, Rows.uptoBulkAll]; omega⟩
theorem elems_rules {H : Type} {W : World} : ∀ {l : List RuleD} {css : List Value} {ds : List (DataW H)}, Elems (RuleΦ W) l css ds -> RulesC W W.heap.size l css /\ rulesWt l <= Rows.uptoBulkAll ds
 | [], css, ds, h => by obtain ⟨rfl, rfl⟩ := h; exact ⟨rfl, by simp [rulesWt]⟩
 | r :: l, css, ds, h => by
   obtain ⟨c, cs, d, ds', rfl, rfl, ⟨hk, hb⟩, hr⟩ := h
   obtain ⟨h2, h3⟩ := elems_rules hr
   exact ⟨⟨c, cs, rfl, hk, h2⟩, by simp only [rulesWt, Rows.uptoBulkAll]; omega⟩
theorem rule_of_trod {H : Type} {enc : TypeId × Value -> H} {W : World} {fuel : Nat} {cs : List Value} {x : DataW H × List MemPlace} (h : DataW.trod enc Tryz.prog W 0 (fun _ => true) true fuel 27 cs = some x) : ∃ r, RuleΦ W r cs x.1 := by
 obtain ⟨xs, n, rfl, rfl, hl, hx, hf⟩ := DataW.trod_struct Tryz.underlying27 h
 rw [show Tryz.prog.cellsOf 27 = 8 by kernel_rfl] at hl
 match xs, hx, cs, hl with
 | [y0, y1, y2, y3, y4, y5], _, [v0, v1, v2, v3, v4, v5, v6, v7], _ =>
   have g0 := hf 0 _ rfl
   have g1 := hf 1 _ rfl
   have g2 := hf 2 _ rfl
   have g3 := hf 3 _ rfl
   have g4 := hf 4 _ rfl
   have g5 := hf 5 _ rfl
   have k0 : Tryz.prog.cellsOf 9 = 1 := by kernel_rfl
   have k1 : Tryz.prog.cellsOf 24 = 2 := by kernel_rfl
   have k2 : Tryz.prog.cellsOf 25 = 1 := by kernel_rfl
   have k3 : Tryz.prog.cellsOf 3 = 1 := by kernel_rfl
   simp [k0, k1, k2, k3] at g0 g1 g2 g3 g4 g5
   obtain ⟨s0, e0, rfl, -⟩ := DataW.trod_string Tryz.underlying9 g0
   obtain ⟨a1, e1, b1⟩ := act_of_trod g1
   obtain ⟨a2, e2, b2⟩ := act_of_trod g2
   obtain ⟨a3, c3, ps, css3, ds3, e3, r3, el3, s3⟩ := row_of_trod PairΦ Tryz.underlying25 (show Tryz.prog.cellsOf 143 = 3 by kernel_rfl) (by decide)
    (fun m cs x _ hx => pair_of_trod hx) (fun y c d hh => by obtain ⟨rfl, -⟩ := hh; intro u hu; simp at hu; rcases hu with rfl | rfl | rfl <;> rfl) g3
   obtain ⟨z4, e4, rfl, -⟩ := DataW.trod_int Tryz.underlying3 g4
   obtain ⟨s5, e5, rfl, -⟩ := DataW.trod_string Tryz.underlying9 g5
   simp [actCells] at e0 e1 e2 e3 e4 e5
   obtain ⟨rfl, rfl⟩ := e1
   obtain ⟨rfl, rfl⟩ := e2
   subst e0; subst e3; subst e4; subst e5
   obtain ⟨rfl, b3⟩ := elems_pairs el3
   have m3 := slice_bulk (n := 0) (s3.imp (fun h => ⟨h.1, rfl, h.2.2⟩) id)
   refine ⟨⟨s0.data.toList, a1, a2, ps, z4, s5.data.toList⟩, ⟨a3, c3, ?_, r3⟩, ?_⟩
   . simp only [ruleCells, strV, list_string]
   . simp [RuleD.wt, Rows.uptoBulk, Rows.uptoBulkAll] at *; omega
theorem schema_of_trod {H : Type} {enc : TypeId × Value -> H} {W : World} {fuel : Nat} {cs : List Value} {x : DataW H × List MemPlace} (h : DataW.trod enc Tryz.prog W 0 (fun _ => true) true fuel 30 cs = some x) : ∃ s, SchemaC W W.heap.size s cs /\ s.wt <= Rows.uptoBulk x.1 := by
 obtain ⟨xs, n, rfl, rfl, hl, hx, hf⟩ := DataW.trod_struct Tryz.underlying30 h
 rw [show Tryz.prog.cellsOf 30 = 16 by kernel_rfl] at hl
 match xs, hx, cs, hl with
 | [y0, y1, y2, y3], _, [v0, v1, v2, v3, v4, v5, v6, v7, v8, v9, v10, v11, v12, v13, v14, v15], _ =>
   have g0 := hf 0 _ rfl
   have g1 := hf 1 _ rfl
   have g2 := hf 2 _ rfl
   have g3 := hf 3 _ rfl
   have k0 : Tryz.prog.cellsOf 22 = 1 := by kernel_rfl
   have k1 : Tryz.prog.cellsOf 27 = 8 := by kernel_rfl
   have k2 : Tryz.prog.cellsOf 28 = 6 := by kernel_rfl
   have k3 : Tryz.prog.cellsOf 3 = 1 := by kernel_rfl
   simp [k0, k1, k2, k3] at g0 g1 g2 g3
   obtain ⟨a0, c0, rs, css0, ds0, e0, r0, el0, s0⟩ := row_of_trod (RuleΦ W) Tryz.underlying22 (show Tryz.prog.cellsOf 27 = 8 by kernel_rfl) (by decide)
    (fun m cs x _ hx => rule_of_trod hx) (fun y c d hh => hh.1.one) g0
   obtain ⟨er, hec, eb⟩ := rule_of_trod g1
   obtain ⟨ys, m, -, -, -, hyl, hy⟩ := DataW.trod_array Tryz.underlying28 g2
   rw [k3] at hy
   have o0 := hy 0 (by decide)
   have o1 := hy 1 (by decide)
   have o2 := hy 2 (by decide)
   have o3 := hy 3 (by decide)
   have o4 := hy 4 (by decide)
   have o5 := hy 5 (by decide)
   match ys, hyl with
   | [q0, q1, q2, q3, q4, q5], _ =>
     simp at o0 o1 o2 o3 o4 o5
     obtain ⟨z0, f0, -, -⟩ := DataW.trod_int Tryz.underlying3 o0
     obtain ⟨z1, f1, -, -⟩ := DataW.trod_int Tryz.underlying3 o1
     obtain ⟨z2, f2, -, -⟩ := DataW.trod_int Tryz.underlying3 o2
     obtain ⟨z3, f3, -, -⟩ := DataW.trod_int Tryz.underlying3 o3
     obtain ⟨z4, f4, -, -⟩ := DataW.trod_int Tryz.underlying3 o4
     obtain ⟨z5, f5, -, -⟩ := DataW.trod_int Tryz.underlying3 o5
     obtain ⟨z6, f6, -, -⟩ := DataW.trod_int Tryz.underlying3 g3
     simp at e0 f0 f1 f2 f3 f4 f5 f6
     subst e0; subst f0; subst f1; subst f2; subst f3; subst f4; subst f5; subst f6
     obtain ⟨hrs, b0⟩ := elems_rules el0
     have m0 := slice_bulk (n := 0) (s0.imp (fun h => ⟨h.1, rfl, h.2.2⟩) id)
     refine ⟨⟨rs, er, [z0, z1, z2, z3, z4, z5], z6⟩, ⟨a0, c0, css0, _, rfl, r0, hrs, hec, rfl⟩, ?_⟩
     simp only [SchemaD.wt, List.map_cons, List.map_nil, Rows.uptoBulk, Rows.uptoBulkAll]
     omega
end Go.Proofs.YtbommcakcmhalaaGreatDoor
/- Plain words: types, rules, what is done with a node, what is wrong with an element, what repairs it. -/
namespace Go.Proofs.YtbommcakcmhalaaGreatDoor
open Go.RowKit Go.Redl
def leafOf : NodeD -> Bool
 | .mk l _ _ _ => l
def propsOf : NodeD -> List PropD
 | .mk _ ps _ _ => ps
def textOf : NodeD -> List Int
 | .mk _ _ t _ => t
/-- The first place of which something holds; -1: there is none. -/
def idxP (p : Nat -> Bool) (n : Nat) : Int := match (List.range n).find? p with
 | some k => k
 | none => -1
theorem idxP_some {p : Nat -> Bool} {n k : Nat} (hk : k < n) (h : p k = true) (hb : ∀ j, j < k -> p j = false) : idxP p n = k := by
 unfold idxP
 have : (List.range n).find? p = some k := by
  rw [List.find?_range_eq_some]
  exact ⟨h, by simpa using hk, fun j hj => by simp [hb j hj]⟩
 rw [this]
theorem idxP_none {p : Nat -> Bool} {n : Nat} (hb : ∀ j, j < n -> p j = false) : idxP p n = -1 := by
 unfold idxP
 have : (List.range n).find? p = none := by
  rw [List.find?_eq_none]
  intro x hx
  simp [hb x (by simpa using hx)]
 rw [this]
theorem idxP_cases (p : Nat -> Bool) (n : Nat) : (∃ k, k < n /\ p k = true /\ (∀ j, j < k -> p j = false) /\ idxP p n = k) ∨ ((∀ j, j < n -> p j = false) /\ idxP p n = -1) := by
 cases h : (List.range n).find? p with
 | none =>
   have hb : ∀ j, j < n -> p j = false := fun j hj => by
    rw [List.find?_eq_none] at h
    simpa using h j (by simpa using hj)
   exact .inr ⟨hb, idxP_none hb⟩
 | some k =>
   rw [List.find?_range_eq_some] at h
   obtain ⟨h1, h2, h3⟩ := h
   have hk : k < n := by simpa using h2
   have hb : ∀ j, j < k -> p j = false := fun j hj => by simpa using h3 j hj
   exact .inl ⟨k, hk, h1, hb, idxP_some hk h1 hb⟩
/-- The first of a list of which something holds, by its place. -/
theorem find_idx {α : Type} {l : List α} {q : α -> Bool} {k : Nat} (hk : k < l.length) (h : q l[k] = true) (hb : ∀ j (hj : j < k), q (l[j]'(by omega)) = false) : l.find? q = some l[k] := by
 rw [List.find?_eq_some_iff_getElem]
 exact ⟨h, k, hk, rfl, fun j hj => by simp [hb j hj]⟩
theorem find_none {α : Type} {l : List α} {q : α -> Bool} (hb : ∀ j (hj : j < l.length), q l[j] = false) : l.find? q = none := by
 rw [List.find?_eq_none]
 intro x hx
 obtain ⟨j, hj, rfl⟩ := List.mem_iff_getElem.1 hx
 simp [hb j hj]
def typeB : List UInt8 := [116, 121, 112, 101]
/-- A property's value. -/
def getP (ps : List PropD) (k : List UInt8) : Option (List UInt8) := (ps.find? (fun p => decide (p.1 = k))).map (·.2)
/-- A node's type. -/
def typeN (n : NodeD) : List UInt8 := if leafOf n then [] else (getP (propsOf n) typeB).getD []
/-- A type's rule. -/
def ruleOf (s : SchemaD) (kind : List UInt8) : RuleD := (s.rules.find? (fun r => decide (r.type = kind))).getD s.els
def actIn (r : RuleD) (kind : List UInt8) : ActD := ((r.kids.find? (fun p => decide (p.1 = kind))).map (·.2)).getD r.other
/-- What a rule does with a node. -/
def actOf (r : RuleD) (n : NodeD) : ActD := if leafOf n then r.text else actIn r (typeN n)
/-- A list's beginning of which something holds: how long it is. -/
theorem while_len {α : Type} (q : α -> Bool) : ∀ (l : List α) (m : Nat) (hm : m <= l.length), (∀ j (hj : j < m), q (l[j]'(by omega)) = true) -> (∀ h : m < l.length, q l[m] = false) -> (l.takeWhile q).length = m
 | [], m, hm, h1, h2 => by simp at hm; subst hm; rfl
 | x :: l, 0, hm, h1, h2 => by
   have := h2 (by simp)
   simp at this
   simp [this]
 | x :: l, m + 1, hm, h1, h2 => by
   have h0 := h1 0 (by omega)
   simp at h0
   rw [List.takeWhile_cons, if_pos h0, List.length_cons, while_len q l m (by simpa using hm) (fun j hj => by simpa using h1 (j + 1) (by omega)) (fun h => h2 (Nat.succ_lt_succ h))]
/-- How many from a place on are done alike. -/
def runA (l : List ActD) (i : Nat) : Nat := 1 + ((l.drop (i + 1)).takeWhile (fun a => decide (a = l.getD i (0, [])))).length
theorem runA_eq {l : List ActD} {i m : Nat} (hi : i < l.length) (h0 : 1 <= m) (hm : i + m <= l.length) (h1 : ∀ j (hj : j < m), l[i + j]'(by omega) = l[i]) (h2 : ∀ h : i + m < l.length, l[i + m] ≠ l[i]) : runA l i = m := by
 have hg : l.getD i (0, []) = l[i] := by simp [List.getD, List.getElem?_eq_getElem hi]
 unfold runA
 rw [hg, while_len (fun a => decide (a = l[i])) (l.drop (i + 1)) (m - 1) (by simp; omega) (fun j hj => ?_) (fun h => ?_)]
 . omega
 . have := h1 (j + 1) (by omega)
   simp only [List.getElem_drop, decide_eq_true_eq]
   rw [<- this]
   congr 1
   omega
 . have := h2 (by simp at h; omega)
   simp only [List.getElem_drop, decide_eq_false_iff_not]
   intro e
   refine this (Eq.trans ?_ e)
   congr 1
   omega
/-- What a rule does with each of some Kids. -/
abbrev actsOf (r : RuleD) (ks : List NodeD) : List ActD := ks.map (actOf r)
/-- The Kid at a place. -/
abbrev kidAt (ks : List NodeD) (i : Nat) : NodeD := ks.getD i (.mk false [] [] [])
/-- Whether something of a class is wrong with a Kid. -/
def wrongB (r : RuleD) (ks : List NodeD) (c : Int) (i : Nat) : Bool :=
 if c = 1 then decide ((actOf r (kidAt ks i)).1 = 2) else if c = 2 then decide ((actOf r (kidAt ks i)).1 = 3) else if c = 3 then decide ((actOf r (kidAt ks i)).1 = 4)
 else if c = 4 then decide (0 < i) && (leafOf (kidAt ks i) && (leafOf (kidAt ks (i - 1)) && decide (propsOf (kidAt ks i) = propsOf (kidAt ks (i - 1)))))
 else if c = 5 then leafOf (kidAt ks i) && (decide ((textOf (kidAt ks i)).length = 0) && decide (1 < ks.length)) else false
/-- The first place where something of a class is wrong; less than 0: there is none. -/
def lookN (r : RuleD) (ks : List NodeD) (c : Int) : Int := if c = 6 then (if ks.length = 0 /\ r.fill ≠ 0 then 0 else -1) else idxP (wrongB r ks c) ks.length
def manyN (r : RuleD) (ks : List NodeD) (c : Int) : Nat := if c = 3 then runA (actsOf r ks) (lookN r ks c).toNat else 1
/-- What is wrong: class, place, how many. -/
abbrev FindD := Int × Int × Int
def findL (r : RuleD) (ks : List NodeD) : List Int -> FindD
 | [] => (0, 0, 0)
 | c :: cs => if 0 <= lookN r ks c then (c, lookN r ks c, (manyN r ks c : Int)) else findL r ks cs
def findN (s : SchemaD) (n : NodeD) : FindD := if leafOf n then (0, 0, 0) else findL (ruleOf s (typeN n)) (kidsOf n) s.order
theorem lookN_range {r : RuleD} {ks : List NodeD} {c : Int} (h : 0 <= lookN r ks c) : 1 <= c /\ c <= 6 := by
 unfold lookN at h
 split at h
 . omega
 . rename_i h6
   rcases idxP_cases (wrongB r ks c) ks.length with ⟨k, hk, hp, -, -⟩ | ⟨-, e⟩
   . unfold wrongB at hp
     split at hp
     . omega
     split at hp
     . omega
     split at hp
     . omega
     split at hp
     . omega
     split at hp
     . omega
     . cases hp
   . rw [e] at h; omega
/-- An operation, as far as a repair tells it. -/
structure OpD where
 kind : Int
 path : List Int
 dest : List Int
 pos : Int
 node : NodeD
 old : List PropD
abbrev zeroN : NodeD := .mk false [] [] []
/-- An element of a type. -/
def elemN (kind : List UInt8) : NodeD := .mk false (if kind = [] then [] else [(typeB, kind)]) [] []
def noKids : NodeD -> NodeD
 | .mk l ps t _ => .mk l ps t []
/-- The operations that repair an element at p. -/
def fixL (r : RuleD) (ks : List NodeD) (p : List Int) (f : FindD) : List OpD :=
 if f.1 = 1 ∨ f.1 = 5 then [⟨2, p ++ [f.2.1], [], 0, kidAt ks f.2.1.toNat, []⟩]
 else if f.1 = 2 then (List.range (kidsOf (kidAt ks f.2.1.toNat)).length).map (fun i : Nat => (⟨5, p ++ [f.2.1, 0], p ++ [f.2.1 + (1 + (i : Int))], 0, zeroN, []⟩ : OpD)) ++ [⟨2, p ++ [f.2.1], [], 0, noKids (kidAt ks f.2.1.toNat), []⟩]
 else if f.1 = 3 then ⟨1, p ++ [f.2.1], [], 0, elemN (actOf r (kidAt ks f.2.1.toNat)).2, []⟩ :: (List.range f.2.2.toNat).map (fun i : Nat => (⟨5, p ++ [f.2.1 + 1], p ++ [f.2.1, (i : Int)], 0, zeroN, []⟩ : OpD))
 else if f.1 = 4 then [⟨3, p ++ [f.2.1], [], (textOf (kidAt ks (f.2.1.toNat - 1))).length, zeroN, propsOf (kidAt ks f.2.1.toNat)⟩]
 else [⟨1, p ++ [f.2.1], [], 0, if r.fill = 1 then .mk true [] [] [] else elemN r.fillT, []⟩]
/-- What repairs an element, or why not. -/
def fixN (s : SchemaD) (n : NodeD) (p : List Int) : List OpD × Int :=
 match atN n p with
 | none => ([], 5)
 | some k => if leafOf k then ([], 7) else if (findN s k).1 = 0 then ([], 14) else (fixL (ruleOf s (typeN k)) (kidsOf k) p (findN s k), 0)
end Go.Proofs.YtbommcakcmhalaaGreatDoor
/- Plain words: the paths of a tree; lists of paths in memory; a clone of a path. -/
namespace Go.Proofs.YtbommcakcmhalaaGreatDoor
open Go.RowKit Go.Redl
theorem info_int : (Tryz.prog.info? 3).map (fun i => (i.zero, i.size, i.bytes)) = some (some (.int .i64 0), 1, 8) := by kernel_rfl
theorem clone_int (B n : Nat) (a : Option Addr) (cap : Nat) (cs : List Value) (w : World) (hr : RowA w B 1 a n cap cs) (hB : B <= w.heap.size) (hn : n <= 100000000) :
 Calls Tryz.prog 128 #[.slice a n cap] w (MadeRow w 3 1 n cs) := by
 have hel := fun (w : World) => Lib.run_eql_slice_nil w (P := Tryz.prog) 36 3 a n cap 0 0 Tryz.underlying36
 cases ha : a with
 | none =>
   subst ha
   obtain rfl := hr.nil rfl
   obtain rfl : n = 0 := by have := hr.le; omega
   have hcs : cs = [] := List.eq_nil_of_length_eq_zero (by simpa using hr.len)
   subst hcs
   go_enter Tryz.func128, Tryz.ntmps128
   go_wp2_with fail
   go_ret
   exact ⟨_, rfl, World.ownsRow_nil _ _ _ _, Below.refl _ _⟩
 | some ad =>
   subst ha
   go_enter Tryz.func128, Tryz.ntmps128
   go_wp2_with (at_builtin; refine wpList_app rfl _ _ 36 rfl w.heap.size 3 (.int .i64 0) 1 8 Tryz.underlying36 info_int rfl (by decide) _ 0 [] rfl ?hown _ n cap B cs rfl ?hr ?h63 ?hb ?hbase ?_)
   case hown => exact World.ownsRow_lit w #[] 0 (Nat.le_refl _) (Nat.zero_le _) rfl
   case hr => exact hr.keep ((Below.refl _ _).alloc hB _) (Nat.le_refl _)
   case h63 => unfold maxLen; omega
   case hb => omega
   case hbase => simp
   intro v' w1 hown hgrow
   have Ho := Lib.hid hown; have Hg := Lib.hid hgrow; clear hown hgrow hel hr
   go_wp2_with fail
   go_ret
   refine ⟨v', rfl, by simpa using Ho.out, ((Below.refl _ _).alloc (Nat.le_refl _) _).grown Hg.out (by simp) ?_⟩
   simp [Value.ownBlock]
/-- A list of paths: its cells, each a row of numbers in blocks that ok lets in. -/
def PathsQ (w : World) (ok : Nat -> Prop) : List (List Int) -> List Value -> Prop
 | [], cs => cs = []
 | zs :: l, cs => ∃ a cap cs', cs = .slice a zs.length cap :: cs' /\ RowQ w ok 1 a zs.length cap (zs.map (Value.int .i64)) /\ PathsQ w ok l cs'
theorem PathsQ.keep {w w' : World} {ok ok' : Nat -> Prop} (hs : w.heap.size <= w'.heap.size) (hk : ∀ b, ok b -> b < w.heap.size -> w'.heap[b]? = w.heap[b]?) (ho : ∀ b, ok b -> b < w.heap.size -> ok' b) : ∀ {l : List (List Int)} {cs : List Value}, PathsQ w ok l cs -> PathsQ w' ok' l cs
 | [], cs, h => h
 | zs :: l, cs, h => by
   obtain ⟨a, cap, cs', h1, h2, h3⟩ := h
   exact ⟨a, cap, cs', h1, h2.keep hs hk ho, PathsQ.keep hs hk ho h3⟩
theorem PathsQ.len {w : World} {ok : Nat -> Prop} : ∀ {l : List (List Int)} {cs : List Value}, PathsQ w ok l cs -> cs.length = l.length
 | [], cs, h => by subst h; rfl
 | zs :: l, cs, h => by
   obtain ⟨a, cap, cs', rfl, h2, h3⟩ := h
   simp [PathsQ.len h3]
theorem PathsQ.one {w : World} {ok : Nat -> Prop} : ∀ {l : List (List Int)} {cs : List Value}, PathsQ w ok l cs -> ∀ u ∈ cs, u.oneCell' = true
 | [], cs, h => by subst h; simp
 | zs :: l, cs, h => by
   obtain ⟨a, cap, cs', rfl, h2, h3⟩ := h
   intro u hu
   rcases List.mem_cons.1 hu with rfl | hu
   . rfl
   . exact PathsQ.one h3 u hu
theorem PathsQ.snoc {w : World} {ok : Nat -> Prop} {zs : List Int} {a : Option Addr} {cap : Nat} (hr : RowQ w ok 1 a zs.length cap (zs.map (Value.int .i64))) : ∀ {l : List (List Int)} {cs : List Value}, PathsQ w ok l cs -> PathsQ w ok (l ++ [zs]) (cs ++ [.slice a zs.length cap])
 | [], cs, h => by subst h; exact ⟨a, cap, [], rfl, hr, rfl⟩
 | ys :: l, cs, h => by
   obtain ⟨b, c, cs', rfl, h2, h3⟩ := h
   exact ⟨b, c, cs' ++ [.slice a zs.length cap], rfl, h2, PathsQ.snoc hr h3⟩
end Go.Proofs.YtbommcakcmhalaaGreatDoor
/- Plain words: append onto a full row; what a growing list of rows leaves. -/
namespace Go.Proofs.YtbommcakcmhalaaGreatDoor
open Go.RowKit Go.Redl
theorem _root_.Go.Redl.RowA.full {w : World} {B sz n cap : Nat} {a : Option Addr} {cs : List Value} (h : RowA w B sz a n cap cs) : RowA w B sz a n n cs :=
 ⟨h.len, Nat.le_refl _, Nat.le_trans h.le h.max, h.one, fun e => by have := h.nil e; have := h.le; omega, h.some_⟩
theorem below_of_grown {w w' : World} (h : w.grownBy w' none) : Below w.heap.size w w' := ⟨h.os, h.tape, h.output, h.size, fun i hi => h.block i hi (by simp)⟩
/-- A box holds a list's row; from v to v' nothing else that was there is written. -/
structure Grew (ob : Nat) (v v' : Value) (w w' : World) : Prop where
 os : w'.os = w.os
 tape : w'.tape = w.tape
 output : w'.output = w.output
 size : w.heap.size <= w'.heap.size
 block : ∀ b, b < w.heap.size -> b ≠ ob -> v.ownBlock ≠ some b -> w'.heap[b]? = w.heap[b]?
 where_ : v'.ownBlock = v.ownBlock ∨ ∀ k, v'.ownBlock = some k -> w.heap.size <= k
theorem Grew.refl (ob : Nat) (v : Value) (w : World) : Grew ob v v w w := ⟨rfl, rfl, rfl, Nat.le_refl _, fun _ _ _ _ => rfl, .inl rfl⟩
theorem Grew.trans {ob : Nat} {v1 v2 v3 : Value} {w1 w2 w3 : World} (h : Grew ob v1 v2 w1 w2) (k : Grew ob v2 v3 w2 w3) : Grew ob v1 v3 w1 w3 := by
 refine ⟨k.os.trans h.os, k.tape.trans h.tape, k.output.trans h.output, Nat.le_trans h.size k.size, fun b hb hne hv => ?_, ?_⟩
 . rw [k.block b (Nat.lt_of_lt_of_le hb h.size) hne ?_, h.block b hb hne hv]
   rcases h.where_ with e | e
   . rw [e]; exact hv
   . intro e2; have := e b e2; omega
 . have := h.size
   rcases k.where_ with e | e
   . rw [e]; exact h.where_
   . exact .inr fun k hk => by have := e k hk; omega
theorem Grew.then {ob : Nat} {v1 v2 : Value} {w1 w2 w3 : World} (h : Grew ob v1 v2 w1 w2) (k : Below w2.heap.size w2 w3) : Grew ob v1 v2 w1 w3 :=
 h.trans ⟨k.os, k.tape, k.output, k.size, fun b hb _ _ => k.block b hb, .inl rfl⟩
theorem Grew.ahead {ob : Nat} {v1 v2 : Value} {w1 w2 w3 : World} (k : Below w1.heap.size w1 w2) (h : Grew ob v1 v2 w2 w3) : Grew ob v1 v2 w1 w3 :=
 Grew.trans ⟨k.os, k.tape, k.output, k.size, fun b hb _ _ => k.block b hb, .inl rfl⟩ h
theorem Grew.stay {ob M : Nat} {v v' : Value} {w w' : World} (h : Grew ob v v' w w') (hob : ob < M) : Stay w w' (fun b => M <= b /\ v.ownBlock ≠ some b) (fun b => M <= b /\ v'.ownBlock ≠ some b) := by
 refine ⟨h.size, fun b hb hlt => h.block b hlt (by omega) hb.2, fun b hb hlt => ⟨hb.1, ?_⟩⟩
 rcases h.where_ with e | e
 . rw [e]; exact hb.2
 . intro e2; have := e b e2; omega
theorem Grew.below {ob B : Nat} {v v' : Value} {w w' : World} (h : Grew ob v v' w w') (hB : B <= ob) (hw : B <= w.heap.size) (hv : ∀ k, v.ownBlock = some k -> B <= k) : Below B w w' :=
 ⟨h.os, h.tape, h.output, h.size, fun b hb => h.block b (by omega) (by omega) (fun e => by have := hv b e; omega)⟩
theorem PathsQ.stay {w w' : World} {ok ok' : Nat -> Prop} {l : List (List Int)} {cs : List Value} (h : PathsQ w ok l cs) (s : Stay w w' ok ok') : PathsQ w' ok' l cs := h.keep s.size s.block s.let_
end Go.Proofs.YtbommcakcmhalaaGreatDoor
/- Operations, as far as a repair tells them: how they lie in memory. No program in sight. -/
namespace Go.Redl
open Go.RowKit
/-- A reading below a block, as one whose blocks lie there. -/
theorem RowA.q {w : World} {B sz n cap : Nat} {a : Option Addr} {cs : List Value} (h : RowA w B sz a n cap cs) (hB : B <= w.heap.size) : RowQ w (fun b => b < B) sz a n cap cs :=
 ⟨h.len, h.le, h.max, h.one, h.nil, fun hne => by
  obtain ⟨b, off, ha, hb, hc⟩ := h.some_ hne
  exact ⟨b, off, ha, hb, Nat.lt_of_lt_of_le hb hB, hc⟩⟩
mutual
theorem NodeC.q {w : World} {B : Nat} (hB : B <= w.heap.size) : ∀ (n : NodeD) (cs : List Value), NodeC w B n cs -> NodeQ w (fun b => b < B) n cs
 | .mk l ps t ks, cs => by
   intro h
   unfold NodeC at h
   unfold NodeQ
   obtain ⟨ap, cp, at_, ct, ak, ck, css, h1, h2, h3, h4, h5, h6⟩ := h
   exact ⟨ap, cp, at_, ct, ak, ck, css, h1, h2.q hB, h3.q hB, h4, h5.q hB, KidsC.q hB ks css h6⟩
theorem KidsC.q {w : World} {B : Nat} (hB : B <= w.heap.size) : ∀ (ks : List NodeD) (css : List Value), KidsC w B ks css -> KidsQ w (fun b => b < B) ks css
 | [], css => by intro h; unfold KidsC at h; unfold KidsQ; exact h
 | k :: ks, css => by
   intro h
   unfold KidsC at h
   unfold KidsQ
   obtain ⟨c1, c2, h1, h2, h3⟩ := h
   exact ⟨c1, c2, h1, NodeC.q hB k c1 h2, KidsC.q hB ks c2 h3⟩
end
theorem zero_q (w : World) (ok : Nat -> Prop) : NodeQ w ok (.mk false [] [] []) [.bool false, .slice none 0 0, .slice none 0 0, .slice none 0 0] := by
 unfold NodeQ
 exact ⟨none, 0, none, 0, none, 0, [], rfl, RowQ.empty _ _ _, RowQ.empty _ _ _, by simp, RowQ.empty _ _ _, by unfold KidsQ; rfl⟩
end Go.Redl
namespace Go.Proofs.YtbommcakcmhalaaGreatDoor
open Go.RowKit Go.Redl
/-- A path's reading. -/
abbrev PathQ (w : World) (ok : Nat -> Prop) (a : Option Addr) (c : Nat) (p : List Int) : Prop := RowQ w ok 1 a p.length c (p.map (Value.int .i64))
/-- The twenty-one cells of an operation. -/
def opCells (o : OpD) (pa : Option Addr) (pc : Nat) (ta : Option Addr) (tc : Nat) (n0 n1 n2 n3 : Value) (oa : Option Addr) (oc : Nat) : List Value :=
 [.int .i64 o.kind, .slice pa o.path.length pc, .slice ta o.dest.length tc, .int .i64 o.pos, n0, n1, n2, n3, .slice oa o.old.length oc, .slice none 0 0, .slice none 0 0,
  .bool false, .slice none 0 0, .int .i64 0, .slice none 0 0, .int .i64 0, .bool false, .slice none 0 0, .int .i64 0, .slice none 0 0, .int .i64 0]
def OpQ (w : World) (ok : Nat -> Prop) (o : OpD) (cs : List Value) : Prop :=
 ∃ pa pc ta tc n0 n1 n2 n3 oa oc, cs = opCells o pa pc ta tc n0 n1 n2 n3 oa oc /\ PathQ w ok pa pc o.path /\ PathQ w ok ta tc o.dest /\ NodeQ w ok o.node [n0, n1, n2, n3] /\ RowQ w ok 2 oa o.old.length oc (propCells o.old)
def OpsQ (w : World) (ok : Nat -> Prop) : List OpD -> List Value -> Prop
 | [], css => css = []
 | o :: os, css => ∃ c1 c2, css = c1 ++ c2 /\ OpQ w ok o c1 /\ OpsQ w ok os c2
theorem OpQ.stay {w w' : World} {ok ok' : Nat -> Prop} {o : OpD} {cs : List Value} (h : OpQ w ok o cs) (s : Stay w w' ok ok') : OpQ w' ok' o cs := by
 obtain ⟨pa, pc, ta, tc, n0, n1, n2, n3, oa, oc, rfl, h1, h2, h3, h4⟩ := h
 exact ⟨pa, pc, ta, tc, n0, n1, n2, n3, oa, oc, rfl, h1.stay s, h2.stay s, h3.stay s, h4.stay s⟩
theorem OpsQ.stay {w w' : World} {ok ok' : Nat -> Prop} (s : Stay w w' ok ok') : ∀ {os : List OpD} {css : List Value}, OpsQ w ok os css -> OpsQ w' ok' os css
 | [], css, h => by unfold OpsQ at h ⊢; exact h
 | o :: os, css, h => by
   unfold OpsQ at h ⊢
   obtain ⟨c1, c2, h1, h2, h3⟩ := h
   exact ⟨c1, c2, h1, h2.stay s, OpsQ.stay s h3⟩
theorem OpQ.len {w : World} {ok : Nat -> Prop} {o : OpD} {cs : List Value} (h : OpQ w ok o cs) : cs.length = 21 := by
 obtain ⟨pa, pc, ta, tc, n0, n1, n2, n3, oa, oc, rfl, -⟩ := h; rfl
theorem OpQ.one {w : World} {ok : Nat -> Prop} {o : OpD} {cs : List Value} (h : OpQ w ok o cs) : ∀ u ∈ cs, u.oneCell' = true := by
 obtain ⟨pa, pc, ta, tc, n0, n1, n2, n3, oa, oc, rfl, -, -, h3, -⟩ := h
 have hn := (NodeQ.node _ _ h3).one
 simp at hn
 obtain ⟨g0, g1, g2, g3⟩ := hn
 intro u hu
 simp only [opCells, List.mem_cons, List.not_mem_nil, or_false] at hu
 rcases hu with h | h | h | h | h | h | h | h | h | h | h | h | h | h | h | h | h | h | h | h | h
 all_goals
  subst h
  first | rfl | assumption
theorem OpsQ.len {w : World} {ok : Nat -> Prop} : ∀ {os : List OpD} {css : List Value}, OpsQ w ok os css -> css.length = os.length * 21
 | [], css, h => by unfold OpsQ at h; subst h; rfl
 | o :: os, css, h => by
   unfold OpsQ at h
   obtain ⟨c1, c2, rfl, h2, h3⟩ := h
   have a := h2.len; have b := OpsQ.len h3
   simp only [List.length_append, List.length_cons]; omega
theorem OpsQ.one {w : World} {ok : Nat -> Prop} : ∀ {os : List OpD} {css : List Value}, OpsQ w ok os css -> ∀ u ∈ css, u.oneCell' = true
 | [], css, h => by unfold OpsQ at h; subst h; simp
 | o :: os, css, h => by
   unfold OpsQ at h
   obtain ⟨c1, c2, rfl, h2, h3⟩ := h
   intro u hu
   rcases List.mem_append.1 hu with hu | hu
   . exact h2.one u hu
   . exact OpsQ.one h3 u hu
theorem OpsQ.nil (w : World) (ok : Nat -> Prop) : OpsQ w ok [] [] := by unfold OpsQ; rfl
theorem OpsQ.single {w : World} {ok : Nat -> Prop} {o : OpD} {c : List Value} (h : OpQ w ok o c) : OpsQ w ok [o] c := by
 unfold OpsQ; exact ⟨c, [], by simp, h, OpsQ.nil _ _⟩
theorem OpsQ.append {w : World} {ok : Nat -> Prop} : ∀ {os os' : List OpD} {css css' : List Value}, OpsQ w ok os css -> OpsQ w ok os' css' -> OpsQ w ok (os ++ os') (css ++ css')
 | [], os', css, css', h, h' => by unfold OpsQ at h; subst h; exact h'
 | o :: os, os', css, css', h, h' => by
   unfold OpsQ at h
   obtain ⟨c1, c2, rfl, h2, h3⟩ := h
   rw [List.cons_append]
   unfold OpsQ
   exact ⟨c1, c2 ++ css', by simp, h2, OpsQ.append h3 h'⟩
/-- One operation's cells. -/
theorem OpsQ.at_ {w : World} {ok : Nat -> Prop} : ∀ {os : List OpD} {css : List Value}, OpsQ w ok os css -> ∀ (i : Nat) (hi : i < os.length), ∃ c, OpQ w ok os[i] c /\ ∀ j, j < 21 -> css[i * 21 + j]? = c[j]?
 | [], css, h, i, hi => absurd hi (by simp)
 | k :: ks, css, h, 0, hi => by
   unfold OpsQ at h
   obtain ⟨c1, c2, rfl, h2, h3⟩ := h
   refine ⟨c1, h2, fun j hj => ?_⟩
   rw [Nat.zero_mul, Nat.zero_add, List.getElem?_append_left (by rw [h2.len]; exact hj)]
 | k :: ks, css, h, i + 1, hi => by
   unfold OpsQ at h
   obtain ⟨c1, c2, rfl, h2, h3⟩ := h
   obtain ⟨c, hc, hall⟩ := OpsQ.at_ h3 i (by simpa using hi)
   refine ⟨c, by simpa using hc, fun j hj => ?_⟩
   rw [List.getElem?_append_right (by rw [h2.len]; omega), <- hall j hj, h2.len]
   congr 1; omega
/-- A list of operations, as a value. -/
def OpsV (w : World) (l : List OpD) (v : Value) : Prop := ∃ a c css, v = .slice a l.length c /\ RowA w w.heap.size 21 a l.length c css /\ OpsQ w (fun _ => True) l css
theorem stay_below {w w' : World} (hb : Below w.heap.size w w') (ok : Nat -> Prop) : Stay w w' ok ok := ⟨hb.size, fun b _ hlt => hb.block b hlt, fun _ h _ => h⟩
theorem OpsV.keep {w w' : World} {l : List OpD} {v : Value} (h : OpsV w l v) (hb : Below w.heap.size w w') : OpsV w' l v := by
 obtain ⟨a, c, css, rfl, h1, h2⟩ := h
 exact ⟨a, c, css, rfl, h1.keep hb hb.size, h2.stay (stay_below hb _)⟩
theorem OpsV.nil (w : World) : OpsV w [] (.slice none 0 0) := ⟨none, 0, [], rfl, RowA.empty _ _ _, OpsQ.nil _ _⟩
/-- What an own row holds. -/
theorem OpsV.of_own {w : World} {base e : Nat} {l : List OpD} {v : Value} {css : List Value} {ok : Nat -> Prop} (h : w.ownsRow base e 21 v l.length css) (hq : OpsQ w ok l css) : OpsV w l v := by
 obtain ⟨a, c, hv, hr⟩ := row_of_own h hq.one
 exact ⟨a, c, css, hv, hr, hq.stay ⟨Nat.le_refl _, fun _ _ _ => rfl, fun _ _ _ => trivial⟩⟩
/-- An operation in a list of them. -/
theorem OpsV.at_ {w : World} {l : List OpD} {a : Option Addr} {n c : Nat} (h : OpsV w l (.slice a n c)) (i : Nat) (hi : i < l.length) :
 ∃ b off pa pc ta tc n0 n1 n2 n3 oa oc, a = some ⟨b, off, none⟩ /\ b < w.heap.size /\ PathQ w (fun _ => True) pa pc l[i].path /\ PathQ w (fun _ => True) ta tc l[i].dest /\ NodeQ w (fun _ => True) l[i].node [n0, n1, n2, n3] /\ RowQ w (fun _ => True) 2 oa l[i].old.length oc (propCells l[i].old) /\
   ∀ j u, (opCells l[i] pa pc ta tc n0 n1 n2 n3 oa oc)[j]? = some u -> w.cell? ⟨b, off + i * 21 + j, none⟩ = some u := by
 obtain ⟨a', c', css, hv, hr, hq⟩ := h
 injection hv with e1 e2 e3; subst e1; subst e2; subst e3
 obtain ⟨cs, hc, hall⟩ := hq.at_ i hi
 obtain ⟨pa, pc, ta, tc, n0, n1, n2, n3, oa, oc, rfl, h1, h2, h3, h4⟩ := hc
 obtain ⟨b, off, ha, hb, hcell⟩ := hr.some_ (by
  intro he
  have := hq.len
  rw [he] at this
  simp at this; omega)
 refine ⟨b, off, pa, pc, ta, tc, n0, n1, n2, n3, oa, oc, ha, hb, h1, h2, h3, h4, fun j u hj => ?_⟩
 have hj21 : j < 21 := by
  have := (List.getElem?_eq_some_iff.1 hj).1
  simpa [opCells] using this
 rw [Nat.add_assoc]
 exact hcell _ _ ((hall j hj21).trans hj)
end Go.Proofs.YtbommcakcmhalaaGreatDoor
/- Walks: slices.Concat at paths; IndexFunc at each row; fix.under. -/
namespace Go.Proofs.YtbommcakcmhalaaGreatDoor
open Go.RowKit Go.Redl
theorem grow_int (m : Nat) (w : World) (hm : m <= 1000000) :
 Calls Tryz.prog 203 #[.slice none 0 0, .int .i64 m] w (MadeRow w 3 1 0 []) := by
 by_cases h0 : m = 0
 . subst h0
   go_enter Tryz.func203, Tryz.ntmps203
   go_wp2_with fail
   go_ret
   exact ⟨_, rfl, World.ownsRow_nil _ _ _ _, Below.refl _ _⟩
 . have hpos : 0 < m := by omega
   go_enter Tryz.func203, Tryz.ntmps203
   go_wp2_with (at_builtin; refine wpList_nil_zeros rfl _ _ 36 3 rfl 3 (.int .i64 0) 1 8 Tryz.underlying36 Tryz.underlying3 info_int rfl (by decide) m hpos rfl rfl ?h63 ?hb ?_)
   case h63 => omega
   case hb => omega
   intro g cap w1 hown hcap hcm hb
   have Ho := Lib.hid hown; have Hb := Lib.hid hb; clear hown hb
   unfold maxLen at hcm
   go_wp2_with fail
   go_ret
   exact ⟨_, rfl, Ho.out, Hb.out⟩
theorem concat_int (a : Option Addr) (cap B : Nat) (vals : List Value) (pss : List (List Value)) (w : World) (hr : RowA w B 1 a vals.length cap vals) (hp : Parts w B vals pss)
 (hB : B <= w.heap.size) (hn : pss.flatten.length <= 1000000) :
 Calls Tryz.prog 153 #[.slice a vals.length cap] w (MadeRow w 3 1 pss.flatten.length pss.flatten) := by
 have hm : vals.length <= 9223372036854775807 := by have h1 := hr.le; have h2 := hr.max; unfold maxLen at h2; omega
 have Hn := Lib.hid hp.len
 go_enter Tryz.func153, Tryz.ntmps153
 go_wp2_with fail
 go_loop [3, 11] (fun s i => ∃ k : Nat, k <= vals.length /\ i = .int .i64 k /\ s = .int .i64 (tot pss k)) (fun _ i => vals.length - (intOf i).toNat)
 case atStart => exact ⟨0, Nat.zero_le _, rfl, by rw [tot_zero]; rfl⟩
 case round =>
  obtain ⟨k, hk, rfl, rfl⟩ := hrel
  have ht := tot_le pss k
  by_cases hlt : k < vals.length
  . have hlt' : k < pss.length := by rw [<- Hn.out]; exact hlt
    have hs := tot_succ pss k hlt'
    have ht' := tot_le pss (k + 1)
    obtain ⟨pa, pc, hv, hpr⟩ := hp.each k hlt'
    obtain ⟨b, off, rfl, hb, hall⟩ := hr.some_ (by rintro rfl; simp at hlt)
    have hcell := hall k _ hv
    clear hall
    obtain ⟨ps, hps⟩ : ∃ ps, pss.getD k [] = ps := ⟨_, rfl⟩
    rw [hps] at hs hv hcell hpr
    have hsum : (tot pss k : Int) + (ps.length : Int) <= 1000000 := by omega
    have Hs := Lib.hid hs; have Hv := Lib.hid hv; have Hp := Lib.hid hps
    clear hs hv hps
    go_wp2_with fail
    go_round
    case rel => exact ⟨k + 1, by omega, by go_num, by rw [Hs.out]; go_num⟩
    case measure => simp [intOf]; omega
  . have : k = vals.length := by omega
    subst this
    have H := Lib.hid (grow_int (tot pss vals.length) w (by omega))
    go_wp2_with fail
    refine H.out.mono ?_
    rintro e w1 ⟨v, rfl, hown, hbel⟩
    have Ho := Lib.hid hown; have Hb := Lib.hid hbel
    clear hown hbel H
    go_wp2_with fail
    go_loopw [6, 27] (fun v i wr => ∃ k : Nat, k <= vals.length /\ i = .int .i64 k /\ wr.ownsRow w.heap.size 3 1 v (tot pss k) (pss.take k).flatten /\ Below w.heap.size w wr) (fun _ i _ => vals.length - (intOf i).toNat)
    case atStart => exact ⟨0, Nat.zero_le _, rfl, by rw [tot_zero]; simpa using Ho.out, Hb.out⟩
    case round =>
     obtain ⟨k, hk, rfl, hown, hbel⟩ := hrel
     clear Ho Hb
     have ht := tot_le pss k
     have Ho := Lib.hid hown; have Hb := Lib.hid hbel
     clear hown hbel
     by_cases hlt : k < vals.length
     . have hlt' : k < pss.length := by rw [<- Hn.out]; exact hlt
       have hs := tot_succ pss k hlt'
       have ht' := tot_le pss (k + 1)
       have hr2 := hr.keep (Hb.out.mono hB) (Nat.le_refl _)
       have hp2 := hp.keep (Hb.out.mono hB) (Nat.le_refl _)
       obtain ⟨pa, pc, hv, hpr⟩ := hp2.each k hlt'
       obtain ⟨b, off, rfl, hb, hall⟩ := hr2.some_ (by rintro rfl; simp at hlt)
       have hcell := hall k _ hv
       clear hall
       have hfl := flat_succ pss k hlt'
       obtain ⟨ps, hps⟩ : ∃ ps, pss.getD k [] = ps := ⟨_, rfl⟩
       rw [hps] at hs hv hcell hpr hfl
       have hsum : (tot pss k : Int) + (ps.length : Int) <= 1000000 := by omega
       have Hs := Lib.hid hs; have Hv := Lib.hid hv; have Hp := Lib.hid hps; have Hf := Lib.hid hfl
       clear hs hv hps hfl
       go_wp2_with (at_builtin; refine wpList_app rfl _ _ 36 rfl w.heap.size 3 (.int .i64 0) 1 8 Tryz.underlying36 info_int rfl (by decide) _ _ _ rfl Ho.out _ ps.length pc B ps rfl hpr ?h63 ?hb ?hbase ?_)
       case h63 => unfold maxLen; omega
       case hb => omega
       case hbase => exact Hb.out.size
       intro v' w2 hown' hgrow
       rw [<- Hs.out, <- Hf.out] at hown'
       have hbel' := Hb.out.grown hgrow Hb.out.size (fun k hk => (Ho.out.lt k hk).1)
       have Ho' := Lib.hid hown'; have Hb' := Lib.hid hbel'
       clear hown' hgrow hbel'
       go_wp2_with fail
       go_roundw
       case rel => exact ⟨k + 1, by omega, by go_num, Ho'.out, Hb'.out⟩
       case measure => simp [intOf]; omega
     . have : k = vals.length := by omega
       subst this
       go_wp2_with fail
       go_ret
       refine ⟨_, rfl, ?_, Hb.out⟩
       have := Ho.out
       rw [Hn.out, tot_all, List.take_of_length_le (Nat.le_refl _)] at this
       exact this
theorem idx_rule (n : Nat) (a : Option Addr) (cap cb : Nat) (caps : Array Value) (pred : Nat -> Bool) (W : World) (hn : n <= 100000000) (hcb : ∀ args w, (callFunc cb args).run Tryz.prog w = .ok (.enter cb args) w)
 (H : ∀ (k : Nat) (W' : World), k < n -> Below W.heap.size W W' -> ∃ b off c0 c1 c2 c3 c4 c5 c6 c7, a = some ⟨b, off, none⟩ /\ W'.cell? ⟨b, off + k * 8, none⟩ = some c0 /\ W'.cell? ⟨b, off + k * 8 + 1, none⟩ = some c1 /\ W'.cell? ⟨b, off + k * 8 + 2, none⟩ = some c2 /\ W'.cell? ⟨b, off + k * 8 + 3, none⟩ = some c3 /\ W'.cell? ⟨b, off + k * 8 + 4, none⟩ = some c4 /\ W'.cell? ⟨b, off + k * 8 + 5, none⟩ = some c5 /\ W'.cell? ⟨b, off + k * 8 + 6, none⟩ = some c6 /\ W'.cell? ⟨b, off + k * 8 + 7, none⟩ = some c7 /\ Calls Tryz.prog cb (#[.agg #[c0, c1, c2, c3, c4, c5, c6, c7]] ++ caps) W' fun e w' => e = .returned (.bool (pred k)) /\ Below W'.heap.size W' w') :
 Calls Tryz.prog 98 #[.slice a n cap, .func (.func cb) #[] caps] W fun e w' => e = .returned (.int .i64 (idxP pred n)) /\ Below W.heap.size W w' := by
 have HH := Lib.hid H
 clear H
 go_enter Tryz.func98, Tryz.ntmps98
 go_wp2_with fail
 go_loopg [8] n (fun g i wr => ∃ k : Nat, k + g = n /\ i = .int .i64 k /\ (∀ j, j < k -> pred j = false) /\ Below W.heap.size W wr)
 case atStart => exact ⟨0, by omega, rfl, by intro j hj; omega, Below.refl _ _⟩
 case round =>
  obtain ⟨k, hg, rfl, hb, hbr⟩ := hrel
  have Hbr := Lib.hid hbr; have Hb := Lib.hid hb
  by_cases hlt : k < n
  . obtain ⟨b, off, c0, c1, c2, c3, c4, c5, c6, c7, rfl, h0, h1, h2, h3, h4, h5, h6, h7, hC⟩ := HH.out k wr hlt hbr
    have hlti : (k : Int) < n := by omega
    clear hb hbr HH
    cases hp : pred k with
    | true =>
      rw [hp] at hC
      have HC := Lib.hid hC
      have Hr := Lib.hid (idxP_some hlt hp Hb.out)
      clear hC hp
      go_wp2_with fail
      refine HC.out.mono ?_
      rintro e w1 ⟨rfl, hbel⟩
      have Hb1 := Lib.hid (Hbr.out.trans (hbel.mono Hbr.out.size))
      clear hbel HC
      go_wp2_with fail
      go_ret
      exact ⟨ret_int Hr.out.symm, Hb1.out⟩
    | false =>
      rw [hp] at hC
      have HC := Lib.hid hC
      have Hr := Lib.hid (show ∀ j, j < k + 1 -> pred j = false from fun j hj => by
       rcases Nat.lt_or_ge j k with h | h
       . exact Hb.out j h
       . obtain rfl : j = k := by omega
         exact hp)
      clear hC hp
      go_wp2_with fail
      refine HC.out.mono ?_
      rintro e w1 ⟨rfl, hbel⟩
      have Hb1 := Lib.hid (Hbr.out.trans (hbel.mono Hbr.out.size))
      clear hbel HC
      go_wp2_with fail
      go_roundg (gk - 1)
      case measure => omega
      case rel => exact ⟨k + 1, by omega, by go_num, Hr.out, Hb1.out⟩
  . obtain rfl : k = n := by omega
    have Hr := Lib.hid (idxP_none hb)
    clear hb hbr HH
    go_wp2_with fail
    go_ret
    exact ⟨ret_int Hr.out.symm, Hbr.out⟩
theorem idx_pair (n : Nat) (a : Option Addr) (cap cb : Nat) (caps : Array Value) (pred : Nat -> Bool) (W : World) (hn : n <= 100000000) (hcb : ∀ args w, (callFunc cb args).run Tryz.prog w = .ok (.enter cb args) w)
 (H : ∀ (k : Nat) (W' : World), k < n -> Below W.heap.size W W' -> ∃ b off c0 c1 c2, a = some ⟨b, off, none⟩ /\ W'.cell? ⟨b, off + k * 3, none⟩ = some c0 /\ W'.cell? ⟨b, off + k * 3 + 1, none⟩ = some c1 /\ W'.cell? ⟨b, off + k * 3 + 2, none⟩ = some c2 /\ Calls Tryz.prog cb (#[.agg #[c0, c1, c2]] ++ caps) W' fun e w' => e = .returned (.bool (pred k)) /\ Below W'.heap.size W' w') :
 Calls Tryz.prog 169 #[.slice a n cap, .func (.func cb) #[] caps] W fun e w' => e = .returned (.int .i64 (idxP pred n)) /\ Below W.heap.size W w' := by
 have HH := Lib.hid H
 clear H
 go_enter Tryz.func169, Tryz.ntmps169
 go_wp2_with fail
 go_loopg [8] n (fun g i wr => ∃ k : Nat, k + g = n /\ i = .int .i64 k /\ (∀ j, j < k -> pred j = false) /\ Below W.heap.size W wr)
 case atStart => exact ⟨0, by omega, rfl, by intro j hj; omega, Below.refl _ _⟩
 case round =>
  obtain ⟨k, hg, rfl, hb, hbr⟩ := hrel
  have Hbr := Lib.hid hbr; have Hb := Lib.hid hb
  by_cases hlt : k < n
  . obtain ⟨b, off, c0, c1, c2, rfl, h0, h1, h2, hC⟩ := HH.out k wr hlt hbr
    have hlti : (k : Int) < n := by omega
    clear hb hbr HH
    cases hp : pred k with
    | true =>
      rw [hp] at hC
      have HC := Lib.hid hC
      have Hr := Lib.hid (idxP_some hlt hp Hb.out)
      clear hC hp
      go_wp2_with fail
      refine HC.out.mono ?_
      rintro e w1 ⟨rfl, hbel⟩
      have Hb1 := Lib.hid (Hbr.out.trans (hbel.mono Hbr.out.size))
      clear hbel HC
      go_wp2_with fail
      go_ret
      exact ⟨ret_int Hr.out.symm, Hb1.out⟩
    | false =>
      rw [hp] at hC
      have HC := Lib.hid hC
      have Hr := Lib.hid (show ∀ j, j < k + 1 -> pred j = false from fun j hj => by
       rcases Nat.lt_or_ge j k with h | h
       . exact Hb.out j h
       . obtain rfl : j = k := by omega
         exact hp)
      clear hC hp
      go_wp2_with fail
      refine HC.out.mono ?_
      rintro e w1 ⟨rfl, hbel⟩
      have Hb1 := Lib.hid (Hbr.out.trans (hbel.mono Hbr.out.size))
      clear hbel HC
      go_wp2_with fail
      go_roundg (gk - 1)
      case measure => omega
      case rel => exact ⟨k + 1, by omega, by go_num, Hr.out, Hb1.out⟩
  . obtain rfl : k = n := by omega
    have Hr := Lib.hid (idxP_none hb)
    clear hb hbr HH
    go_wp2_with fail
    go_ret
    exact ⟨ret_int Hr.out.symm, Hbr.out⟩
theorem idx_act (n : Nat) (a : Option Addr) (cap cb : Nat) (caps : Array Value) (pred : Nat -> Bool) (W : World) (hn : n <= 100000000) (hcb : ∀ args w, (callFunc cb args).run Tryz.prog w = .ok (.enter cb args) w)
 (H : ∀ (k : Nat) (W' : World), k < n -> Below W.heap.size W W' -> ∃ b off c0 c1, a = some ⟨b, off, none⟩ /\ W'.cell? ⟨b, off + k * 2, none⟩ = some c0 /\ W'.cell? ⟨b, off + k * 2 + 1, none⟩ = some c1 /\ Calls Tryz.prog cb (#[.agg #[c0, c1]] ++ caps) W' fun e w' => e = .returned (.bool (pred k)) /\ Below W'.heap.size W' w') :
 Calls Tryz.prog 178 #[.slice a n cap, .func (.func cb) #[] caps] W fun e w' => e = .returned (.int .i64 (idxP pred n)) /\ Below W.heap.size W w' := by
 have HH := Lib.hid H
 clear H
 go_enter Tryz.func178, Tryz.ntmps178
 go_wp2_with fail
 go_loopg [8] n (fun g i wr => ∃ k : Nat, k + g = n /\ i = .int .i64 k /\ (∀ j, j < k -> pred j = false) /\ Below W.heap.size W wr)
 case atStart => exact ⟨0, by omega, rfl, by intro j hj; omega, Below.refl _ _⟩
 case round =>
  obtain ⟨k, hg, rfl, hb, hbr⟩ := hrel
  have Hbr := Lib.hid hbr; have Hb := Lib.hid hb
  by_cases hlt : k < n
  . obtain ⟨b, off, c0, c1, rfl, h0, h1, hC⟩ := HH.out k wr hlt hbr
    have hlti : (k : Int) < n := by omega
    clear hb hbr HH
    cases hp : pred k with
    | true =>
      rw [hp] at hC
      have HC := Lib.hid hC
      have Hr := Lib.hid (idxP_some hlt hp Hb.out)
      clear hC hp
      go_wp2_with fail
      refine HC.out.mono ?_
      rintro e w1 ⟨rfl, hbel⟩
      have Hb1 := Lib.hid (Hbr.out.trans (hbel.mono Hbr.out.size))
      clear hbel HC
      go_wp2_with fail
      go_ret
      exact ⟨ret_int Hr.out.symm, Hb1.out⟩
    | false =>
      rw [hp] at hC
      have HC := Lib.hid hC
      have Hr := Lib.hid (show ∀ j, j < k + 1 -> pred j = false from fun j hj => by
       rcases Nat.lt_or_ge j k with h | h
       . exact Hb.out j h
       . obtain rfl : j = k := by omega
         exact hp)
      clear hC hp
      go_wp2_with fail
      refine HC.out.mono ?_
      rintro e w1 ⟨rfl, hbel⟩
      have Hb1 := Lib.hid (Hbr.out.trans (hbel.mono Hbr.out.size))
      clear hbel HC
      go_wp2_with fail
      go_roundg (gk - 1)
      case measure => omega
      case rel => exact ⟨k + 1, by omega, by go_num, Hr.out, Hb1.out⟩
  . obtain rfl : k = n := by omega
    have Hr := Lib.hid (idxP_none hb)
    clear hb hbr HH
    go_wp2_with fail
    go_ret
    exact ⟨ret_int Hr.out.symm, Hbr.out⟩
theorem idx_node (n : Nat) (a : Option Addr) (cap cb : Nat) (caps : Array Value) (pred : Nat -> Bool) (W : World) (hn : n <= 100000000) (hcb : ∀ args w, (callFunc cb args).run Tryz.prog w = .ok (.enter cb args) w)
 (H : ∀ (k : Nat) (W' : World), k < n -> Below W.heap.size W W' -> ∃ b off c0 c1 c2 c3, a = some ⟨b, off, none⟩ /\ W'.cell? ⟨b, off + k * 4, none⟩ = some c0 /\ W'.cell? ⟨b, off + k * 4 + 1, none⟩ = some c1 /\ W'.cell? ⟨b, off + k * 4 + 2, none⟩ = some c2 /\ W'.cell? ⟨b, off + k * 4 + 3, none⟩ = some c3 /\ Calls Tryz.prog cb (#[.agg #[c0, c1, c2, c3]] ++ caps) W' fun e w' => e = .returned (.bool (pred k)) /\ Below W'.heap.size W' w') :
 Calls Tryz.prog 163 #[.slice a n cap, .func (.func cb) #[] caps] W fun e w' => e = .returned (.int .i64 (idxP pred n)) /\ Below W.heap.size W w' := by
 have HH := Lib.hid H
 clear H
 go_enter Tryz.func163, Tryz.ntmps163
 go_wp2_with fail
 go_loopg [8] n (fun g i wr => ∃ k : Nat, k + g = n /\ i = .int .i64 k /\ (∀ j, j < k -> pred j = false) /\ Below W.heap.size W wr)
 case atStart => exact ⟨0, by omega, rfl, by intro j hj; omega, Below.refl _ _⟩
 case round =>
  obtain ⟨k, hg, rfl, hb, hbr⟩ := hrel
  have Hbr := Lib.hid hbr; have Hb := Lib.hid hb
  by_cases hlt : k < n
  . obtain ⟨b, off, c0, c1, c2, c3, rfl, h0, h1, h2, h3, hC⟩ := HH.out k wr hlt hbr
    have hlti : (k : Int) < n := by omega
    clear hb hbr HH
    cases hp : pred k with
    | true =>
      rw [hp] at hC
      have HC := Lib.hid hC
      have Hr := Lib.hid (idxP_some hlt hp Hb.out)
      clear hC hp
      go_wp2_with fail
      refine HC.out.mono ?_
      rintro e w1 ⟨rfl, hbel⟩
      have Hb1 := Lib.hid (Hbr.out.trans (hbel.mono Hbr.out.size))
      clear hbel HC
      go_wp2_with fail
      go_ret
      exact ⟨ret_int Hr.out.symm, Hb1.out⟩
    | false =>
      rw [hp] at hC
      have HC := Lib.hid hC
      have Hr := Lib.hid (show ∀ j, j < k + 1 -> pred j = false from fun j hj => by
       rcases Nat.lt_or_ge j k with h | h
       . exact Hb.out j h
       . obtain rfl : j = k := by omega
         exact hp)
      clear hC hp
      go_wp2_with fail
      refine HC.out.mono ?_
      rintro e w1 ⟨rfl, hbel⟩
      have Hb1 := Lib.hid (Hbr.out.trans (hbel.mono Hbr.out.size))
      clear hbel HC
      go_wp2_with fail
      go_roundg (gk - 1)
      case measure => omega
      case rel => exact ⟨k + 1, by omega, by go_num, Hr.out, Hb1.out⟩
  . obtain rfl : k = n := by omega
    have Hr := Lib.hid (idxP_none hb)
    clear hb hbr HH
    go_wp2_with fail
    go_ret
    exact ⟨ret_int Hr.out.symm, Hbr.out⟩
theorem idx_prop (n : Nat) (a : Option Addr) (cap cb : Nat) (caps : Array Value) (pred : Nat -> Bool) (W : World) (hn : n <= 100000000) (hcb : ∀ args w, (callFunc cb args).run Tryz.prog w = .ok (.enter cb args) w)
 (H : ∀ (k : Nat) (W' : World), k < n -> Below W.heap.size W W' -> ∃ b off c0 c1, a = some ⟨b, off, none⟩ /\ W'.cell? ⟨b, off + k * 2, none⟩ = some c0 /\ W'.cell? ⟨b, off + k * 2 + 1, none⟩ = some c1 /\ Calls Tryz.prog cb (#[.agg #[c0, c1]] ++ caps) W' fun e w' => e = .returned (.bool (pred k)) /\ Below W'.heap.size W' w') :
 Calls Tryz.prog 176 #[.slice a n cap, .func (.func cb) #[] caps] W fun e w' => e = .returned (.int .i64 (idxP pred n)) /\ Below W.heap.size W w' := by
 have HH := Lib.hid H
 clear H
 go_enter Tryz.func176, Tryz.ntmps176
 go_wp2_with fail
 go_loopg [8] n (fun g i wr => ∃ k : Nat, k + g = n /\ i = .int .i64 k /\ (∀ j, j < k -> pred j = false) /\ Below W.heap.size W wr)
 case atStart => exact ⟨0, by omega, rfl, by intro j hj; omega, Below.refl _ _⟩
 case round =>
  obtain ⟨k, hg, rfl, hb, hbr⟩ := hrel
  have Hbr := Lib.hid hbr; have Hb := Lib.hid hb
  by_cases hlt : k < n
  . obtain ⟨b, off, c0, c1, rfl, h0, h1, hC⟩ := HH.out k wr hlt hbr
    have hlti : (k : Int) < n := by omega
    clear hb hbr HH
    cases hp : pred k with
    | true =>
      rw [hp] at hC
      have HC := Lib.hid hC
      have Hr := Lib.hid (idxP_some hlt hp Hb.out)
      clear hC hp
      go_wp2_with fail
      refine HC.out.mono ?_
      rintro e w1 ⟨rfl, hbel⟩
      have Hb1 := Lib.hid (Hbr.out.trans (hbel.mono Hbr.out.size))
      clear hbel HC
      go_wp2_with fail
      go_ret
      exact ⟨ret_int Hr.out.symm, Hb1.out⟩
    | false =>
      rw [hp] at hC
      have HC := Lib.hid hC
      have Hr := Lib.hid (show ∀ j, j < k + 1 -> pred j = false from fun j hj => by
       rcases Nat.lt_or_ge j k with h | h
       . exact Hb.out j h
       . obtain rfl : j = k := by omega
         exact hp)
      clear hC hp
      go_wp2_with fail
      refine HC.out.mono ?_
      rintro e w1 ⟨rfl, hbel⟩
      have Hb1 := Lib.hid (Hbr.out.trans (hbel.mono Hbr.out.size))
      clear hbel HC
      go_wp2_with fail
      go_roundg (gk - 1)
      case measure => omega
      case rel => exact ⟨k + 1, by omega, by go_num, Hr.out, Hb1.out⟩
  . obtain rfl : k = n := by omega
    have Hr := Lib.hid (idxP_none hb)
    clear hb hbr HH
    go_wp2_with fail
    go_ret
    exact ⟨ret_int Hr.out.symm, Hbr.out⟩
end Go.Proofs.YtbommcakcmhalaaGreatDoor
/- Walks: the reference of glyph, but for its quoting. -/
namespace Go.Proofs.YtbommcakcmhalaaGreatDoor
open Go.RowKit Go.Redl
end Go.Proofs.YtbommcakcmhalaaGreatDoor
