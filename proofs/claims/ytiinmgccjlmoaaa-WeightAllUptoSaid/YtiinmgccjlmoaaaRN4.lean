/- Schemas as plain data; how they lie in memory; one that came in. -/
import Derived.Test.YtiinmgccjlmoaaaRN2
import Derived.OpenShut
namespace Go.Redl
open Go.RowKit
set_option linter.unusedVariables false

abbrev ActD := Int × List UInt8
abbrev PairD := List UInt8 × ActD
/-- A rule. -/
structure RuleD where
  type : List UInt8
  text : ActD
  other : ActD
  kids : List PairD
  fill : Int
  fillT : List UInt8
/-- A schema. -/
structure SchemaD where
  rules : List RuleD
  els : RuleD
  order : List Int
  cap : Int
abbrev strV (s : List UInt8) : Value := .string ⟨s.toArray⟩
def actCells (a : ActD) : List Value := [.int .i64 a.1, strV a.2]
def pairCells (l : List PairD) : List Value := l.flatMap fun p => [strV p.1, .int .i64 p.2.1, strV p.2.2]
theorem pairCells_len (l : List PairD) : (pairCells l).length = l.length * 3 := by
  induction l with
  | nil => rfl
  | cons p l ih => simp only [pairCells, List.flatMap_cons, List.length_append, List.length_cons, List.length_nil] at *; omega
theorem pairCells_one (l : List PairD) : ∀ u ∈ pairCells l, u.oneCell' = true := by
  intro u hu
  simp only [pairCells, List.mem_flatMap] at hu
  obtain ⟨p, -, hp⟩ := hu
  simp at hp
  rcases hp with rfl | rfl | rfl <;> rfl
theorem pairCells_at : ∀ (l : List PairD) (i : Nat) (hi : i < l.length), (pairCells l)[i * 3]? = some (strV l[i].1) ∧ (pairCells l)[i * 3 + 1]? = some (.int .i64 l[i].2.1) ∧ (pairCells l)[i * 3 + 2]? = some (strV l[i].2.2)
  | [], i, hi => absurd hi (by simp)
  | p :: l, 0, hi => by simp [pairCells]
  | p :: l, i + 1, hi => by
    have h := pairCells_at l i (by simpa using hi)
    have e : pairCells (p :: l) = strV p.1 :: .int .i64 p.2.1 :: strV p.2.2 :: pairCells l := by simp [pairCells]
    rw [e, show (i + 1) * 3 = i * 3 + 1 + 1 + 1 by omega]
    simpa using h

/-- The eight cells of a rule, but for where its row lies. -/
def ruleCells (r : RuleD) (a : Option Addr) (c : Nat) : List Value := [strV r.type, .int .i64 r.text.1, strV r.text.2, .int .i64 r.other.1, strV r.other.2, .slice a r.kids.length c, .int .i64 r.fill, strV r.fillT]
def RuleC (w : World) (B : Nat) (r : RuleD) (cs : List Value) : Prop := ∃ a c, cs = ruleCells r a c ∧ RowA w B 3 a r.kids.length c (pairCells r.kids)
def RulesC (w : World) (B : Nat) : List RuleD → List Value → Prop
  | [], css => css = []
  | r :: rs, css => ∃ c1 c2, css = c1 ++ c2 ∧ RuleC w B r c1 ∧ RulesC w B rs c2
def SchemaC (w : World) (B : Nat) (s : SchemaD) (cs : List Value) : Prop :=
  ∃ a c css ec, cs = .slice a s.rules.length c :: (ec ++ (s.order.map (Value.int .i64) ++ [.int .i64 s.cap])) ∧ RowA w B 8 a s.rules.length c css ∧ RulesC w B s.rules css ∧ RuleC w B s.els ec ∧ s.order.length = 6
def SchemaV (w : World) (B : Nat) (s : SchemaD) (v : Value) : Prop := ∃ cs : List Value, v = .agg cs.toArray ∧ SchemaC w B s cs
def RuleV (w : World) (B : Nat) (r : RuleD) (v : Value) : Prop := ∃ cs : List Value, v = .agg cs.toArray ∧ RuleC w B r cs

theorem RuleC.keep {w w' : World} {B B' : Nat} {r : RuleD} {cs : List Value} (h : RuleC w B r cs) (hb : Below B w w') (hB : B ≤ B') : RuleC w' B' r cs := by
  obtain ⟨a, c, h1, h2⟩ := h
  exact ⟨a, c, h1, h2.keep hb hB⟩
theorem RulesC.keep {w w' : World} {B B' : Nat} (hb : Below B w w') (hB : B ≤ B') : ∀ {rs : List RuleD} {css : List Value}, RulesC w B rs css → RulesC w' B' rs css
  | [], css, h => h
  | r :: rs, css, h => by
    obtain ⟨c1, c2, h1, h2, h3⟩ := h
    exact ⟨c1, c2, h1, h2.keep hb hB, RulesC.keep hb hB h3⟩
theorem SchemaC.keep {w w' : World} {B B' : Nat} {s : SchemaD} {cs : List Value} (h : SchemaC w B s cs) (hb : Below B w w') (hB : B ≤ B') : SchemaC w' B' s cs := by
  obtain ⟨a, c, css, ec, h1, h2, h3, h4, h5⟩ := h
  exact ⟨a, c, css, ec, h1, h2.keep hb hB, RulesC.keep hb hB h3, h4.keep hb hB, h5⟩
theorem SchemaV.keep {w w' : World} {B B' : Nat} {s : SchemaD} {v : Value} (h : SchemaV w B s v) (hb : Below B w w') (hB : B ≤ B') : SchemaV w' B' s v := by
  obtain ⟨cs, h1, h2⟩ := h
  exact ⟨cs, h1, h2.keep hb hB⟩
theorem RuleV.keep {w w' : World} {B B' : Nat} {r : RuleD} {v : Value} (h : RuleV w B r v) (hb : Below B w w') (hB : B ≤ B') : RuleV w' B' r v := by
  obtain ⟨cs, h1, h2⟩ := h
  exact ⟨cs, h1, h2.keep hb hB⟩
theorem RuleC.one {w : World} {B : Nat} {r : RuleD} {cs : List Value} (h : RuleC w B r cs) : ∀ u ∈ cs, u.oneCell' = true := by
  obtain ⟨a, c, rfl, -⟩ := h
  intro u hu
  simp [ruleCells] at hu
  rcases hu with rfl | rfl | rfl | rfl | rfl | rfl | rfl | rfl <;> rfl
theorem RuleC.len {w : World} {B : Nat} {r : RuleD} {cs : List Value} (h : RuleC w B r cs) : cs.length = 8 := by
  obtain ⟨a, c, rfl, -⟩ := h
  rfl
theorem RulesC.one {w : World} {B : Nat} : ∀ {rs : List RuleD} {css : List Value}, RulesC w B rs css → ∀ u ∈ css, u.oneCell' = true
  | [], css, h => by rw [show css = [] from h]; simp
  | r :: rs, css, h => by
    obtain ⟨c1, c2, rfl, h2, h3⟩ := h
    intro u hu
    rcases List.mem_append.1 hu with hu | hu
    · exact h2.one u hu
    · exact RulesC.one h3 u hu
theorem RulesC.at_ {w : World} {B : Nat} : ∀ {rs : List RuleD} {css : List Value}, RulesC w B rs css → ∀ (k : Nat) (hk : k < rs.length), ∃ cs, RuleC w B rs[k] cs ∧ ∀ j u, cs[j]? = some u → css[k * 8 + j]? = some u
  | [], css, h, k, hk => absurd hk (by simp)
  | r :: rs, css, h, 0, hk => by
    obtain ⟨c1, c2, rfl, h2, h3⟩ := h
    refine ⟨c1, h2, fun j u hj => ?_⟩
    rw [Nat.zero_mul, Nat.zero_add, List.getElem?_append_left (List.getElem?_eq_some_iff.1 hj).1]
    exact hj
  | r :: rs, css, h, k + 1, hk => by
    obtain ⟨c1, c2, rfl, h2, h3⟩ := h
    obtain ⟨cs, h4, h5⟩ := RulesC.at_ h3 k (by simpa using hk)
    refine ⟨cs, h4, fun j u hj => ?_⟩
    rw [List.getElem?_append_right (by rw [h2.len]; omega), h2.len, show (k + 1) * 8 + j - 8 = k * 8 + j by omega]
    exact h5 j u hj
/-- The k-th rule of a row: its eight cells. -/
theorem RowA.rule_at {w : World} {B n cap : Nat} {a : Option Addr} {rs : List RuleD} {css : List Value} (h : RowA w B 8 a n cap css) (hr : RulesC w B rs css) (k : Nat) (hk : k < rs.length) :
    ∃ b off ra rc, a = some ⟨b, off, none⟩ ∧ b < B ∧ RowA w B 3 ra rs[k].kids.length rc (pairCells rs[k].kids) ∧ ∀ j u, (ruleCells rs[k] ra rc)[j]? = some u → w.cell? ⟨b, off + k * 8 + j, none⟩ = some u := by
  obtain ⟨cs, ⟨ra, rc, rfl, h2⟩, h3⟩ := hr.at_ k hk
  have h0 := h3 0 _ (show (ruleCells rs[k] ra rc)[0]? = some (strV rs[k].type) from rfl)
  obtain ⟨b, off, ha, hb, hc⟩ := h.some_ (by rintro rfl; simp at h0)
  refine ⟨b, off, ra, rc, ha, hb, h2, fun j u hj => ?_⟩
  have := hc _ u (h3 j u hj)
  rwa [← Nat.add_assoc] at this
/-- The k-th pair of a rule. -/
theorem RowA.pair_at {w : World} {B n cap : Nat} {a : Option Addr} {l : List PairD} (h : RowA w B 3 a n cap (pairCells l)) (k : Nat) (hk : k < l.length) :
    ∃ b off, a = some ⟨b, off, none⟩ ∧ b < B ∧ w.cell? ⟨b, off + k * 3, none⟩ = some (strV l[k].1) ∧ w.cell? ⟨b, off + k * 3 + 1, none⟩ = some (.int .i64 l[k].2.1) ∧ w.cell? ⟨b, off + k * 3 + 2, none⟩ = some (strV l[k].2.2) := by
  obtain ⟨h1, h2, h3⟩ := pairCells_at l k hk
  obtain ⟨b, off, ha, hb, hc⟩ := h.some_ (by intro e; rw [e] at h1; simp at h1)
  exact ⟨b, off, ha, hb, hc _ _ h1, by have := hc _ _ h2; rwa [← Nat.add_assoc] at this, by have := hc _ _ h3; rwa [← Nat.add_assoc] at this⟩

/-- How much a schema holds. -/
def pairsWt : List PairD → Nat
  | [] => 0
  | p :: l => 3 + p.1.length + p.2.2.length + pairsWt l
def RuleD.wt (r : RuleD) : Nat := 6 + r.type.length + r.text.2.length + r.other.2.length + r.fillT.length + pairsWt r.kids
def rulesWt : List RuleD → Nat
  | [] => 0
  | r :: rs => r.wt + rulesWt rs
def SchemaD.wt (s : SchemaD) : Nat := rulesWt s.rules + s.els.wt
theorem pairsWt_len (l : List PairD) : 3 * l.length ≤ pairsWt l := by
  induction l with
  | nil => simp [pairsWt]
  | cons p l ih => simp only [pairsWt, List.length_cons]; omega
theorem pairsWt_mem {l : List PairD} {p : PairD} (h : p ∈ l) : 3 + p.1.length + p.2.2.length ≤ pairsWt l := by
  induction l with
  | nil => cases h
  | cons q l ih =>
    simp only [pairsWt]
    rcases List.mem_cons.1 h with rfl | h
    · omega
    · have := ih h; omega
theorem rulesWt_len (l : List RuleD) : 6 * l.length ≤ rulesWt l := by
  induction l with
  | nil => simp [rulesWt]
  | cons p l ih => simp only [rulesWt, RuleD.wt, List.length_cons]; omega
theorem rulesWt_mem {l : List RuleD} {r : RuleD} (h : r ∈ l) : r.wt ≤ rulesWt l := by
  induction l with
  | nil => cases h
  | cons q l ih =>
    simp only [rulesWt]
    rcases List.mem_cons.1 h with rfl | h
    · omega
    · have := ih h; omega

end Go.Redl
namespace Go.Proofs.Ytiinmgccjlmoaaa
open Go.RowKit Go.Redl Go.Deep
set_option linter.unusedVariables false

def ActΦ {H : Type} (a : ActD) (cs : List Value) (d : DataW H) : Prop := cs = actCells a ∧ 1 + a.2.length ≤ Rows.uptoBulk d
def PairΦ {H : Type} (p : PairD) (cs : List Value) (d : DataW H) : Prop := cs = [strV p.1, .int .i64 p.2.1, strV p.2.2] ∧ 3 + p.1.length + p.2.2.length ≤ Rows.uptoBulk d
def RuleΦ {H : Type} (W : World) (r : RuleD) (cs : List Value) (d : DataW H) : Prop := RuleC W W.heap.size r cs ∧ r.wt ≤ Rows.uptoBulk d

set_option maxRecDepth 100000 in
theorem act_of_trod {H : Type} {enc : TypeId × Value → H} {W : World} {fuel : Nat} {cs : List Value} {x : DataW H × List MemPlace} (h : DataW.trod enc Try.prog W 0 (fun _ => true) true fuel 24 cs = some x) : ∃ a, ActΦ a cs x.1 := by
  obtain ⟨xs, n, rfl, rfl, hl, hx, hf⟩ := DataW.trod_struct Try.underlying24 h
  rw [show Try.prog.cellsOf 24 = 2 by kernel_rfl] at hl
  match xs, hx, cs, hl with
  | [y0, y1], _, [v0, v1], _ =>
    have g0 := hf 0 _ rfl
    have g1 := hf 1 _ rfl
    have k0 : Try.prog.cellsOf 3 = 1 := by kernel_rfl
    have k1 : Try.prog.cellsOf 9 = 1 := by kernel_rfl
    simp [k0, k1] at g0 g1
    obtain ⟨z, e0, rfl, -⟩ := DataW.trod_int Try.underlying3 g0
    obtain ⟨s, e1, rfl, -⟩ := DataW.trod_string Try.underlying9 g1
    simp at e0 e1
    subst e0; subst e1
    refine ⟨(z, s.data.toList), ?_, ?_⟩
    · simp only [actCells, strV, list_string]
    · simp [Rows.uptoBulk, Rows.uptoBulkAll]; omega

set_option maxRecDepth 100000 in
theorem pair_of_trod {H : Type} {enc : TypeId × Value → H} {W : World} {fuel : Nat} {cs : List Value} {x : DataW H × List MemPlace} (h : DataW.trod enc Try.prog W 0 (fun _ => true) true fuel 92 cs = some x) : ∃ p, PairΦ p cs x.1 := by
  obtain ⟨xs, n, rfl, rfl, hl, hx, hf⟩ := DataW.trod_struct Try.underlying92 h
  rw [show Try.prog.cellsOf 92 = 3 by kernel_rfl] at hl
  match xs, hx, cs, hl with
  | [y0, y1], _, [v0, v1, v2], _ =>
    have g0 := hf 0 _ rfl
    have g1 := hf 1 _ rfl
    have k0 : Try.prog.cellsOf 9 = 1 := by kernel_rfl
    have k1 : Try.prog.cellsOf 24 = 2 := by kernel_rfl
    simp [k0, k1] at g0 g1
    obtain ⟨s, e0, rfl, -⟩ := DataW.trod_string Try.underlying9 g0
    obtain ⟨a, ha, hb⟩ := act_of_trod g1
    simp [actCells] at e0 ha
    obtain ⟨rfl, rfl⟩ := ha
    subst e0
    refine ⟨(s.data.toList, a), ?_, ?_⟩
    · simp only [strV, list_string]
    · simp [Rows.uptoBulk, Rows.uptoBulkAll] at *; omega
theorem elems_pairs {H : Type} : ∀ {l : List PairD} {css : List Value} {ds : List (DataW H)}, Elems PairΦ l css ds → css = pairCells l ∧ pairsWt l ≤ Rows.uptoBulkAll ds
  | [], css, ds, h => by obtain ⟨rfl, rfl⟩ := h; exact ⟨rfl, by simp [pairsWt]⟩
  | p :: l, css, ds, h => by
    obtain ⟨c, cs, d, ds', rfl, rfl, ⟨rfl, hb⟩, hr⟩ := h
    obtain ⟨rfl, h2⟩ := elems_pairs hr
    exact ⟨by simp [pairCells], by simp only [pairsWt, Rows.uptoBulkAll]; omega⟩
theorem elems_rules {H : Type} {W : World} : ∀ {l : List RuleD} {css : List Value} {ds : List (DataW H)}, Elems (RuleΦ W) l css ds → RulesC W W.heap.size l css ∧ rulesWt l ≤ Rows.uptoBulkAll ds
  | [], css, ds, h => by obtain ⟨rfl, rfl⟩ := h; exact ⟨rfl, by simp [rulesWt]⟩
  | r :: l, css, ds, h => by
    obtain ⟨c, cs, d, ds', rfl, rfl, ⟨hk, hb⟩, hr⟩ := h
    obtain ⟨h2, h3⟩ := elems_rules hr
    exact ⟨⟨c, cs, rfl, hk, h2⟩, by simp only [rulesWt, Rows.uptoBulkAll]; omega⟩

set_option maxRecDepth 100000 in
theorem rule_of_trod {H : Type} {enc : TypeId × Value → H} {W : World} {fuel : Nat} {cs : List Value} {x : DataW H × List MemPlace} (h : DataW.trod enc Try.prog W 0 (fun _ => true) true fuel 27 cs = some x) : ∃ r, RuleΦ W r cs x.1 := by
  obtain ⟨xs, n, rfl, rfl, hl, hx, hf⟩ := DataW.trod_struct Try.underlying27 h
  rw [show Try.prog.cellsOf 27 = 8 by kernel_rfl] at hl
  match xs, hx, cs, hl with
  | [y0, y1, y2, y3, y4, y5], _, [v0, v1, v2, v3, v4, v5, v6, v7], _ =>
    have g0 := hf 0 _ rfl
    have g1 := hf 1 _ rfl
    have g2 := hf 2 _ rfl
    have g3 := hf 3 _ rfl
    have g4 := hf 4 _ rfl
    have g5 := hf 5 _ rfl
    have k0 : Try.prog.cellsOf 9 = 1 := by kernel_rfl
    have k1 : Try.prog.cellsOf 24 = 2 := by kernel_rfl
    have k2 : Try.prog.cellsOf 25 = 1 := by kernel_rfl
    have k3 : Try.prog.cellsOf 3 = 1 := by kernel_rfl
    simp [k0, k1, k2, k3] at g0 g1 g2 g3 g4 g5
    obtain ⟨s0, e0, rfl, -⟩ := DataW.trod_string Try.underlying9 g0
    obtain ⟨a1, e1, b1⟩ := act_of_trod g1
    obtain ⟨a2, e2, b2⟩ := act_of_trod g2
    obtain ⟨a3, c3, ps, css3, ds3, e3, r3, el3, s3⟩ := row_of_trod PairΦ Try.underlying25 (show Try.prog.cellsOf 92 = 3 by kernel_rfl) (by decide)
      (fun m cs x _ hx => pair_of_trod hx) (fun y c d hh => by obtain ⟨rfl, -⟩ := hh; intro u hu; simp at hu; rcases hu with rfl | rfl | rfl <;> rfl) g3
    obtain ⟨z4, e4, rfl, -⟩ := DataW.trod_int Try.underlying3 g4
    obtain ⟨s5, e5, rfl, -⟩ := DataW.trod_string Try.underlying9 g5
    simp [actCells] at e0 e1 e2 e3 e4 e5
    obtain ⟨rfl, rfl⟩ := e1
    obtain ⟨rfl, rfl⟩ := e2
    subst e0; subst e3; subst e4; subst e5
    obtain ⟨rfl, b3⟩ := elems_pairs el3
    have m3 := slice_bulk (n := 0) (s3.imp (fun h => ⟨h.1, rfl, h.2.2⟩) id)
    refine ⟨⟨s0.data.toList, a1, a2, ps, z4, s5.data.toList⟩, ⟨a3, c3, ?_, r3⟩, ?_⟩
    · simp only [ruleCells, strV, list_string]
    · simp [RuleD.wt, Rows.uptoBulk, Rows.uptoBulkAll] at *; omega

set_option maxRecDepth 100000 in
theorem schema_of_trod {H : Type} {enc : TypeId × Value → H} {W : World} {fuel : Nat} {cs : List Value} {x : DataW H × List MemPlace} (h : DataW.trod enc Try.prog W 0 (fun _ => true) true fuel 30 cs = some x) : ∃ s, SchemaC W W.heap.size s cs ∧ s.wt ≤ Rows.uptoBulk x.1 := by
  obtain ⟨xs, n, rfl, rfl, hl, hx, hf⟩ := DataW.trod_struct Try.underlying30 h
  rw [show Try.prog.cellsOf 30 = 16 by kernel_rfl] at hl
  match xs, hx, cs, hl with
  | [y0, y1, y2, y3], _, [v0, v1, v2, v3, v4, v5, v6, v7, v8, v9, v10, v11, v12, v13, v14, v15], _ =>
    have g0 := hf 0 _ rfl
    have g1 := hf 1 _ rfl
    have g2 := hf 2 _ rfl
    have g3 := hf 3 _ rfl
    have k0 : Try.prog.cellsOf 22 = 1 := by kernel_rfl
    have k1 : Try.prog.cellsOf 27 = 8 := by kernel_rfl
    have k2 : Try.prog.cellsOf 28 = 6 := by kernel_rfl
    have k3 : Try.prog.cellsOf 3 = 1 := by kernel_rfl
    simp [k0, k1, k2, k3] at g0 g1 g2 g3
    obtain ⟨a0, c0, rs, css0, ds0, e0, r0, el0, s0⟩ := row_of_trod (RuleΦ W) Try.underlying22 (show Try.prog.cellsOf 27 = 8 by kernel_rfl) (by decide)
      (fun m cs x _ hx => rule_of_trod hx) (fun y c d hh => hh.1.one) g0
    obtain ⟨er, hec, eb⟩ := rule_of_trod g1
    obtain ⟨ys, m, -, -, -, hyl, hy⟩ := DataW.trod_array Try.underlying28 g2
    rw [k3] at hy
    have o0 := hy 0 (by decide)
    have o1 := hy 1 (by decide)
    have o2 := hy 2 (by decide)
    have o3 := hy 3 (by decide)
    have o4 := hy 4 (by decide)
    have o5 := hy 5 (by decide)
    match ys, hyl with
    | [q0, q1, q2, q3, q4, q5], _ =>
      simp at o0 o1 o2 o3 o4 o5
      obtain ⟨z0, f0, -, -⟩ := DataW.trod_int Try.underlying3 o0
      obtain ⟨z1, f1, -, -⟩ := DataW.trod_int Try.underlying3 o1
      obtain ⟨z2, f2, -, -⟩ := DataW.trod_int Try.underlying3 o2
      obtain ⟨z3, f3, -, -⟩ := DataW.trod_int Try.underlying3 o3
      obtain ⟨z4, f4, -, -⟩ := DataW.trod_int Try.underlying3 o4
      obtain ⟨z5, f5, -, -⟩ := DataW.trod_int Try.underlying3 o5
      obtain ⟨z6, f6, -, -⟩ := DataW.trod_int Try.underlying3 g3
      simp at e0 f0 f1 f2 f3 f4 f5 f6
      subst e0; subst f0; subst f1; subst f2; subst f3; subst f4; subst f5; subst f6
      obtain ⟨hrs, b0⟩ := elems_rules el0
      have m0 := slice_bulk (n := 0) (s0.imp (fun h => ⟨h.1, rfl, h.2.2⟩) id)
      refine ⟨⟨rs, er, [z0, z1, z2, z3, z4, z5], z6⟩, ⟨a0, c0, css0, _, rfl, r0, hrs, hec, rfl⟩, ?_⟩
      simp only [SchemaD.wt, List.map_cons, List.map_nil, Rows.uptoBulk, Rows.uptoBulkAll]
      omega

end Go.Proofs.Ytiinmgccjlmoaaa
