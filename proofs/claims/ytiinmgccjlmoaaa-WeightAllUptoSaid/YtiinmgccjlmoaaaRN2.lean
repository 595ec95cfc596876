/- A tree that came in, read into plain data. -/
import Derived.Test.YtiinmgccjlmoaaaRN1
import Derived.Test.YtiinmgccjlmoaaaRows
import Derived.Test.YtiinmgccjlmoaaaProg
namespace Go.Proofs.Ytiinmgccjlmoaaa
open Go.RowKit Go.Redl Go.Deep
set_option linter.unusedVariables false

/-- The elements of a slice, one by one. -/
def Elems {H α : Type} (Φ : α → List Value → DataW H → Prop) : List α → List Value → List (DataW H) → Prop
  | [], css, ds => css = [] ∧ ds = []
  | y :: ys, css, ds => ∃ c cs d ds', css = c ++ cs ∧ ds = d :: ds' ∧ Φ y c d ∧ Elems Φ ys cs ds'

theorem elems_of {H α : Type} {enc : TypeId × Value → H} {P : Program} {W : World} {fuel : Nat} {e : TypeId} {sz : Nat} (Φ : α → List Value → DataW H → Prop)
    (hΦ : ∀ cs x, DataW.trod enc P W 0 (fun _ => true) true fuel e cs = some x → ∃ y, Φ y cs x.1) :
    ∀ (elems : List (DataW H × List MemPlace)) (a : Addr) (off : Nat), (∀ i, i < elems.length → (W.cells? 0 (a.add (off + i * sz)) sz).bind (DataW.trod enc P W 0 (fun _ => true) true fuel e) = elems[i]?) →
      ∃ ys css, Elems Φ ys css (elems.map (·.1)) ∧ ys.length = elems.length ∧ css.length = elems.length * sz ∧ ∀ j u, css[j]? = some u → W.cell? (a.add (off + j)) = some u
  | [], a, off, h => ⟨[], [], ⟨rfl, rfl⟩, rfl, by simp, by simp⟩
  | x :: elems, a, off, h => by
    have h0 := h 0 (by simp)
    simp only [Nat.zero_mul, Nat.add_zero, List.getElem?_cons_zero, Option.bind_eq_some_iff] at h0
    obtain ⟨c, hc, ht⟩ := h0
    obtain ⟨y, hy⟩ := hΦ c x ht
    obtain ⟨_, hcl, hcell⟩ := World.cells?_some hc
    obtain ⟨ys, css, h1, h2, h3, h4⟩ := elems_of Φ hΦ elems a (off + sz) (fun i hi => by
      have := h (i + 1) (by simpa using hi)
      rw [show off + (i + 1) * sz = off + sz + i * sz by rw [Nat.add_mul]; omega] at this
      simpa using this)
    refine ⟨y :: ys, c ++ css, ⟨c, css, x.1, elems.map (·.1), rfl, rfl, hy, h1⟩, by simp [h2], by simp [hcl, h3, Nat.add_mul]; omega, fun j u hj => ?_⟩
    rcases Nat.lt_or_ge j sz with hlt | hge
    · rw [List.getElem?_append_left (by omega)] at hj
      have := hcell j hlt
      rw [add_add, hj] at this
      exact this
    · rw [List.getElem?_append_right (by omega), hcl] at hj
      have := h4 _ _ hj
      rw [show off + sz + (j - sz) = off + j by omega] at this
      exact this

theorem Elems.one {H α : Type} {Φ : α → List Value → DataW H → Prop} (h1 : ∀ y c d, Φ y c d → ∀ u ∈ c, u.oneCell' = true) : ∀ {ys : List α} {css : List Value} {ds : List (DataW H)}, Elems Φ ys css ds → ∀ u ∈ css, u.oneCell' = true
  | [], css, ds, h => by obtain ⟨rfl, -⟩ := h; simp
  | y :: ys, css, ds, h => by
    obtain ⟨c, cs, d, ds', rfl, rfl, hy, hr⟩ := h
    intro u hu
    rcases List.mem_append.1 hu with hu | hu
    · exact h1 y c d hy u hu
    · exact Elems.one h1 hr u hu

/-- A slice that came in: its elements read one by one. -/
theorem row_of_trod {H α : Type} {enc : TypeId × Value → H} {P : Program} {W : World} {fuel : Nat} {t e : TypeId} {sz : Nat} (Φ : α → List Value → DataW H → Prop) (ht : P.underlying t = some (.slice e)) (hs : P.cellsOf e = sz) (hpos : 0 < sz)
    (hΦ : ∀ m cs x, m < fuel → DataW.trod enc P W 0 (fun _ => true) true m e cs = some x → ∃ y, Φ y cs x.1) (h1 : ∀ y c d, Φ y c d → ∀ u ∈ c, u.oneCell' = true)
    {cs : List Value} {x : DataW H × List MemPlace} (h : DataW.trod enc P W 0 (fun _ => true) true fuel t cs = some x) :
    ∃ a cap ys css ds, cs = [.slice a ys.length cap] ∧ RowA W W.heap.size sz a ys.length cap css ∧ Elems Φ ys css ds ∧ (x.1 = .nil ∧ ys = [] ∧ ds = [] ∨ ∃ sp, x.1 = .slice ds sp) := by
  rcases DataW.trod_slice ht h with ⟨rfl, rfl⟩ | ⟨a, len, cap, elems, rest, n, rfl, rfl, rfl, hb, hl, hm, hel, hall, -, -⟩
  · exact ⟨none, 0, [], [], [], rfl, RowA.empty _ _ _, ⟨rfl, rfl⟩, .inl ⟨rfl, rfl, rfl⟩⟩
  · rw [hs] at hall
    obtain ⟨ys, css, g1, g2, g3, g4⟩ := elems_of (fuel := n) Φ (fun cs x hx => hΦ n cs x (Nat.lt_succ_self n) hx) elems a 0 (fun i hi => by
      have := hall i (by omega)
      rw [Nat.zero_add]; exact this)
    have hyl : ys.length = len := by omega
    subst hyl
    refine ⟨some a, cap, ys, css, elems.map (·.1), rfl, ⟨by rw [g3, hel], hl, hm, Elems.one h1 g1, (fun h => by cases h), fun hne => ?_⟩, g1, .inr ⟨_, rfl⟩⟩
    have hpos' : 0 < css.length := List.length_pos_iff.2 hne
    have h0 := g4 0 _ (List.getElem?_eq_getElem hpos')
    obtain ⟨b, off, spot⟩ := a
    have hspot : spot = none := by simpa [Addr.add] using World.cell?_spot h0
    subst hspot
    refine ⟨b, off, rfl, ?_, fun j u hj => ?_⟩
    · have := World.block_lt_of_cell? W _ h0
      simpa [addr_add] using this
    · have := g4 j u hj
      rw [Nat.zero_add, addr_add] at this
      exact this

theorem bulkAll_append {H : Type} (l r : List (DataW H)) : Rows.uptoBulkAll (l ++ r) = Rows.uptoBulkAll l + Rows.uptoBulkAll r := by
  induction l with
  | nil => simp [Rows.uptoBulkAll]
  | cons x l ih => simp only [List.cons_append, Rows.uptoBulkAll, ih]; omega

theorem list_string (s : ByteArray) : (⟨s.data.toList.toArray⟩ : ByteArray) = s := by cases s; simp

/-- A property that came in. -/
def PropΦ {H : Type} (p : PropD) (cs : List Value) (d : DataW H) : Prop := cs = [.string ⟨p.1.toArray⟩, .string ⟨p.2.toArray⟩] ∧ 2 + p.1.length + p.2.length ≤ Rows.uptoBulk d
theorem prop_of_trod {H : Type} {enc : TypeId × Value → H} {P : Program} {W : World} {fuel : Nat} {t : TypeId} {f0 f1 : Field} (hs : P.underlying t = some (.struct #[f0, f1])) (hc : P.cellsOf t = 2) (h0 : P.underlying f0.type = some .string) (h1 : P.underlying f1.type = some .string)
    (c0 : P.cellsOf f0.type = 1) (c1 : P.cellsOf f1.type = 1) (o0 : f0.offset = 0) (o1 : f1.offset = 1) {cs : List Value} {x : DataW H × List MemPlace} (h : DataW.trod enc P W 0 (fun _ => true) true fuel t cs = some x) : ∃ p, PropΦ p cs x.1 := by
  obtain ⟨xs, n, rfl, rfl, hl, hx, hf⟩ := DataW.trod_struct hs h
  rw [hc] at hl
  match xs, hx, cs, hl with
  | [y0, y1], _, [v0, v1], _ =>
    have g0 := hf 0 f0 rfl
    have g1 := hf 1 f1 rfl
    simp [o0, o1, c0, c1] at g0 g1
    obtain ⟨s0, e0, rfl, m0⟩ := DataW.trod_string h0 g0
    obtain ⟨s1, e1, rfl, m1⟩ := DataW.trod_string h1 g1
    simp at e0 e1
    subst e0; subst e1
    refine ⟨(s0.data.toList, s1.data.toList), ?_, ?_⟩
    · simp only [list_string]
    · simp [Rows.uptoBulk, Rows.uptoBulkAll]; omega

theorem elems_props {H : Type} : ∀ {ps : List PropD} {css : List Value} {ds : List (DataW H)}, Elems PropΦ ps css ds → css = propCells ps ∧ propsWt ps ≤ Rows.uptoBulkAll ds
  | [], css, ds, h => by obtain ⟨rfl, rfl⟩ := h; exact ⟨rfl, by simp [propsWt]⟩
  | p :: ps, css, ds, h => by
    obtain ⟨c, cs, d, ds', rfl, rfl, ⟨rfl, hb⟩, hr⟩ := h
    obtain ⟨rfl, h2⟩ := elems_props hr
    exact ⟨by simp [propCells], by simp only [propsWt, Rows.uptoBulkAll]; omega⟩
theorem elems_ints {H : Type} {k : IntKind} : ∀ {zs : List Int} {css : List Value} {ds : List (DataW H)}, Elems (fun z cs d => cs = [.int k z] ∧ (Lit.int k z).wf = true ∧ 1 ≤ Rows.uptoBulk (H := H) d) zs css ds →
    css = zs.map (Value.int k) ∧ (∀ z ∈ zs, (Lit.int k z).wf = true) ∧ zs.length ≤ Rows.uptoBulkAll ds
  | [], css, ds, h => by obtain ⟨rfl, rfl⟩ := h; exact ⟨rfl, by simp, by simp⟩
  | z :: zs, css, ds, h => by
    obtain ⟨c, cs, d, ds', rfl, rfl, ⟨rfl, hw, hb⟩, hr⟩ := h
    obtain ⟨rfl, h2, h3⟩ := elems_ints hr
    exact ⟨by simp, by simpa using ⟨hw, h2⟩, by simp only [List.length_cons, Rows.uptoBulkAll]; omega⟩
def NodeΦ {H : Type} (W : World) (n : NodeD) (cs : List Value) (d : DataW H) : Prop := NodeC W W.heap.size n cs ∧ n.wt ≤ Rows.uptoBulk d
theorem elems_kids {H : Type} {W : World} : ∀ {ks : List NodeD} {css : List Value} {ds : List (DataW H)}, Elems (NodeΦ W) ks css ds → KidsC W W.heap.size ks css ∧ wtAll ks ≤ Rows.uptoBulkAll ds
  | [], css, ds, h => by obtain ⟨rfl, rfl⟩ := h; exact ⟨by unfold KidsC; rfl, by simp [wtAll]⟩
  | k :: ks, css, ds, h => by
    obtain ⟨c, cs, d, ds', rfl, rfl, ⟨hk, hb⟩, hr⟩ := h
    obtain ⟨h2, h3⟩ := elems_kids hr
    exact ⟨by unfold KidsC; exact ⟨c, cs, rfl, hk, h2⟩, by simp only [wtAll, Rows.uptoBulkAll]; omega⟩

/-- What a slice's bulk says. -/
theorem slice_bulk {H : Type} {d : DataW H} {ds : List (DataW H)} {n : Nat} (h : d = .nil ∧ n = 0 ∧ ds = [] ∨ ∃ sp, d = .slice ds sp) : Rows.uptoBulkAll ds + 1 ≤ Rows.uptoBulk d := by
  rcases h with ⟨rfl, -, rfl⟩ | ⟨sp, rfl⟩
  · simp [Rows.uptoBulk, Rows.uptoBulkAll]
  · simp only [Rows.uptoBulk]; omega

set_option maxRecDepth 100000 in
theorem node_of_trod {H : Type} {enc : TypeId × Value → H} {W : World} : ∀ (fuel : Nat) (cs : List Value) (x : DataW H × List MemPlace), DataW.trod enc Try.prog W 0 (fun _ => true) true fuel 35 cs = some x → ∃ n, NodeΦ W n cs x.1 := by
  intro fuel
  induction fuel using Nat.strongRecOn with
  | _ fuel ih =>
    intro cs x h
    obtain ⟨xs, n, rfl, rfl, hl, hx, hf⟩ := DataW.trod_struct Try.underlying35 h
    rw [show Try.prog.cellsOf 35 = 4 by kernel_rfl] at hl
    match xs, hx, cs, hl with
    | [y0, y1, y2, y3], _, [v0, v1, v2, v3], _ =>
      have g0 := hf 0 _ rfl
      have g1 := hf 1 _ rfl
      have g2 := hf 2 _ rfl
      have g3 := hf 3 _ rfl
      have k0 : Try.prog.cellsOf 4 = 1 := by kernel_rfl
      have k1 : Try.prog.cellsOf 31 = 1 := by kernel_rfl
      have k2 : Try.prog.cellsOf 32 = 1 := by kernel_rfl
      have k3 : Try.prog.cellsOf 33 = 1 := by kernel_rfl
      simp [k0, k1, k2, k3] at g0 g1 g2 g3
      obtain ⟨b, e0, rfl⟩ := DataW.trod_bool Try.underlying4 g0
      obtain ⟨a1, c1, ps, css1, ds1, e1, r1, el1, s1⟩ := row_of_trod PropΦ Try.underlying31 (show Try.prog.cellsOf 89 = 2 by kernel_rfl) (by decide)
        (fun m cs x _ hx => prop_of_trod Try.underlying89 (by kernel_rfl) Try.underlying9 Try.underlying9 (by kernel_rfl) (by kernel_rfl) rfl rfl hx) (fun y c d hh => by obtain ⟨rfl, -⟩ := hh; intro u hu; simp at hu; rcases hu with rfl | rfl <;> rfl) g1
      obtain ⟨a2, c2, zs, css2, ds2, e2, r2, el2, s2⟩ := row_of_trod (fun z cs d => cs = [.int .i32 z] ∧ (Lit.int .i32 z).wf = true ∧ 1 ≤ Rows.uptoBulk (H := H) d) Try.underlying32 (show Try.prog.cellsOf 21 = 1 by kernel_rfl) (by decide)
        (fun m cs x _ hx => by
          obtain ⟨z, rfl, rfl, hw⟩ := DataW.trod_int Try.underlying21 hx
          exact ⟨z, rfl, hw, by simp [Rows.uptoBulk]⟩) (fun y c d hh => by obtain ⟨rfl, -⟩ := hh; intro u hu; simp at hu; subst hu; rfl) g2
      obtain ⟨a3, c3, ks, css3, ds3, e3, r3, el3, s3⟩ := row_of_trod (NodeΦ W) Try.underlying33 (show Try.prog.cellsOf 35 = 4 by kernel_rfl) (by decide)
        (fun m cs x hm hx => ih m (by omega) cs x hx) (fun y c d hh => hh.1.one) g3
      simp at e0 e1 e2 e3
      subst e0; subst e1; subst e2; subst e3
      obtain ⟨rfl, b1⟩ := elems_props el1
      obtain ⟨rfl, hw, b2⟩ := elems_ints el2
      obtain ⟨hk, b3⟩ := elems_kids el3
      refine ⟨.mk b ps zs ks, ?_, ?_⟩
      · unfold NodeC
        exact ⟨a1, c1, a2, c2, a3, c3, css3, rfl, r1, r2, hw, r3, hk⟩
      · have m1 := slice_bulk (n := 0) (s1.imp (fun h => ⟨h.1, rfl, h.2.2⟩) id)
        have m2 := slice_bulk (n := 0) (s2.imp (fun h => ⟨h.1, rfl, h.2.2⟩) id)
        have m3 := slice_bulk (n := 0) (s3.imp (fun h => ⟨h.1, rfl, h.2.2⟩) id)
        simp only [NodeD.wt, List.map_cons, List.map_nil, Rows.uptoBulk, Rows.uptoBulkAll]
        omega

end Go.Proofs.Ytiinmgccjlmoaaa
