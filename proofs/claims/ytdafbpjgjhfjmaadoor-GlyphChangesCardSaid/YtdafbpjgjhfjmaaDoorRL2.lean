/- Walks: the reference's Insert, Remove, Cut at whatever place; rows that are written on. -/
import Derived.Test.YtdafbpjgjhfjmaaDoorRG6
import Derived.Test.YtdafbpjgjhfjmaaDoorRP1
namespace Go.Proofs.YtdafbpjgjhfjmaaDoor
open Go.RowKit Go.Redl
set_option linter.unusedVariables false

theorem rinsert_c (v1 v2 : Value) (B : Nat) (r s : List Int) (at_ : Int) (w : World) (h1 : Ints .i32 w B v1 r) (h2 : Ints .i32 w B v2 s) (hB : B ≤ w.heap.size) (hn : r.length + s.length ≤ 1000000) :
    Calls Tryd.prog 16 #[v1, .int .i64 at_, v2] w (MadeE .i32 w 21 (insR r at_ s).1 (insR r at_ s).2) := by
  unfold insR
  by_cases he : askedE r at_ s = 0
  · rw [if_pos he]
    obtain ⟨h0, h3⟩ := asked_place he
    obtain ⟨k, rfl⟩ := Int.eq_ofNat_of_zero_le h0
    exact rinsert_ok v1 v2 B k r s w h1 h2 hB he hn (by omega)
  · rw [if_neg he]
    exact rinsert_no v1 v2 B r s at_ w h1 h2 he
theorem rremove_c (v1 v2 : Value) (B : Nat) (r s : List Int) (at_ : Int) (w : World) (h1 : Ints .i32 w B v1 r) (h2 : Ints .i32 w B v2 s) (hB : B ≤ w.heap.size) (hn : r.length + s.length ≤ 1000000) :
    Calls Tryd.prog 17 #[v1, .int .i64 at_, v2] w (MadeE .i32 w 21 (remRR r at_ s).1 (remRR r at_ s).2) := by
  unfold remRR
  by_cases he : askedE r at_ s = 0
  · rw [if_pos he]
    obtain ⟨h0, h3⟩ := asked_place he
    obtain ⟨k, rfl⟩ := Int.eq_ofNat_of_zero_le h0
    exact rremove_ok v1 v2 B k r s w h1 h2 hB he hn (by omega)
  · rw [if_neg he]
    exact rremove_no v1 v2 B r s at_ w h1 h2 he
theorem rcut_c (v1 : Value) (B : Nat) (r : List Int) (at_ : Int) (w : World) (h1 : Ints .i32 w B v1 r) (hB : B ≤ w.heap.size) (hn : r.length ≤ 1000000) :
    Calls Tryd.prog 18 #[v1, .int .i64 at_] w (MadeEE .i32 w 21 (cutR r at_).1 (cutR r at_).2.1 (cutR r at_).2.2) := by
  unfold cutR
  by_cases he : askedE r at_ [] = 0
  · rw [if_pos he]
    obtain ⟨h0, h3⟩ := asked_place he
    obtain ⟨k, rfl⟩ := Int.eq_ofNat_of_zero_le h0
    exact rcut_ok v1 B k r w h1 hB he hn (by omega)
  · rw [if_neg he]
    exact rcut_no v1 B r at_ w h1 he

/-- A row of numbers of the call's own, in a block from base on, below top. -/
def IntRow (E : TypeId) (w : World) (base top : Nat) (v : Value) : Prop :=
  ∃ a n cap, v = .slice a n cap ∧ n ≤ 1000000 ∧ (n = 0 ∨ ∃ g cur, a = some ⟨g, 0, none⟩ ∧ base ≤ g ∧ g < top ∧ w.heap[g]? = some (.cells cur E (0, 0)) ∧ n ≤ cur.size ∧ ∀ j, j < n → ∃ z, cur[j]? = some (.int .i32 z))
theorem IntRow.of_own {E : TypeId} {w : World} {base : Nat} {v : Value} {n : Nat} {zs : List Int} (h : w.ownsRow base E 1 v n (zs.map (Value.int .i32))) (hn : zs.length ≤ 1000000) : IntRow E w base w.heap.size v := by
  have hnl : n = zs.length := by simpa using h.1.symm
  subst hnl
  rcases h.2 with ⟨rfl, h0⟩ | ⟨g, cap, cur, rfl, hb, hg, hnc, hcm, hcs, htake⟩
  · exact ⟨none, 0, 0, rfl, by omega, .inl rfl⟩
  · refine ⟨_, _, cap, rfl, hn, .inr ⟨g, cur, rfl, hb, (Array.getElem?_eq_some_iff.1 hg).1, hg, by omega, fun j hj => ⟨zs[j], ?_⟩⟩⟩
    have := congrArg (fun l => l[j]?) htake
    simp only [Nat.mul_one, List.getElem?_map, List.getElem?_eq_getElem hj, Option.map_some] at this
    rw [List.getElem?_take_of_lt hj] at this
    simpa using this
theorem IntRow.keep {E : TypeId} {w w' : World} {base top top' : Nat} {v : Value} (h : IntRow E w base top v) (hb : Below top w w') (ht : top ≤ top') : IntRow E w' base top' v := by
  obtain ⟨a, n, cap, rfl, hn, h⟩ := h
  refine ⟨a, n, cap, rfl, hn, ?_⟩
  rcases h with h | ⟨g, cur, ha, hg, hlt, hh, hc, hz⟩
  · exact .inl h
  · exact .inr ⟨g, cur, ha, hg, Nat.lt_of_lt_of_le hlt ht, (hb.block g hlt).trans hh, hc, hz⟩
theorem IntRow.mono {E : TypeId} {w : World} {base base' top : Nat} {v : Value} (h : IntRow E w base top v) (hb : base' ≤ base) : IntRow E w base' top v := by
  obtain ⟨a, n, cap, rfl, hn, h⟩ := h
  refine ⟨a, n, cap, rfl, hn, ?_⟩
  rcases h with h | ⟨g, cur, ha, hg, r⟩
  · exact .inl h
  · exact .inr ⟨g, cur, ha, Nat.le_trans hb hg, r⟩
/-- A number stored anywhere leaves it such a row. -/
theorem IntRow.set {E : TypeId} {w : World} {base top : Nat} {v : Value} (h : IntRow E w base top v) (g' o : Nat) (z' : Int) : IntRow E (w.setCell ⟨g', o, none⟩ (.int .i32 z')) base top v := by
  obtain ⟨a, n, cap, rfl, hn, h⟩ := h
  refine ⟨a, n, cap, rfl, hn, ?_⟩
  rcases h with h | ⟨g, cur, ha, hg, hlt, hh, hc, hz⟩
  · exact .inl h
  · refine .inr ?_
    by_cases he : g' = g
    · subst he
      refine ⟨g', cur.setIfInBounds o (.int .i32 z'), ha, hg, hlt, by simp [World.setCell, Array.getElem?_modify, hh], by simpa using hc, fun j hj => ?_⟩
      obtain ⟨z, hz⟩ := hz j hj
      rw [Array.getElem?_setIfInBounds]
      split
      · split
        · exact ⟨z', rfl⟩
        · omega
      · exact ⟨z, hz⟩
    · exact ⟨g, cur, ha, hg, hlt, (Below.heap_setCell _ _ _ _ (fun e => he e.symm)).trans hh, hc, hz⟩

theorem MadeE.open2 {w w' : World} {t : TypeId} {zs : List Int} {e : Int} {x : Ending} (h : MadeE .i32 w t zs e x w') (hw : ∀ z ∈ zs, (Lit.int .i32 z).wf = true) (hn : zs.length ≤ 1000000) :
    ∃ a cap, x = .returned (.tuple #[.slice a zs.length cap, .int .i64 e]) ∧ Ints .i32 w' w'.heap.size (.slice a zs.length cap) zs ∧ Below w.heap.size w w' ∧ IntRow t w' w.heap.size w'.heap.size (.slice a zs.length cap) := by
  obtain ⟨v, rfl, hown, hb⟩ := h
  obtain ⟨a, cap, rfl, hr⟩ := row_of_own hown (ints_one .i32 zs)
  exact ⟨a, cap, rfl, ⟨⟨a, cap, rfl, hr⟩, hw⟩, hb, IntRow.of_own hown hn⟩
theorem MadeEE.open2 {w w' : World} {t : TypeId} {xs ys : List Int} {e : Int} {x : Ending} (h : MadeEE .i32 w t xs ys e x w') (hw : ∀ z ∈ xs, (Lit.int .i32 z).wf = true) (hw' : ∀ z ∈ ys, (Lit.int .i32 z).wf = true) (hn : xs.length ≤ 1000000) (hn' : ys.length ≤ 1000000) :
    ∃ a cap a' cap', x = .returned (.tuple #[.slice a xs.length cap, .slice a' ys.length cap', .int .i64 e]) ∧ Ints .i32 w' w'.heap.size (.slice a xs.length cap) xs ∧ Ints .i32 w' w'.heap.size (.slice a' ys.length cap') ys ∧ Below w.heap.size w w' ∧
      IntRow t w' w.heap.size w'.heap.size (.slice a xs.length cap) ∧ IntRow t w' w.heap.size w'.heap.size (.slice a' ys.length cap') := by
  obtain ⟨v, u, rfl, hown, hown', _, hb⟩ := h
  obtain ⟨a, cap, rfl, hr⟩ := row_of_own hown (ints_one .i32 xs)
  obtain ⟨a', cap', rfl, hr'⟩ := row_of_own hown' (ints_one .i32 ys)
  exact ⟨a, cap, a', cap', rfl, ⟨⟨a, cap, rfl, hr⟩, hw⟩, ⟨⟨a', cap', rfl, hr'⟩, hw'⟩, hb, IntRow.of_own hown hn, IntRow.of_own hown' hn'⟩

theorem insR_mem {r s : List Int} {at_ : Int} : ∀ z ∈ (insR r at_ s).1, z ∈ r ∨ z ∈ s := by
  intro z hz; unfold insR at hz; split at hz
  · exact mem_insL hz
  · simp at hz
theorem remRR_mem {r s : List Int} {at_ : Int} : ∀ z ∈ (remRR r at_ s).1, z ∈ r := by
  intro z hz; unfold remRR at hz; split at hz
  · unfold remR at hz; split at hz
    · exact mem_remL hz
    · simp at hz
  · simp at hz
theorem cutR_mem {r : List Int} {at_ : Int} : (∀ z ∈ (cutR r at_).1, z ∈ r) ∧ (∀ z ∈ (cutR r at_).2.1, z ∈ r) := by
  unfold cutR; split
  · exact ⟨fun z hz => List.mem_of_mem_take hz, fun z hz => List.mem_of_mem_drop hz⟩
  · simp
theorem insR_len {r s : List Int} {at_ : Int} : (insR r at_ s).1.length ≤ r.length + s.length := by
  unfold insR; split
  · unfold insL; have := List.length_take_le at_.toNat r; simp; omega
  · simp
theorem remRR_len {r s : List Int} {at_ : Int} : (remRR r at_ s).1.length ≤ r.length + r.length := by
  unfold remRR; split
  · unfold remR; split
    · unfold remL; have := List.length_take_le at_.toNat r; simp; omega
    · simp
  · simp
theorem cutR_len {r : List Int} {at_ : Int} : (cutR r at_).1.length ≤ r.length ∧ (cutR r at_).2.1.length ≤ r.length := by
  unfold cutR; split
  · simp; exact Nat.min_le_right _ _
  · simp

/-- While rows of the call's own are written on: the list of them stands in block bl; what lay below base is as it was. -/
structure Mut (E F : TypeId) (w0 : World) (base bl : Nat) (vs : List Value) (w : World) : Prop where
  lit : w.heap[bl]? = some (.cells vs.toArray F (0, 0))
  rows : ∀ v ∈ vs, IntRow E w base bl v
  below : Below base w0 w
theorem Mut.set {E F : TypeId} {w0 w : World} {base bl : Nat} {vs : List Value} (h : Mut E F w0 base bl vs w) (g o : Nat) (z : Int) (hb : base ≤ g) (hg : g < bl) : Mut E F w0 base bl vs (w.setCell ⟨g, o, none⟩ (.int .i32 z)) :=
  ⟨(Below.heap_setCell _ _ _ _ (by show bl ≠ g; omega)).trans h.lit, fun v hv => (h.rows v hv).set g o z, h.below.setCell (p := ⟨g, o, none⟩) hb _⟩
theorem Mut.row {E F : TypeId} {w0 w : World} {base bl : Nat} {vs : List Value} (h : Mut E F w0 base bl vs w) (k : Nat) (hk : k < vs.length) :
    ∃ a n cap, vs[k] = .slice a n cap ∧ n ≤ 1000000 ∧ w.cell? ⟨bl, k, none⟩ = some (.slice a n cap) := by
  obtain ⟨a, n, cap, hv, hn, _⟩ := h.rows vs[k] (List.getElem_mem hk)
  refine ⟨a, n, cap, hv, hn, ?_⟩
  rw [← hv]
  simp [World.cell?, h.lit, List.getElem?_eq_getElem hk]
theorem Mut.at_ {E F : TypeId} {w0 w : World} {base bl : Nat} {vs : List Value} (h : Mut E F w0 base bl vs w) {a : Option Addr} {n cap : Nat} (hv : Value.slice a n cap ∈ vs) (m : Nat) (hm : m < n) :
    ∃ g z, a = some ⟨g, 0, none⟩ ∧ base ≤ g ∧ g < bl ∧ w.cell? ⟨g, m, none⟩ = some (.int .i32 z) ∧ w.frozen? ⟨g, m, none⟩ = false := by
  obtain ⟨a', n', cap', he, hn, h2⟩ := h.rows _ hv
  cases he
  rcases h2 with h2 | ⟨g, cur, ha, hg, hlt, hh, hc, hz⟩
  · omega
  · obtain ⟨z, hz⟩ := hz m hm
    exact ⟨g, z, ha, hg, hlt, by simp [World.cell?, hh, hz], by simp [World.frozen?, hh]⟩

end Go.Proofs.YtdafbpjgjhfjmaaDoor
