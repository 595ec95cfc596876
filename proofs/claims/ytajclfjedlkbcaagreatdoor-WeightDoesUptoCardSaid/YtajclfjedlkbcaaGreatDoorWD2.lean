/- Parts of the proof, one behind the other: RX2, RN2, RNA, RG1, RCO. -/
import Derived.Test.YtajclfjedlkbcaaGreatDoorWD1
import Derived.Test.YtajclfjedlkbcaaGreatDoorRows
import Derived.Test.YtajclfjedlkbcaaGreatDoorProg
import Derived.Lib.BufferMore
import Derived.Lib.Builder
import Derived.Deep.RegionLaw
import Derived.Deep.QuietTactic
import Derived.BigQuiet
import Derived.Deep.LoopGhost
import Derived.Deep.DeepCutAuto
/- Trees that a call makes: which blocks they lie in; an append that tells where its row lies. No program in sight. -/
namespace Go.Redl
open Go.RowKit
set_option linter.unusedVariables false

/-- A slice whose cells lie in a block that ok lets in. -/
structure RowQ (w : World) (ok : Nat → Prop) (sz : Nat) (a : Option Addr) (n cap : Nat) (cs : List Value) : Prop where
  len : cs.length = n * sz
  le : n ≤ cap
  max : cap ≤ maxLen
  one : ∀ u ∈ cs, u.oneCell' = true
  nil : a = none → cap = 0
  some_ : cs ≠ [] → ∃ b off, a = some ⟨b, off, none⟩ ∧ ok b ∧ b < w.heap.size ∧ ∀ j u, cs[j]? = some u → w.cell? ⟨b, off + j, none⟩ = some u
theorem RowQ.keep {w w' : World} {ok ok' : Nat → Prop} {sz n cap : Nat} {a : Option Addr} {cs : List Value} (h : RowQ w ok sz a n cap cs) (hs : w.heap.size ≤ w'.heap.size) (hk : ∀ b, ok b → b < w.heap.size → w'.heap[b]? = w.heap[b]?) (ho : ∀ b, ok b → b < w.heap.size → ok' b) : RowQ w' ok' sz a n cap cs := by
  refine ⟨h.len, h.le, h.max, h.one, h.nil, fun hne => ?_⟩
  obtain ⟨b, off, ha, hb, hlt, hcell⟩ := h.some_ hne
  refine ⟨b, off, ha, ho b hb hlt, Nat.lt_of_lt_of_le hlt hs, fun j u hj => ?_⟩
  rw [World.cell?_of_block (a := ⟨b, off + j, none⟩) (hk b hb hlt)]
  exact hcell j u hj
theorem RowQ.row {w : World} {ok : Nat → Prop} {sz n cap : Nat} {a : Option Addr} {cs : List Value} (h : RowQ w ok sz a n cap cs) : RowA w w.heap.size sz a n cap cs := by
  refine ⟨h.len, h.le, h.max, h.one, h.nil, fun hne => ?_⟩
  obtain ⟨b, off, ha, hb, hlt, hcell⟩ := h.some_ hne
  exact ⟨b, off, ha, hlt, hcell⟩
theorem RowQ.empty (w : World) (ok : Nat → Prop) (sz : Nat) : RowQ w ok sz none 0 0 [] := ⟨by simp, Nat.le_refl _, Nat.zero_le _, by simp, fun _ => rfl, fun h => absurd rfl h⟩
/-- The call's own row. -/
theorem RowQ.of_own {w : World} {base e sz n : Nat} {v : Value} {cs : List Value} (h : w.ownsRow base e sz v n cs) (h1 : ∀ u ∈ cs, u.oneCell' = true) :
    ∃ a cap, v = .slice a n cap ∧ RowQ w (fun b => v.ownBlock = some b) sz a n cap cs := by
  obtain ⟨a, cap, hv, hr⟩ := row_of_own h h1
  refine ⟨a, cap, hv, hr.len, hr.le, hr.max, hr.one, hr.nil, fun hne => ?_⟩
  obtain ⟨b, off, ha, hlt, hcell⟩ := hr.some_ hne
  refine ⟨b, off, ha, ?_, hlt, hcell⟩
  rcases h.2 with ⟨hn, _⟩ | ⟨g, cap', cur, hg, _⟩
  · rw [hv] at hn; injection hn with e1; subst e1; cases ha
  · rw [hv] at hg; injection hg with e1
    rw [ha] at e1
    injection e1 with e2
    injection e2 with e3
    subst e3
    rw [hv, ha]; simp [Value.ownBlock] at *

mutual
/-- A tree's cells; all that it leads to lies in blocks that ok lets in. -/
def NodeQ (w : World) (ok : Nat → Prop) : NodeD → List Value → Prop
  | .mk l ps t ks, cs => ∃ ap cp at_ ct ak ck css, cs = [.bool l, .slice ap ps.length cp, .slice at_ t.length ct, .slice ak ks.length ck] ∧ RowQ w ok 2 ap ps.length cp (propCells ps) ∧
      RowQ w ok 1 at_ t.length ct (t.map (Value.int .i32)) ∧ (∀ z ∈ t, (Lit.int .i32 z).wf = true) ∧ RowQ w ok 4 ak ks.length ck css ∧ KidsQ w ok ks css
def KidsQ (w : World) (ok : Nat → Prop) : List NodeD → List Value → Prop
  | [], css => css = []
  | k :: ks, css => ∃ c1 c2, css = c1 ++ c2 ∧ NodeQ w ok k c1 ∧ KidsQ w ok ks c2
end
mutual
theorem NodeQ.keep {w w' : World} {ok ok' : Nat → Prop} (hs : w.heap.size ≤ w'.heap.size) (hk : ∀ b, ok b → b < w.heap.size → w'.heap[b]? = w.heap[b]?) (ho : ∀ b, ok b → b < w.heap.size → ok' b) : ∀ (n : NodeD) (cs : List Value), NodeQ w ok n cs → NodeQ w' ok' n cs
  | .mk l ps t ks, cs => by
    intro h
    unfold NodeQ at h ⊢
    obtain ⟨ap, cp, at_, ct, ak, ck, css, h1, h2, h3, h4, h5, h6⟩ := h
    exact ⟨ap, cp, at_, ct, ak, ck, css, h1, h2.keep hs hk ho, h3.keep hs hk ho, h4, h5.keep hs hk ho, KidsQ.keep hs hk ho ks css h6⟩
theorem KidsQ.keep {w w' : World} {ok ok' : Nat → Prop} (hs : w.heap.size ≤ w'.heap.size) (hk : ∀ b, ok b → b < w.heap.size → w'.heap[b]? = w.heap[b]?) (ho : ∀ b, ok b → b < w.heap.size → ok' b) : ∀ (ks : List NodeD) (css : List Value), KidsQ w ok ks css → KidsQ w' ok' ks css
  | [], css => by intro h; unfold KidsQ at h ⊢; exact h
  | k :: ks, css => by
    intro h
    unfold KidsQ at h ⊢
    obtain ⟨c1, c2, h1, h2, h3⟩ := h
    exact ⟨c1, c2, h1, NodeQ.keep hs hk ho k c1 h2, KidsQ.keep hs hk ho ks c2 h3⟩
end
mutual
theorem NodeQ.node {w : World} {ok : Nat → Prop} : ∀ (n : NodeD) (cs : List Value), NodeQ w ok n cs → NodeC w w.heap.size n cs
  | .mk l ps t ks, cs => by
    intro h
    unfold NodeQ at h
    unfold NodeC
    obtain ⟨ap, cp, at_, ct, ak, ck, css, h1, h2, h3, h4, h5, h6⟩ := h
    exact ⟨ap, cp, at_, ct, ak, ck, css, h1, h2.row, h3.row, h4, h5.row, KidsQ.kids ks css h6⟩
theorem KidsQ.kids {w : World} {ok : Nat → Prop} : ∀ (ks : List NodeD) (css : List Value), KidsQ w ok ks css → KidsC w w.heap.size ks css
  | [], css => by intro h; unfold KidsQ at h; unfold KidsC; exact h
  | k :: ks, css => by
    intro h
    unfold KidsQ at h
    unfold KidsC
    obtain ⟨c1, c2, h1, h2, h3⟩ := h
    exact ⟨c1, c2, h1, NodeQ.node k c1 h2, KidsQ.kids ks c2 h3⟩
end
theorem KidsQ.append {w : World} {ok : Nat → Prop} : ∀ {ks ks' : List NodeD} {css css' : List Value}, KidsQ w ok ks css → KidsQ w ok ks' css' → KidsQ w ok (ks ++ ks') (css ++ css')
  | [], ks', css, css', h, h' => by unfold KidsQ at h; subst h; exact h'
  | k :: ks, ks', css, css', h, h' => by
    unfold KidsQ at h
    obtain ⟨c1, c2, rfl, h2, h3⟩ := h
    rw [List.cons_append]
    unfold KidsQ
    exact ⟨c1, c2 ++ css', by simp, h2, KidsQ.append h3 h'⟩
theorem KidsQ.one {w : World} {ok : Nat → Prop} {k : NodeD} {c : List Value} (h : NodeQ w ok k c) : KidsQ w ok [k] c := by
  unfold KidsQ
  exact ⟨c, [], by simp, h, by unfold KidsQ; rfl⟩

/-- append(own, xs...): where the row lies behind it. -/
theorem run_own_where {P : Program} (w : World) (base : Nat) (t ty e : TypeId) (i : TypeInfo) (z : Value) (size bytes : Nat) (ht : P.underlying t = some (.slice e)) (hi : P.info? e = some i) (hz : i.zero = some z)
    (hsize : i.size = size) (hby : i.bytes = bytes) (hzs : z.cells.size = size) (hsz : 0 < size)
    (v : Value) (n : Nat) (xs : List Value) (hown : w.ownsRow base e size v n xs)
    (a : Addr) (m c : Nat) (news : List Value) (hl : news.length = m * size) (hnews : ∀ j u, news[j]? = some u → w.cell? (a.add j) = some u) (h1 : ∀ u ∈ news, u.oneCell' = true)
    (h63 : n + m ≤ maxLen) (hbytes : (n + m) * bytes ≤ 140737488355328) (hbase : base ≤ w.heap.size) :
    ∃ v' w', (Builtin.append_ #[t, t] ty #[v, .slice (some a) m c]).run P w = .ok v' w' ∧ w'.ownsRow base e size v' (n + m) (xs ++ news) ∧ w.grownBy w' v.ownBlock ∧
      (v'.ownBlock = v.ownBlock ∨ ∀ k, v'.ownBlock = some k → w.heap.size ≤ k) := by
  obtain ⟨v', w', hr, h2, h3, -⟩ := run_append_own (P := P) w base t ty e i z size bytes ht hi hz hsize hby hzs hsz v n xs hown a m c news hl hnews h1 h63 hbytes hbase
  refine ⟨v', w', hr, h2, h3, ?_⟩
  rcases hown.2 with ⟨rfl, rfl⟩ | ⟨g, cap, cur, rfl, hbg, hg, hnc, hcm, hcs, htake⟩
  · have hx : xs = [] := List.eq_nil_of_length_eq_zero (by simpa using hown.1)
    subst hx
    obtain ⟨v2, w2, hr2, k2, -, -⟩ := run_append_own (P := P) w w.heap.size t ty e i z size bytes ht hi hz hsize hby hzs hsz (.slice none 0 0) 0 [] (World.ownsRow_nil _ _ _ _) a m c news hl hnews h1 h63 hbytes (Nat.le_refl _)
    rw [hr] at hr2
    cases hr2
    exact .inr fun k hk => (k2.lt k hk).1
  · subst hsize
    by_cases hroom : n + m ≤ cap
    · have hfit : n * i.size + news.length ≤ cur.size := by rw [hl, hcs, ← Nat.add_mul]; exact Nat.mul_le_mul_right _ hroom
      have hr2 := run_append_room (P := P) w t ty e i ht hi g n cap cur hg a m c news hl hnews h1 hroom hfit
      rw [hr] at hr2
      cases hr2
      exact .inl rfl
    · have holds : ∀ j u, xs[j]? = some u → w.cell? ((⟨g, 0, none⟩ : Addr).add j) = some u := hown.cells (g := g) rfl
      have hr2 := run_append_grow (P := P) w t ty e i z ht hi hz ⟨g, 0, none⟩ n cap xs hown.1 holds a m c news hl hnews (by omega) (by unfold maxLen at h63; omega) (growslice_fits (by unfold maxLen at h63; omega) (by subst hby; exact hbytes))
      rw [hr] at hr2
      cases hr2
      exact .inr fun k hk => by
        simp [Value.ownBlock] at hk
        omega
theorem wpList_app2 {P : Program} {w : World} {ops : Array Oper} {rest : List Oper} {o : Oper} {a : Act} {Q : Exit → Act → World → Prop} (hgd : o.guard = none) (s x : Operand) (t : TypeId)
    (ho : o.op = .call { callee := .builtin .append, args := #[s, x], argTypes := #[t, t] })
    (base : Nat) (e : TypeId) (z : Value) (size bytes : Nat) (ht : P.underlying t = some (.slice e)) (hi : (P.info? e).map (fun i => (i.zero, i.size, i.bytes)) = some (some z, size, bytes))
    (hzs : z.cells.size = size) (hsz : 0 < size)
    (v : Value) (n : Nat) (xs : List Value) (hs : a.eval s = v) (hown : w.ownsRow base e size v n xs)
    (ad : Addr) (m c B : Nat) (news : List Value) (hx : a.eval x = .slice (some ad) m c) (hr : RowA w B size (some ad) m c news)
    (h63 : n + m ≤ maxLen) (hbytes : (n + m) * bytes ≤ 140737488355328) (hbase : base ≤ w.heap.size)
    (h : ∀ v' w', w'.ownsRow base e size v' (n + m) (xs ++ news) → w.grownBy w' v.ownBlock → (v'.ownBlock = v.ownBlock ∨ ∀ k, v'.ownBlock = some k → w.heap.size ≤ k) → wpList P ops Q rest (a.put o.dst v') w') : wpList P ops Q (o :: rest) a w := by
  obtain ⟨i, hi', hz, hsize, hby⟩ := info_parts hi
  refine wpList_plain hgd fun K hK => ?_
  obtain ⟨v', w', hrun, h2, h3, h4⟩ := run_own_where (P := P) w base t o.type e i z size bytes ht hi' hz hsize hby hzs hsz v n xs hown ad m c news hr.len hr.cells hr.one h63 hbytes hbase
  unfold Oper.wp execOp
  simp only [ho, resolve, invoke, builtin, Sem.run_bind, Sem.run_pure, Result.andThen_ok, List.map_toArray, List.map_cons, List.map_nil, hs, hx, hrun]
  exact hK _ _ (h v' w' h2 h3 h4)

/-- What is read stays read behind one more append: the row of kids alone may be written. -/
structure Stay (w w' : World) (ok ok' : Nat → Prop) : Prop where
  size : w.heap.size ≤ w'.heap.size
  block : ∀ b, ok b → b < w.heap.size → w'.heap[b]? = w.heap[b]?
  let_ : ∀ b, ok b → b < w.heap.size → ok' b
theorem stay_kids {wr w1 w2 w3 : World} {M T sz n : Nat} {kv kv' : Value} {css : List Value} (hown : wr.ownsRow M T sz kv n css) (h1 : Below wr.heap.size wr w1) (h2 : Below w1.heap.size w1 w2) (hg : w2.grownBy w3 kv.ownBlock)
    (hw : kv'.ownBlock = kv.ownBlock ∨ ∀ k, kv'.ownBlock = some k → w2.heap.size ≤ k) : Stay wr w3 (fun b => M ≤ b ∧ kv.ownBlock ≠ some b) (fun b => M ≤ b ∧ kv'.ownBlock ≠ some b) := by
  have s1 := h1.size; have s2 := h2.size; have s3 := hg.size
  refine ⟨by omega, fun b hb hlt => ?_, fun b hb hlt => ⟨hb.1, ?_⟩⟩
  · rw [hg.block b (by omega) (fun e => hb.2 e.symm), h2.block b (by omega), h1.block b hlt]
  · rcases hw with hw | hw
    · rw [hw]; exact hb.2
    · intro e; have := hw b e; omega
theorem stay_kid {wr w1 w2 w3 : World} {M T sz n : Nat} {kv kv' : Value} {css : List Value} (hown : wr.ownsRow M T sz kv n css) (hM : M ≤ wr.heap.size) (h2 : Below w1.heap.size w1 w2) (hg : w2.grownBy w3 kv.ownBlock)
    (hw : kv'.ownBlock = kv.ownBlock ∨ ∀ k, kv'.ownBlock = some k → w2.heap.size ≤ k) : Stay w1 w3 (fun b => wr.heap.size ≤ b) (fun b => M ≤ b ∧ kv'.ownBlock ≠ some b) := by
  have s2 := h2.size; have s3 := hg.size
  have hne : ∀ b, wr.heap.size ≤ b → kv.ownBlock ≠ some b := fun b hb e => by have := (hown.lt b e).2; omega
  refine ⟨by omega, fun b hb hlt => ?_, fun b hb hlt => ⟨by omega, ?_⟩⟩
  · rw [hg.block b (by omega) (fun e => hne b hb e.symm), h2.block b (by omega)]
  · rcases hw with hw | hw
    · rw [hw]; exact hne b hb
    · intro e; have := hw b e; omega
theorem RowQ.stay {w w' : World} {ok ok' : Nat → Prop} {sz n cap : Nat} {a : Option Addr} {cs : List Value} (h : RowQ w ok sz a n cap cs) (s : Stay w w' ok ok') : RowQ w' ok' sz a n cap cs := h.keep s.size s.block s.let_
theorem NodeQ.stay {w w' : World} {ok ok' : Nat → Prop} {n : NodeD} {cs : List Value} (h : NodeQ w ok n cs) (s : Stay w w' ok ok') : NodeQ w' ok' n cs := NodeQ.keep s.size s.block s.let_ n cs h
theorem KidsQ.stay {w w' : World} {ok ok' : Nat → Prop} {n : List NodeD} {cs : List Value} (h : KidsQ w ok n cs) (s : Stay w w' ok ok') : KidsQ w' ok' n cs := KidsQ.keep s.size s.block s.let_ n cs h
theorem NodeQ.form {w : World} {ok : Nat → Prop} {n : NodeD} {cs : List Value} (h : NodeQ w ok n cs) : ∃ l a1 n1 c1 a2 n2 c2 a3 n3 c3, cs = [.bool l, .slice a1 n1 c1, .slice a2 n2 c2, .slice a3 n3 c3] := (NodeQ.node n cs h).form
theorem KidsQ.onec {w : World} {ok : Nat → Prop} {ks : List NodeD} {css : List Value} (h : KidsQ w ok ks css) : ∀ u ∈ css, u.oneCell' = true := (KidsQ.kids ks css h).one
/-- A literal of one element of four cells, just made. -/
theorem row_four (w : World) (c0 c1 c2 c3 : Value) (E : TypeId) (B : Nat) (h0 : c0.oneCell' = true) (h1 : c1.oneCell' = true) (h2 : c2.oneCell' = true) (h3 : c3.oneCell' = true) (hB : w.heap.size < B := by omega) :
    RowA (w.alloc (.cells #[c0, c1, c2, c3] E)) B 4 (some ⟨w.heap.size, 0, none⟩) 1 1 [c0, c1, c2, c3] := by
  refine ⟨by simp, Nat.le_refl _, by unfold maxLen; omega, by simp [h0, h1, h2, h3], (fun h => by cases h), fun _ => ⟨w.heap.size, 0, rfl, hB, fun j u hj => ?_⟩⟩
  have hg : (w.alloc (.cells #[c0, c1, c2, c3] E)).heap[w.heap.size]? = some (.cells #[c0, c1, c2, c3] E (0, 0)) := heap_alloc_new w _
  rw [cell_of_row _ w.heap.size (0 + j) #[c0, c1, c2, c3] E (0, 0) hg]
  simpa using hj

end Go.Redl
/- A tree that came in, read into plain data. -/
namespace Go.Proofs.YtajclfjedlkbcaaGreatDoor
open Go.RowKit Go.Redl Go.Deep
set_option linter.unusedVariables false

/-- The elements of a slice, one by one. -/
def Elems {H α : Type} (Φ : α → List Value → DataW H → Prop) : List α → List Value → List (DataW H) → Prop
  | [], css, ds => css = [] ∧ ds = []
  | y :: ys, css, ds => ∃ c cs d ds', css = c ++ cs ∧ ds = d :: ds' ∧ Φ y c d ∧ Elems Φ ys cs ds'

theorem elems_of {H α : Type} {enc : TypeId × Value → H} {P : Program} {W : World} {fuel : Nat} {e : TypeId} {sz : Nat} (Φ : α → List Value → DataW H → Prop)
    (hΦ : ∀ cs x, DataW.trod enc P W 0 (fun _ => true) true fuel e cs = some x → ∃ y, Φ y cs x.1) :
    ∀ (elems : List (DataW H × List MemPlace)) (a : Addr) (off : Nat), (∀ i, i < elems.length → (W.cells? 0 (a.add (off + i * sz)) sz).bind (DataW.trod enc P W 0 (fun _ => true) true fuel e) = elems[i]?) →
      ∃ ys css, Elems Φ ys css (elems.map (·.1)) ∧ ys.length = elems.length ∧ css.length = elems.length * sz ∧ ∀ j u, css[j]? = some u → W.cell? (a.add (off + j)) = some u
  | [], a, off, h => ⟨[], [], ⟨rfl, rfl⟩, rfl, by simp, by simp⟩
  | x :: elems, a, off, h => by
    have h0 := h 0 (by simp)
    simp only [Nat.zero_mul, Nat.add_zero, List.getElem?_cons_zero, Option.bind_eq_some_iff] at h0
    obtain ⟨c, hc, ht⟩ := h0
    obtain ⟨y, hy⟩ := hΦ c x ht
    obtain ⟨_, hcl, hcell⟩ := World.cells?_some hc
    obtain ⟨ys, css, h1, h2, h3, h4⟩ := elems_of Φ hΦ elems a (off + sz) (fun i hi => by
      have := h (i + 1) (by simpa using hi)
      rw [show off + (i + 1) * sz = off + sz + i * sz by rw [Nat.add_mul]; omega] at this
      simpa using this)
    refine ⟨y :: ys, c ++ css, ⟨c, css, x.1, elems.map (·.1), rfl, rfl, hy, h1⟩, by simp [h2], by simp [hcl, h3, Nat.add_mul]; omega, fun j u hj => ?_⟩
    rcases Nat.lt_or_ge j sz with hlt | hge
    · rw [List.getElem?_append_left (by omega)] at hj
      have := hcell j hlt
      rw [add_add, hj] at this
      exact this
    · rw [List.getElem?_append_right (by omega), hcl] at hj
      have := h4 _ _ hj
      rw [show off + sz + (j - sz) = off + j by omega] at this
      exact this

theorem Elems.one {H α : Type} {Φ : α → List Value → DataW H → Prop} (h1 : ∀ y c d, Φ y c d → ∀ u ∈ c, u.oneCell' = true) : ∀ {ys : List α} {css : List Value} {ds : List (DataW H)}, Elems Φ ys css ds → ∀ u ∈ css, u.oneCell' = true
  | [], css, ds, h => by obtain ⟨rfl, -⟩ := h; simp
  | y :: ys, css, ds, h => by
    obtain ⟨c, cs, d, ds', rfl, rfl, hy, hr⟩ := h
    intro u hu
    rcases List.mem_append.1 hu with hu | hu
    · exact h1 y c d hy u hu
    · exact Elems.one h1 hr u hu

/-- A slice that came in: its elements read one by one. -/
theorem row_of_trod {H α : Type} {enc : TypeId × Value → H} {P : Program} {W : World} {fuel : Nat} {t e : TypeId} {sz : Nat} (Φ : α → List Value → DataW H → Prop) (ht : P.underlying t = some (.slice e)) (hs : P.cellsOf e = sz) (hpos : 0 < sz)
    (hΦ : ∀ m cs x, m < fuel → DataW.trod enc P W 0 (fun _ => true) true m e cs = some x → ∃ y, Φ y cs x.1) (h1 : ∀ y c d, Φ y c d → ∀ u ∈ c, u.oneCell' = true)
    {cs : List Value} {x : DataW H × List MemPlace} (h : DataW.trod enc P W 0 (fun _ => true) true fuel t cs = some x) :
    ∃ a cap ys css ds, cs = [.slice a ys.length cap] ∧ RowA W W.heap.size sz a ys.length cap css ∧ Elems Φ ys css ds ∧ (x.1 = .nil ∧ ys = [] ∧ ds = [] ∨ ∃ sp, x.1 = .slice ds sp) := by
  rcases DataW.trod_slice ht h with ⟨rfl, rfl⟩ | ⟨a, len, cap, elems, rest, n, rfl, rfl, rfl, hb, hl, hm, hel, hall, -, -⟩
  · exact ⟨none, 0, [], [], [], rfl, RowA.empty _ _ _, ⟨rfl, rfl⟩, .inl ⟨rfl, rfl, rfl⟩⟩
  · rw [hs] at hall
    obtain ⟨ys, css, g1, g2, g3, g4⟩ := elems_of (fuel := n) Φ (fun cs x hx => hΦ n cs x (Nat.lt_succ_self n) hx) elems a 0 (fun i hi => by
      have := hall i (by omega)
      rw [Nat.zero_add]; exact this)
    have hyl : ys.length = len := by omega
    subst hyl
    refine ⟨some a, cap, ys, css, elems.map (·.1), rfl, ⟨by rw [g3, hel], hl, hm, Elems.one h1 g1, (fun h => by cases h), fun hne => ?_⟩, g1, .inr ⟨_, rfl⟩⟩
    have hpos' : 0 < css.length := List.length_pos_iff.2 hne
    have h0 := g4 0 _ (List.getElem?_eq_getElem hpos')
    obtain ⟨b, off, spot⟩ := a
    have hspot : spot = none := by simpa [Addr.add] using World.cell?_spot h0
    subst hspot
    refine ⟨b, off, rfl, ?_, fun j u hj => ?_⟩
    · have := World.block_lt_of_cell? W _ h0
      simpa [addr_add] using this
    · have := g4 j u hj
      rw [Nat.zero_add, addr_add] at this
      exact this

theorem bulkAll_append {H : Type} (l r : List (DataW H)) : Rows.uptoBulkAll (l ++ r) = Rows.uptoBulkAll l + Rows.uptoBulkAll r := by
  induction l with
  | nil => simp [Rows.uptoBulkAll]
  | cons x l ih => simp only [List.cons_append, Rows.uptoBulkAll, ih]; omega

theorem list_string (s : ByteArray) : (⟨s.data.toList.toArray⟩ : ByteArray) = s := by cases s; simp

/-- A property that came in. -/
def PropΦ {H : Type} (p : PropD) (cs : List Value) (d : DataW H) : Prop := cs = [.string ⟨p.1.toArray⟩, .string ⟨p.2.toArray⟩] ∧ 2 + p.1.length + p.2.length ≤ Rows.uptoBulk d
theorem prop_of_trod {H : Type} {enc : TypeId × Value → H} {P : Program} {W : World} {fuel : Nat} {t : TypeId} {f0 f1 : Field} (hs : P.underlying t = some (.struct #[f0, f1])) (hc : P.cellsOf t = 2) (h0 : P.underlying f0.type = some .string) (h1 : P.underlying f1.type = some .string)
    (c0 : P.cellsOf f0.type = 1) (c1 : P.cellsOf f1.type = 1) (o0 : f0.offset = 0) (o1 : f1.offset = 1) {cs : List Value} {x : DataW H × List MemPlace} (h : DataW.trod enc P W 0 (fun _ => true) true fuel t cs = some x) : ∃ p, PropΦ p cs x.1 := by
  obtain ⟨xs, n, rfl, rfl, hl, hx, hf⟩ := DataW.trod_struct hs h
  rw [hc] at hl
  match xs, hx, cs, hl with
  | [y0, y1], _, [v0, v1], _ =>
    have g0 := hf 0 f0 rfl
    have g1 := hf 1 f1 rfl
    simp [o0, o1, c0, c1] at g0 g1
    obtain ⟨s0, e0, rfl, m0⟩ := DataW.trod_string h0 g0
    obtain ⟨s1, e1, rfl, m1⟩ := DataW.trod_string h1 g1
    simp at e0 e1
    subst e0; subst e1
    refine ⟨(s0.data.toList, s1.data.toList), ?_, ?_⟩
    · simp only [list_string]
    · simp [Rows.uptoBulk, Rows.uptoBulkAll]; omega

theorem elems_props {H : Type} : ∀ {ps : List PropD} {css : List Value} {ds : List (DataW H)}, Elems PropΦ ps css ds → css = propCells ps ∧ propsWt ps ≤ Rows.uptoBulkAll ds
  | [], css, ds, h => by obtain ⟨rfl, rfl⟩ := h; exact ⟨rfl, by simp [propsWt]⟩
  | p :: ps, css, ds, h => by
    obtain ⟨c, cs, d, ds', rfl, rfl, ⟨rfl, hb⟩, hr⟩ := h
    obtain ⟨rfl, h2⟩ := elems_props hr
    exact ⟨by simp [propCells], by simp only [propsWt, Rows.uptoBulkAll]; omega⟩
theorem elems_ints {H : Type} {k : IntKind} : ∀ {zs : List Int} {css : List Value} {ds : List (DataW H)}, Elems (fun z cs d => cs = [.int k z] ∧ (Lit.int k z).wf = true ∧ 1 ≤ Rows.uptoBulk (H := H) d) zs css ds →
    css = zs.map (Value.int k) ∧ (∀ z ∈ zs, (Lit.int k z).wf = true) ∧ zs.length ≤ Rows.uptoBulkAll ds
  | [], css, ds, h => by obtain ⟨rfl, rfl⟩ := h; exact ⟨rfl, by simp, by simp⟩
  | z :: zs, css, ds, h => by
    obtain ⟨c, cs, d, ds', rfl, rfl, ⟨rfl, hw, hb⟩, hr⟩ := h
    obtain ⟨rfl, h2, h3⟩ := elems_ints hr
    exact ⟨by simp, by simpa using ⟨hw, h2⟩, by simp only [List.length_cons, Rows.uptoBulkAll]; omega⟩
def NodeΦ {H : Type} (W : World) (n : NodeD) (cs : List Value) (d : DataW H) : Prop := NodeC W W.heap.size n cs ∧ n.wt ≤ Rows.uptoBulk d
theorem elems_kids {H : Type} {W : World} : ∀ {ks : List NodeD} {css : List Value} {ds : List (DataW H)}, Elems (NodeΦ W) ks css ds → KidsC W W.heap.size ks css ∧ wtAll ks ≤ Rows.uptoBulkAll ds
  | [], css, ds, h => by obtain ⟨rfl, rfl⟩ := h; exact ⟨by unfold KidsC; rfl, by simp [wtAll]⟩
  | k :: ks, css, ds, h => by
    obtain ⟨c, cs, d, ds', rfl, rfl, ⟨hk, hb⟩, hr⟩ := h
    obtain ⟨h2, h3⟩ := elems_kids hr
    exact ⟨by unfold KidsC; exact ⟨c, cs, rfl, hk, h2⟩, by simp only [wtAll, Rows.uptoBulkAll]; omega⟩

/-- What a slice's bulk says. -/
theorem slice_bulk {H : Type} {d : DataW H} {ds : List (DataW H)} {n : Nat} (h : d = .nil ∧ n = 0 ∧ ds = [] ∨ ∃ sp, d = .slice ds sp) : Rows.uptoBulkAll ds + 1 ≤ Rows.uptoBulk d := by
  rcases h with ⟨rfl, -, rfl⟩ | ⟨sp, rfl⟩
  · simp [Rows.uptoBulk, Rows.uptoBulkAll]
  · simp only [Rows.uptoBulk]; omega

set_option maxRecDepth 100000 in
theorem node_of_trod {H : Type} {enc : TypeId × Value → H} {W : World} : ∀ (fuel : Nat) (cs : List Value) (x : DataW H × List MemPlace), DataW.trod enc Tryz.prog W 0 (fun _ => true) true fuel 35 cs = some x → ∃ n, NodeΦ W n cs x.1 := by
  intro fuel
  induction fuel using Nat.strongRecOn with
  | _ fuel ih =>
    intro cs x h
    obtain ⟨xs, n, rfl, rfl, hl, hx, hf⟩ := DataW.trod_struct Tryz.underlying35 h
    rw [show Tryz.prog.cellsOf 35 = 4 by kernel_rfl] at hl
    match xs, hx, cs, hl with
    | [y0, y1, y2, y3], _, [v0, v1, v2, v3], _ =>
      have g0 := hf 0 _ rfl
      have g1 := hf 1 _ rfl
      have g2 := hf 2 _ rfl
      have g3 := hf 3 _ rfl
      have k0 : Tryz.prog.cellsOf 4 = 1 := by kernel_rfl
      have k1 : Tryz.prog.cellsOf 31 = 1 := by kernel_rfl
      have k2 : Tryz.prog.cellsOf 32 = 1 := by kernel_rfl
      have k3 : Tryz.prog.cellsOf 33 = 1 := by kernel_rfl
      simp [k0, k1, k2, k3] at g0 g1 g2 g3
      obtain ⟨b, e0, rfl⟩ := DataW.trod_bool Tryz.underlying4 g0
      obtain ⟨a1, c1, ps, css1, ds1, e1, r1, el1, s1⟩ := row_of_trod PropΦ Tryz.underlying31 (show Tryz.prog.cellsOf 68 = 2 by kernel_rfl) (by decide)
        (fun m cs x _ hx => prop_of_trod Tryz.underlying68 (by kernel_rfl) Tryz.underlying9 Tryz.underlying9 (by kernel_rfl) (by kernel_rfl) rfl rfl hx) (fun y c d hh => by obtain ⟨rfl, -⟩ := hh; intro u hu; simp at hu; rcases hu with rfl | rfl <;> rfl) g1
      obtain ⟨a2, c2, zs, css2, ds2, e2, r2, el2, s2⟩ := row_of_trod (fun z cs d => cs = [.int .i32 z] ∧ (Lit.int .i32 z).wf = true ∧ 1 ≤ Rows.uptoBulk (H := H) d) Tryz.underlying32 (show Tryz.prog.cellsOf 21 = 1 by kernel_rfl) (by decide)
        (fun m cs x _ hx => by
          obtain ⟨z, rfl, rfl, hw⟩ := DataW.trod_int Tryz.underlying21 hx
          exact ⟨z, rfl, hw, by simp [Rows.uptoBulk]⟩) (fun y c d hh => by obtain ⟨rfl, -⟩ := hh; intro u hu; simp at hu; subst hu; rfl) g2
      obtain ⟨a3, c3, ks, css3, ds3, e3, r3, el3, s3⟩ := row_of_trod (NodeΦ W) Tryz.underlying33 (show Tryz.prog.cellsOf 35 = 4 by kernel_rfl) (by decide)
        (fun m cs x hm hx => ih m (by omega) cs x hx) (fun y c d hh => hh.1.one) g3
      simp at e0 e1 e2 e3
      subst e0; subst e1; subst e2; subst e3
      obtain ⟨rfl, b1⟩ := elems_props el1
      obtain ⟨rfl, hw, b2⟩ := elems_ints el2
      obtain ⟨hk, b3⟩ := elems_kids el3
      refine ⟨.mk b ps zs ks, ?_, ?_⟩
      · unfold NodeC
        exact ⟨a1, c1, a2, c2, a3, c3, css3, rfl, r1, r2, hw, r3, hk⟩
      · have m1 := slice_bulk (n := 0) (s1.imp (fun h => ⟨h.1, rfl, h.2.2⟩) id)
        have m2 := slice_bulk (n := 0) (s2.imp (fun h => ⟨h.1, rfl, h.2.2⟩) id)
        have m3 := slice_bulk (n := 0) (s3.imp (fun h => ⟨h.1, rfl, h.2.2⟩) id)
        simp only [NodeD.wt, List.map_cons, List.map_nil, Rows.uptoBulk, Rows.uptoBulkAll]
        omega

end Go.Proofs.YtajclfjedlkbcaaGreatDoor
/- A node's box in memory; rows and trees behind stores elsewhere. -/
namespace Go.Proofs.YtajclfjedlkbcaaGreatDoor
open Go.RowKit Go.Redl
set_option linter.unusedVariables false

/-- A node's box. -/
def NodeAt (w : World) (N : Nat) (c0 c1 c2 c3 : Value) : Prop := w.heap[N]? = some (.cells #[c0, c1, c2, c3] 35 (0, 0))
theorem NodeAt.facts {w : World} {N : Nat} {c0 c1 c2 c3 : Value} (h : NodeAt w N c0 c1 c2 c3) :
    w.cell? ⟨N, 0, none⟩ = some c0 ∧ w.cell? ⟨N, 1, none⟩ = some c1 ∧ w.cell? ⟨N, 2, none⟩ = some c2 ∧ w.cell? ⟨N, 3, none⟩ = some c3 ∧
      (w.frozen? ⟨N, 0, none⟩ = false ∧ w.frozen? ⟨N, 1, none⟩ = false ∧ w.frozen? ⟨N, 2, none⟩ = false ∧ w.frozen? ⟨N, 3, none⟩ = false) ∧ N < w.heap.size := by
  refine ⟨?_, ?_, ?_, ?_, ⟨?_, ?_, ?_, ?_⟩, (Array.getElem?_eq_some_iff.1 h).1⟩
  all_goals first
    | exact Lib.frozen_of_heap h _
    | (rw [Lib.cell_of_heap h]; rfl)
theorem NodeAt.fresh (W : World) (c0 c1 c2 c3 : Value) : NodeAt (W.alloc (.cells #[c0, c1, c2, c3] 35)) W.heap.size c0 c1 c2 c3 := heap_alloc_new W _
theorem NodeAt.keep {w w' : World} {N : Nat} {c0 c1 c2 c3 : Value} (h : NodeAt w N c0 c1 c2 c3) (hb : Below (N + 1) w w') : NodeAt w' N c0 c1 c2 c3 := by
  unfold NodeAt; rw [hb.block N (by omega)]; exact h
theorem NodeAt.alloc {w : World} {N : Nat} {c0 c1 c2 c3 : Value} (h : NodeAt w N c0 c1 c2 c3) (o : Obj) : NodeAt (w.alloc o) N c0 c1 c2 c3 := by
  unfold NodeAt; rw [Lib.alloc_old _ _ _ (Array.getElem?_eq_some_iff.1 h).1]; exact h
theorem NodeAt.drew {w : World} {N : Nat} {c0 c1 c2 c3 : Value} (h : NodeAt w N c0 c1 c2 c3) : NodeAt w.drew N c0 c1 c2 c3 := h
theorem NodeAt.all {w : World} {N : Nat} {c0 c1 c2 c3 : Value} (h : NodeAt w N c0 c1 c2 c3) (d0 d1 d2 d3 : Value) : NodeAt ((((w.setCell ⟨N, 0, none⟩ d0).setCell ⟨N, 1, none⟩ d1).setCell ⟨N, 2, none⟩ d2).setCell ⟨N, 3, none⟩ d3) N d0 d1 d2 d3 := by
  have h0 := Lib.heap_setCell_same (i := 0) h d0
  have h1 := Lib.heap_setCell_same (i := 1) h0 d1
  have h2 := Lib.heap_setCell_same (i := 2) h1 d2
  exact Lib.heap_setCell_same (i := 3) h2 d3

theorem NodeAt.set {w : World} {N b o : Nat} {c0 c1 c2 c3 u : Value} (h : NodeAt w N c0 c1 c2 c3) (hne : N ≠ b) : NodeAt (w.setCell ⟨b, o, none⟩ u) N c0 c1 c2 c3 := by
  unfold NodeAt; rw [Below.heap_setCell _ _ _ _ hne]; exact h
theorem node_second (w : World) (o : Obj) (c0 c1 c2 c3 : Value) : NodeAt ((w.alloc o).alloc (.cells #[c0, c1, c2, c3] 35)) (w.heap.size + 1) c0 c1 c2 c3 := by
  have h := NodeAt.fresh (w.alloc o) c0 c1 c2 c3
  have e : (w.alloc o).heap.size = w.heap.size + 1 := by simp
  rwa [e] at h
theorem NodeAt.drewq {w : World} {M : Nat} {c0 c1 c2 c3 : Value} (h : NodeAt w M c0 c1 c2 c3) (q : Nat) : NodeAt (w.drewN q) M c0 c1 c2 c3 := h
theorem NodeAt.s0 {w : World} {M : Nat} {c0 c1 c2 c3 : Value} (h : NodeAt w M c0 c1 c2 c3) (u : Value) : NodeAt (w.setCell ⟨M, 0, none⟩ u) M u c1 c2 c3 := Lib.heap_setCell_same (i := 0) h _
theorem NodeAt.s1 {w : World} {M : Nat} {c0 c1 c2 c3 : Value} (h : NodeAt w M c0 c1 c2 c3) (u : Value) : NodeAt (w.setCell ⟨M, 1, none⟩ u) M c0 u c2 c3 := Lib.heap_setCell_same (i := 1) h _
theorem NodeAt.s2 {w : World} {M : Nat} {c0 c1 c2 c3 : Value} (h : NodeAt w M c0 c1 c2 c3) (u : Value) : NodeAt (w.setCell ⟨M, 2, none⟩ u) M c0 c1 u c3 := Lib.heap_setCell_same (i := 2) h _
theorem NodeAt.s3 {w : World} {M : Nat} {c0 c1 c2 c3 : Value} (h : NodeAt w M c0 c1 c2 c3) (u : Value) : NodeAt (w.setCell ⟨M, 3, none⟩ u) M c0 c1 c2 u := Lib.heap_setCell_same (i := 3) h _
theorem below_all {B : Nat} {W w : World} {N : Nat} (h : Below B W w) (hN : B ≤ N) (d0 d1 d2 d3 : Value) : Below B W ((((w.setCell ⟨N, 0, none⟩ d0).setCell ⟨N, 1, none⟩ d1).setCell ⟨N, 2, none⟩ d2).setCell ⟨N, 3, none⟩ d3) :=
  (((h.setCell (p := ⟨N, 0, none⟩) hN _).setCell (p := ⟨N, 1, none⟩) hN _).setCell (p := ⟨N, 2, none⟩) hN _).setCell (p := ⟨N, 3, none⟩) hN _
theorem below_both {B : Nat} {W w : World} {N : Nat} (h : Below B W w) (hN : B ≤ N) (d0 d1 : Value) : Below B W ((w.setCell ⟨N, 0, none⟩ d0).setCell ⟨N, 1, none⟩ d1) :=
  (h.setCell (p := ⟨N, 0, none⟩) hN _).setCell (p := ⟨N, 1, none⟩) hN _

theorem rowq_set {w : World} {ok : Nat → Prop} {sz n cap N o : Nat} {a : Option Addr} {cs : List Value} {u : Value} (h : RowQ w ok sz a n cap cs) (hne : ¬ ok N) : RowQ (w.setCell ⟨N, o, none⟩ u) ok sz a n cap cs :=
  h.keep (by simp [World.setCell]) (fun b hb _ => Below.heap_setCell w _ u b (fun e => hne (by rw [← show b = N from e]; exact hb))) (fun _ hb _ => hb)
theorem nodeq_set {w : World} {ok : Nat → Prop} {N o : Nat} {n : NodeD} {cs : List Value} {u : Value} (h : NodeQ w ok n cs) (hne : ¬ ok N) : NodeQ (w.setCell ⟨N, o, none⟩ u) ok n cs :=
  NodeQ.keep (by simp [World.setCell]) (fun b hb _ => Below.heap_setCell w _ u b (fun e => hne (by rw [← show b = N from e]; exact hb))) (fun _ hb _ => hb) n cs h
theorem kidsq_set {w : World} {ok : Nat → Prop} {N o : Nat} {n : List NodeD} {cs : List Value} {u : Value} (h : KidsQ w ok n cs) (hne : ¬ ok N) : KidsQ (w.setCell ⟨N, o, none⟩ u) ok n cs :=
  KidsQ.keep (by simp [World.setCell]) (fun b hb _ => Below.heap_setCell w _ u b (fun e => hne (by rw [← show b = N from e]; exact hb))) (fun _ hb _ => hb) n cs h
theorem rowq_drew {w : World} {ok : Nat → Prop} {sz n cap : Nat} {a : Option Addr} {cs : List Value} (h : RowQ w ok sz a n cap cs) : RowQ w.drew ok sz a n cap cs := h.keep (Nat.le_refl _) (fun _ _ _ => rfl) (fun _ hb _ => hb)
theorem rowq_all {w : World} {ok : Nat → Prop} {sz n cap N : Nat} {a : Option Addr} {cs : List Value} (h : RowQ w ok sz a n cap cs) (hne : ¬ ok N) (d0 d1 d2 d3 : Value) : RowQ ((((w.setCell ⟨N, 0, none⟩ d0).setCell ⟨N, 1, none⟩ d1).setCell ⟨N, 2, none⟩ d2).setCell ⟨N, 3, none⟩ d3) ok sz a n cap cs :=
  rowq_set (rowq_set (rowq_set (rowq_set h hne) hne) hne) hne
theorem rowq_both {w : World} {ok : Nat → Prop} {sz n cap N : Nat} {a : Option Addr} {cs : List Value} (h : RowQ w ok sz a n cap cs) (hne : ¬ ok N) (d0 d1 : Value) : RowQ ((w.setCell ⟨N, 0, none⟩ d0).setCell ⟨N, 1, none⟩ d1) ok sz a n cap cs :=
  rowq_set (rowq_set h hne) hne
theorem kidsq_all {w : World} {ok : Nat → Prop} {N : Nat} {ks : List NodeD} {cs : List Value} (h : KidsQ w ok ks cs) (hne : ¬ ok N) (d0 d1 d2 d3 : Value) : KidsQ ((((w.setCell ⟨N, 0, none⟩ d0).setCell ⟨N, 1, none⟩ d1).setCell ⟨N, 2, none⟩ d2).setCell ⟨N, 3, none⟩ d3) ok ks cs :=
  kidsq_set (kidsq_set (kidsq_set (kidsq_set h hne) hne) hne) hne
theorem kidsq_both {w : World} {ok : Nat → Prop} {N : Nat} {ks : List NodeD} {cs : List Value} (h : KidsQ w ok ks cs) (hne : ¬ ok N) (d0 d1 : Value) : KidsQ ((w.setCell ⟨N, 0, none⟩ d0).setCell ⟨N, 1, none⟩ d1) ok ks cs :=
  kidsq_set (kidsq_set h hne) hne
theorem rowq_own {w : World} {base e sz n : Nat} {v : Value} {cs : List Value} (h : w.ownsRow base e sz v n cs) (h1 : ∀ u ∈ cs, u.oneCell' = true) : ∃ a cap, v = .slice a n cap ∧ RowQ w (fun b => base ≤ b) sz a n cap cs := by
  obtain ⟨a, cap, hv, hr⟩ := RowQ.of_own h h1
  exact ⟨a, cap, hv, hr.keep (Nat.le_refl _) (fun _ _ _ => rfl) (fun b hb _ => (h.lt b hb).1)⟩
theorem rowq_below {w w' : World} {M sz n cap : Nat} {a : Option Addr} {cs : List Value} (h : RowQ w (fun b => M ≤ b) sz a n cap cs) (hb : Below w.heap.size w w') : RowQ w' (fun b => M ≤ b) sz a n cap cs :=
  h.keep hb.size (fun b _ hlt => hb.block b hlt) (fun _ hb _ => hb)

theorem NodeAt.grownN {w w' : World} {M : Nat} {c0 c1 c2 c3 : Value} {r : Option Nat} (h : NodeAt w M c0 c1 c2 c3) (hg : w.grownBy w' r) (hr : r ≠ some M) : NodeAt w' M c0 c1 c2 c3 := by
  unfold NodeAt; rw [hg.block M (Array.getElem?_eq_some_iff.1 h).1 (fun e => hr e.symm)]; exact h
/-- Nothing that was there is written but block N. -/
def Only (N : Nat) (w w' : World) : Prop := w.grownBy w' (some N)
theorem Only.refl (N : Nat) (w : World) : Only N w w := World.grownBy.refl w _
theorem Only.trans {N : Nat} {a b c : World} (h : Only N a b) (k : Only N b c) : Only N a c := grownBy_trans h k
theorem Only.below {N : Nat} {w w' : World} (h : Below w.heap.size w w') : Only N w w' := ⟨h.os, h.tape, h.output, h.size, fun i hi _ => h.block i hi⟩
theorem Only.set {N o : Nat} {a b : World} (h : Only N a b) (u : Value) : Only N a (b.setCell ⟨N, o, none⟩ u) := by
  refine grownBy_trans h ⟨rfl, rfl, rfl, by simp [World.setCell], fun i hi hne => Below.heap_setCell b ⟨N, o, none⟩ u i (fun e => hne (by rw [e]))⟩
theorem Only.drewN {N : Nat} {a b : World} (h : Only N a b) (q : Nat) : Only N a (b.drewN q) := h.trans (Only.below (below_drewN (Below.refl _ _) q))
theorem Only.then {N : Nat} {a b c : World} (h : Only N a b) (k : Below b.heap.size b c) : Only N a c := h.trans (Only.below k)
theorem Only.size {N : Nat} {w w' : World} (h : Only N w w') : w.heap.size ≤ w'.heap.size := World.grownBy.size h
theorem Only.to {N B : Nat} {w w' : World} (h : Only N w w') (hB : B ≤ N) (hw : B ≤ w.heap.size) : Below B w w' := ⟨h.os, h.tape, h.output, World.grownBy.size h, fun i hi => World.grownBy.block h i (by omega) (by simp; omega)⟩
theorem own_only {N : Nat} {w w' : World} {base e sz n : Nat} {v : Value} {cs : List Value} (h : w.ownsRow base e sz v n cs) (ho : Only N w w') (hN : N < base) : w'.ownsRow base e sz v n cs := by
  refine h.kept ho ?_
  cases hv : v.ownBlock with
  | none => simp
  | some k =>
    have := (h.lt k hv).1
    simp
    try omega
theorem Only.grown {N : Nat} {w w1 w2 : World} {r : Option Nat} (h : Only N w w1) (hg : w1.grownBy w2 r) (hr : ∀ k, r = some k → w.heap.size ≤ k) : Only N w w2 :=
  ⟨hg.os.trans h.os, hg.tape.trans h.tape, hg.output.trans h.output, Nat.le_trans h.size hg.size, fun i hi hne => (hg.block i (Nat.lt_of_lt_of_le hi h.size) (fun e => by have := hr i e.symm; omega)).trans (World.grownBy.block h i hi hne)⟩
theorem NodeAt.only {w w' : World} {M N : Nat} {c0 c1 c2 c3 : Value} (h : NodeAt w M c0 c1 c2 c3) (ho : Only N w w') (hne : M ≠ N) : NodeAt w' M c0 c1 c2 c3 := by
  unfold NodeAt
  rw [World.grownBy.block ho M (Array.getElem?_eq_some_iff.1 h).1 (by simpa using hne)]
  exact h
theorem Only.setO {N M o : Nat} {a b : World} (h : Only N a b) (hM : a.heap.size ≤ M) (u : Value) : Only N a (b.setCell ⟨M, o, none⟩ u) :=
  Only.grown h (r := some M) ⟨rfl, rfl, rfl, by simp [World.setCell], fun i hi hne => Below.heap_setCell b ⟨M, o, none⟩ u i (fun e => hne (by rw [e]))⟩ (fun k hk => by injection hk with e; omega)
theorem Only.all {N M : Nat} {a b : World} (h : Only N a b) (hM : a.heap.size ≤ M) (u0 u1 u2 u3 : Value) : Only N a ((((b.setCell ⟨M, 0, none⟩ u0).setCell ⟨M, 1, none⟩ u1).setCell ⟨M, 2, none⟩ u2).setCell ⟨M, 3, none⟩ u3) :=
  (((h.setO hM u0).setO hM u1).setO hM u2).setO hM u3
/-- append(own, xs...) as one step of a region that draws; where the row lies behind it. -/
theorem step_app2 {P : Program} {ops : Array Oper} {o : Oper} {a : Act} {w : World} {K : Act → World → Prop} {Q : Exit → Act → World → Prop} {E : Prop}
    (hg : o.guard = none) (s x : Operand) (t : TypeId) (ho : o.op = .call { callee := .builtin .append, args := #[s, x], argTypes := #[t, t] })
    (base : Nat) (e : TypeId) (z : Value) (size bytes : Nat) (ht : P.underlying t = some (.slice e)) (hi : (P.info? e).map (fun i => (i.zero, i.size, i.bytes)) = some (some z, size, bytes))
    (hzs : z.cells.size = size) (hsz : 0 < size)
    (v : Value) (n : Nat) (xs : List Value) (hs : a.eval s = v) (hown : w.ownsRow base e size v n xs)
    (ad : Addr) (m c B : Nat) (news : List Value) (hx : a.eval x = .slice (some ad) m c) (hr : RowA w B size (some ad) m c news)
    (h63 : n + m ≤ maxLen) (hbytes : (n + m) * bytes ≤ 140737488355328) (hbase : base ≤ w.heap.size)
    (h : ∀ v' w', w'.ownsRow base e size v' (n + m) (xs ++ news) → w.grownBy w' v.ownBlock → (v'.ownBlock = v.ownBlock ∨ ∀ k, v'.ownBlock = some k → w.heap.size ≤ k) → K (a.put o.dst v') w') : if Region.wanted o (yielded ops a.tmps) = true then Oper.wp P o a w K Q else E := by
  have hw : Region.wanted o (yielded ops a.tmps) = true := by simp [Region.wanted, hg]
  rw [if_pos hw]
  obtain ⟨i, hi', hz, hsize, hby⟩ := info_parts hi
  obtain ⟨v', w', hrun, h2, h3, h4⟩ := run_own_where (P := P) w base t o.type e i z size bytes ht hi' hz hsize hby hzs hsz v n xs hown ad m c news hr.len hr.cells hr.one h63 hbytes hbase
  unfold Oper.wp execOp
  simp only [ho, resolve, invoke, builtin, Sem.run_bind, Sem.run_pure, Result.andThen_ok, List.map_toArray, List.map_cons, List.map_nil, hs, hx, hrun]
  exact h v' w' h2 h3 h4
theorem stay_kidsO {wr w1 w2 w3 : World} {M T sz n N : Nat} {kv kv' : Value} {css : List Value} (hown : wr.ownsRow M T sz kv n css) (hN : N < M) (h1 : Only N wr w1) (h2 : Below w1.heap.size w1 w2) (hg : w2.grownBy w3 kv.ownBlock)
    (hw : kv'.ownBlock = kv.ownBlock ∨ ∀ k, kv'.ownBlock = some k → w2.heap.size ≤ k) : Stay wr w3 (fun b => M ≤ b ∧ kv.ownBlock ≠ some b) (fun b => M ≤ b ∧ kv'.ownBlock ≠ some b) := by
  have s1 := h1.size; have s2 := h2.size; have s3 := hg.size
  refine ⟨by omega, fun b hb hlt => ?_, fun b hb hlt => ⟨hb.1, ?_⟩⟩
  · rw [hg.block b (by omega) (fun e => hb.2 e.symm), h2.block b (by omega), World.grownBy.block h1 b hlt (by simp; omega)]
  · rcases hw with hw | hw
    · rw [hw]; exact hb.2
    · intro e; have := hw b e; omega
theorem Only.drew1 {N : Nat} {a b : World} (h : Only N a b) : Only N a b.drew := h.then (Below.refl _ _).drew
/-- A box of two cells, behind more memory. -/
theorem box2_keep {w w1 : World} {c0 c1 : Value} {T : TypeId} (hb : Below (w.heap.size + 1) (w.alloc (.cells #[c0, c1] T)) w1) :
    w1.cell? ⟨w.heap.size, 0, none⟩ = some c0 ∧ w1.cell? ⟨w.heap.size, 1, none⟩ = some c1 := by
  have h : w1.heap[w.heap.size]? = some (.cells #[c0, c1] T (0, 0)) := by
    rw [hb.block w.heap.size (by omega)]
    exact heap_alloc_new w _
  refine ⟨?_, ?_⟩ <;> (rw [cell_of_row _ _ _ _ _ _ h]; rfl)
theorem below_then {B : Nat} {w w1 w2 : World} (h : Below B w w1) (h2 : Below w1.heap.size w1 w2) (hB : B ≤ w.heap.size) : Below B w w2 :=
  h.trans (h2.mono (Nat.le_trans hB h.size))
/-- A box of four cells, behind more memory. -/
theorem box_keep {w w1 : World} {c0 c1 c2 c3 : Value} {T : TypeId} (hb : Below (w.heap.size + 1) (w.alloc (.cells #[c0, c1, c2, c3] T)) w1) :
    w1.cell? ⟨w.heap.size, 0, none⟩ = some c0 ∧ w1.cell? ⟨w.heap.size, 1, none⟩ = some c1 ∧ w1.cell? ⟨w.heap.size, 2, none⟩ = some c2 ∧ w1.cell? ⟨w.heap.size, 3, none⟩ = some c3 := by
  have h : w1.heap[w.heap.size]? = some (.cells #[c0, c1, c2, c3] T (0, 0)) := by
    rw [hb.block w.heap.size (by omega)]
    exact heap_alloc_new w _
  refine ⟨?_, ?_, ?_, ?_⟩ <;> (rw [cell_of_row _ _ _ _ _ _ h]; rfl)
theorem below_box {w w1 : World} {o : Obj} (hb : Below (w.alloc o).heap.size (w.alloc o) w1) : Below (w.heap.size + 1) (w.alloc o) w1 := by
  have : (w.alloc o).heap.size = w.heap.size + 1 := by simp
  rwa [this] at hb
theorem below_unbox {w w1 : World} {o : Obj} (hb : Below (w.heap.size + 1) (w.alloc o) w1) : Below w.heap.size w w1 :=
  ((Below.refl w.heap.size w).alloc (Nat.le_refl _) o).trans (hb.mono (by omega))
theorem below_box_more {w w1 : World} {o o' : Obj} (hb : Below (w.heap.size + 1) (w.alloc o) w1) : Below (w.heap.size + 1) (w.alloc o) (w1.alloc o') :=
  hb.alloc (by have := hb.size; simp at this; omega) o'
theorem below_new (w : World) (o : Obj) : Below w.heap.size w (w.alloc o) := (Below.refl _ _).alloc (Nat.le_refl _) o
theorem props_len {w : World} {B cap n : Nat} {a : Option Addr} {cs : List Value} {sz : Nat} (h : RowA w B sz a n cap cs) : n ≤ 9223372036854775807 := by
  have h1 := h.le; have h2 := h.max; unfold maxLen at h2; omega

end Go.Proofs.YtajclfjedlkbcaaGreatDoor
/- Walks: glyph.Check and what it calls. -/
namespace Go.Proofs.YtajclfjedlkbcaaGreatDoor
open Go.RowKit Go.Redl
set_option linter.unusedVariables false

theorem info_int32 : (Tryz.prog.info? 21).map (fun i => (i.zero, i.size, i.bytes)) = some (some (.int .i32 0), 1, 4) := by kernel_rfl

set_option maxHeartbeats 400000 in
theorem valid_c (c : Int) (w : World) :
    Calls Tryz.prog 185 #[.int .i32 c] w fun e w' => e = .returned (.bool (validB c)) ∧ w = w' := by
  go_enter Tryz.func185, Tryz.ntmps185
  go_wp2
  all_goals (go_ret; refine ⟨ret_bool ?_, rfl⟩; unfold validB; simp; try omega)

/-- A text's error. -/
def checkE (zs : List Int) : Int := if zs.any (fun c => !validB c) then 4 else 0

set_option maxHeartbeats 400000 in
theorem clone_rune (B n : Nat) (a : Option Addr) (cap : Nat) (cs : List Value) (w : World) (hr : RowA w B 1 a n cap cs) (hB : B ≤ w.heap.size) (hn : n ≤ 1000000) :
    Calls Tryz.prog 87 #[.slice a n cap] w (MadeRow w 21 1 n cs) := by
  have hel := fun (w : World) => Lib.run_eql_slice_nil w (P := Tryz.prog) 32 21 a n cap 0 0 Tryz.underlying32
  cases ha : a with
  | none =>
    subst ha
    obtain rfl := hr.nil rfl
    obtain rfl : n = 0 := by have := hr.le; omega
    have hcs : cs = [] := List.eq_nil_of_length_eq_zero (by simpa using hr.len)
    subst hcs
    go_enter Tryz.func87, Tryz.ntmps87
    go_wp2_with fail
    go_ret
    exact ⟨_, rfl, World.ownsRow_nil _ _ _ _, Below.refl _ _⟩
  | some ad =>
    subst ha
    go_enter Tryz.func87, Tryz.ntmps87
    go_wp2_with (at_builtin; refine wpList_app rfl _ _ 32 rfl w.heap.size 21 (.int .i32 0) 1 4 Tryz.underlying32 info_int32 rfl (by decide) _ 0 [] rfl ?hown _ n cap B cs rfl ?hr ?h63 ?hb ?hbase ?_)
    case hown => exact World.ownsRow_lit w #[] 0 (Nat.le_refl _) (Nat.zero_le _) rfl
    case hr => exact hr.keep ((Below.refl _ _).alloc hB _) (Nat.le_refl _)
    case h63 => unfold maxLen; omega
    case hb => omega
    case hbase => simp
    intro v' w1 hown hgrow
    have Ho := Lib.hid hown; have Hg := Lib.hid hgrow; clear hown hgrow hel hr
    go_wp2_with fail
    go_ret
    refine ⟨v', rfl, by simpa using Ho.out, ((Below.refl _ _).alloc (Nat.le_refl _) _).grown Hg.out (by simp) ?_⟩
    simp [Value.ownBlock]

end Go.Proofs.YtajclfjedlkbcaaGreatDoor
/- Walks: clones of rows; node.Copy. -/
namespace Go.Proofs.YtajclfjedlkbcaaGreatDoor
open Go.RowKit Go.Redl
set_option linter.unusedVariables false

theorem info_propC : (Tryz.prog.info? 68).map (fun i => (i.zero, i.size, i.bytes)) = some (some (.agg #[.string ⟨#[]⟩, .string ⟨#[]⟩]), 2, 32) := by kernel_rfl
theorem info_nodeC : (Tryz.prog.info? 35).map (fun i => (i.zero, i.size, i.bytes)) = some (some (.agg #[.bool false, .slice none 0 0, .slice none 0 0, .slice none 0 0]), 4, 80) := by kernel_rfl

set_option maxRecDepth 100000 in
set_option maxHeartbeats 400000 in
theorem clone_prop (B n : Nat) (a : Option Addr) (cap : Nat) (cs : List Value) (w : World) (hr : RowA w B 2 a n cap cs) (hB : B ≤ w.heap.size) (hn : n ≤ 100000000) :
    Calls Tryz.prog 86 #[.slice a n cap] w (MadeRow w 68 2 n cs) := by
  have hel := fun (w : World) => Lib.run_eql_slice_nil w (P := Tryz.prog) 31 68 a n cap 0 0 Tryz.underlying31
  cases ha : a with
  | none =>
    subst ha
    obtain rfl := hr.nil rfl
    obtain rfl : n = 0 := by have := hr.le; omega
    have hcs : cs = [] := List.eq_nil_of_length_eq_zero (by simpa using hr.len)
    subst hcs
    go_enter Tryz.func86, Tryz.ntmps86
    go_wp2_with fail
    go_ret
    exact ⟨_, rfl, World.ownsRow_nil _ _ _ _, Below.refl _ _⟩
  | some ad =>
    subst ha
    go_enter Tryz.func86, Tryz.ntmps86
    go_wp2_with (at_builtin; refine wpList_app rfl _ _ 31 rfl w.heap.size 68 (.agg #[.string ⟨#[]⟩, .string ⟨#[]⟩]) 2 32 Tryz.underlying31 info_propC rfl (by decide) _ 0 [] rfl ?hown _ n cap B cs rfl ?hr ?h63 ?hb ?hbase ?_)
    case hown => exact World.ownsRow_lit w #[] 0 (Nat.le_refl _) (Nat.zero_le _) rfl
    case hr => exact hr.keep ((Below.refl _ _).alloc hB _) (Nat.le_refl _)
    case h63 => unfold maxLen; omega
    case hb => omega
    case hbase => simp
    intro v' w1 hown hgrow
    have Ho := Lib.hid hown; have Hg := Lib.hid hgrow; clear hown hgrow hel hr
    go_wp2_with fail
    go_ret
    refine ⟨v', rfl, by simpa using Ho.out, ((Below.refl _ _).alloc (Nat.le_refl _) _).grown Hg.out (by simp) ?_⟩
    simp [Value.ownBlock]

set_option maxRecDepth 100000 in
set_option maxHeartbeats 400000 in
theorem clone_node (B n : Nat) (a : Option Addr) (cap : Nat) (cs : List Value) (w : World) (hr : RowA w B 4 a n cap cs) (hB : B ≤ w.heap.size) (hn : n ≤ 100000000) :
    Calls Tryz.prog 88 #[.slice a n cap] w (MadeRow w 35 4 n cs) := by
  have hel := fun (w : World) => Lib.run_eql_slice_nil w (P := Tryz.prog) 33 35 a n cap 0 0 Tryz.underlying33
  cases ha : a with
  | none =>
    subst ha
    obtain rfl := hr.nil rfl
    obtain rfl : n = 0 := by have := hr.le; omega
    have hcs : cs = [] := List.eq_nil_of_length_eq_zero (by simpa using hr.len)
    subst hcs
    go_enter Tryz.func88, Tryz.ntmps88
    go_wp2_with fail
    go_ret
    exact ⟨_, rfl, World.ownsRow_nil _ _ _ _, Below.refl _ _⟩
  | some ad =>
    subst ha
    go_enter Tryz.func88, Tryz.ntmps88
    go_wp2_with (at_builtin; refine wpList_app rfl _ _ 33 rfl w.heap.size 35 (.agg #[.bool false, .slice none 0 0, .slice none 0 0, .slice none 0 0]) 4 80 Tryz.underlying33 info_nodeC rfl (by decide) _ 0 [] rfl ?hown _ n cap B cs rfl ?hr ?h63 ?hb ?hbase ?_)
    case hown => exact World.ownsRow_lit w #[] 0 (Nat.le_refl _) (Nat.zero_le _) rfl
    case hr => exact hr.keep ((Below.refl _ _).alloc hB _) (Nat.le_refl _)
    case h63 => unfold maxLen; omega
    case hb => omega
    case hbase => simp
    intro v' w1 hown hgrow
    have Ho := Lib.hid hown; have Hg := Lib.hid hgrow; clear hown hgrow hel hr
    go_wp2_with fail
    go_ret
    refine ⟨v', rfl, by simpa using Ho.out, ((Below.refl _ _).alloc (Nat.le_refl _) _).grown Hg.out (by simp) ?_⟩
    simp [Value.ownBlock]

set_option maxRecDepth 100000 in
set_option maxHeartbeats 400000 in
theorem clone_runes (B n : Nat) (a : Option Addr) (cap : Nat) (cs : List Value) (w : World) (hr : RowA w B 1 a n cap cs) (hB : B ≤ w.heap.size) (hn : n ≤ 100000000) :
    Calls Tryz.prog 87 #[.slice a n cap] w (MadeRow w 21 1 n cs) := by
  have hel := fun (w : World) => Lib.run_eql_slice_nil w (P := Tryz.prog) 32 21 a n cap 0 0 Tryz.underlying32
  cases ha : a with
  | none =>
    subst ha
    obtain rfl := hr.nil rfl
    obtain rfl : n = 0 := by have := hr.le; omega
    have hcs : cs = [] := List.eq_nil_of_length_eq_zero (by simpa using hr.len)
    subst hcs
    go_enter Tryz.func87, Tryz.ntmps87
    go_wp2_with fail
    go_ret
    exact ⟨_, rfl, World.ownsRow_nil _ _ _ _, Below.refl _ _⟩
  | some ad =>
    subst ha
    go_enter Tryz.func87, Tryz.ntmps87
    go_wp2_with (at_builtin; refine wpList_app rfl _ _ 32 rfl w.heap.size 21 (.int .i32 0) 1 4 Tryz.underlying32 info_int32 rfl (by decide) _ 0 [] rfl ?hown _ n cap B cs rfl ?hr ?h63 ?hb ?hbase ?_)
    case hown => exact World.ownsRow_lit w #[] 0 (Nat.le_refl _) (Nat.zero_le _) rfl
    case hr => exact hr.keep ((Below.refl _ _).alloc hB _) (Nat.le_refl _)
    case h63 => unfold maxLen; omega
    case hb => omega
    case hbase => simp
    intro v' w1 hown hgrow
    have Ho := Lib.hid hown; have Hg := Lib.hid hgrow; clear hown hgrow hel hr
    go_wp2_with fail
    go_ret
    refine ⟨v', rfl, by simpa using Ho.out, ((Below.refl _ _).alloc (Nat.le_refl _) _).grown Hg.out (by simp) ?_⟩
    simp [Value.ownBlock]


end Go.Proofs.YtajclfjedlkbcaaGreatDoor
