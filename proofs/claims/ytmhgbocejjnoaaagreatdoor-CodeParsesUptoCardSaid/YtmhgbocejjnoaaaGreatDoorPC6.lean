/- Parts of the proof, one behind the other: RX2, RDE. -/
import Derived.Test.YtmhgbocejjnoaaaGreatDoorPC5
import Derived.Deep.DeepCutAuto
/- Trees that a call makes: which blocks they lie in; an append that tells where its row lies. No program in sight. -/
namespace Go.Redl
open Go.RowKit
set_option linter.unusedVariables false

/-- A slice whose cells lie in a block that ok lets in. -/
structure RowQ (w : World) (ok : Nat → Prop) (sz : Nat) (a : Option Addr) (n cap : Nat) (cs : List Value) : Prop where
  len : cs.length = n * sz
  le : n ≤ cap
  max : cap ≤ maxLen
  one : ∀ u ∈ cs, u.oneCell' = true
  nil : a = none → cap = 0
  some_ : cs ≠ [] → ∃ b off, a = some ⟨b, off, none⟩ ∧ ok b ∧ b < w.heap.size ∧ ∀ j u, cs[j]? = some u → w.cell? ⟨b, off + j, none⟩ = some u
theorem RowQ.keep {w w' : World} {ok ok' : Nat → Prop} {sz n cap : Nat} {a : Option Addr} {cs : List Value} (h : RowQ w ok sz a n cap cs) (hs : w.heap.size ≤ w'.heap.size) (hk : ∀ b, ok b → b < w.heap.size → w'.heap[b]? = w.heap[b]?) (ho : ∀ b, ok b → b < w.heap.size → ok' b) : RowQ w' ok' sz a n cap cs := by
  refine ⟨h.len, h.le, h.max, h.one, h.nil, fun hne => ?_⟩
  obtain ⟨b, off, ha, hb, hlt, hcell⟩ := h.some_ hne
  refine ⟨b, off, ha, ho b hb hlt, Nat.lt_of_lt_of_le hlt hs, fun j u hj => ?_⟩
  rw [World.cell?_of_block (a := ⟨b, off + j, none⟩) (hk b hb hlt)]
  exact hcell j u hj
theorem RowQ.row {w : World} {ok : Nat → Prop} {sz n cap : Nat} {a : Option Addr} {cs : List Value} (h : RowQ w ok sz a n cap cs) : RowA w w.heap.size sz a n cap cs := by
  refine ⟨h.len, h.le, h.max, h.one, h.nil, fun hne => ?_⟩
  obtain ⟨b, off, ha, hb, hlt, hcell⟩ := h.some_ hne
  exact ⟨b, off, ha, hlt, hcell⟩
theorem RowQ.empty (w : World) (ok : Nat → Prop) (sz : Nat) : RowQ w ok sz none 0 0 [] := ⟨by simp, Nat.le_refl _, Nat.zero_le _, by simp, fun _ => rfl, fun h => absurd rfl h⟩
/-- The call's own row. -/
theorem RowQ.of_own {w : World} {base e sz n : Nat} {v : Value} {cs : List Value} (h : w.ownsRow base e sz v n cs) (h1 : ∀ u ∈ cs, u.oneCell' = true) :
    ∃ a cap, v = .slice a n cap ∧ RowQ w (fun b => v.ownBlock = some b) sz a n cap cs := by
  obtain ⟨a, cap, hv, hr⟩ := row_of_own h h1
  refine ⟨a, cap, hv, hr.len, hr.le, hr.max, hr.one, hr.nil, fun hne => ?_⟩
  obtain ⟨b, off, ha, hlt, hcell⟩ := hr.some_ hne
  refine ⟨b, off, ha, ?_, hlt, hcell⟩
  rcases h.2 with ⟨hn, _⟩ | ⟨g, cap', cur, hg, _⟩
  · rw [hv] at hn; injection hn with e1; subst e1; cases ha
  · rw [hv] at hg; injection hg with e1
    rw [ha] at e1
    injection e1 with e2
    injection e2 with e3
    subst e3
    rw [hv, ha]; simp [Value.ownBlock] at *

mutual
/-- A tree's cells; all that it leads to lies in blocks that ok lets in. -/
def NodeQ (w : World) (ok : Nat → Prop) : NodeD → List Value → Prop
  | .mk l ps t ks, cs => ∃ ap cp at_ ct ak ck css, cs = [.bool l, .slice ap ps.length cp, .slice at_ t.length ct, .slice ak ks.length ck] ∧ RowQ w ok 2 ap ps.length cp (propCells ps) ∧
      RowQ w ok 1 at_ t.length ct (t.map (Value.int .i32)) ∧ (∀ z ∈ t, (Lit.int .i32 z).wf = true) ∧ RowQ w ok 4 ak ks.length ck css ∧ KidsQ w ok ks css
def KidsQ (w : World) (ok : Nat → Prop) : List NodeD → List Value → Prop
  | [], css => css = []
  | k :: ks, css => ∃ c1 c2, css = c1 ++ c2 ∧ NodeQ w ok k c1 ∧ KidsQ w ok ks c2
end
mutual
theorem NodeQ.keep {w w' : World} {ok ok' : Nat → Prop} (hs : w.heap.size ≤ w'.heap.size) (hk : ∀ b, ok b → b < w.heap.size → w'.heap[b]? = w.heap[b]?) (ho : ∀ b, ok b → b < w.heap.size → ok' b) : ∀ (n : NodeD) (cs : List Value), NodeQ w ok n cs → NodeQ w' ok' n cs
  | .mk l ps t ks, cs => by
    intro h
    unfold NodeQ at h ⊢
    obtain ⟨ap, cp, at_, ct, ak, ck, css, h1, h2, h3, h4, h5, h6⟩ := h
    exact ⟨ap, cp, at_, ct, ak, ck, css, h1, h2.keep hs hk ho, h3.keep hs hk ho, h4, h5.keep hs hk ho, KidsQ.keep hs hk ho ks css h6⟩
theorem KidsQ.keep {w w' : World} {ok ok' : Nat → Prop} (hs : w.heap.size ≤ w'.heap.size) (hk : ∀ b, ok b → b < w.heap.size → w'.heap[b]? = w.heap[b]?) (ho : ∀ b, ok b → b < w.heap.size → ok' b) : ∀ (ks : List NodeD) (css : List Value), KidsQ w ok ks css → KidsQ w' ok' ks css
  | [], css => by intro h; unfold KidsQ at h ⊢; exact h
  | k :: ks, css => by
    intro h
    unfold KidsQ at h ⊢
    obtain ⟨c1, c2, h1, h2, h3⟩ := h
    exact ⟨c1, c2, h1, NodeQ.keep hs hk ho k c1 h2, KidsQ.keep hs hk ho ks c2 h3⟩
end
mutual
theorem NodeQ.node {w : World} {ok : Nat → Prop} : ∀ (n : NodeD) (cs : List Value), NodeQ w ok n cs → NodeC w w.heap.size n cs
  | .mk l ps t ks, cs => by
    intro h
    unfold NodeQ at h
    unfold NodeC
    obtain ⟨ap, cp, at_, ct, ak, ck, css, h1, h2, h3, h4, h5, h6⟩ := h
    exact ⟨ap, cp, at_, ct, ak, ck, css, h1, h2.row, h3.row, h4, h5.row, KidsQ.kids ks css h6⟩
theorem KidsQ.kids {w : World} {ok : Nat → Prop} : ∀ (ks : List NodeD) (css : List Value), KidsQ w ok ks css → KidsC w w.heap.size ks css
  | [], css => by intro h; unfold KidsQ at h; unfold KidsC; exact h
  | k :: ks, css => by
    intro h
    unfold KidsQ at h
    unfold KidsC
    obtain ⟨c1, c2, h1, h2, h3⟩ := h
    exact ⟨c1, c2, h1, NodeQ.node k c1 h2, KidsQ.kids ks c2 h3⟩
end
theorem KidsQ.append {w : World} {ok : Nat → Prop} : ∀ {ks ks' : List NodeD} {css css' : List Value}, KidsQ w ok ks css → KidsQ w ok ks' css' → KidsQ w ok (ks ++ ks') (css ++ css')
  | [], ks', css, css', h, h' => by unfold KidsQ at h; subst h; exact h'
  | k :: ks, ks', css, css', h, h' => by
    unfold KidsQ at h
    obtain ⟨c1, c2, rfl, h2, h3⟩ := h
    rw [List.cons_append]
    unfold KidsQ
    exact ⟨c1, c2 ++ css', by simp, h2, KidsQ.append h3 h'⟩
theorem KidsQ.one {w : World} {ok : Nat → Prop} {k : NodeD} {c : List Value} (h : NodeQ w ok k c) : KidsQ w ok [k] c := by
  unfold KidsQ
  exact ⟨c, [], by simp, h, by unfold KidsQ; rfl⟩

/-- append(own, xs...): where the row lies behind it. -/
theorem run_own_where {P : Program} (w : World) (base : Nat) (t ty e : TypeId) (i : TypeInfo) (z : Value) (size bytes : Nat) (ht : P.underlying t = some (.slice e)) (hi : P.info? e = some i) (hz : i.zero = some z)
    (hsize : i.size = size) (hby : i.bytes = bytes) (hzs : z.cells.size = size) (hsz : 0 < size)
    (v : Value) (n : Nat) (xs : List Value) (hown : w.ownsRow base e size v n xs)
    (a : Addr) (m c : Nat) (news : List Value) (hl : news.length = m * size) (hnews : ∀ j u, news[j]? = some u → w.cell? (a.add j) = some u) (h1 : ∀ u ∈ news, u.oneCell' = true)
    (h63 : n + m ≤ maxLen) (hbytes : (n + m) * bytes ≤ 140737488355328) (hbase : base ≤ w.heap.size) :
    ∃ v' w', (Builtin.append_ #[t, t] ty #[v, .slice (some a) m c]).run P w = .ok v' w' ∧ w'.ownsRow base e size v' (n + m) (xs ++ news) ∧ w.grownBy w' v.ownBlock ∧
      (v'.ownBlock = v.ownBlock ∨ ∀ k, v'.ownBlock = some k → w.heap.size ≤ k) := by
  obtain ⟨v', w', hr, h2, h3, -⟩ := run_append_own (P := P) w base t ty e i z size bytes ht hi hz hsize hby hzs hsz v n xs hown a m c news hl hnews h1 h63 hbytes hbase
  refine ⟨v', w', hr, h2, h3, ?_⟩
  rcases hown.2 with ⟨rfl, rfl⟩ | ⟨g, cap, cur, rfl, hbg, hg, hnc, hcm, hcs, htake⟩
  · have hx : xs = [] := List.eq_nil_of_length_eq_zero (by simpa using hown.1)
    subst hx
    obtain ⟨v2, w2, hr2, k2, -, -⟩ := run_append_own (P := P) w w.heap.size t ty e i z size bytes ht hi hz hsize hby hzs hsz (.slice none 0 0) 0 [] (World.ownsRow_nil _ _ _ _) a m c news hl hnews h1 h63 hbytes (Nat.le_refl _)
    rw [hr] at hr2
    cases hr2
    exact .inr fun k hk => (k2.lt k hk).1
  · subst hsize
    by_cases hroom : n + m ≤ cap
    · have hfit : n * i.size + news.length ≤ cur.size := by rw [hl, hcs, ← Nat.add_mul]; exact Nat.mul_le_mul_right _ hroom
      have hr2 := run_append_room (P := P) w t ty e i ht hi g n cap cur hg a m c news hl hnews h1 hroom hfit
      rw [hr] at hr2
      cases hr2
      exact .inl rfl
    · have holds : ∀ j u, xs[j]? = some u → w.cell? ((⟨g, 0, none⟩ : Addr).add j) = some u := hown.cells (g := g) rfl
      have hr2 := run_append_grow (P := P) w t ty e i z ht hi hz ⟨g, 0, none⟩ n cap xs hown.1 holds a m c news hl hnews (by omega) (by unfold maxLen at h63; omega) (growslice_fits (by unfold maxLen at h63; omega) (by subst hby; exact hbytes))
      rw [hr] at hr2
      cases hr2
      exact .inr fun k hk => by
        simp [Value.ownBlock] at hk
        omega
theorem wpList_app2 {P : Program} {w : World} {ops : Array Oper} {rest : List Oper} {o : Oper} {a : Act} {Q : Exit → Act → World → Prop} (hgd : o.guard = none) (s x : Operand) (t : TypeId)
    (ho : o.op = .call { callee := .builtin .append, args := #[s, x], argTypes := #[t, t] })
    (base : Nat) (e : TypeId) (z : Value) (size bytes : Nat) (ht : P.underlying t = some (.slice e)) (hi : (P.info? e).map (fun i => (i.zero, i.size, i.bytes)) = some (some z, size, bytes))
    (hzs : z.cells.size = size) (hsz : 0 < size)
    (v : Value) (n : Nat) (xs : List Value) (hs : a.eval s = v) (hown : w.ownsRow base e size v n xs)
    (ad : Addr) (m c B : Nat) (news : List Value) (hx : a.eval x = .slice (some ad) m c) (hr : RowA w B size (some ad) m c news)
    (h63 : n + m ≤ maxLen) (hbytes : (n + m) * bytes ≤ 140737488355328) (hbase : base ≤ w.heap.size)
    (h : ∀ v' w', w'.ownsRow base e size v' (n + m) (xs ++ news) → w.grownBy w' v.ownBlock → (v'.ownBlock = v.ownBlock ∨ ∀ k, v'.ownBlock = some k → w.heap.size ≤ k) → wpList P ops Q rest (a.put o.dst v') w') : wpList P ops Q (o :: rest) a w := by
  obtain ⟨i, hi', hz, hsize, hby⟩ := info_parts hi
  refine wpList_plain hgd fun K hK => ?_
  obtain ⟨v', w', hrun, h2, h3, h4⟩ := run_own_where (P := P) w base t o.type e i z size bytes ht hi' hz hsize hby hzs hsz v n xs hown ad m c news hr.len hr.cells hr.one h63 hbytes hbase
  unfold Oper.wp execOp
  simp only [ho, resolve, invoke, builtin, Sem.run_bind, Sem.run_pure, Result.andThen_ok, List.map_toArray, List.map_cons, List.map_nil, hs, hx, hrun]
  exact hK _ _ (h v' w' h2 h3 h4)

/-- What is read stays read behind one more append: the row of kids alone may be written. -/
structure Stay (w w' : World) (ok ok' : Nat → Prop) : Prop where
  size : w.heap.size ≤ w'.heap.size
  block : ∀ b, ok b → b < w.heap.size → w'.heap[b]? = w.heap[b]?
  let_ : ∀ b, ok b → b < w.heap.size → ok' b
theorem stay_kids {wr w1 w2 w3 : World} {M T sz n : Nat} {kv kv' : Value} {css : List Value} (hown : wr.ownsRow M T sz kv n css) (h1 : Below wr.heap.size wr w1) (h2 : Below w1.heap.size w1 w2) (hg : w2.grownBy w3 kv.ownBlock)
    (hw : kv'.ownBlock = kv.ownBlock ∨ ∀ k, kv'.ownBlock = some k → w2.heap.size ≤ k) : Stay wr w3 (fun b => M ≤ b ∧ kv.ownBlock ≠ some b) (fun b => M ≤ b ∧ kv'.ownBlock ≠ some b) := by
  have s1 := h1.size; have s2 := h2.size; have s3 := hg.size
  refine ⟨by omega, fun b hb hlt => ?_, fun b hb hlt => ⟨hb.1, ?_⟩⟩
  · rw [hg.block b (by omega) (fun e => hb.2 e.symm), h2.block b (by omega), h1.block b hlt]
  · rcases hw with hw | hw
    · rw [hw]; exact hb.2
    · intro e; have := hw b e; omega
theorem stay_kid {wr w1 w2 w3 : World} {M T sz n : Nat} {kv kv' : Value} {css : List Value} (hown : wr.ownsRow M T sz kv n css) (hM : M ≤ wr.heap.size) (h2 : Below w1.heap.size w1 w2) (hg : w2.grownBy w3 kv.ownBlock)
    (hw : kv'.ownBlock = kv.ownBlock ∨ ∀ k, kv'.ownBlock = some k → w2.heap.size ≤ k) : Stay w1 w3 (fun b => wr.heap.size ≤ b) (fun b => M ≤ b ∧ kv'.ownBlock ≠ some b) := by
  have s2 := h2.size; have s3 := hg.size
  have hne : ∀ b, wr.heap.size ≤ b → kv.ownBlock ≠ some b := fun b hb e => by have := (hown.lt b e).2; omega
  refine ⟨by omega, fun b hb hlt => ?_, fun b hb hlt => ⟨by omega, ?_⟩⟩
  · rw [hg.block b (by omega) (fun e => hne b hb e.symm), h2.block b (by omega)]
  · rcases hw with hw | hw
    · rw [hw]; exact hne b hb
    · intro e; have := hw b e; omega
theorem RowQ.stay {w w' : World} {ok ok' : Nat → Prop} {sz n cap : Nat} {a : Option Addr} {cs : List Value} (h : RowQ w ok sz a n cap cs) (s : Stay w w' ok ok') : RowQ w' ok' sz a n cap cs := h.keep s.size s.block s.let_
theorem NodeQ.stay {w w' : World} {ok ok' : Nat → Prop} {n : NodeD} {cs : List Value} (h : NodeQ w ok n cs) (s : Stay w w' ok ok') : NodeQ w' ok' n cs := NodeQ.keep s.size s.block s.let_ n cs h
theorem KidsQ.stay {w w' : World} {ok ok' : Nat → Prop} {n : List NodeD} {cs : List Value} (h : KidsQ w ok n cs) (s : Stay w w' ok ok') : KidsQ w' ok' n cs := KidsQ.keep s.size s.block s.let_ n cs h
theorem NodeQ.form {w : World} {ok : Nat → Prop} {n : NodeD} {cs : List Value} (h : NodeQ w ok n cs) : ∃ l a1 n1 c1 a2 n2 c2 a3 n3 c3, cs = [.bool l, .slice a1 n1 c1, .slice a2 n2 c2, .slice a3 n3 c3] := (NodeQ.node n cs h).form
theorem KidsQ.onec {w : World} {ok : Nat → Prop} {ks : List NodeD} {css : List Value} (h : KidsQ w ok ks css) : ∀ u ∈ css, u.oneCell' = true := (KidsQ.kids ks css h).one
/-- A literal of one element of four cells, just made. -/
theorem row_four (w : World) (c0 c1 c2 c3 : Value) (E : TypeId) (B : Nat) (h0 : c0.oneCell' = true) (h1 : c1.oneCell' = true) (h2 : c2.oneCell' = true) (h3 : c3.oneCell' = true) (hB : w.heap.size < B := by omega) :
    RowA (w.alloc (.cells #[c0, c1, c2, c3] E)) B 4 (some ⟨w.heap.size, 0, none⟩) 1 1 [c0, c1, c2, c3] := by
  refine ⟨by simp, Nat.le_refl _, by unfold maxLen; omega, by simp [h0, h1, h2, h3], (fun h => by cases h), fun _ => ⟨w.heap.size, 0, rfl, hB, fun j u hj => ?_⟩⟩
  have hg : (w.alloc (.cells #[c0, c1, c2, c3] E)).heap[w.heap.size]? = some (.cells #[c0, c1, c2, c3] E (0, 0)) := heap_alloc_new w _
  rw [cell_of_row _ w.heap.size (0 + j) #[c0, c1, c2, c3] E (0, 0) hg]
  simpa using hj

end Go.Redl
/- Walks: code's read. -/
namespace Go.Proofs.YtmhgbocejjnoaaaGreatDoor
open Go.RowKit Go.Redl
set_option linter.unusedVariables false

/-- The boxes of read's results. -/
structure BoxAt (w : World) (N : Nat) (c0 c1 c2 c3 x y : Value) : Prop where
  node : w.heap[N]? = some (.cells #[c0, c1, c2, c3] 27 (0, 0))
  bad : w.heap[N + 1]? = some (.cells #[x, y] 43 (0, 0))
theorem BoxAt.facts {w : World} {N : Nat} {c0 c1 c2 c3 x y : Value} (h : BoxAt w N c0 c1 c2 c3 x y) :
    w.cell? ⟨N, 0, none⟩ = some c0 ∧ w.cell? ⟨N, 1, none⟩ = some c1 ∧ w.cell? ⟨N, 2, none⟩ = some c2 ∧ w.cell? ⟨N, 3, none⟩ = some c3 ∧ w.cell? ⟨N + 1, 0, none⟩ = some x ∧ w.cell? ⟨N + 1, 1, none⟩ = some y ∧
      (w.frozen? ⟨N, 0, none⟩ = false ∧ w.frozen? ⟨N, 1, none⟩ = false ∧ w.frozen? ⟨N, 2, none⟩ = false ∧ w.frozen? ⟨N, 3, none⟩ = false ∧ w.frozen? ⟨N + 1, 0, none⟩ = false ∧ w.frozen? ⟨N + 1, 1, none⟩ = false) ∧ N + 1 < w.heap.size := by
  obtain ⟨h1, h2⟩ := h
  refine ⟨?_, ?_, ?_, ?_, ?_, ?_, ⟨?_, ?_, ?_, ?_, ?_, ?_⟩, (Array.getElem?_eq_some_iff.1 h2).1⟩
  all_goals first
    | exact Lib.frozen_of_heap h1 _
    | exact Lib.frozen_of_heap h2 _
    | (rw [Lib.cell_of_heap h1]; rfl)
    | (rw [Lib.cell_of_heap h2]; rfl)
theorem BoxAt.keep {w w' : World} {N : Nat} {c0 c1 c2 c3 x y : Value} (h : BoxAt w N c0 c1 c2 c3 x y) (hb : Below (N + 2) w w') : BoxAt w' N c0 c1 c2 c3 x y :=
  ⟨by rw [hb.block N (by omega)]; exact h.node, by rw [hb.block (N + 1) (by omega)]; exact h.bad⟩
theorem BoxAt.fresh (W : World) (c0 c1 c2 c3 x y : Value) : BoxAt ((W.alloc (.cells #[c0, c1, c2, c3] 27)).alloc (.cells #[x, y] 43)) W.heap.size c0 c1 c2 c3 x y := by
  refine ⟨?_, ?_⟩
  · rw [Lib.alloc_old _ _ _ (by simp)]
    exact heap_alloc_new W _
  · have := heap_alloc_new (W.alloc (.cells #[c0, c1, c2, c3] 27)) (.cells #[x, y] 43)
    simpa using this
theorem BoxAt.set {w : World} {N : Nat} {c0 c1 c2 c3 x y : Value} (h : BoxAt w N c0 c1 c2 c3 x y) (u : Value) :
    BoxAt (w.setCell ⟨N, 0, none⟩ u) N u c1 c2 c3 x y ∧ BoxAt (w.setCell ⟨N, 1, none⟩ u) N c0 u c2 c3 x y ∧ BoxAt (w.setCell ⟨N, 2, none⟩ u) N c0 c1 u c3 x y ∧ BoxAt (w.setCell ⟨N, 3, none⟩ u) N c0 c1 c2 u x y ∧
      BoxAt (w.setCell ⟨N + 1, 0, none⟩ u) N c0 c1 c2 c3 u y ∧ BoxAt (w.setCell ⟨N + 1, 1, none⟩ u) N c0 c1 c2 c3 x u := by
  obtain ⟨h1, h2⟩ := h
  refine ⟨⟨?_, ?_⟩, ⟨?_, ?_⟩, ⟨?_, ?_⟩, ⟨?_, ?_⟩, ⟨?_, ?_⟩, ⟨?_, ?_⟩⟩
  all_goals first
    | (rw [Below.heap_setCell _ _ _ _ (by simp)]; assumption)
    | (rw [Lib.heap_setCell_same h1]; rfl)
    | (rw [Lib.heap_setCell_same h2]; rfl)

theorem BoxAt.alloc {w : World} {N : Nat} {c0 c1 c2 c3 x y : Value} (h : BoxAt w N c0 c1 c2 c3 x y) (o : Obj) : BoxAt (w.alloc o) N c0 c1 c2 c3 x y :=
  ⟨by rw [Lib.alloc_old _ _ _ (Array.getElem?_eq_some_iff.1 h.node).1]; exact h.node, by rw [Lib.alloc_old _ _ _ (Array.getElem?_eq_some_iff.1 h.bad).1]; exact h.bad⟩
theorem BoxAt.grown {w w' : World} {N : Nat} {c0 c1 c2 c3 x y : Value} {row : Option Nat} (h : BoxAt w N c0 c1 c2 c3 x y) (hg : w.grownBy w' row) (hne : ∀ k, row = some k → N + 2 ≤ k) : BoxAt w' N c0 c1 c2 c3 x y :=
  ⟨by rw [hg.block N (Array.getElem?_eq_some_iff.1 h.node).1 (fun e => by have := hne N e.symm; omega)]; exact h.node, by rw [hg.block (N + 1) (Array.getElem?_eq_some_iff.1 h.bad).1 (fun e => by have := hne (N + 1) e.symm; omega)]; exact h.bad⟩

/-- What read answers. -/
def ReadR (W : World) (R : Rd NodeD) (e : Ending) (w' : World) : Prop :=
  match R with
  | .ok n at_ => ∃ cs, e = .returned (.tuple #[.agg cs.toArray, .int .i64 at_, .agg #[.int .i64 0, .int .i64 0]]) ∧ NodeQ w' (fun b => W.heap.size ≤ b) n cs ∧ Below W.heap.size W w'
  | .bad a er => ∃ l a1 n1 k1 a2 n2 k2 a3 n3 k3 z, e = .returned (.tuple #[.agg #[.bool l, .slice a1 n1 k1, .slice a2 n2 k2, .slice a3 n3 k3], .int .i64 z, .agg #[.int .i64 a, .int .i64 er]]) ∧ er ≠ 0 ∧ Below W.heap.size W w'

theorem rdP_err : ∀ (f : Nat) (s : List UInt8) (a : Nat) (out : List PropD) (last : List UInt8) (p : Nat) (er : Int), rdP f s a out last = .bad p er → er = 11 ∨ er = 2 ∨ er = 3 ∨ er = 1
  | 0, s, a, out, last, p, er, h => by unfold rdP at h; injection h with h1 h2; omega
  | f + 1, s, a, out, last, p, er, h => by
    unfold rdP at h
    generalize keyAt s (a + 1) = key at h
    generalize valAt s (a + 1 + key.length + 1) = val at h
    by_cases c1 : key = [] ∨ standsB s (a + 1 + key.length) 58 = false
    · rw [if_pos c1] at h; injection h with h1 h2; omega
    rw [if_neg c1] at h
    by_cases c2 : out.length = 16
    · rw [if_pos c2] at h; injection h with h1 h2; omega
    rw [if_neg c2] at h
    by_cases c3 : 16 < key.length ∨ 32 < val.length
    · rw [if_pos c3] at h; injection h with h1 h2; omega
    rw [if_neg c3] at h
    by_cases c4 : leB key last = true
    · rw [if_pos c4] at h; injection h with h1 h2; omega
    rw [if_neg c4] at h
    by_cases c5 : standsB s (a + 1 + key.length + 1 + val.length) 125 = true
    · rw [if_pos c5] at h; cases h
    rw [if_neg c5] at h
    by_cases c6 : standsB s (a + 1 + key.length + 1 + val.length) 44 = false
    · rw [if_pos c6] at h; injection h with h1 h2; omega
    rw [if_neg c6] at h
    exact rdP_err f s _ _ _ p er h

theorem BoxAt.drew {w : World} {N : Nat} {c0 c1 c2 c3 x y : Value} (h : BoxAt w N c0 c1 c2 c3 x y) : BoxAt w.drew N c0 c1 c2 c3 x y := ⟨h.node, h.bad⟩
theorem BoxAt.s0 {w : World} {N : Nat} {c0 c1 c2 c3 x y : Value} (h : BoxAt w N c0 c1 c2 c3 x y) (u : Value) : BoxAt (w.setCell ⟨N, 0, none⟩ u) N u c1 c2 c3 x y := (h.set u).1
theorem BoxAt.s1 {w : World} {N : Nat} {c0 c1 c2 c3 x y : Value} (h : BoxAt w N c0 c1 c2 c3 x y) (u : Value) : BoxAt (w.setCell ⟨N, 1, none⟩ u) N c0 u c2 c3 x y := (h.set u).2.1
theorem BoxAt.s2 {w : World} {N : Nat} {c0 c1 c2 c3 x y : Value} (h : BoxAt w N c0 c1 c2 c3 x y) (u : Value) : BoxAt (w.setCell ⟨N, 2, none⟩ u) N c0 c1 u c3 x y := (h.set u).2.2.1
theorem BoxAt.s3 {w : World} {N : Nat} {c0 c1 c2 c3 x y : Value} (h : BoxAt w N c0 c1 c2 c3 x y) (u : Value) : BoxAt (w.setCell ⟨N, 3, none⟩ u) N c0 c1 c2 u x y := (h.set u).2.2.2.1
theorem BoxAt.t0 {w : World} {N : Nat} {c0 c1 c2 c3 x y : Value} (h : BoxAt w N c0 c1 c2 c3 x y) (u : Value) : BoxAt (w.setCell ⟨N + 1, 0, none⟩ u) N c0 c1 c2 c3 u y := (h.set u).2.2.2.2.1
theorem BoxAt.t1 {w : World} {N : Nat} {c0 c1 c2 c3 x y : Value} (h : BoxAt w N c0 c1 c2 c3 x y) (u : Value) : BoxAt (w.setCell ⟨N + 1, 1, none⟩ u) N c0 c1 c2 c3 x u := (h.set u).2.2.2.2.2
/-- The boxes written again, all cells. -/
theorem BoxAt.all {w : World} {N : Nat} {c0 c1 c2 c3 x y : Value} (h : BoxAt w N c0 c1 c2 c3 x y) (d0 d1 d2 d3 : Value) : BoxAt ((((w.setCell ⟨N, 0, none⟩ d0).setCell ⟨N, 1, none⟩ d1).setCell ⟨N, 2, none⟩ d2).setCell ⟨N, 3, none⟩ d3) N d0 d1 d2 d3 x y := (((h.s0 _).s1 _).s2 _).s3 _
theorem BoxAt.both {w : World} {N : Nat} {c0 c1 c2 c3 x y : Value} (h : BoxAt w N c0 c1 c2 c3 x y) (u v : Value) : BoxAt ((w.setCell ⟨N + 1, 0, none⟩ u).setCell ⟨N + 1, 1, none⟩ v) N c0 c1 c2 c3 u v := (h.t0 _).t1 _
theorem below_all {B : Nat} {W w : World} {N : Nat} (h : Below B W w) (hN : B ≤ N) (d0 d1 d2 d3 : Value) : Below B W ((((w.setCell ⟨N, 0, none⟩ d0).setCell ⟨N, 1, none⟩ d1).setCell ⟨N, 2, none⟩ d2).setCell ⟨N, 3, none⟩ d3) :=
  (((h.setCell (p := ⟨N, 0, none⟩) hN _).setCell (p := ⟨N, 1, none⟩) hN _).setCell (p := ⟨N, 2, none⟩) hN _).setCell (p := ⟨N, 3, none⟩) hN _
theorem below_both {B : Nat} {W w : World} {N : Nat} (h : Below B W w) (hN : B ≤ N) (d0 d1 : Value) : Below B W ((w.setCell ⟨N, 0, none⟩ d0).setCell ⟨N, 1, none⟩ d1) :=
  (h.setCell (p := ⟨N, 0, none⟩) hN _).setCell (p := ⟨N, 1, none⟩) hN _

set_option maxRecDepth 100000 in
set_option maxHeartbeats 2000000 in
theorem read_bad (s : List UInt8) (a f p : Nat) (er : Int) (W : World) (hn : s.length ≤ 1000000) (ha : a ≤ s.length) (hh : rdH s a = .bad p er) :
    Calls Tryz.prog 16 #[.string ⟨s.toArray⟩, .int .i64 a] W (ReadR W (.bad p er)) := by
  have h123 : standsB s a 123 = true := by
    cases h : standsB s a 123 with
    | true => rfl
    | false => unfold rdH at hh; rw [h] at hh; cases hh
  have hh' : rdP (s.length + 1) s a [] [] = .bad p er := by unfold rdH at hh; rw [if_pos h123] at hh; exact hh
  have her := rdP_err _ _ _ _ _ _ _ hh'
  have HS1 := fun W => Lib.hid (stands_z s a a rfl 123 123 rfl true h123 W (by omega))
  have HP := fun W => Lib.hid (props_c s a W hn (stands_lt h123))
  rw [hh'] at HP
  have her0 : ((er == 0) = false) := by simp; omega
  obtain ⟨S, hS⟩ : ∃ S, S = (⟨s.toArray⟩ : ByteArray) := ⟨_, rfl⟩
  rw [← hS] at HS1 HP ⊢
  have Her := Lib.hid her
  clear hh hh' h123 hS her
  go_enter Tryz.func16, Tryz.ntmps16
  go_wp2_with fail
  refine (HS1 _).out.mono ?_
  rintro e w1 ⟨rfl, rfl⟩
  clear HS1
  go_wp2_with fail
  refine (HP _).out.mono ?_
  rintro e w1 ⟨rfl, hbel⟩
  have hb := (BoxAt.fresh W (.bool false) (.slice none 0 0) (.slice none 0 0) (.slice none 0 0) (.int .i64 0) (.int .i64 0)).keep (by simpa using hbel)
  have hW : W.heap.size + 1 < w1.heap.size := hb.facts.2.2.2.2.2.2.2
  obtain ⟨x0, x1, x2, x3, y0, y1, ⟨f0, f1, f2, f3, g0, g1⟩, -⟩ := hb.facts
  have hbel' := (((Below.refl W.heap.size W).alloc (Nat.le_refl _) (.cells #[.bool false, .slice none 0 0, .slice none 0 0, .slice none 0 0] 27)).alloc (by simp) (.cells #[.int .i64 0, .int .i64 0] 43)).trans (hbel.mono (by simp; omega))
  have Hbel := Lib.hid hbel'; have Hb := Lib.hid hb
  clear hbel hb hbel' HP
  go_upto_region 4 with fail
  go_cut [5] (fun s5 wx => s5 = .int .i64 0 ∧ BoxAt wx W.heap.size (.bool false) (.slice none 0 0) (.slice none 0 0) (.slice none 0 0) (.int .i64 p) (.int .i64 er) ∧ Below W.heap.size W wx)
  case first =>
    go_region
    all_goals
      go_wp2_with fail
      go_meet
      case rel =>
        refine ⟨rfl, ?_, ?_⟩
        · with_reducible exact ((((Hb.out.s1 _).both _ _).all _ _ _ _).both _ _).drew
        · with_reducible exact (below_both (below_all (below_both (Hbel.out.setCell (p := ⟨_, _, none⟩) (Nat.le_refl _) _) (Nat.le_succ _) _ _) (Nat.le_refl _) _ _ _ _) (Nat.le_succ _) _ _).drew
  case rest =>
    obtain ⟨rfl, hb, hbel⟩ := hcut
    have hW : W.heap.size + 1 < wc.heap.size := hb.facts.2.2.2.2.2.2.2
    obtain ⟨x0, x1, x2, x3, y0, y1, -⟩ := hb.facts
    have Hbel := Lib.hid hbel
    clear hb hbel
    go_wp2_with fail
    refine bodyPost_ret (v := .tuple #[.agg #[.bool false, .slice none 0 0, .slice none 0 0, .slice none 0 0], .int .i64 0, .agg #[.int .i64 p, .int .i64 er]]) (by simp [results, Tryz.results16, go_sem, x0, x1, x2, x3, y0, y1]) rfl ?_
    exact ⟨_, _, _, _, _, _, _, _, _, _, _, rfl, by have := Her.out; omega, Hbel.out⟩

theorem valid_wf {zs : List Int} (h : ∀ c ∈ zs, validB c = true) : ∀ z ∈ zs, (Lit.int .i32 z).wf = true := by
  intro z hz
  have := h z hz
  unfold validB at this
  simp at this
  have h1 : IntKind.i32.min = -2147483648 := by decide
  have h2 : IntKind.i32.max = 2147483647 := by decide
  simp only [Lit.wf, Bool.and_eq_true, decide_eq_true_eq, h1, h2]
  omega
theorem rowq_set {w : World} {ok : Nat → Prop} {sz n cap N o : Nat} {a : Option Addr} {cs : List Value} {u : Value} (h : RowQ w ok sz a n cap cs) (hne : ¬ ok N) : RowQ (w.setCell ⟨N, o, none⟩ u) ok sz a n cap cs :=
  h.keep (by simp [World.setCell]) (fun b hb _ => Below.heap_setCell w _ u b (fun e => hne (by rw [← show b = N from e]; exact hb))) (fun _ hb _ => hb)
theorem nodeq_set {w : World} {ok : Nat → Prop} {N o : Nat} {n : NodeD} {cs : List Value} {u : Value} (h : NodeQ w ok n cs) (hne : ¬ ok N) : NodeQ (w.setCell ⟨N, o, none⟩ u) ok n cs :=
  NodeQ.keep (by simp [World.setCell]) (fun b hb _ => Below.heap_setCell w _ u b (fun e => hne (by rw [← show b = N from e]; exact hb))) (fun _ hb _ => hb) n cs h
theorem kidsq_set {w : World} {ok : Nat → Prop} {N o : Nat} {n : List NodeD} {cs : List Value} {u : Value} (h : KidsQ w ok n cs) (hne : ¬ ok N) : KidsQ (w.setCell ⟨N, o, none⟩ u) ok n cs :=
  KidsQ.keep (by simp [World.setCell]) (fun b hb _ => Below.heap_setCell w _ u b (fun e => hne (by rw [← show b = N from e]; exact hb))) (fun _ hb _ => hb) n cs h
theorem rowq_drew {w : World} {ok : Nat → Prop} {sz n cap : Nat} {a : Option Addr} {cs : List Value} (h : RowQ w ok sz a n cap cs) : RowQ w.drew ok sz a n cap cs := h.keep (Nat.le_refl _) (fun _ _ _ => rfl) (fun _ hb _ => hb)
theorem rowq_all {w : World} {ok : Nat → Prop} {sz n cap N : Nat} {a : Option Addr} {cs : List Value} (h : RowQ w ok sz a n cap cs) (hne : ¬ ok N) (d0 d1 d2 d3 : Value) : RowQ ((((w.setCell ⟨N, 0, none⟩ d0).setCell ⟨N, 1, none⟩ d1).setCell ⟨N, 2, none⟩ d2).setCell ⟨N, 3, none⟩ d3) ok sz a n cap cs :=
  rowq_set (rowq_set (rowq_set (rowq_set h hne) hne) hne) hne
theorem rowq_both {w : World} {ok : Nat → Prop} {sz n cap N : Nat} {a : Option Addr} {cs : List Value} (h : RowQ w ok sz a n cap cs) (hne : ¬ ok N) (d0 d1 : Value) : RowQ ((w.setCell ⟨N, 0, none⟩ d0).setCell ⟨N, 1, none⟩ d1) ok sz a n cap cs :=
  rowq_set (rowq_set h hne) hne
theorem kidsq_all {w : World} {ok : Nat → Prop} {N : Nat} {ks : List NodeD} {cs : List Value} (h : KidsQ w ok ks cs) (hne : ¬ ok N) (d0 d1 d2 d3 : Value) : KidsQ ((((w.setCell ⟨N, 0, none⟩ d0).setCell ⟨N, 1, none⟩ d1).setCell ⟨N, 2, none⟩ d2).setCell ⟨N, 3, none⟩ d3) ok ks cs :=
  kidsq_set (kidsq_set (kidsq_set (kidsq_set h hne) hne) hne) hne
theorem kidsq_both {w : World} {ok : Nat → Prop} {N : Nat} {ks : List NodeD} {cs : List Value} (h : KidsQ w ok ks cs) (hne : ¬ ok N) (d0 d1 : Value) : KidsQ ((w.setCell ⟨N, 0, none⟩ d0).setCell ⟨N, 1, none⟩ d1) ok ks cs :=
  kidsq_set (kidsq_set h hne) hne
theorem rowq_own {w : World} {base e sz n : Nat} {v : Value} {cs : List Value} (h : w.ownsRow base e sz v n cs) (h1 : ∀ u ∈ cs, u.oneCell' = true) : ∃ a cap, v = .slice a n cap ∧ RowQ w (fun b => base ≤ b) sz a n cap cs := by
  obtain ⟨a, cap, hv, hr⟩ := RowQ.of_own h h1
  exact ⟨a, cap, hv, hr.keep (Nat.le_refl _) (fun _ _ _ => rfl) (fun b hb _ => (h.lt b hb).1)⟩
theorem rowq_below {w w' : World} {M sz n cap : Nat} {a : Option Addr} {cs : List Value} (h : RowQ w (fun b => M ≤ b) sz a n cap cs) (hb : Below w.heap.size w w') : RowQ w' (fun b => M ≤ b) sz a n cap cs :=
  h.keep hb.size (fun b _ hlt => hb.block b hlt) (fun _ hb _ => hb)

theorem rdL_err {s : List UInt8} {a p : Nat} {er : Int} (h : rdL s a = .bad p er) : er ≠ 0 := by
  unfold rdL at h
  split at h
  · cases h
  · rename_i hne
    injection h with h1 h2
    rw [← h2]; exact hne

theorem rdK_step (f : Nat) (s : List UInt8) (a : Nat) (out : List NodeD) : rdK (f + 1) s a out = if standsB s a 93 = true then .ok out (a + 1) else (match rdN f s a with
      | .bad p er => .bad p er
      | .ok k e => rdK f s e (out ++ [k])) := by
  conv => lhs; unfold rdK
  all_goals rfl
def kidsR (ps : List PropD) : Rd (List NodeD) → Rd NodeD
  | .bad p er => .bad p er
  | .ok ks e => .ok (.mk false ps [] ks) e
theorem info_node : (Tryz.prog.info? 27).map (fun i => (i.zero, i.size, i.bytes)) = some (some (.agg #[.bool false, .slice none 0 0, .slice none 0 0, .slice none 0 0]), 4, 80) := by kernel_rfl

set_option maxRecDepth 100000 in
set_option maxHeartbeats 4000000 in
theorem read_ok (s : List UInt8) (a f a1 : Nat) (ps : List PropD) (W : World) (hn : s.length ≤ 1000000) (ha : a ≤ s.length) (hf : 2 * (s.length - a) + 1 ≤ f + 1) (hE : ErrsAt W) (hT : TabAt W) (hg : 7 < W.heap.size) (hh : rdH s a = .ok ps a1)
    (IH : ∀ (f' b : Nat) (W' : World), f' < f + 1 → b ≤ s.length → 2 * (s.length - b) + 1 ≤ f' → ErrsAt W' → TabAt W' → 7 < W'.heap.size → Calls Tryz.prog 16 #[.string ⟨s.toArray⟩, .int .i64 b] W' (ReadR W' (rdN f' s b))) :
    Calls Tryz.prog 16 #[.string ⟨s.toArray⟩, .int .i64 a] W (ReadR W (rdN (f + 1) s a)) := by
  have hpos := rdH_pos ha hh
  obtain ⟨R, hR⟩ : ∃ R, R = rdN (f + 1) s a := ⟨_, rfl⟩
  have Hstep : Hid (R = if standsB s a1 34 = true then (match rdL s a1 with
        | .bad p er => .bad p er
        | .ok t e => .ok (.mk true ps t []) e)
      else if standsB s a1 91 = false then .bad a1 11
      else (match rdK f s (a1 + 1) [] with
        | .bad p er => .bad p er
        | .ok ks e => .ok (.mk false ps [] ks) e)) := by
    show R = _
    rw [hR]; unfold rdN; rw [hh]; all_goals rfl
  rw [← hR]
  have HS := fun (k : Nat) (z : Int) (hz : z = k) (c : UInt8) (n : Int) (hc : (c.toNat : Int) = n) (b : Bool) (hb : standsB s k c = b) (W : World) => stands_z s k z hz c n hc b hb W (by omega)
  have HP := fun (h123 : standsB s a 123 = true) W => Lib.hid (props_c s a W hn (stands_lt h123))
  have HL := fun (h34 : standsB s a1 34 = true) W => leaf_q s a1 W hn (stands_lt h34)
  obtain ⟨S, hS⟩ : ∃ S, S = (⟨s.toArray⟩ : ByteArray) := ⟨_, rfl⟩
  rw [← hS] at HS HP HL IH ⊢
  have HS := Lib.hid HS; have HL := Lib.hid HL; have HP := Lib.hid HP; have IH := Lib.hid IH; have Hh := Lib.hid hh; have HE := Lib.hid hE; have HT := Lib.hid hT; have Hg := Lib.hid hg
  have HS1 := fun W => Lib.hid (HS.out a a rfl 123 123 rfl _ rfl W)
  obtain ⟨b, hb⟩ : ∃ b, b = standsB s a 123 := ⟨_, rfl⟩
  rw [← hb] at HS1
  have Hb := Lib.hid hb
  clear hh hS hR hE hT hg hb
  go_enter Tryz.func16, Tryz.ntmps16
  go_upto_if 12 with (go_at_call 32; refine (HS1 _).out.mono ?_; rintro e w1 ⟨rfl, rfl⟩)
  go_cut [1] (fun s1 wx => s1 = .int .i64 a1 ∧ ∃ pa pc, BoxAt wx W.heap.size (.bool false) (.slice pa ps.length pc) (.slice none 0 0) (.slice none 0 0) (.int .i64 0) (.int .i64 0) ∧ RowQ wx (fun b => W.heap.size + 2 ≤ b) 2 pa ps.length pc (propCells ps) ∧ Below W.heap.size W wx)
  case first =>
    clear HS1
    have hb0 := BoxAt.fresh W (.bool false) (.slice none 0 0) (.slice none 0 0) (.slice none 0 0) (.int .i64 0) (.int .i64 0)
    have hbel0 := (((Below.refl W.heap.size W).alloc (Nat.le_refl _) (.cells #[.bool false, .slice none 0 0, .slice none 0 0, .slice none 0 0] 27)).alloc (by simp) (.cells #[.int .i64 0, .int .i64 0] 43))
    cases b with
    | false =>
      have hps : ps = [] ∧ a1 = a := by
        have := Hh.out
        unfold rdH at this
        rw [← Hb.out] at this
        simp at this
        exact ⟨this.1.symm ▸ rfl, this.2.symm ▸ rfl⟩
      obtain ⟨rfl, rfl⟩ := hps
      have Hb0 := Lib.hid hb0; have Hbel0 := Lib.hid hbel0
      clear hb0 hbel0
      go_wp2_with fail
      go_meet
      case rel => exact ⟨rfl, none, 0, Hb0.out, RowQ.empty _ _ _, Hbel0.out⟩
    | true =>
      have hp := HP.out Hb.out.symm
      have h3 : rdP (s.length + 1) s a [] [] = .ok ps a1 := by
        have := Hh.out
        unfold rdH at this
        rw [← Hb.out, if_pos rfl] at this
        exact this
      rw [h3] at hp
      clear h3
      have Hb0 := Lib.hid hb0; have Hbel0 := Lib.hid hbel0
      clear hb0 hbel0
      go_wp2_with fail
      refine (hp _).out.mono ?_
      rintro e w1 ⟨v, rfl, hown, hbel⟩
      obtain ⟨pa, pc, rfl, hrow⟩ := rowq_own hown (propCells_one _)
      have hbx := Hb0.out.keep (by simpa using hbel)
      have hW : W.heap.size + 1 < w1.heap.size := hbx.facts.2.2.2.2.2.2.2
      obtain ⟨x0, x1, x2, x3, y0, y1, ⟨f0, f1, f2, f3, g0, g1⟩, -⟩ := hbx.facts
      have Hbel := Lib.hid (Hbel0.out.trans (hbel.mono (by simp; omega)))
      have Hbx := Lib.hid hbx; have Hrow := Lib.hid hrow
      clear hbx hrow hown hbel hp Hb0 Hbel0
      go_wp2_with fail
      go_meet
      case rel =>
        refine ⟨rfl, pa, pc, ?_, ?_, ?_⟩
        · with_reducible exact ((Hbx.out.s1 _).both _ _)
        · exact (rowq_set (rowq_set (rowq_set (by simpa using Hrow.out) (by omega)) (by omega)) (by omega))
        · with_reducible exact (below_both (Hbel.out.setCell (p := ⟨_, _, none⟩) (Nat.le_refl _) _) (Nat.le_succ _) _ _)
  case rest =>
    obtain ⟨rfl, pa, pc, hbx, hrow, hbel⟩ := hcut
    have Hbx := Lib.hid hbx; have Hrow := Lib.hid hrow; have Hbel := Lib.hid hbel
    have hW : W.heap.size + 1 < wc.heap.size := hbx.facts.2.2.2.2.2.2.2
    clear hbx hrow hbel HS1 HP Hb b
    cases h34 : standsB s a1 34 with
    | true =>
      have HS2 := fun W => Lib.hid (HS.out a1 a1 rfl 34 34 rfl true h34 W)
      have hb' : Below W.heap.size W (wc.setCell ⟨W.heap.size, 0, none⟩ (.bool true)) := Hbel.out.setCell (p := ⟨_, _, none⟩) (Nat.le_refl _) _
      have HLq := Lib.hid (HL.out h34 _ (HE.out.keep hb') (TabAt.keep HT.out hb' Hg.out) (Nat.lt_of_lt_of_le Hg.out hb'.size))
      have Hb' := Lib.hid hb'
      have Hs2 : Hid (R = (match rdL s a1 with
        | .bad p er => .bad p er
        | .ok t e => .ok (.mk true ps t []) e)) := by
        show R = _
        rw [Hstep.out, if_pos h34]
      clear h34 hb' Hstep IH HS HL
      obtain ⟨x0, x1, x2, x3, y0, y1, ⟨f0, f1, f2, f3, g0, g1⟩, -⟩ := Hbx.out.facts
      cases hl : rdL s a1 with
      | ok t e =>
        have Hwf := Lib.hid (valid_wf (rdL_wf hl))
        rw [hl] at HLq
        have HR : Hid (R = .ok (.mk true ps t []) e) := by show R = _; rw [Hs2.out, hl]
        clear hl Hs2
        go_wp2_with fail
        refine (HS2 _).out.mono ?_
        rintro e' w1 ⟨rfl, rfl⟩
        clear HS2
        go_wp2_with fail
        refine HLq.out.mono ?_
        rintro e' w2 ⟨v, rfl, hown, hbel2⟩
        clear x0 x1 x2 x3 y0 y1 f0 f1 f2 f3 g0 g1
        obtain ⟨ta, tc, rfl, hrow2⟩ := rowq_own hown (ints_one .i32 t)
        have hsz : (wc.setCell ⟨W.heap.size, 0, none⟩ (.bool true)).heap.size = wc.heap.size := by simp [World.setCell]
        have hbx2 := (Hbx.out.s0 (.bool true)).keep (hbel2.mono (by rw [hsz]; omega))
        have hW2 : W.heap.size + 1 < w2.heap.size := hbx2.facts.2.2.2.2.2.2.2
        obtain ⟨x0, x1, x2, x3, y0, y1, ⟨f0, f1, f2, f3, g0, g1⟩, -⟩ := hbx2.facts
        have Hbx2 := Lib.hid hbx2
        have Hbel2 := Lib.hid (Hb'.out.trans (hbel2.mono (by rw [hsz]; omega)))
        have Hrow1 := Lib.hid (rowq_below (rowq_set (o := 0) (u := .bool true) Hrow.out (by omega)) hbel2)
        have Hrow2 := Lib.hid (hrow2.keep (ok' := fun b => W.heap.size + 2 ≤ b) (Nat.le_refl _) (fun _ _ _ => rfl) (fun b hb _ => by rw [hsz] at hb; omega))
        clear hbx2 hrow2 hown hbel2 HLq Hrow Hbx Hb' hsz
        have hA : ¬ (W.heap.size + 2 ≤ W.heap.size) := by omega
        have hB : ¬ (W.heap.size + 2 ≤ W.heap.size + 1) := by omega
        go_upto_region 8 with fail
        go_cut [5] (fun s5 wx => s5 = .int .i64 e ∧ BoxAt wx W.heap.size (.bool true) (.slice pa ps.length pc) (.slice ta t.length tc) (.slice none 0 0) (.int .i64 0) (.int .i64 0) ∧ RowQ wx (fun b => W.heap.size + 2 ≤ b) 2 pa ps.length pc (propCells ps) ∧ RowQ wx (fun b => W.heap.size + 2 ≤ b) 1 ta t.length tc (t.map (Value.int .i32)) ∧ Below W.heap.size W wx)
        case first =>
          go_region
          all_goals
            go_wp2_with fail
            go_meet
            case rel =>
              refine ⟨rfl, ?_, ?_, ?_, ?_⟩
              · with_reducible exact ((((Hbx2.out.s2 _).both _ _).all _ _ _ _).both _ _).drew
              · with_reducible exact rowq_drew (rowq_both (rowq_all (rowq_both (rowq_set Hrow1.out hA) hB _ _) hA _ _ _ _) hB _ _)
              · with_reducible exact rowq_drew (rowq_both (rowq_all (rowq_both (rowq_set Hrow2.out hA) hB _ _) hA _ _ _ _) hB _ _)
              · with_reducible exact (below_both (below_all (below_both (Hbel2.out.setCell (p := ⟨_, _, none⟩) (Nat.le_refl _) _) (Nat.le_succ _) _ _) (Nat.le_refl _) _ _ _ _) (Nat.le_succ _) _ _).drew
        case rest =>
          obtain ⟨rfl, hbx3, hrow3, hrow4, hbel3⟩ := hcut
          clear x0 x1 x2 x3 y0 y1 f0 f1 f2 f3 g0 g1
          obtain ⟨x0, x1, x2, x3, y0, y1, -⟩ := hbx3.facts
          have Hbel3 := Lib.hid hbel3; have Hrow3 := Lib.hid hrow3; have Hrow4 := Lib.hid hrow4
          clear hbx3 hrow3 hrow4 hbel3 Hrow1 Hrow2 Hbx2 Hbel2
          go_wp2_with fail
          refine bodyPost_ret (v := .tuple #[.agg #[.bool true, .slice pa ps.length pc, .slice ta t.length tc, .slice none 0 0], .int .i64 e, .agg #[.int .i64 0, .int .i64 0]]) (by simp [results, Tryz.results16, go_sem, x0, x1, x2, x3, y0, y1]) rfl ?_
          rw [HR.out]
          refine ⟨_, rfl, ?_, Hbel3.out⟩
          unfold NodeQ
          refine ⟨pa, pc, ta, tc, none, 0, [], rfl, ?_, ?_, Hwf.out, RowQ.empty _ _ _, by unfold KidsQ; rfl⟩
          · exact Hrow3.out.keep (Nat.le_refl _) (fun _ _ _ => rfl) (fun b hb _ => by omega)
          · exact Hrow4.out.keep (Nat.le_refl _) (fun _ _ _ => rfl) (fun b hb _ => by omega)
      | bad p er =>
        have Her := Lib.hid (rdL_err hl)
        rw [hl] at HLq
        have HR : Hid (R = .bad p er) := by show R = _; rw [Hs2.out, hl]
        clear hl Hs2
        go_wp2_with fail
        refine (HS2 _).out.mono ?_
        rintro e' w1 ⟨rfl, rfl⟩
        clear HS2
        go_wp2_with fail
        refine HLq.out.mono ?_
        rintro e' w2 ⟨rfl, hbel2⟩
        clear x0 x1 x2 x3 y0 y1 f0 f1 f2 f3 g0 g1
        have hsz : (wc.setCell ⟨W.heap.size, 0, none⟩ (.bool true)).heap.size = wc.heap.size := by simp [World.setCell]
        have hbx2 := (Hbx.out.s0 (.bool true)).keep (hbel2.mono (by rw [hsz]; omega))
        have hW2 : W.heap.size + 1 < w2.heap.size := hbx2.facts.2.2.2.2.2.2.2
        obtain ⟨x0, x1, x2, x3, y0, y1, ⟨f0, f1, f2, f3, g0, g1⟩, -⟩ := hbx2.facts
        have Hbx2 := Lib.hid hbx2
        have Hbel2 := Lib.hid (Hb'.out.trans (hbel2.mono (by rw [hsz]; omega)))
        clear hbx2 hbel2 HLq Hrow Hbx Hb' hsz
        go_upto_region 8 with fail
        go_cut [5] (fun s5 wx => s5 = .int .i64 0 ∧ BoxAt wx W.heap.size (.bool true) (.slice pa ps.length pc) (.slice none 0 0) (.slice none 0 0) (.int .i64 p) (.int .i64 er) ∧ Below W.heap.size W wx)
        case first =>
          go_region
          all_goals
            go_wp2_with fail
            go_meet
            case rel =>
              refine ⟨rfl, ?_, ?_⟩
              · with_reducible exact ((((Hbx2.out.s2 _).both _ _).all _ _ _ _).both _ _).drew
              · with_reducible exact (below_both (below_all (below_both (Hbel2.out.setCell (p := ⟨_, _, none⟩) (Nat.le_refl _) _) (Nat.le_succ _) _ _) (Nat.le_refl _) _ _ _ _) (Nat.le_succ _) _ _).drew
        case rest =>
          obtain ⟨rfl, hbx3, hbel3⟩ := hcut
          clear x0 x1 x2 x3 y0 y1 f0 f1 f2 f3 g0 g1
          obtain ⟨x0, x1, x2, x3, y0, y1, -⟩ := hbx3.facts
          have Hbel3 := Lib.hid hbel3
          clear hbx3 hbel3 Hbx2 Hbel2
          go_wp2_with fail
          refine bodyPost_ret (v := .tuple #[.agg #[.bool true, .slice pa ps.length pc, .slice none 0 0, .slice none 0 0], .int .i64 0, .agg #[.int .i64 p, .int .i64 er]]) (by simp [results, Tryz.results16, go_sem, x0, x1, x2, x3, y0, y1]) rfl ?_
          rw [HR.out]
          exact ⟨_, _, _, _, _, _, _, _, _, _, _, rfl, Her.out, Hbel3.out⟩
    | false =>
      have HS2 := fun W => Lib.hid (HS.out a1 a1 rfl 34 34 rfl false h34 W)
      obtain ⟨x0, x1, x2, x3, y0, y1, ⟨f0, f1, f2, f3, g0, g1⟩, -⟩ := Hbx.out.facts
      have Hs2 : Hid (R = if standsB s a1 91 = false then .bad a1 11
          else (match rdK f s (a1 + 1) [] with
            | .bad p er => .bad p er
            | .ok ks e => .ok (.mk false ps [] ks) e)) := by
        show R = _
        rw [Hstep.out, if_neg (by rw [h34]; decide)]
      clear h34 Hstep HL
      cases h91 : standsB s a1 91 with
      | false =>
        have HS3 := fun W => Lib.hid (HS.out a1 a1 rfl 91 91 rfl false h91 W)
        have HR : Hid (R = .bad a1 11) := by show R = _; rw [Hs2.out, if_pos h91]
        have HWr := fun W => Lib.hid (wrong_c (a1 : Int) W)
        clear h91 Hs2 HS IH Hrow
        go_wp2_with fail
        refine (HS2 _).out.mono ?_
        rintro e' w1 ⟨rfl, rfl⟩
        clear HS2
        go_wp2_with fail
        refine (HS3 _).out.mono ?_
        rintro e' w1 ⟨rfl, rfl⟩
        clear HS3
        go_wp2_with fail
        refine (HWr _).out.mono ?_
        rintro e' w2 ⟨rfl, hbel2⟩
        clear HWr x0 x1 x2 x3 y0 y1 f0 f1 f2 f3 g0 g1
        have hbx2 := Hbx.out.keep (hbel2.mono (by omega))
        have hW2 : W.heap.size + 1 < w2.heap.size := hbx2.facts.2.2.2.2.2.2.2
        obtain ⟨x0, x1, x2, x3, y0, y1, ⟨f0, f1, f2, f3, g0, g1⟩, -⟩ := hbx2.facts
        have Hbel2 := Lib.hid (Hbel.out.trans (hbel2.mono (by omega)))
        clear hbx2 hbel2 Hbx
        go_wp2_with fail
        refine bodyPost_ret (v := .tuple #[.agg #[.bool false, .slice none 0 0, .slice none 0 0, .slice none 0 0], .int .i64 0, .agg #[.int .i64 a1, .int .i64 11]]) (by simp [results, Tryz.results16, go_sem, x0, x1, x2, x3, y0, y1]) rfl ?_
        rw [HR.out]
        refine ⟨_, _, _, _, _, _, _, _, _, _, _, rfl, by decide, ?_⟩
        with_reducible exact (below_both (below_all Hbel2.out (Nat.le_refl _) _ _ _ _) (Nat.le_succ _) _ _)
      | true =>
        have h91' := stands_lt h91
        have HS3 := fun W => Lib.hid (HS.out a1 a1 rfl 91 91 rfl true h91 W)
        obtain ⟨Rk, hRk⟩ : ∃ Rk, Rk = rdK f s (a1 + 1) [] := ⟨_, rfl⟩
        have HR : Hid (R = kidsR ps Rk) := by show R = _; rw [Hs2.out, if_neg (by rw [h91]; decide), hRk]; rfl
        have HRk := Lib.hid hRk
        have HW := Lib.hid hW
        have hbw := Hbel.out.size
        clear h91 Hs2 hRk
        go_wp2_with fail
        refine (HS2 _).out.mono ?_
        rintro e' w1 ⟨rfl, rfl⟩
        clear HS2
        go_wp2_with fail
        refine (HS3 _).out.mono ?_
        rintro e' w1 ⟨rfl, rfl⟩
        clear HS3
        go_wp2_with fail
        clear x0 x1 x2 x3 y0 y1 f0 f1 f2 f3 g0 g1
        go_loopw [1] (fun i wr => ∃ (q f' : Nat) (out : List NodeD) (ka : Option Addr) (kc : Nat) (css : List Value), i = .int .i64 q ∧ q ≤ s.length ∧ 2 * (s.length - q) + 2 ≤ f' ∧ f' ≤ f ∧ rdK f' s q out = Rk ∧ out.length ≤ q ∧ BoxAt wr W.heap.size (.bool false) (.slice pa ps.length pc) (.slice none 0 0) (.slice ka out.length kc) (.int .i64 0) (.int .i64 0) ∧ wr.ownsRow (W.heap.size + 2) 27 4 (.slice ka out.length kc) out.length css ∧ KidsQ wr (fun b => W.heap.size + 2 ≤ b ∧ (Value.slice ka out.length kc).ownBlock ≠ some b) out css ∧ RowQ wr (fun b => W.heap.size + 2 ≤ b ∧ (Value.slice ka out.length kc).ownBlock ≠ some b) 2 pa ps.length pc (propCells ps) ∧ Below W.heap.size W wr) (fun i _ => s.length - (intOf i).toNat)
        case atStart => exact ⟨a1 + 1, f, [], none, 0, [], rfl, by omega, by omega, by omega, HRk.out.symm, by simp, Hbx.out, World.ownsRow_nil _ _ _ _, by unfold KidsQ; rfl, Hrow.out.keep (Nat.le_refl _) (fun _ _ _ => rfl) (fun b hb _ => ⟨hb, by simp [Value.ownBlock]⟩), Hbel.out⟩
        case round =>
          obtain ⟨q, f', out, ka, kc, css, rfl, hq, hf1, hf2, hr, hoq, hbx, hown, hkids, hrow, hbel⟩ := hrel
          obtain ⟨f', rfl⟩ : ∃ g, f' = g + 1 := ⟨f' - 1, by omega⟩
          have hstep := rdK_step f' s q out
          rw [hr] at hstep
          have Hst := Lib.hid hstep
          have hlen := hown.1
          have HW2 := Lib.hid hbx.facts.2.2.2.2.2.2.2
          have hW2 : W.heap.size + 1 < wr.heap.size := hbx.facts.2.2.2.2.2.2.2
          obtain ⟨x0, x1, x2, x3, y0, y1, ⟨f0, f1, f2, f3, g0, g1⟩, -⟩ := hbx.facts
          have Hbx2 := Lib.hid hbx; have Hown := Lib.hid hown; have Hkids := Lib.hid hkids; have Hrow2 := Lib.hid hrow; have Hbel2 := Lib.hid hbel; have Hlen := Lib.hid hlen
          clear hstep hr hbx hown hkids hrow hbel hlen Hbx Hrow Hbel HRk
          cases h93 : standsB s q 93 with
          | true =>
            have HS4 := Lib.hid (HS.out q q rfl 93 93 rfl true h93 wr)
            have hlt := stands_lt h93
            have HR2 : Hid (R = .ok (.mk false ps [] out) (q + 1)) := by show R = _; rw [HR.out, Hst.out, if_pos h93]; rfl
            clear h93 Hst HR HS IH
            go_wp2_with fail
            refine HS4.out.mono ?_
            rintro e' w1 ⟨rfl, rfl⟩
            clear HS4
            go_wp2_with fail
            refine bodyPost_ret (v := .tuple #[.agg #[.bool false, .slice pa ps.length pc, .slice none 0 0, .slice ka out.length kc], .int .i64 ((q : Int) + 1), .agg #[.int .i64 0, .int .i64 0]]) (by simp [results, Tryz.results16, go_sem, x0, x1, x2, x3, y0, y1]) rfl ?_
            rw [HR2.out]
            have hA : ¬ (W.heap.size + 2 ≤ W.heap.size) := by omega
            have hB : ¬ (W.heap.size + 2 ≤ W.heap.size + 1) := by omega
            refine ⟨_, rfl, ?_, ?_⟩
            · unfold NodeQ
              obtain ⟨ka', kc', hka, hrk⟩ := rowq_own Hown.out Hkids.out.onec
              injection hka with e1 e2 e3
              subst e1; subst e3
              refine ⟨pa, pc, none, 0, ka, kc, css, rfl, ?_, RowQ.empty _ _ _, by simp, ?_, ?_⟩
              · exact RowQ.keep (ok := fun b => W.heap.size + 2 ≤ b) (rowq_both (rowq_all (Hrow2.out.keep (ok' := fun b => W.heap.size + 2 ≤ b) (Nat.le_refl _) (fun _ _ _ => rfl) (fun b hb _ => hb.1)) hA _ _ _ _) hB _ _) (Nat.le_refl _) (fun _ _ _ => rfl) (fun b hb _ => by omega)
              · exact RowQ.keep (ok := fun b => W.heap.size + 2 ≤ b) (rowq_both (rowq_all hrk hA _ _ _ _) hB _ _) (Nat.le_refl _) (fun _ _ _ => rfl) (fun b hb _ => by omega)
              · exact KidsQ.keep (ok := fun b => W.heap.size + 2 ≤ b) (Nat.le_refl _) (fun _ _ _ => rfl) (fun b hb _ => by omega) _ _ (kidsq_both (kidsq_all (KidsQ.keep (ok' := fun b => W.heap.size + 2 ≤ b) (Nat.le_refl _) (fun _ _ _ => rfl) (fun b hb _ => hb.1) _ _ Hkids.out) hA _ _ _ _) hB _ _)
            · with_reducible exact below_both (below_all Hbel2.out (Nat.le_refl _) _ _ _ _) (Nat.le_succ _) _ _
          | false =>
            have HS4 := Lib.hid (HS.out q q rfl 93 93 rfl false h93 wr)
            have HI := Lib.hid (IH.out f' q wr (by omega) hq (by omega) (HE.out.keep Hbel2.out) (TabAt.keep HT.out Hbel2.out Hg.out) (Nat.lt_of_lt_of_le Hg.out Hbel2.out.size))
            cases hn' : rdN f' s q with
            | bad p er =>
              have HR2 : Hid (R = .bad p er) := by show R = _; rw [HR.out, Hst.out, if_neg (by rw [h93]; decide), hn']; rfl
              rw [hn'] at HI
              clear h93 hn' Hst HR HS IH Hown Hkids Hrow2
              go_wp2_with fail
              refine HS4.out.mono ?_
              rintro e' w1 ⟨rfl, rfl⟩
              clear HS4
              go_wp2_with fail
              refine HI.out.mono ?_
              rintro e' w2 ⟨l, a2, n2, k2, a3, n3, k3, a4, n4, k4, z, rfl, her, hbel3⟩
              clear x0 x1 x2 x3 y0 y1 f0 f1 f2 f3 g0 g1
              have hbx3 := Hbx2.out.keep (hbel3.mono (by omega))
              obtain ⟨x0, x1, x2, x3, y0, y1, ⟨f0, f1, f2, f3, g0, g1⟩, hW3⟩ := hbx3.facts
              have hWb : W.heap.size < w2.heap.size := by omega
              have Hbx3 := Lib.hid hbx3
              have Hbel3 := Lib.hid (Hbel2.out.trans (hbel3.mono (by omega)))
              have her0 : (er == 0) = false := by simpa using her
              have Her := Lib.hid her
              clear hbx3 hbel3 Hbx2 Hbel2 HI her
              have hz := box2f (w := w2.alloc (Obj.cells #[.bool l, .slice a2 n2 k2, .slice a3 n3 k3, .slice a4 n4 k4] 27)) (c0 := .int .i64 p) (c1 := .int .i64 er) (T := 43) (Below.refl _ _)
              have hsz2 : (w2.alloc (Obj.cells #[.bool l, .slice a2 n2 k2, .slice a3 n3 k3, .slice a4 n4 k4] 27)).heap.size = w2.heap.size + 1 := by simp
              rw [hsz2] at hz
              have Hbx4 := Lib.hid ((Hbx3.out.alloc (Obj.cells #[.bool l, .slice a2 n2 k2, .slice a3 n3 k3, .slice a4 n4 k4] 27)).alloc (Obj.cells #[.int .i64 p, .int .i64 er] 43))
              have Hbel4 := Lib.hid ((Hbel3.out.alloc (by omega) (Obj.cells #[.bool l, .slice a2 n2 k2, .slice a3 n3 k3, .slice a4 n4 k4] 27)).alloc (by rw [hsz2]; omega) (Obj.cells #[.int .i64 p, .int .i64 er] 43))
              have hz := Lib.hid hz
              clear hsz2
              go_upto_region 15 with fail
              clear x0 x1 x2 x3 y0 y1 f0 f1 f2 f3 g0 g1
              obtain ⟨w4, hw4⟩ : ∃ w4, w4 = (w2.alloc (Obj.cells #[.bool l, .slice a2 n2 k2, .slice a3 n3 k3, .slice a4 n4 k4] 27)).alloc (Obj.cells #[.int .i64 p, .int .i64 er] 43) := ⟨_, rfl⟩
              rw [← hw4] at hz Hbx4 Hbel4 ⊢
              obtain ⟨z0, z1, -, -⟩ := hz.out
              obtain ⟨x0, x1, x2, x3, y0, y1, ⟨f0, f1, f2, f3, g0, g1⟩, hW4⟩ := Hbx4.out.facts
              clear hw4 hz
              go_cut [5] (fun s5 wx => s5 = .int .i64 0 ∧ BoxAt wx W.heap.size (.bool false) (.slice none 0 0) (.slice none 0 0) (.slice none 0 0) (.int .i64 p) (.int .i64 er) ∧ Below W.heap.size W wx)
              case first =>
                go_region
                all_goals
                  go_wp2_with fail
                  go_meet
                  case rel =>
                    refine ⟨rfl, ?_, ?_⟩
                    · with_reducible exact ((Hbx4.out.all _ _ _ _).both _ _).drew
                    · with_reducible exact (below_both (below_all Hbel4.out (Nat.le_refl _) _ _ _ _) (Nat.le_succ _) _ _).drew
              case rest =>
                obtain ⟨rfl, hbx5, hbel5⟩ := hcut
                clear x0 x1 x2 x3 y0 y1 f0 f1 f2 f3 g0 g1
                obtain ⟨x0, x1, x2, x3, y0, y1, -⟩ := hbx5.facts
                have Hbel5 := Lib.hid hbel5
                clear hbx5 hbel5 Hbx3 Hbel3 Hbx4 Hbel4
                go_wp2_with fail
                refine bodyPost_ret (v := .tuple #[.agg #[.bool false, .slice none 0 0, .slice none 0 0, .slice none 0 0], .int .i64 0, .agg #[.int .i64 p, .int .i64 er]]) (by simp [results, Tryz.results16, go_sem, x0, x1, x2, x3, y0, y1]) rfl ?_
                rw [HR2.out]
                exact ⟨_, _, _, _, _, _, _, _, _, _, _, rfl, Her.out, Hbel5.out⟩
            | ok k e2 =>
              have hpos2 := rdN_pos f' s q k e2 hq hn'
              have HRn : Hid (rdK f' s e2 (out ++ [k]) = Rk) := by show _ = Rk; rw [Hst.out, if_neg (by rw [h93]; decide), hn']
              rw [hn'] at HI
              clear h93 hn' Hst HS IH
              go_wp2_with fail
              refine HS4.out.mono ?_
              rintro e' w1 ⟨rfl, rfl⟩
              clear HS4
              go_wp2_with fail
              refine HI.out.mono ?_
              rintro e' w2 ⟨cs, rfl, hnode, hbel3⟩
              obtain ⟨l, a2, n2, k2, a3, n3, k3, a4, n4, k4, rfl⟩ := hnode.form
              clear x0 x1 x2 x3 y0 y1 f0 f1 f2 f3 g0 g1
              have hbx3 := Hbx2.out.keep (hbel3.mono (by omega))
              obtain ⟨x0, x1, x2, x3, y0, y1, ⟨f0, f1, f2, f3, g0, g1⟩, hW3⟩ := hbx3.facts
              have hWb : W.heap.size < w2.heap.size := by omega
              have Hbx3 := Lib.hid hbx3
              have Hb3 := Lib.hid hbel3
              have Hbel3 := Lib.hid (Hbel2.out.trans (hbel3.mono (by omega)))
              have Hnode := Lib.hid hnode
              clear hbx3 hbel3 Hbx2 HI hnode
              go_wp2_with (at_builtin; refine wpList_app2 rfl _ _ 25 rfl (W.heap.size + 2) 27 (.agg #[.bool false, .slice none 0 0, .slice none 0 0, .slice none 0 0]) 4 80 Tryz.underlying25 info_node rfl (by decide) _ _ _ rfl (((own_keep Hown.out Hb3.out).alloc _).alloc _ |>.alloc _) _ 1 1 (w2.heap.size + 3) [.bool l, .slice a2 n2 k2, .slice a3 n3 k3, .slice a4 n4 k4] rfl ?hr ?h63 ?hb ?hbase ?_)
              case hr =>
                have := row_four ((w2.alloc (Obj.cells #[.bool l, .slice a2 n2 k2, .slice a3 n3 k3, .slice a4 n4 k4] 27)).alloc (Obj.cells #[.int .i64 0, .int .i64 0] 43)) (.bool l) (.slice a2 n2 k2) (.slice a3 n3 k3) (.slice a4 n4 k4) 27 (w2.heap.size + 3) rfl rfl rfl rfl (by simp)
                simpa using this
              case h63 => unfold maxLen; omega
              case hb => omega
              case hbase => simp; omega
              intro v' w3 hown' hgrow hwhere
              have h2 : Below w2.heap.size w2 (((w2.alloc (Obj.cells #[.bool l, .slice a2 n2 k2, .slice a3 n3 k3, .slice a4 n4 k4] 27)).alloc (Obj.cells #[.int .i64 0, .int .i64 0] 43)).alloc (Obj.cells #[.bool l, .slice a2 n2 k2, .slice a3 n3 k3, .slice a4 n4 k4] 27)) :=
                (((Below.refl _ _).alloc (Nat.le_refl _) _).alloc (by simp) _).alloc (by simp; omega) _
              have hwh : v'.ownBlock = (Value.slice ka out.length kc).ownBlock ∨ ∀ k, v'.ownBlock = some k → (((w2.alloc (Obj.cells #[.bool l, .slice a2 n2 k2, .slice a3 n3 k3, .slice a4 n4 k4] 27)).alloc (Obj.cells #[.int .i64 0, .int .i64 0] 43)).alloc (Obj.cells #[.bool l, .slice a2 n2 k2, .slice a3 n3 k3, .slice a4 n4 k4] 27)).heap.size ≤ k := by
                rcases hwhere with h | h
                · exact .inl h
                · exact .inr fun k hk => by have := h k hk; simp; omega
              have hst1 := stay_kids Hown.out Hb3.out h2 hgrow hwh
              have hst2 := stay_kid Hown.out (by omega) h2 hgrow hwh
              have hk' := (Hkids.out.stay hst1).append (KidsQ.one (Hnode.out.stay hst2))
              have hr' := Hrow2.out.stay hst1
              have hbx4 := (((Hbx3.out.alloc _).alloc _).alloc _).grown hgrow (fun k hk => (Hown.out.lt k hk).1)
              have hbel4 := (Hbel3.out.trans (h2.mono (by omega))).grown hgrow (by simp; omega) (fun k hk => Nat.le_trans (by omega) (Hown.out.lt k hk).1)
              have hown2 : w3.ownsRow (W.heap.size + 2) 27 4 v' (out ++ [k]).length (css ++ [.bool l, .slice a2 n2 k2, .slice a3 n3 k3, .slice a4 n4 k4]) := by rw [List.length_append]; exact hown'
              obtain ⟨va, vc, rfl, -⟩ := row_of_own hown2 hk'.onec
              have hW4 : W.heap.size < w3.heap.size := by have := hbx4.facts.2.2.2.2.2.2.2; omega
              clear x0 x1 x2 x3 y0 y1 f0 f1 f2 f3 g0 g1
              obtain ⟨x0, x1, x2, x3, y0, y1, ⟨f0, f1, f2, f3, g0, g1⟩, -⟩ := hbx4.facts
              have Hk := Lib.hid hk'; have Hr := Lib.hid hr'; have Hbx4 := Lib.hid hbx4; have Hbel4 := Lib.hid hbel4; have Hown2 := Lib.hid hown2
              clear hown' hgrow hwhere h2 hwh hst1 hst2 hk' hr' hbx4 hbel4 hown2 Hbx3 Hb3 Hbel3 Hnode Hown Hkids Hrow2 Hbel2
              go_wp2_with fail
              go_roundw
              case rel => exact ⟨e2, f', out ++ [k], va, vc, css ++ [.bool l, .slice a2 n2 k2, .slice a3 n3 k3, .slice a4 n4 k4], rfl, hpos2.2, by omega, by omega, HRn.out, by simp; omega, by simpa using Hbx4.out.s3 (.slice va (out ++ [k]).length vc), by simpa using own_set (b := W.heap.size) (off := 3) (u := .slice va (out ++ [k]).length vc) Hown2.out (by omega), by simpa using kidsq_set (N := W.heap.size) (o := 3) (u := .slice va (out ++ [k]).length vc) Hk.out (by omega), by simpa using rowq_set (N := W.heap.size) (o := 3) (u := .slice va (out ++ [k]).length vc) Hr.out (by omega), Hbel4.out.setCell (p := ⟨W.heap.size, 3, none⟩) (Nat.le_refl _) _⟩
              case measure => simp [intOf]; omega

/-- code.read: what it answers. -/
theorem read_c (s : List UInt8) (hn : s.length ≤ 1000000) (f : Nat) : ∀ (a : Nat) (W : World), a ≤ s.length → 2 * (s.length - a) + 1 ≤ f → ErrsAt W → TabAt W → 7 < W.heap.size →
    Calls Tryz.prog 16 #[.string ⟨s.toArray⟩, .int .i64 a] W (ReadR W (rdN f s a)) := by
  induction f using Nat.strongRecOn with
  | ind f ih =>
    intro a W ha hf hE hT hg
    obtain ⟨f, rfl⟩ : ∃ g, f = g + 1 := ⟨f - 1, by omega⟩
    cases hh : rdH s a with
    | bad p er =>
      have : rdN (f + 1) s a = .bad p er := by unfold rdN; rw [hh]
      rw [this]
      exact read_bad s a f p er W hn ha hh
    | ok ps a1 => exact read_ok s a f a1 ps W hn ha hf hE hT hg hh (fun f' b W' h1 h2 h3 h4 h5 h6 => ih f' h1 b W' h2 h3 h4 h5 h6)

end Go.Proofs.YtmhgbocejjnoaaaGreatDoor
