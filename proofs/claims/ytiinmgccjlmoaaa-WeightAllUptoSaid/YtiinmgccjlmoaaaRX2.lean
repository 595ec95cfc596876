/- Trees that a call makes: which blocks they lie in; an append that tells where its row lies. No program in sight. -/
import Derived.Test.YtiinmgccjlmoaaaRX1
namespace Go.Redl
open Go.RowKit
set_option linter.unusedVariables false

/-- A slice whose cells lie in a block that ok lets in. -/
structure RowQ (w : World) (ok : Nat → Prop) (sz : Nat) (a : Option Addr) (n cap : Nat) (cs : List Value) : Prop where
  len : cs.length = n * sz
  le : n ≤ cap
  max : cap ≤ maxLen
  one : ∀ u ∈ cs, u.oneCell' = true
  nil : a = none → cap = 0
  some_ : cs ≠ [] → ∃ b off, a = some ⟨b, off, none⟩ ∧ ok b ∧ b < w.heap.size ∧ ∀ j u, cs[j]? = some u → w.cell? ⟨b, off + j, none⟩ = some u
theorem RowQ.keep {w w' : World} {ok ok' : Nat → Prop} {sz n cap : Nat} {a : Option Addr} {cs : List Value} (h : RowQ w ok sz a n cap cs) (hs : w.heap.size ≤ w'.heap.size) (hk : ∀ b, ok b → b < w.heap.size → w'.heap[b]? = w.heap[b]?) (ho : ∀ b, ok b → b < w.heap.size → ok' b) : RowQ w' ok' sz a n cap cs := by
  refine ⟨h.len, h.le, h.max, h.one, h.nil, fun hne => ?_⟩
  obtain ⟨b, off, ha, hb, hlt, hcell⟩ := h.some_ hne
  refine ⟨b, off, ha, ho b hb hlt, Nat.lt_of_lt_of_le hlt hs, fun j u hj => ?_⟩
  rw [World.cell?_of_block (a := ⟨b, off + j, none⟩) (hk b hb hlt)]
  exact hcell j u hj
theorem RowQ.row {w : World} {ok : Nat → Prop} {sz n cap : Nat} {a : Option Addr} {cs : List Value} (h : RowQ w ok sz a n cap cs) : RowA w w.heap.size sz a n cap cs := by
  refine ⟨h.len, h.le, h.max, h.one, h.nil, fun hne => ?_⟩
  obtain ⟨b, off, ha, hb, hlt, hcell⟩ := h.some_ hne
  exact ⟨b, off, ha, hlt, hcell⟩
theorem RowQ.empty (w : World) (ok : Nat → Prop) (sz : Nat) : RowQ w ok sz none 0 0 [] := ⟨by simp, Nat.le_refl _, Nat.zero_le _, by simp, fun _ => rfl, fun h => absurd rfl h⟩
/-- The call's own row. -/
theorem RowQ.of_own {w : World} {base e sz n : Nat} {v : Value} {cs : List Value} (h : w.ownsRow base e sz v n cs) (h1 : ∀ u ∈ cs, u.oneCell' = true) :
    ∃ a cap, v = .slice a n cap ∧ RowQ w (fun b => v.ownBlock = some b) sz a n cap cs := by
  obtain ⟨a, cap, hv, hr⟩ := row_of_own h h1
  refine ⟨a, cap, hv, hr.len, hr.le, hr.max, hr.one, hr.nil, fun hne => ?_⟩
  obtain ⟨b, off, ha, hlt, hcell⟩ := hr.some_ hne
  refine ⟨b, off, ha, ?_, hlt, hcell⟩
  rcases h.2 with ⟨hn, _⟩ | ⟨g, cap', cur, hg, _⟩
  · rw [hv] at hn; injection hn with e1; subst e1; cases ha
  · rw [hv] at hg; injection hg with e1
    rw [ha] at e1
    injection e1 with e2
    injection e2 with e3
    subst e3
    rw [hv, ha]; simp [Value.ownBlock] at *

mutual
/-- A tree's cells; all that it leads to lies in blocks that ok lets in. -/
def NodeQ (w : World) (ok : Nat → Prop) : NodeD → List Value → Prop
  | .mk l ps t ks, cs => ∃ ap cp at_ ct ak ck css, cs = [.bool l, .slice ap ps.length cp, .slice at_ t.length ct, .slice ak ks.length ck] ∧ RowQ w ok 2 ap ps.length cp (propCells ps) ∧
      RowQ w ok 1 at_ t.length ct (t.map (Value.int .i32)) ∧ (∀ z ∈ t, (Lit.int .i32 z).wf = true) ∧ RowQ w ok 4 ak ks.length ck css ∧ KidsQ w ok ks css
def KidsQ (w : World) (ok : Nat → Prop) : List NodeD → List Value → Prop
  | [], css => css = []
  | k :: ks, css => ∃ c1 c2, css = c1 ++ c2 ∧ NodeQ w ok k c1 ∧ KidsQ w ok ks c2
end
mutual
theorem NodeQ.keep {w w' : World} {ok ok' : Nat → Prop} (hs : w.heap.size ≤ w'.heap.size) (hk : ∀ b, ok b → b < w.heap.size → w'.heap[b]? = w.heap[b]?) (ho : ∀ b, ok b → b < w.heap.size → ok' b) : ∀ (n : NodeD) (cs : List Value), NodeQ w ok n cs → NodeQ w' ok' n cs
  | .mk l ps t ks, cs => by
    intro h
    unfold NodeQ at h ⊢
    obtain ⟨ap, cp, at_, ct, ak, ck, css, h1, h2, h3, h4, h5, h6⟩ := h
    exact ⟨ap, cp, at_, ct, ak, ck, css, h1, h2.keep hs hk ho, h3.keep hs hk ho, h4, h5.keep hs hk ho, KidsQ.keep hs hk ho ks css h6⟩
theorem KidsQ.keep {w w' : World} {ok ok' : Nat → Prop} (hs : w.heap.size ≤ w'.heap.size) (hk : ∀ b, ok b → b < w.heap.size → w'.heap[b]? = w.heap[b]?) (ho : ∀ b, ok b → b < w.heap.size → ok' b) : ∀ (ks : List NodeD) (css : List Value), KidsQ w ok ks css → KidsQ w' ok' ks css
  | [], css => by intro h; unfold KidsQ at h ⊢; exact h
  | k :: ks, css => by
    intro h
    unfold KidsQ at h ⊢
    obtain ⟨c1, c2, h1, h2, h3⟩ := h
    exact ⟨c1, c2, h1, NodeQ.keep hs hk ho k c1 h2, KidsQ.keep hs hk ho ks c2 h3⟩
end
mutual
theorem NodeQ.node {w : World} {ok : Nat → Prop} : ∀ (n : NodeD) (cs : List Value), NodeQ w ok n cs → NodeC w w.heap.size n cs
  | .mk l ps t ks, cs => by
    intro h
    unfold NodeQ at h
    unfold NodeC
    obtain ⟨ap, cp, at_, ct, ak, ck, css, h1, h2, h3, h4, h5, h6⟩ := h
    exact ⟨ap, cp, at_, ct, ak, ck, css, h1, h2.row, h3.row, h4, h5.row, KidsQ.kids ks css h6⟩
theorem KidsQ.kids {w : World} {ok : Nat → Prop} : ∀ (ks : List NodeD) (css : List Value), KidsQ w ok ks css → KidsC w w.heap.size ks css
  | [], css => by intro h; unfold KidsQ at h; unfold KidsC; exact h
  | k :: ks, css => by
    intro h
    unfold KidsQ at h
    unfold KidsC
    obtain ⟨c1, c2, h1, h2, h3⟩ := h
    exact ⟨c1, c2, h1, NodeQ.node k c1 h2, KidsQ.kids ks c2 h3⟩
end
theorem KidsQ.append {w : World} {ok : Nat → Prop} : ∀ {ks ks' : List NodeD} {css css' : List Value}, KidsQ w ok ks css → KidsQ w ok ks' css' → KidsQ w ok (ks ++ ks') (css ++ css')
  | [], ks', css, css', h, h' => by unfold KidsQ at h; subst h; exact h'
  | k :: ks, ks', css, css', h, h' => by
    unfold KidsQ at h
    obtain ⟨c1, c2, rfl, h2, h3⟩ := h
    rw [List.cons_append]
    unfold KidsQ
    exact ⟨c1, c2 ++ css', by simp, h2, KidsQ.append h3 h'⟩
theorem KidsQ.one {w : World} {ok : Nat → Prop} {k : NodeD} {c : List Value} (h : NodeQ w ok k c) : KidsQ w ok [k] c := by
  unfold KidsQ
  exact ⟨c, [], by simp, h, by unfold KidsQ; rfl⟩

/-- append(own, xs...): where the row lies behind it. -/
theorem run_own_where {P : Program} (w : World) (base : Nat) (t ty e : TypeId) (i : TypeInfo) (z : Value) (size bytes : Nat) (ht : P.underlying t = some (.slice e)) (hi : P.info? e = some i) (hz : i.zero = some z)
    (hsize : i.size = size) (hby : i.bytes = bytes) (hzs : z.cells.size = size) (hsz : 0 < size)
    (v : Value) (n : Nat) (xs : List Value) (hown : w.ownsRow base e size v n xs)
    (a : Addr) (m c : Nat) (news : List Value) (hl : news.length = m * size) (hnews : ∀ j u, news[j]? = some u → w.cell? (a.add j) = some u) (h1 : ∀ u ∈ news, u.oneCell' = true)
    (h63 : n + m ≤ maxLen) (hbytes : (n + m) * bytes ≤ 140737488355328) (hbase : base ≤ w.heap.size) :
    ∃ v' w', (Builtin.append_ #[t, t] ty #[v, .slice (some a) m c]).run P w = .ok v' w' ∧ w'.ownsRow base e size v' (n + m) (xs ++ news) ∧ w.grownBy w' v.ownBlock ∧
      (v'.ownBlock = v.ownBlock ∨ ∀ k, v'.ownBlock = some k → w.heap.size ≤ k) := by
  obtain ⟨v', w', hr, h2, h3, -⟩ := run_append_own (P := P) w base t ty e i z size bytes ht hi hz hsize hby hzs hsz v n xs hown a m c news hl hnews h1 h63 hbytes hbase
  refine ⟨v', w', hr, h2, h3, ?_⟩
  rcases hown.2 with ⟨rfl, rfl⟩ | ⟨g, cap, cur, rfl, hbg, hg, hnc, hcm, hcs, htake⟩
  · have hx : xs = [] := List.eq_nil_of_length_eq_zero (by simpa using hown.1)
    subst hx
    obtain ⟨v2, w2, hr2, k2, -, -⟩ := run_append_own (P := P) w w.heap.size t ty e i z size bytes ht hi hz hsize hby hzs hsz (.slice none 0 0) 0 [] (World.ownsRow_nil _ _ _ _) a m c news hl hnews h1 h63 hbytes (Nat.le_refl _)
    rw [hr] at hr2
    cases hr2
    exact .inr fun k hk => (k2.lt k hk).1
  · subst hsize
    by_cases hroom : n + m ≤ cap
    · have hfit : n * i.size + news.length ≤ cur.size := by rw [hl, hcs, ← Nat.add_mul]; exact Nat.mul_le_mul_right _ hroom
      have hr2 := run_append_room (P := P) w t ty e i ht hi g n cap cur hg a m c news hl hnews h1 hroom hfit
      rw [hr] at hr2
      cases hr2
      exact .inl rfl
    · have holds : ∀ j u, xs[j]? = some u → w.cell? ((⟨g, 0, none⟩ : Addr).add j) = some u := hown.cells (g := g) rfl
      have hr2 := run_append_grow (P := P) w t ty e i z ht hi hz ⟨g, 0, none⟩ n cap xs hown.1 holds a m c news hl hnews (by omega) (by unfold maxLen at h63; omega) (growslice_fits (by unfold maxLen at h63; omega) (by subst hby; exact hbytes))
      rw [hr] at hr2
      cases hr2
      exact .inr fun k hk => by
        simp [Value.ownBlock] at hk
        omega
theorem wpList_app2 {P : Program} {w : World} {ops : Array Oper} {rest : List Oper} {o : Oper} {a : Act} {Q : Exit → Act → World → Prop} (hgd : o.guard = none) (s x : Operand) (t : TypeId)
    (ho : o.op = .call { callee := .builtin .append, args := #[s, x], argTypes := #[t, t] })
    (base : Nat) (e : TypeId) (z : Value) (size bytes : Nat) (ht : P.underlying t = some (.slice e)) (hi : (P.info? e).map (fun i => (i.zero, i.size, i.bytes)) = some (some z, size, bytes))
    (hzs : z.cells.size = size) (hsz : 0 < size)
    (v : Value) (n : Nat) (xs : List Value) (hs : a.eval s = v) (hown : w.ownsRow base e size v n xs)
    (ad : Addr) (m c B : Nat) (news : List Value) (hx : a.eval x = .slice (some ad) m c) (hr : RowA w B size (some ad) m c news)
    (h63 : n + m ≤ maxLen) (hbytes : (n + m) * bytes ≤ 140737488355328) (hbase : base ≤ w.heap.size)
    (h : ∀ v' w', w'.ownsRow base e size v' (n + m) (xs ++ news) → w.grownBy w' v.ownBlock → (v'.ownBlock = v.ownBlock ∨ ∀ k, v'.ownBlock = some k → w.heap.size ≤ k) → wpList P ops Q rest (a.put o.dst v') w') : wpList P ops Q (o :: rest) a w := by
  obtain ⟨i, hi', hz, hsize, hby⟩ := info_parts hi
  refine wpList_plain hgd fun K hK => ?_
  obtain ⟨v', w', hrun, h2, h3, h4⟩ := run_own_where (P := P) w base t o.type e i z size bytes ht hi' hz hsize hby hzs hsz v n xs hown ad m c news hr.len hr.cells hr.one h63 hbytes hbase
  unfold Oper.wp execOp
  simp only [ho, resolve, invoke, builtin, Sem.run_bind, Sem.run_pure, Result.andThen_ok, List.map_toArray, List.map_cons, List.map_nil, hs, hx, hrun]
  exact hK _ _ (h v' w' h2 h3 h4)

/-- What is read stays read behind one more append: the row of kids alone may be written. -/
structure Stay (w w' : World) (ok ok' : Nat → Prop) : Prop where
  size : w.heap.size ≤ w'.heap.size
  block : ∀ b, ok b → b < w.heap.size → w'.heap[b]? = w.heap[b]?
  let_ : ∀ b, ok b → b < w.heap.size → ok' b
theorem stay_kids {wr w1 w2 w3 : World} {M T sz n : Nat} {kv kv' : Value} {css : List Value} (hown : wr.ownsRow M T sz kv n css) (h1 : Below wr.heap.size wr w1) (h2 : Below w1.heap.size w1 w2) (hg : w2.grownBy w3 kv.ownBlock)
    (hw : kv'.ownBlock = kv.ownBlock ∨ ∀ k, kv'.ownBlock = some k → w2.heap.size ≤ k) : Stay wr w3 (fun b => M ≤ b ∧ kv.ownBlock ≠ some b) (fun b => M ≤ b ∧ kv'.ownBlock ≠ some b) := by
  have s1 := h1.size; have s2 := h2.size; have s3 := hg.size
  refine ⟨by omega, fun b hb hlt => ?_, fun b hb hlt => ⟨hb.1, ?_⟩⟩
  · rw [hg.block b (by omega) (fun e => hb.2 e.symm), h2.block b (by omega), h1.block b hlt]
  · rcases hw with hw | hw
    · rw [hw]; exact hb.2
    · intro e; have := hw b e; omega
theorem stay_kid {wr w1 w2 w3 : World} {M T sz n : Nat} {kv kv' : Value} {css : List Value} (hown : wr.ownsRow M T sz kv n css) (hM : M ≤ wr.heap.size) (h2 : Below w1.heap.size w1 w2) (hg : w2.grownBy w3 kv.ownBlock)
    (hw : kv'.ownBlock = kv.ownBlock ∨ ∀ k, kv'.ownBlock = some k → w2.heap.size ≤ k) : Stay w1 w3 (fun b => wr.heap.size ≤ b) (fun b => M ≤ b ∧ kv'.ownBlock ≠ some b) := by
  have s2 := h2.size; have s3 := hg.size
  have hne : ∀ b, wr.heap.size ≤ b → kv.ownBlock ≠ some b := fun b hb e => by have := (hown.lt b e).2; omega
  refine ⟨by omega, fun b hb hlt => ?_, fun b hb hlt => ⟨by omega, ?_⟩⟩
  · rw [hg.block b (by omega) (fun e => hne b hb e.symm), h2.block b (by omega)]
  · rcases hw with hw | hw
    · rw [hw]; exact hne b hb
    · intro e; have := hw b e; omega
theorem RowQ.stay {w w' : World} {ok ok' : Nat → Prop} {sz n cap : Nat} {a : Option Addr} {cs : List Value} (h : RowQ w ok sz a n cap cs) (s : Stay w w' ok ok') : RowQ w' ok' sz a n cap cs := h.keep s.size s.block s.let_
theorem NodeQ.stay {w w' : World} {ok ok' : Nat → Prop} {n : NodeD} {cs : List Value} (h : NodeQ w ok n cs) (s : Stay w w' ok ok') : NodeQ w' ok' n cs := NodeQ.keep s.size s.block s.let_ n cs h
theorem KidsQ.stay {w w' : World} {ok ok' : Nat → Prop} {n : List NodeD} {cs : List Value} (h : KidsQ w ok n cs) (s : Stay w w' ok ok') : KidsQ w' ok' n cs := KidsQ.keep s.size s.block s.let_ n cs h
theorem NodeQ.form {w : World} {ok : Nat → Prop} {n : NodeD} {cs : List Value} (h : NodeQ w ok n cs) : ∃ l a1 n1 c1 a2 n2 c2 a3 n3 c3, cs = [.bool l, .slice a1 n1 c1, .slice a2 n2 c2, .slice a3 n3 c3] := (NodeQ.node n cs h).form
theorem KidsQ.onec {w : World} {ok : Nat → Prop} {ks : List NodeD} {css : List Value} (h : KidsQ w ok ks css) : ∀ u ∈ css, u.oneCell' = true := (KidsQ.kids ks css h).one
/-- A literal of one element of four cells, just made. -/
theorem row_four (w : World) (c0 c1 c2 c3 : Value) (E : TypeId) (B : Nat) (h0 : c0.oneCell' = true) (h1 : c1.oneCell' = true) (h2 : c2.oneCell' = true) (h3 : c3.oneCell' = true) (hB : w.heap.size < B := by omega) :
    RowA (w.alloc (.cells #[c0, c1, c2, c3] E)) B 4 (some ⟨w.heap.size, 0, none⟩) 1 1 [c0, c1, c2, c3] := by
  refine ⟨by simp, Nat.le_refl _, by unfold maxLen; omega, by simp [h0, h1, h2, h3], (fun h => by cases h), fun _ => ⟨w.heap.size, 0, rfl, hB, fun j u hj => ?_⟩⟩
  have hg : (w.alloc (.cells #[c0, c1, c2, c3] E)).heap[w.heap.size]? = some (.cells #[c0, c1, c2, c3] E (0, 0)) := heap_alloc_new w _
  rw [cell_of_row _ w.heap.size (0 + j) #[c0, c1, c2, c3] E (0, 0) hg]
  simpa using hj

end Go.Redl
