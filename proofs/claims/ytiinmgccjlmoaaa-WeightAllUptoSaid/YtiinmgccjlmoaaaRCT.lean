/- Plain words: append onto a full row; what a growing list of rows leaves. -/
import Derived.Test.YtiinmgccjlmoaaaRCR
namespace Go.Proofs.Ytiinmgccjlmoaaa
open Go.RowKit Go.Redl
set_option linter.unusedVariables false

theorem _root_.Go.Redl.RowA.full {w : World} {B sz n cap : Nat} {a : Option Addr} {cs : List Value} (h : RowA w B sz a n cap cs) : RowA w B sz a n n cs :=
  ⟨h.len, Nat.le_refl _, Nat.le_trans h.le h.max, h.one, fun e => by have := h.nil e; have := h.le; omega, h.some_⟩
theorem below_of_grown {w w' : World} (h : w.grownBy w' none) : Below w.heap.size w w' := ⟨h.os, h.tape, h.output, h.size, fun i hi => h.block i hi (by simp)⟩
/-- append(p[:n:n], xs...): a row of its own, always. -/
theorem run_grow_full {P : Program} (w : World) (t ty e : TypeId) (i : TypeInfo) (z : Value) (size bytes : Nat) (ht : P.underlying t = some (.slice e)) (hi : P.info? e = some i) (hz : i.zero = some z)
    (hsize : i.size = size) (hby : i.bytes = bytes) (hzs : z.cells.size = size) (hsz : 0 < size)
    (a : Option Addr) (n B : Nat) (xs : List Value) (hr : RowA w B size a n n xs)
    (ad : Addr) (m c : Nat) (news : List Value) (hm : 0 < m) (hl : news.length = m * size) (hnews : ∀ j u, news[j]? = some u → w.cell? (ad.add j) = some u) (h1 : ∀ u ∈ news, u.oneCell' = true)
    (h63 : n + m ≤ maxLen) (hbytes : (n + m) * bytes ≤ 140737488355328) :
    ∃ v' w', (Builtin.append_ #[t, t] ty #[.slice a n n, .slice (some ad) m c]).run P w = .ok v' w' ∧ w'.ownsRow w.heap.size e size v' (n + m) (xs ++ news) ∧ Below w.heap.size w w' := by
  cases a with
  | none =>
    have hn : n = 0 := hr.nil rfl
    subst hn
    have hx : xs = [] := List.eq_nil_of_length_eq_zero (by simpa using hr.len)
    subst hx
    obtain ⟨v', w', h, h2, h3, -⟩ := run_append_own (P := P) w w.heap.size t ty e i z size bytes ht hi hz hsize hby hzs hsz (.slice none 0 0) 0 [] (World.ownsRow_nil _ _ _ _) ad m c news hl hnews h1 h63 hbytes (Nat.le_refl _)
    exact ⟨v', w', h, h2, below_of_grown h3⟩
  | some b =>
    subst hsize
    subst hby
    have h := run_append_grow (P := P) w t ty e i z ht hi hz b n n xs hr.len hr.cells ad m c news hl hnews (by omega) (by unfold maxLen at h63; omega) (growslice_fits (by omega) hbytes)
    have hge := grownCap_ge w (n + m) n e
    have hcm : grownCap w (n + m) n e ≤ maxLen := grownCap_le_maxLen w (n + m) n e h63
    have hlen : (xs ++ news).length = (n + m) * i.size := by rw [List.length_append, hr.len, hl, Nat.add_mul]
    refine ⟨_, _, h, ⟨hlen, .inr ⟨w.heap.size, _, _, rfl, Nat.le_refl _, heap_alloc_new w.drew _, hge, hcm, ?_, ?_⟩⟩, ⟨rfl, rfl, rfl, by simp, fun k hk => heap_alloc_old w.drew _ (show k < w.drew.heap.size from hk)⟩⟩
    · simp only [Array.size_append, List.size_toArray, size_zeroCells, hzs, hr.len, hl, ← Nat.add_mul]
      congr 1
      omega
    · simp only [Array.toList_append, List.append_assoc]
      rw [← List.append_assoc, ← hlen]
      exact List.take_left
/-- The same as one step of a region that draws. -/
theorem step_grow {P : Program} {ops : Array Oper} {o : Oper} {a : Act} {w : World} {K : Act → World → Prop} {Q : Exit → Act → World → Prop} {E : Prop}
    (hg : o.guard = none) (s x : Operand) (t : TypeId) (ho : o.op = .call { callee := .builtin .append, args := #[s, x], argTypes := #[t, t] })
    (e : TypeId) (z : Value) (size bytes : Nat) (ht : P.underlying t = some (.slice e)) (hi : (P.info? e).map (fun i => (i.zero, i.size, i.bytes)) = some (some z, size, bytes))
    (hzs : z.cells.size = size) (hsz : 0 < size)
    (av : Option Addr) (n B0 : Nat) (xs : List Value) (hs : a.eval s = .slice av n n) (hown : RowA w B0 size av n n xs)
    (ad : Addr) (m c B : Nat) (news : List Value) (hx : a.eval x = .slice (some ad) m c) (hr : RowA w B size (some ad) m c news) (hm : 0 < m)
    (h63 : n + m ≤ maxLen) (hbytes : (n + m) * bytes ≤ 140737488355328)
    (h : ∀ v' w', w'.ownsRow w.heap.size e size v' (n + m) (xs ++ news) → Below w.heap.size w w' → K (a.put o.dst v') w') : if Region.wanted o (yielded ops a.tmps) = true then Oper.wp P o a w K Q else E := by
  have hw : Region.wanted o (yielded ops a.tmps) = true := by simp [Region.wanted, hg]
  rw [if_pos hw]
  obtain ⟨i, hi', hz, hsize, hby⟩ := info_parts hi
  obtain ⟨v', w', hrun, h2, h3⟩ := run_grow_full (P := P) w t o.type e i z size bytes ht hi' hz hsize hby hzs hsz av n B0 xs hown ad m c news hm hr.len hr.cells hr.one h63 hbytes
  unfold Oper.wp execOp
  simp only [ho, resolve, invoke, builtin, Sem.run_bind, Sem.run_pure, Result.andThen_ok, List.map_toArray, List.map_cons, List.map_nil, hs, hx, hrun]
  exact h v' w' h2 h3

/-- A box holds a list's row; from v to v' nothing else that was there is written. -/
structure Grew (ob : Nat) (v v' : Value) (w w' : World) : Prop where
  os : w'.os = w.os
  tape : w'.tape = w.tape
  output : w'.output = w.output
  size : w.heap.size ≤ w'.heap.size
  block : ∀ b, b < w.heap.size → b ≠ ob → v.ownBlock ≠ some b → w'.heap[b]? = w.heap[b]?
  where_ : v'.ownBlock = v.ownBlock ∨ ∀ k, v'.ownBlock = some k → w.heap.size ≤ k

theorem Grew.refl (ob : Nat) (v : Value) (w : World) : Grew ob v v w w := ⟨rfl, rfl, rfl, Nat.le_refl _, fun _ _ _ _ => rfl, .inl rfl⟩
theorem Grew.trans {ob : Nat} {v1 v2 v3 : Value} {w1 w2 w3 : World} (h : Grew ob v1 v2 w1 w2) (k : Grew ob v2 v3 w2 w3) : Grew ob v1 v3 w1 w3 := by
  refine ⟨k.os.trans h.os, k.tape.trans h.tape, k.output.trans h.output, Nat.le_trans h.size k.size, fun b hb hne hv => ?_, ?_⟩
  · rw [k.block b (Nat.lt_of_lt_of_le hb h.size) hne ?_, h.block b hb hne hv]
    rcases h.where_ with e | e
    · rw [e]; exact hv
    · intro e2; have := e b e2; omega
  · have := h.size
    rcases k.where_ with e | e
    · rw [e]; exact h.where_
    · exact .inr fun k hk => by have := e k hk; omega
theorem Grew.then {ob : Nat} {v1 v2 : Value} {w1 w2 w3 : World} (h : Grew ob v1 v2 w1 w2) (k : Below w2.heap.size w2 w3) : Grew ob v1 v2 w1 w3 :=
  h.trans ⟨k.os, k.tape, k.output, k.size, fun b hb _ _ => k.block b hb, .inl rfl⟩
theorem Grew.ahead {ob : Nat} {v1 v2 : Value} {w1 w2 w3 : World} (k : Below w1.heap.size w1 w2) (h : Grew ob v1 v2 w2 w3) : Grew ob v1 v2 w1 w3 :=
  Grew.trans ⟨k.os, k.tape, k.output, k.size, fun b hb _ _ => k.block b hb, .inl rfl⟩ h
theorem Grew.stay {ob M : Nat} {v v' : Value} {w w' : World} (h : Grew ob v v' w w') (hob : ob < M) : Stay w w' (fun b => M ≤ b ∧ v.ownBlock ≠ some b) (fun b => M ≤ b ∧ v'.ownBlock ≠ some b) := by
  refine ⟨h.size, fun b hb hlt => h.block b hlt (by omega) hb.2, fun b hb hlt => ⟨hb.1, ?_⟩⟩
  rcases h.where_ with e | e
  · rw [e]; exact hb.2
  · intro e2; have := e b e2; omega
theorem Grew.below {ob B : Nat} {v v' : Value} {w w' : World} (h : Grew ob v v' w w') (hB : B ≤ ob) (hw : B ≤ w.heap.size) (hv : ∀ k, v.ownBlock = some k → B ≤ k) : Below B w w' :=
  ⟨h.os, h.tape, h.output, h.size, fun b hb => h.block b (by omega) (by omega) (fun e => by have := hv b e; omega)⟩
theorem PathsQ.stay {w w' : World} {ok ok' : Nat → Prop} {l : List (List Int)} {cs : List Value} (h : PathsQ w ok l cs) (s : Stay w w' ok ok') : PathsQ w' ok' l cs := h.keep s.size s.block s.let_

end Go.Proofs.Ytiinmgccjlmoaaa
