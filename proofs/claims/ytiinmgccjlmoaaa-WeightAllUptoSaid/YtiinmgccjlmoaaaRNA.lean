/- A node's box in memory; rows and trees behind stores elsewhere. -/
import Derived.Test.YtiinmgccjlmoaaaRX2
import Derived.Test.YtiinmgccjlmoaaaRN2
import Derived.Lib.BufferMore
import Derived.Lib.Builder
import Derived.Deep.RegionLaw
namespace Go.Proofs.Ytiinmgccjlmoaaa
open Go.RowKit Go.Redl
set_option linter.unusedVariables false

/-- A node's box. -/
def NodeAt (w : World) (N : Nat) (c0 c1 c2 c3 : Value) : Prop := w.heap[N]? = some (.cells #[c0, c1, c2, c3] 35 (0, 0))
theorem NodeAt.facts {w : World} {N : Nat} {c0 c1 c2 c3 : Value} (h : NodeAt w N c0 c1 c2 c3) :
    w.cell? ⟨N, 0, none⟩ = some c0 ∧ w.cell? ⟨N, 1, none⟩ = some c1 ∧ w.cell? ⟨N, 2, none⟩ = some c2 ∧ w.cell? ⟨N, 3, none⟩ = some c3 ∧
      (w.frozen? ⟨N, 0, none⟩ = false ∧ w.frozen? ⟨N, 1, none⟩ = false ∧ w.frozen? ⟨N, 2, none⟩ = false ∧ w.frozen? ⟨N, 3, none⟩ = false) ∧ N < w.heap.size := by
  refine ⟨?_, ?_, ?_, ?_, ⟨?_, ?_, ?_, ?_⟩, (Array.getElem?_eq_some_iff.1 h).1⟩
  all_goals first
    | exact Lib.frozen_of_heap h _
    | (rw [Lib.cell_of_heap h]; rfl)
theorem NodeAt.fresh (W : World) (c0 c1 c2 c3 : Value) : NodeAt (W.alloc (.cells #[c0, c1, c2, c3] 35)) W.heap.size c0 c1 c2 c3 := heap_alloc_new W _
theorem NodeAt.keep {w w' : World} {N : Nat} {c0 c1 c2 c3 : Value} (h : NodeAt w N c0 c1 c2 c3) (hb : Below (N + 1) w w') : NodeAt w' N c0 c1 c2 c3 := by
  unfold NodeAt; rw [hb.block N (by omega)]; exact h
theorem NodeAt.alloc {w : World} {N : Nat} {c0 c1 c2 c3 : Value} (h : NodeAt w N c0 c1 c2 c3) (o : Obj) : NodeAt (w.alloc o) N c0 c1 c2 c3 := by
  unfold NodeAt; rw [Lib.alloc_old _ _ _ (Array.getElem?_eq_some_iff.1 h).1]; exact h
theorem NodeAt.drew {w : World} {N : Nat} {c0 c1 c2 c3 : Value} (h : NodeAt w N c0 c1 c2 c3) : NodeAt w.drew N c0 c1 c2 c3 := h
theorem NodeAt.all {w : World} {N : Nat} {c0 c1 c2 c3 : Value} (h : NodeAt w N c0 c1 c2 c3) (d0 d1 d2 d3 : Value) : NodeAt ((((w.setCell ⟨N, 0, none⟩ d0).setCell ⟨N, 1, none⟩ d1).setCell ⟨N, 2, none⟩ d2).setCell ⟨N, 3, none⟩ d3) N d0 d1 d2 d3 := by
  have h0 := Lib.heap_setCell_same (i := 0) h d0
  have h1 := Lib.heap_setCell_same (i := 1) h0 d1
  have h2 := Lib.heap_setCell_same (i := 2) h1 d2
  exact Lib.heap_setCell_same (i := 3) h2 d3

theorem NodeAt.set {w : World} {N b o : Nat} {c0 c1 c2 c3 u : Value} (h : NodeAt w N c0 c1 c2 c3) (hne : N ≠ b) : NodeAt (w.setCell ⟨b, o, none⟩ u) N c0 c1 c2 c3 := by
  unfold NodeAt; rw [Below.heap_setCell _ _ _ _ hne]; exact h
theorem node_second (w : World) (o : Obj) (c0 c1 c2 c3 : Value) : NodeAt ((w.alloc o).alloc (.cells #[c0, c1, c2, c3] 35)) (w.heap.size + 1) c0 c1 c2 c3 := by
  have h := NodeAt.fresh (w.alloc o) c0 c1 c2 c3
  have e : (w.alloc o).heap.size = w.heap.size + 1 := by simp
  rwa [e] at h
theorem NodeAt.drewq {w : World} {M : Nat} {c0 c1 c2 c3 : Value} (h : NodeAt w M c0 c1 c2 c3) (q : Nat) : NodeAt (w.drewN q) M c0 c1 c2 c3 := h
theorem NodeAt.s0 {w : World} {M : Nat} {c0 c1 c2 c3 : Value} (h : NodeAt w M c0 c1 c2 c3) (u : Value) : NodeAt (w.setCell ⟨M, 0, none⟩ u) M u c1 c2 c3 := Lib.heap_setCell_same (i := 0) h _
theorem NodeAt.s1 {w : World} {M : Nat} {c0 c1 c2 c3 : Value} (h : NodeAt w M c0 c1 c2 c3) (u : Value) : NodeAt (w.setCell ⟨M, 1, none⟩ u) M c0 u c2 c3 := Lib.heap_setCell_same (i := 1) h _
theorem NodeAt.s2 {w : World} {M : Nat} {c0 c1 c2 c3 : Value} (h : NodeAt w M c0 c1 c2 c3) (u : Value) : NodeAt (w.setCell ⟨M, 2, none⟩ u) M c0 c1 u c3 := Lib.heap_setCell_same (i := 2) h _
theorem NodeAt.s3 {w : World} {M : Nat} {c0 c1 c2 c3 : Value} (h : NodeAt w M c0 c1 c2 c3) (u : Value) : NodeAt (w.setCell ⟨M, 3, none⟩ u) M c0 c1 c2 u := Lib.heap_setCell_same (i := 3) h _
theorem below_all {B : Nat} {W w : World} {N : Nat} (h : Below B W w) (hN : B ≤ N) (d0 d1 d2 d3 : Value) : Below B W ((((w.setCell ⟨N, 0, none⟩ d0).setCell ⟨N, 1, none⟩ d1).setCell ⟨N, 2, none⟩ d2).setCell ⟨N, 3, none⟩ d3) :=
  (((h.setCell (p := ⟨N, 0, none⟩) hN _).setCell (p := ⟨N, 1, none⟩) hN _).setCell (p := ⟨N, 2, none⟩) hN _).setCell (p := ⟨N, 3, none⟩) hN _
theorem below_both {B : Nat} {W w : World} {N : Nat} (h : Below B W w) (hN : B ≤ N) (d0 d1 : Value) : Below B W ((w.setCell ⟨N, 0, none⟩ d0).setCell ⟨N, 1, none⟩ d1) :=
  (h.setCell (p := ⟨N, 0, none⟩) hN _).setCell (p := ⟨N, 1, none⟩) hN _

theorem rowq_set {w : World} {ok : Nat → Prop} {sz n cap N o : Nat} {a : Option Addr} {cs : List Value} {u : Value} (h : RowQ w ok sz a n cap cs) (hne : ¬ ok N) : RowQ (w.setCell ⟨N, o, none⟩ u) ok sz a n cap cs :=
  h.keep (by simp [World.setCell]) (fun b hb _ => Below.heap_setCell w _ u b (fun e => hne (by rw [← show b = N from e]; exact hb))) (fun _ hb _ => hb)
theorem nodeq_set {w : World} {ok : Nat → Prop} {N o : Nat} {n : NodeD} {cs : List Value} {u : Value} (h : NodeQ w ok n cs) (hne : ¬ ok N) : NodeQ (w.setCell ⟨N, o, none⟩ u) ok n cs :=
  NodeQ.keep (by simp [World.setCell]) (fun b hb _ => Below.heap_setCell w _ u b (fun e => hne (by rw [← show b = N from e]; exact hb))) (fun _ hb _ => hb) n cs h
theorem kidsq_set {w : World} {ok : Nat → Prop} {N o : Nat} {n : List NodeD} {cs : List Value} {u : Value} (h : KidsQ w ok n cs) (hne : ¬ ok N) : KidsQ (w.setCell ⟨N, o, none⟩ u) ok n cs :=
  KidsQ.keep (by simp [World.setCell]) (fun b hb _ => Below.heap_setCell w _ u b (fun e => hne (by rw [← show b = N from e]; exact hb))) (fun _ hb _ => hb) n cs h
theorem rowq_drew {w : World} {ok : Nat → Prop} {sz n cap : Nat} {a : Option Addr} {cs : List Value} (h : RowQ w ok sz a n cap cs) : RowQ w.drew ok sz a n cap cs := h.keep (Nat.le_refl _) (fun _ _ _ => rfl) (fun _ hb _ => hb)
theorem rowq_all {w : World} {ok : Nat → Prop} {sz n cap N : Nat} {a : Option Addr} {cs : List Value} (h : RowQ w ok sz a n cap cs) (hne : ¬ ok N) (d0 d1 d2 d3 : Value) : RowQ ((((w.setCell ⟨N, 0, none⟩ d0).setCell ⟨N, 1, none⟩ d1).setCell ⟨N, 2, none⟩ d2).setCell ⟨N, 3, none⟩ d3) ok sz a n cap cs :=
  rowq_set (rowq_set (rowq_set (rowq_set h hne) hne) hne) hne
theorem rowq_both {w : World} {ok : Nat → Prop} {sz n cap N : Nat} {a : Option Addr} {cs : List Value} (h : RowQ w ok sz a n cap cs) (hne : ¬ ok N) (d0 d1 : Value) : RowQ ((w.setCell ⟨N, 0, none⟩ d0).setCell ⟨N, 1, none⟩ d1) ok sz a n cap cs :=
  rowq_set (rowq_set h hne) hne
theorem kidsq_all {w : World} {ok : Nat → Prop} {N : Nat} {ks : List NodeD} {cs : List Value} (h : KidsQ w ok ks cs) (hne : ¬ ok N) (d0 d1 d2 d3 : Value) : KidsQ ((((w.setCell ⟨N, 0, none⟩ d0).setCell ⟨N, 1, none⟩ d1).setCell ⟨N, 2, none⟩ d2).setCell ⟨N, 3, none⟩ d3) ok ks cs :=
  kidsq_set (kidsq_set (kidsq_set (kidsq_set h hne) hne) hne) hne
theorem kidsq_both {w : World} {ok : Nat → Prop} {N : Nat} {ks : List NodeD} {cs : List Value} (h : KidsQ w ok ks cs) (hne : ¬ ok N) (d0 d1 : Value) : KidsQ ((w.setCell ⟨N, 0, none⟩ d0).setCell ⟨N, 1, none⟩ d1) ok ks cs :=
  kidsq_set (kidsq_set h hne) hne
theorem rowq_own {w : World} {base e sz n : Nat} {v : Value} {cs : List Value} (h : w.ownsRow base e sz v n cs) (h1 : ∀ u ∈ cs, u.oneCell' = true) : ∃ a cap, v = .slice a n cap ∧ RowQ w (fun b => base ≤ b) sz a n cap cs := by
  obtain ⟨a, cap, hv, hr⟩ := RowQ.of_own h h1
  exact ⟨a, cap, hv, hr.keep (Nat.le_refl _) (fun _ _ _ => rfl) (fun b hb _ => (h.lt b hb).1)⟩
theorem rowq_below {w w' : World} {M sz n cap : Nat} {a : Option Addr} {cs : List Value} (h : RowQ w (fun b => M ≤ b) sz a n cap cs) (hb : Below w.heap.size w w') : RowQ w' (fun b => M ≤ b) sz a n cap cs :=
  h.keep hb.size (fun b _ hlt => hb.block b hlt) (fun _ hb _ => hb)

theorem NodeAt.grownN {w w' : World} {M : Nat} {c0 c1 c2 c3 : Value} {r : Option Nat} (h : NodeAt w M c0 c1 c2 c3) (hg : w.grownBy w' r) (hr : r ≠ some M) : NodeAt w' M c0 c1 c2 c3 := by
  unfold NodeAt; rw [hg.block M (Array.getElem?_eq_some_iff.1 h).1 (fun e => hr e.symm)]; exact h
/-- Nothing that was there is written but block N. -/
def Only (N : Nat) (w w' : World) : Prop := w.grownBy w' (some N)
theorem Only.refl (N : Nat) (w : World) : Only N w w := World.grownBy.refl w _
theorem Only.trans {N : Nat} {a b c : World} (h : Only N a b) (k : Only N b c) : Only N a c := grownBy_trans h k
theorem Only.below {N : Nat} {w w' : World} (h : Below w.heap.size w w') : Only N w w' := ⟨h.os, h.tape, h.output, h.size, fun i hi _ => h.block i hi⟩
theorem Only.set {N o : Nat} {a b : World} (h : Only N a b) (u : Value) : Only N a (b.setCell ⟨N, o, none⟩ u) := by
  refine grownBy_trans h ⟨rfl, rfl, rfl, by simp [World.setCell], fun i hi hne => Below.heap_setCell b ⟨N, o, none⟩ u i (fun e => hne (by rw [e]))⟩
theorem Only.drewN {N : Nat} {a b : World} (h : Only N a b) (q : Nat) : Only N a (b.drewN q) := h.trans (Only.below (below_drewN (Below.refl _ _) q))
theorem Only.then {N : Nat} {a b c : World} (h : Only N a b) (k : Below b.heap.size b c) : Only N a c := h.trans (Only.below k)
theorem Only.size {N : Nat} {w w' : World} (h : Only N w w') : w.heap.size ≤ w'.heap.size := World.grownBy.size h
theorem Only.to {N B : Nat} {w w' : World} (h : Only N w w') (hB : B ≤ N) (hw : B ≤ w.heap.size) : Below B w w' := ⟨h.os, h.tape, h.output, World.grownBy.size h, fun i hi => World.grownBy.block h i (by omega) (by simp; omega)⟩
theorem own_only {N : Nat} {w w' : World} {base e sz n : Nat} {v : Value} {cs : List Value} (h : w.ownsRow base e sz v n cs) (ho : Only N w w') (hN : N < base) : w'.ownsRow base e sz v n cs := by
  refine h.kept ho ?_
  cases hv : v.ownBlock with
  | none => simp
  | some k =>
    have := (h.lt k hv).1
    simp
    try omega
theorem Only.grown {N : Nat} {w w1 w2 : World} {r : Option Nat} (h : Only N w w1) (hg : w1.grownBy w2 r) (hr : ∀ k, r = some k → w.heap.size ≤ k) : Only N w w2 :=
  ⟨hg.os.trans h.os, hg.tape.trans h.tape, hg.output.trans h.output, Nat.le_trans h.size hg.size, fun i hi hne => (hg.block i (Nat.lt_of_lt_of_le hi h.size) (fun e => by have := hr i e.symm; omega)).trans (World.grownBy.block h i hi hne)⟩
theorem NodeAt.only {w w' : World} {M N : Nat} {c0 c1 c2 c3 : Value} (h : NodeAt w M c0 c1 c2 c3) (ho : Only N w w') (hne : M ≠ N) : NodeAt w' M c0 c1 c2 c3 := by
  unfold NodeAt
  rw [World.grownBy.block ho M (Array.getElem?_eq_some_iff.1 h).1 (by simpa using hne)]
  exact h
theorem Only.setO {N M o : Nat} {a b : World} (h : Only N a b) (hM : a.heap.size ≤ M) (u : Value) : Only N a (b.setCell ⟨M, o, none⟩ u) :=
  Only.grown h (r := some M) ⟨rfl, rfl, rfl, by simp [World.setCell], fun i hi hne => Below.heap_setCell b ⟨M, o, none⟩ u i (fun e => hne (by rw [e]))⟩ (fun k hk => by injection hk with e; omega)
theorem Only.all {N M : Nat} {a b : World} (h : Only N a b) (hM : a.heap.size ≤ M) (u0 u1 u2 u3 : Value) : Only N a ((((b.setCell ⟨M, 0, none⟩ u0).setCell ⟨M, 1, none⟩ u1).setCell ⟨M, 2, none⟩ u2).setCell ⟨M, 3, none⟩ u3) :=
  (((h.setO hM u0).setO hM u1).setO hM u2).setO hM u3
/-- append(own, xs...) as one step of a region that draws; where the row lies behind it. -/
theorem step_app2 {P : Program} {ops : Array Oper} {o : Oper} {a : Act} {w : World} {K : Act → World → Prop} {Q : Exit → Act → World → Prop} {E : Prop}
    (hg : o.guard = none) (s x : Operand) (t : TypeId) (ho : o.op = .call { callee := .builtin .append, args := #[s, x], argTypes := #[t, t] })
    (base : Nat) (e : TypeId) (z : Value) (size bytes : Nat) (ht : P.underlying t = some (.slice e)) (hi : (P.info? e).map (fun i => (i.zero, i.size, i.bytes)) = some (some z, size, bytes))
    (hzs : z.cells.size = size) (hsz : 0 < size)
    (v : Value) (n : Nat) (xs : List Value) (hs : a.eval s = v) (hown : w.ownsRow base e size v n xs)
    (ad : Addr) (m c B : Nat) (news : List Value) (hx : a.eval x = .slice (some ad) m c) (hr : RowA w B size (some ad) m c news)
    (h63 : n + m ≤ maxLen) (hbytes : (n + m) * bytes ≤ 140737488355328) (hbase : base ≤ w.heap.size)
    (h : ∀ v' w', w'.ownsRow base e size v' (n + m) (xs ++ news) → w.grownBy w' v.ownBlock → (v'.ownBlock = v.ownBlock ∨ ∀ k, v'.ownBlock = some k → w.heap.size ≤ k) → K (a.put o.dst v') w') : if Region.wanted o (yielded ops a.tmps) = true then Oper.wp P o a w K Q else E := by
  have hw : Region.wanted o (yielded ops a.tmps) = true := by simp [Region.wanted, hg]
  rw [if_pos hw]
  obtain ⟨i, hi', hz, hsize, hby⟩ := info_parts hi
  obtain ⟨v', w', hrun, h2, h3, h4⟩ := run_own_where (P := P) w base t o.type e i z size bytes ht hi' hz hsize hby hzs hsz v n xs hown ad m c news hr.len hr.cells hr.one h63 hbytes hbase
  unfold Oper.wp execOp
  simp only [ho, resolve, invoke, builtin, Sem.run_bind, Sem.run_pure, Result.andThen_ok, List.map_toArray, List.map_cons, List.map_nil, hs, hx, hrun]
  exact h v' w' h2 h3 h4
theorem stay_kidsO {wr w1 w2 w3 : World} {M T sz n N : Nat} {kv kv' : Value} {css : List Value} (hown : wr.ownsRow M T sz kv n css) (hN : N < M) (h1 : Only N wr w1) (h2 : Below w1.heap.size w1 w2) (hg : w2.grownBy w3 kv.ownBlock)
    (hw : kv'.ownBlock = kv.ownBlock ∨ ∀ k, kv'.ownBlock = some k → w2.heap.size ≤ k) : Stay wr w3 (fun b => M ≤ b ∧ kv.ownBlock ≠ some b) (fun b => M ≤ b ∧ kv'.ownBlock ≠ some b) := by
  have s1 := h1.size; have s2 := h2.size; have s3 := hg.size
  refine ⟨by omega, fun b hb hlt => ?_, fun b hb hlt => ⟨hb.1, ?_⟩⟩
  · rw [hg.block b (by omega) (fun e => hb.2 e.symm), h2.block b (by omega), World.grownBy.block h1 b hlt (by simp; omega)]
  · rcases hw with hw | hw
    · rw [hw]; exact hb.2
    · intro e; have := hw b e; omega
theorem Only.drew1 {N : Nat} {a b : World} (h : Only N a b) : Only N a b.drew := h.then (Below.refl _ _).drew
/-- A box of two cells, behind more memory. -/
theorem box2_keep {w w1 : World} {c0 c1 : Value} {T : TypeId} (hb : Below (w.heap.size + 1) (w.alloc (.cells #[c0, c1] T)) w1) :
    w1.cell? ⟨w.heap.size, 0, none⟩ = some c0 ∧ w1.cell? ⟨w.heap.size, 1, none⟩ = some c1 := by
  have h : w1.heap[w.heap.size]? = some (.cells #[c0, c1] T (0, 0)) := by
    rw [hb.block w.heap.size (by omega)]
    exact heap_alloc_new w _
  refine ⟨?_, ?_⟩ <;> (rw [cell_of_row _ _ _ _ _ _ h]; rfl)
theorem below_then {B : Nat} {w w1 w2 : World} (h : Below B w w1) (h2 : Below w1.heap.size w1 w2) (hB : B ≤ w.heap.size) : Below B w w2 :=
  h.trans (h2.mono (Nat.le_trans hB h.size))
/-- A box of four cells, behind more memory. -/
theorem box_keep {w w1 : World} {c0 c1 c2 c3 : Value} {T : TypeId} (hb : Below (w.heap.size + 1) (w.alloc (.cells #[c0, c1, c2, c3] T)) w1) :
    w1.cell? ⟨w.heap.size, 0, none⟩ = some c0 ∧ w1.cell? ⟨w.heap.size, 1, none⟩ = some c1 ∧ w1.cell? ⟨w.heap.size, 2, none⟩ = some c2 ∧ w1.cell? ⟨w.heap.size, 3, none⟩ = some c3 := by
  have h : w1.heap[w.heap.size]? = some (.cells #[c0, c1, c2, c3] T (0, 0)) := by
    rw [hb.block w.heap.size (by omega)]
    exact heap_alloc_new w _
  refine ⟨?_, ?_, ?_, ?_⟩ <;> (rw [cell_of_row _ _ _ _ _ _ h]; rfl)
theorem below_box {w w1 : World} {o : Obj} (hb : Below (w.alloc o).heap.size (w.alloc o) w1) : Below (w.heap.size + 1) (w.alloc o) w1 := by
  have : (w.alloc o).heap.size = w.heap.size + 1 := by simp
  rwa [this] at hb
theorem below_unbox {w w1 : World} {o : Obj} (hb : Below (w.heap.size + 1) (w.alloc o) w1) : Below w.heap.size w w1 :=
  ((Below.refl w.heap.size w).alloc (Nat.le_refl _) o).trans (hb.mono (by omega))
theorem below_box_more {w w1 : World} {o o' : Obj} (hb : Below (w.heap.size + 1) (w.alloc o) w1) : Below (w.heap.size + 1) (w.alloc o) (w1.alloc o') :=
  hb.alloc (by have := hb.size; simp at this; omega) o'
theorem below_new (w : World) (o : Obj) : Below w.heap.size w (w.alloc o) := (Below.refl _ _).alloc (Nat.le_refl _) o
theorem props_len {w : World} {B cap n : Nat} {a : Option Addr} {cs : List Value} {sz : Nat} (h : RowA w B sz a n cap cs) : n ≤ 9223372036854775807 := by
  have h1 := h.le; have h2 := h.max; unfold maxLen at h2; omega

end Go.Proofs.Ytiinmgccjlmoaaa
