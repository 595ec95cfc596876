/- Walks: fix's remove, merge, fill; how a list of operations grows. -/
import Derived.Test.YtiinmgccjlmoaaaRHQ
import Derived.Deep.MidRow
namespace Go.Proofs.Ytiinmgccjlmoaaa
open Go.RowKit Go.Redl
set_option linter.unusedVariables false
set_option linter.unusedSimpArgs false

theorem info_op : (Try.prog.info? 62).map (fun i => (i.zero, i.size, i.bytes)) = some (some (.agg #[.int .i64 0, .slice none 0 0, .slice none 0 0, .int .i64 0, .bool false, .slice none 0 0, .slice none 0 0, .slice none 0 0, .slice none 0 0, .slice none 0 0, .slice none 0 0, .bool false, .slice none 0 0, .int .i64 0, .slice none 0 0, .int .i64 0, .bool false, .slice none 0 0, .int .i64 0, .slice none 0 0, .int .i64 0]), 21, 360) := by kernel_rfl

/-- A whole box, loaded: NO unrolling (a load of n cells costs the kernel 2^n otherwise). -/
theorem At.load {P : Program} {w : World} {N : Nat} {cs : List Value} {T : TypeId} {d : TypeDesc} (h : At w N cs T) (hu : P.underlying T = some d) (hd : d.isRow = true) (hi : (P.info? T).map (·.size) = some cs.length) : (Instr.loadAt T (.pointer (some ⟨N, 0, none⟩))).run P w = .ok (.agg cs.toArray) w :=
  run_loadAt_mid w N 0 T cs d (fun j v hj => by rw [Nat.zero_add]; exact h.cell j hj) hu hd hi

/-- A list of operations that grows: its row is its own, in no block ahead of M, and nothing that its operations lead to lies in it. -/
def OpsO (L M : Nat) (w : World) (v : Value) (l : List OpD) : Prop := ∃ css, w.ownsRow M 62 21 v l.length css ∧ OpsQ w (fun b => L ≤ b ∧ v.ownBlock ≠ some b) l css
theorem OpsO.nil (L M : Nat) (w : World) : OpsO L M w (.slice none 0 0) [] := ⟨[], World.ownsRow_nil _ _ _ _, OpsQ.nil _ _⟩
theorem OpsO.below {L M : Nat} {w w' : World} {v : Value} {l : List OpD} (h : OpsO L M w v l) (hb : Below w.heap.size w w') : OpsO L M w' v l := by
  obtain ⟨css, h1, h2⟩ := h
  exact ⟨css, own_keep h1 hb, h2.stay (stay_below hb _)⟩
theorem OpsO.ops {L M : Nat} {w : World} {v : Value} {l : List OpD} (h : OpsO L M w v l) : OpsV w l v := by
  obtain ⟨css, h1, h2⟩ := h
  exact OpsV.of_own h1 h2
theorem OpsO.form {L M : Nat} {w : World} {v : Value} {l : List OpD} (h : OpsO L M w v l) : ∃ a c, v = .slice a l.length c := by
  obtain ⟨a, c, css, hv, -, -⟩ := h.ops
  exact ⟨a, c, hv⟩
theorem OpsO.lt {L M : Nat} {w : World} {v : Value} {l : List OpD} (h : OpsO L M w v l) : ∀ b, w.heap.size ≤ b → v.ownBlock ≠ some b := by
  obtain ⟨css, h1, h2⟩ := h
  intro b hb e
  have := h1.lt b e; omega
theorem OpsO.ge {L M : Nat} {w : World} {v : Value} {l : List OpD} (h : OpsO L M w v l) : ∀ b, v.ownBlock = some b → M ≤ b := by
  obtain ⟨css, h1, h2⟩ := h
  intro b e
  exact (h1.lt b e).1
theorem OpsO.from {L L' M : Nat} {w : World} {v : Value} {l : List OpD} (h : OpsO L M w v l) (hL : L' ≤ L) : OpsO L' M w v l := by
  obtain ⟨css, h1, h2⟩ := h
  exact ⟨css, h1, h2.stay ⟨Nat.le_refl _, fun _ _ _ => rfl, fun b hb _ => ⟨Nat.le_trans hL hb.1, hb.2⟩⟩⟩
theorem OpsO.set {L M : Nat} {w : World} {v : Value} {l : List OpD} (h : OpsO L M w v l) {N o : Nat} (hN : N < M) (hL : N < L) (u : Value) : OpsO L M (w.setCell ⟨N, o, none⟩ u) v l := by
  obtain ⟨css, h1, h2⟩ := h
  refine ⟨css, ownsRow_setCell_below (a := ⟨N, o, none⟩) h1 hN _, h2.stay ⟨by simp [World.setCell], fun b hb _ => Below.heap_setCell w ⟨N, o, none⟩ u b (by show b ≠ N; omega), fun _ hb _ => hb⟩⟩
/-- One more operation put in. -/
theorem OpsO.push {L M : Nat} {w0 w' : World} {v v' : Value} {l : List OpD} {o : OpD} {c : List Value} {ob : Obj} {css : List Value} (h1 : w0.ownsRow M 62 21 v l.length css) (h2 : OpsQ w0 (fun b => L ≤ b ∧ v.ownBlock ≠ some b) l css)
    (ho : OpQ w0 (fun b => L ≤ b ∧ v.ownBlock ≠ some b) o c) (hg : (w0.alloc ob).grownBy w' v.ownBlock) (hown : w'.ownsRow M 62 21 v' (l.length + 1) (css ++ c)) (hw : v'.ownBlock = v.ownBlock ∨ ∀ k, v'.ownBlock = some k → (w0.alloc ob).heap.size ≤ k) : OpsO L M w' v' (l ++ [o]) := by
  have hs := hg.size
  have hst : Stay w0 w' (fun b => L ≤ b ∧ v.ownBlock ≠ some b) (fun b => L ≤ b ∧ v'.ownBlock ≠ some b) := by
    refine ⟨by simp at hs; omega, fun b hb hlt => ?_, fun b hb hlt => ⟨hb.1, ?_⟩⟩
    · rw [hg.block b (by simp; omega) (fun e => hb.2 e.symm), Lib.alloc_old _ _ _ hlt]
    · rcases hw with e | e
      · rw [e]; exact hb.2
      · intro e2; have := e b e2; simp at this; omega
  refine ⟨css ++ c, by rw [List.length_append]; exact hown, OpsQ.append (h2.stay hst) (OpsQ.single (ho.stay hst))⟩
theorem below_grown {M : Nat} {w0 w' : World} {ob : Obj} {v : Value} (hg : (w0.alloc ob).grownBy w' v.ownBlock) (hM : M ≤ w0.heap.size) (hv : ∀ k, v.ownBlock = some k → M ≤ k) : Below M w0 w' :=
  ((Below.refl M w0).alloc hM ob).grown hg (by simp; omega) hv
/-- append(list, operation), as a step of a region that draws. -/
theorem step_push {P : Program} {ops : Array Oper} {o : Oper} {a : Act} {w0 : World} {K : Act → World → Prop} {Q : Exit → Act → World → Prop} {E : Prop} {ob : Obj}
    (hg : o.guard = none) (s x : Operand) (ho : o.op = .call { callee := .builtin .append, args := #[s, x], argTypes := #[39, 39] })
    (ht : P.underlying 39 = some (.slice 62)) (hi : (P.info? 62).map (fun i => (i.zero, i.size, i.bytes)) = some (some (.agg #[.int .i64 0, .slice none 0 0, .slice none 0 0, .int .i64 0, .bool false, .slice none 0 0, .slice none 0 0, .slice none 0 0, .slice none 0 0, .slice none 0 0, .slice none 0 0, .bool false, .slice none 0 0, .int .i64 0, .slice none 0 0, .int .i64 0, .bool false, .slice none 0 0, .int .i64 0, .slice none 0 0, .int .i64 0]), 21, 360))
    (L M : Nat) (v : Value) (l : List OpD) (hs : a.eval s = v) (hO : OpsO L M w0 v l) (od : OpD) (c : List Value) (hob : ob = .cells c.toArray 62) (hx : a.eval x = .slice (some ⟨w0.heap.size, 0, none⟩) 1 1)
    (hq : OpQ w0 (fun b => L ≤ b ∧ v.ownBlock ≠ some b) od c) (hn : l.length ≤ 100000000) (hM : M ≤ w0.heap.size)
    (h : ∀ v' w', OpsO L M w' v' (l ++ [od]) → Below M w0 w' → K (a.put o.dst v') w') : if Region.wanted o (yielded ops a.tmps) = true then Oper.wp P o a (w0.alloc ob) K Q else E := by
  obtain ⟨css, h1, h2⟩ := hO
  subst hob
  have hat := At.fresh w0 c 62
  refine step_app2 hg s x 39 ho M 62 _ 21 360 ht hi rfl (by decide) v l.length css hs (own_keep h1 (one_below _ _)) ⟨w0.heap.size, 0, none⟩ 1 1 (w0.heap.size + 1) c hx ?_ (by unfold maxLen; omega) (by omega) (by simp; omega) fun v' w' hown hgrow hwh => ?_
  · refine ⟨by rw [hq.len], Nat.le_refl _, by unfold maxLen; omega, hq.one, (fun e => by cases e), fun _ => ⟨w0.heap.size, 0, rfl, by omega, fun j u hj => by rw [Nat.zero_add]; exact hat.cell j hj⟩⟩
  · exact h v' w' (OpsO.push h1 h2 hq hgrow hown hwh) (below_grown hgrow hM (fun k hk => (h1.lt k hk).1))
/-- One operation, just laid. -/
theorem ops_one {w : World} {o : OpD} {c : List Value} {T : TypeId} (h : OpQ w (fun _ => True) o c) : OpsV (w.alloc (.cells c.toArray T)) [o] (.slice (some ⟨w.heap.size, 0, none⟩) 1 1) := by
  have hb := one_below w (.cells c.toArray T)
  refine ⟨_, _, c, rfl, ?_, OpsQ.single (h.stay (stay_below hb _))⟩
  exact (rowq_at (ok := fun _ => True) (At.fresh w c T) 1 21 (by rw [h.len]) (by omega) h.one trivial).row
abbrev OpsP (W : World) (l : List OpD) (e : Ending) (w' : World) : Prop := ∃ v, e = .returned v ∧ OpsV w' l v ∧ Below W.heap.size W w'
theorem _root_.Go.Redl.RowQ.any {w : World} {ok : Nat → Prop} {sz n cap : Nat} {a : Option Addr} {cs : List Value} (h : RowQ w ok sz a n cap cs) : RowQ w (fun _ => True) sz a n cap cs := h.keep (Nat.le_refl _) (fun _ _ _ => rfl) (fun _ _ _ => trivial)
theorem _root_.Go.Redl.RowQ.imp {w : World} {ok ok' : Nat → Prop} {sz n cap : Nat} {a : Option Addr} {cs : List Value} (h : RowQ w ok sz a n cap cs) (f : ∀ b, ok b → ok' b) : RowQ w ok' sz a n cap cs := h.keep (Nat.le_refl _) (fun _ _ _ => rfl) (fun b hb _ => f b hb)
theorem _root_.Go.Redl.RowQ.since {w w' : World} {ok : Nat → Prop} {sz n cap : Nat} {a : Option Addr} {cs : List Value} (h : RowQ w ok sz a n cap cs) (hb : Below w.heap.size w w') : RowQ w' ok sz a n cap cs := h.keep hb.size (fun b _ hlt => hb.block b hlt) (fun _ h _ => h)
theorem _root_.Go.Redl.NodeQ.any {w : World} {ok : Nat → Prop} {n : NodeD} {cs : List Value} (h : NodeQ w ok n cs) : NodeQ w (fun _ => True) n cs := NodeQ.keep (Nat.le_refl _) (fun _ _ _ => rfl) (fun _ _ _ => trivial) n cs h
theorem _root_.Go.Redl.NodeQ.since {w w' : World} {ok : Nat → Prop} {n : NodeD} {cs : List Value} (h : NodeQ w ok n cs) (hb : Below w.heap.size w w') : NodeQ w' ok n cs := NodeQ.keep hb.size (fun b _ hlt => hb.block b hlt) (fun _ h _ => h) n cs h

/-- What a job holds, at a world: its path, its element's Kids. -/
structure JobAt (W : World) (p : List Int) (pa : Option Addr) (pc : Nat) (ks : List NodeD) (ak : Option Addr) (ck : Nat) (css : List Value) (j : Nat) : Prop where
  path : RowA W W.heap.size 1 pa p.length pc (p.map (Value.int .i64))
  pl : p.length ≤ 100000
  kids : RowA W W.heap.size 4 ak ks.length ck css
  kids' : KidsC W W.heap.size ks css
  kl : wtAll ks ≤ 100000000
  at_ : j ≤ 100000000
theorem JobAt.keep {W w : World} {p : List Int} {pa : Option Addr} {pc : Nat} {ks : List NodeD} {ak : Option Addr} {ck : Nat} {css : List Value} {j : Nat} (h : JobAt W p pa pc ks ak ck css j) (hb : Below W.heap.size W w) : JobAt w p pa pc ks ak ck css j :=
  ⟨h.path.keep hb hb.size, h.pl, h.kids.keep hb hb.size, KidsC.keep hb hb.size _ _ h.kids', h.kl, h.at_⟩

theorem At.s16 {w : World} {N : Nat} {c0 c1 c2 c3 c4 c5 c6 c7 c8 c9 c10 c11 c12 c13 c14 c15 : Value} {T : TypeId} (h : At w N [c0, c1, c2, c3, c4, c5, c6, c7, c8, c9, c10, c11, c12, c13, c14, c15] T) (d0 d1 d2 d3 d4 d5 d6 d7 d8 d9 d10 d11 d12 d13 d14 d15 : Value) : At ((((((((((((((((w.setCell ⟨N, 0, none⟩ d0).setCell ⟨N, 1, none⟩ d1).setCell ⟨N, 2, none⟩ d2).setCell ⟨N, 3, none⟩ d3).setCell ⟨N, 4, none⟩ d4).setCell ⟨N, 5, none⟩ d5).setCell ⟨N, 6, none⟩ d6).setCell ⟨N, 7, none⟩ d7).setCell ⟨N, 8, none⟩ d8).setCell ⟨N, 9, none⟩ d9).setCell ⟨N, 10, none⟩ d10).setCell ⟨N, 11, none⟩ d11).setCell ⟨N, 12, none⟩ d12).setCell ⟨N, 13, none⟩ d13).setCell ⟨N, 14, none⟩ d14).setCell ⟨N, 15, none⟩ d15) N [d0, d1, d2, d3, d4, d5, d6, d7, d8, d9, d10, d11, d12, d13, d14, d15] T := by
  have h0 : At (w.setCell ⟨N, 0, none⟩ d0) N [d0, c1, c2, c3, c4, c5, c6, c7, c8, c9, c10, c11, c12, c13, c14, c15] T := h.set 0 d0
  have h1 : At ((w.setCell ⟨N, 0, none⟩ d0).setCell ⟨N, 1, none⟩ d1) N [d0, d1, c2, c3, c4, c5, c6, c7, c8, c9, c10, c11, c12, c13, c14, c15] T := h0.set 1 d1
  have h2 : At (((w.setCell ⟨N, 0, none⟩ d0).setCell ⟨N, 1, none⟩ d1).setCell ⟨N, 2, none⟩ d2) N [d0, d1, d2, c3, c4, c5, c6, c7, c8, c9, c10, c11, c12, c13, c14, c15] T := h1.set 2 d2
  have h3 : At ((((w.setCell ⟨N, 0, none⟩ d0).setCell ⟨N, 1, none⟩ d1).setCell ⟨N, 2, none⟩ d2).setCell ⟨N, 3, none⟩ d3) N [d0, d1, d2, d3, c4, c5, c6, c7, c8, c9, c10, c11, c12, c13, c14, c15] T := h2.set 3 d3
  have h4 : At (((((w.setCell ⟨N, 0, none⟩ d0).setCell ⟨N, 1, none⟩ d1).setCell ⟨N, 2, none⟩ d2).setCell ⟨N, 3, none⟩ d3).setCell ⟨N, 4, none⟩ d4) N [d0, d1, d2, d3, d4, c5, c6, c7, c8, c9, c10, c11, c12, c13, c14, c15] T := h3.set 4 d4
  have h5 : At ((((((w.setCell ⟨N, 0, none⟩ d0).setCell ⟨N, 1, none⟩ d1).setCell ⟨N, 2, none⟩ d2).setCell ⟨N, 3, none⟩ d3).setCell ⟨N, 4, none⟩ d4).setCell ⟨N, 5, none⟩ d5) N [d0, d1, d2, d3, d4, d5, c6, c7, c8, c9, c10, c11, c12, c13, c14, c15] T := h4.set 5 d5
  have h6 : At (((((((w.setCell ⟨N, 0, none⟩ d0).setCell ⟨N, 1, none⟩ d1).setCell ⟨N, 2, none⟩ d2).setCell ⟨N, 3, none⟩ d3).setCell ⟨N, 4, none⟩ d4).setCell ⟨N, 5, none⟩ d5).setCell ⟨N, 6, none⟩ d6) N [d0, d1, d2, d3, d4, d5, d6, c7, c8, c9, c10, c11, c12, c13, c14, c15] T := h5.set 6 d6
  have h7 : At ((((((((w.setCell ⟨N, 0, none⟩ d0).setCell ⟨N, 1, none⟩ d1).setCell ⟨N, 2, none⟩ d2).setCell ⟨N, 3, none⟩ d3).setCell ⟨N, 4, none⟩ d4).setCell ⟨N, 5, none⟩ d5).setCell ⟨N, 6, none⟩ d6).setCell ⟨N, 7, none⟩ d7) N [d0, d1, d2, d3, d4, d5, d6, d7, c8, c9, c10, c11, c12, c13, c14, c15] T := h6.set 7 d7
  have h8 : At (((((((((w.setCell ⟨N, 0, none⟩ d0).setCell ⟨N, 1, none⟩ d1).setCell ⟨N, 2, none⟩ d2).setCell ⟨N, 3, none⟩ d3).setCell ⟨N, 4, none⟩ d4).setCell ⟨N, 5, none⟩ d5).setCell ⟨N, 6, none⟩ d6).setCell ⟨N, 7, none⟩ d7).setCell ⟨N, 8, none⟩ d8) N [d0, d1, d2, d3, d4, d5, d6, d7, d8, c9, c10, c11, c12, c13, c14, c15] T := h7.set 8 d8
  have h9 : At ((((((((((w.setCell ⟨N, 0, none⟩ d0).setCell ⟨N, 1, none⟩ d1).setCell ⟨N, 2, none⟩ d2).setCell ⟨N, 3, none⟩ d3).setCell ⟨N, 4, none⟩ d4).setCell ⟨N, 5, none⟩ d5).setCell ⟨N, 6, none⟩ d6).setCell ⟨N, 7, none⟩ d7).setCell ⟨N, 8, none⟩ d8).setCell ⟨N, 9, none⟩ d9) N [d0, d1, d2, d3, d4, d5, d6, d7, d8, d9, c10, c11, c12, c13, c14, c15] T := h8.set 9 d9
  have h10 : At (((((((((((w.setCell ⟨N, 0, none⟩ d0).setCell ⟨N, 1, none⟩ d1).setCell ⟨N, 2, none⟩ d2).setCell ⟨N, 3, none⟩ d3).setCell ⟨N, 4, none⟩ d4).setCell ⟨N, 5, none⟩ d5).setCell ⟨N, 6, none⟩ d6).setCell ⟨N, 7, none⟩ d7).setCell ⟨N, 8, none⟩ d8).setCell ⟨N, 9, none⟩ d9).setCell ⟨N, 10, none⟩ d10) N [d0, d1, d2, d3, d4, d5, d6, d7, d8, d9, d10, c11, c12, c13, c14, c15] T := h9.set 10 d10
  have h11 : At ((((((((((((w.setCell ⟨N, 0, none⟩ d0).setCell ⟨N, 1, none⟩ d1).setCell ⟨N, 2, none⟩ d2).setCell ⟨N, 3, none⟩ d3).setCell ⟨N, 4, none⟩ d4).setCell ⟨N, 5, none⟩ d5).setCell ⟨N, 6, none⟩ d6).setCell ⟨N, 7, none⟩ d7).setCell ⟨N, 8, none⟩ d8).setCell ⟨N, 9, none⟩ d9).setCell ⟨N, 10, none⟩ d10).setCell ⟨N, 11, none⟩ d11) N [d0, d1, d2, d3, d4, d5, d6, d7, d8, d9, d10, d11, c12, c13, c14, c15] T := h10.set 11 d11
  have h12 : At (((((((((((((w.setCell ⟨N, 0, none⟩ d0).setCell ⟨N, 1, none⟩ d1).setCell ⟨N, 2, none⟩ d2).setCell ⟨N, 3, none⟩ d3).setCell ⟨N, 4, none⟩ d4).setCell ⟨N, 5, none⟩ d5).setCell ⟨N, 6, none⟩ d6).setCell ⟨N, 7, none⟩ d7).setCell ⟨N, 8, none⟩ d8).setCell ⟨N, 9, none⟩ d9).setCell ⟨N, 10, none⟩ d10).setCell ⟨N, 11, none⟩ d11).setCell ⟨N, 12, none⟩ d12) N [d0, d1, d2, d3, d4, d5, d6, d7, d8, d9, d10, d11, d12, c13, c14, c15] T := h11.set 12 d12
  have h13 : At ((((((((((((((w.setCell ⟨N, 0, none⟩ d0).setCell ⟨N, 1, none⟩ d1).setCell ⟨N, 2, none⟩ d2).setCell ⟨N, 3, none⟩ d3).setCell ⟨N, 4, none⟩ d4).setCell ⟨N, 5, none⟩ d5).setCell ⟨N, 6, none⟩ d6).setCell ⟨N, 7, none⟩ d7).setCell ⟨N, 8, none⟩ d8).setCell ⟨N, 9, none⟩ d9).setCell ⟨N, 10, none⟩ d10).setCell ⟨N, 11, none⟩ d11).setCell ⟨N, 12, none⟩ d12).setCell ⟨N, 13, none⟩ d13) N [d0, d1, d2, d3, d4, d5, d6, d7, d8, d9, d10, d11, d12, d13, c14, c15] T := h12.set 13 d13
  have h14 : At (((((((((((((((w.setCell ⟨N, 0, none⟩ d0).setCell ⟨N, 1, none⟩ d1).setCell ⟨N, 2, none⟩ d2).setCell ⟨N, 3, none⟩ d3).setCell ⟨N, 4, none⟩ d4).setCell ⟨N, 5, none⟩ d5).setCell ⟨N, 6, none⟩ d6).setCell ⟨N, 7, none⟩ d7).setCell ⟨N, 8, none⟩ d8).setCell ⟨N, 9, none⟩ d9).setCell ⟨N, 10, none⟩ d10).setCell ⟨N, 11, none⟩ d11).setCell ⟨N, 12, none⟩ d12).setCell ⟨N, 13, none⟩ d13).setCell ⟨N, 14, none⟩ d14) N [d0, d1, d2, d3, d4, d5, d6, d7, d8, d9, d10, d11, d12, d13, d14, c15] T := h13.set 14 d14
  exact h14.set 15 d15
theorem At.n16 {w : World} {N M : Nat} {cs : List Value} {T : TypeId} (h : At w M cs T) (hne : M ≠ N) (d0 d1 d2 d3 d4 d5 d6 d7 d8 d9 d10 d11 d12 d13 d14 d15 : Value) : At ((((((((((((((((w.setCell ⟨N, 0, none⟩ d0).setCell ⟨N, 1, none⟩ d1).setCell ⟨N, 2, none⟩ d2).setCell ⟨N, 3, none⟩ d3).setCell ⟨N, 4, none⟩ d4).setCell ⟨N, 5, none⟩ d5).setCell ⟨N, 6, none⟩ d6).setCell ⟨N, 7, none⟩ d7).setCell ⟨N, 8, none⟩ d8).setCell ⟨N, 9, none⟩ d9).setCell ⟨N, 10, none⟩ d10).setCell ⟨N, 11, none⟩ d11).setCell ⟨N, 12, none⟩ d12).setCell ⟨N, 13, none⟩ d13).setCell ⟨N, 14, none⟩ d14).setCell ⟨N, 15, none⟩ d15) M cs T :=
  (((((((((((((((h.set_ne hne _).set_ne hne _).set_ne hne _).set_ne hne _).set_ne hne _).set_ne hne _).set_ne hne _).set_ne hne _).set_ne hne _).set_ne hne _).set_ne hne _).set_ne hne _).set_ne hne _).set_ne hne _).set_ne hne _).set_ne hne _
theorem below_s16 {B : Nat} {W w : World} {N : Nat} (h : Below B W w) (hN : B ≤ N) (d0 d1 d2 d3 d4 d5 d6 d7 d8 d9 d10 d11 d12 d13 d14 d15 : Value) : Below B W ((((((((((((((((w.setCell ⟨N, 0, none⟩ d0).setCell ⟨N, 1, none⟩ d1).setCell ⟨N, 2, none⟩ d2).setCell ⟨N, 3, none⟩ d3).setCell ⟨N, 4, none⟩ d4).setCell ⟨N, 5, none⟩ d5).setCell ⟨N, 6, none⟩ d6).setCell ⟨N, 7, none⟩ d7).setCell ⟨N, 8, none⟩ d8).setCell ⟨N, 9, none⟩ d9).setCell ⟨N, 10, none⟩ d10).setCell ⟨N, 11, none⟩ d11).setCell ⟨N, 12, none⟩ d12).setCell ⟨N, 13, none⟩ d13).setCell ⟨N, 14, none⟩ d14).setCell ⟨N, 15, none⟩ d15) :=
  (((((((((((((((h.setCell (p := ⟨N, 0, none⟩) hN _).setCell (p := ⟨N, 1, none⟩) hN _).setCell (p := ⟨N, 2, none⟩) hN _).setCell (p := ⟨N, 3, none⟩) hN _).setCell (p := ⟨N, 4, none⟩) hN _).setCell (p := ⟨N, 5, none⟩) hN _).setCell (p := ⟨N, 6, none⟩) hN _).setCell (p := ⟨N, 7, none⟩) hN _).setCell (p := ⟨N, 8, none⟩) hN _).setCell (p := ⟨N, 9, none⟩) hN _).setCell (p := ⟨N, 10, none⟩) hN _).setCell (p := ⟨N, 11, none⟩) hN _).setCell (p := ⟨N, 12, none⟩) hN _).setCell (p := ⟨N, 13, none⟩) hN _).setCell (p := ⟨N, 14, none⟩) hN _).setCell (p := ⟨N, 15, none⟩) hN _
theorem rowq_s16 {w : World} {ok : Nat → Prop} {sz n cap N : Nat} {a : Option Addr} {cs : List Value} (h : RowQ w ok sz a n cap cs) (hne : ¬ ok N) (d0 d1 d2 d3 d4 d5 d6 d7 d8 d9 d10 d11 d12 d13 d14 d15 : Value) : RowQ ((((((((((((((((w.setCell ⟨N, 0, none⟩ d0).setCell ⟨N, 1, none⟩ d1).setCell ⟨N, 2, none⟩ d2).setCell ⟨N, 3, none⟩ d3).setCell ⟨N, 4, none⟩ d4).setCell ⟨N, 5, none⟩ d5).setCell ⟨N, 6, none⟩ d6).setCell ⟨N, 7, none⟩ d7).setCell ⟨N, 8, none⟩ d8).setCell ⟨N, 9, none⟩ d9).setCell ⟨N, 10, none⟩ d10).setCell ⟨N, 11, none⟩ d11).setCell ⟨N, 12, none⟩ d12).setCell ⟨N, 13, none⟩ d13).setCell ⟨N, 14, none⟩ d14).setCell ⟨N, 15, none⟩ d15) ok sz a n cap cs :=
  rowq_set (rowq_set (rowq_set (rowq_set (rowq_set (rowq_set (rowq_set (rowq_set (rowq_set (rowq_set (rowq_set (rowq_set (rowq_set (rowq_set (rowq_set (rowq_set h hne) hne) hne) hne) hne) hne) hne) hne) hne) hne) hne) hne) hne) hne) hne) hne

theorem prop_cl_ent : ∀ args w, (callFunc 61 args).run Try.prog w = .ok (.enter 61 args) w := by intro args w; kernel_rfl

set_option maxRecDepth 100000 in
set_option maxHeartbeats 2000000 in
theorem remove_c (p : List Int) (pa : Option Addr) (pc : Nat) (ks : List NodeD) (ak : Option Addr) (ck : Nat) (css : List Value) (v1 v2 v3 v5 v6 v7 v8 v9 v10 v11 v12 v13 v15 : Value) (j : Nat) (W : World)
    (hJ : JobAt W p pa pc ks ak ck css j) (hj : j < ks.length) :
    Calls Try.prog 27 #[.agg #[.slice pa p.length pc, v1, v2, v3, .slice ak ks.length ck, v5, v6, v7, v8, v9, v10, v11, v12, v13, .int .i64 j, v15]] W (OpsP W [⟨2, p ++ [(j : Int)], [], 0, kidAt ks j, []⟩]) := by
  have hkl : ks.length ≤ 100000000 := by have := wtAll_len ks; have := hJ.kl; omega
  have hqw : (kidAt ks j).wt ≤ 100000000 := by rw [kid_get hj]; have := wtAll_mem (List.getElem_mem hj); have := hJ.kl; omega
  have hAt := fun (w1 : World) (hb : Below W.heap.size W w1) => jat_c p pa pc v1 v2 v3 (.slice ak ks.length ck) v5 v6 v7 v8 v9 v10 v11 v12 v13 v15 j 0 w1 (hJ.keep hb).path hJ.pl hJ.at_ (by omega) (by omega)
  rw [Int.add_zero] at hAt
  have HAt := Lib.hid hAt
  have HKd := Lib.hid (fun (w1 : World) (hb : Below W.heap.size W w1) => jkid_c ks ak ck css (.slice pa p.length pc) v1 v2 v3 v5 v6 v7 v8 v9 v10 v11 v12 v13 v15 j w1 (hJ.keep hb).kids (hJ.keep hb).kids' hj hkl)
  generalize kidAt ks j = q at HKd hqw ⊢
  generalize p ++ [(j : Int)] = zs at HAt ⊢
  have HC := Lib.hid (fun (v : Value) (w1 : World) (hv : NodeV w1 w1.heap.size q v) => copy_c _ q v w1 (Nat.le_refl _) hqw hv)
  obtain ⟨w0, hw0⟩ : ∃ w0, w0 = W.alloc (Obj.cells #[.slice pa p.length pc, v1, v2, v3, .slice ak ks.length ck, v5, v6, v7, v8, v9, v10, v11, v12, v13, .int .i64 j, v15] 72) := ⟨_, rfl⟩
  have HB := Lib.hid (show At w0 W.heap.size [.slice pa p.length pc, v1, v2, v3, .slice ak ks.length ck, v5, v6, v7, v8, v9, v10, v11, v12, v13, .int .i64 j, v15] 72 by rw [hw0]; exact At.fresh _ _ _)
  have Hb0 := Lib.hid (show Below W.heap.size W w0 by rw [hw0]; exact one_below _ _)
  have Hw0 := Lib.hid hw0
  have HS0 := Lib.hid (fun (w' : World) (hb : Below w0.heap.size w0 w') => HB.out.kept hb)
  have hld := fun (w' : World) (h : At w' W.heap.size [.slice pa p.length pc, v1, v2, v3, .slice ak ks.length ck, v5, v6, v7, v8, v9, v10, v11, v12, v13, .int .i64 j, v15] 72) => At.load (P := Try.prog) h Try.underlying72 rfl (by kernel_rfl)
  simp [go_sem] at hld
  have HAt2 := Lib.hid (fun (w1 : World) (hb : Below w0.heap.size w0 w1) => HAt.out w1 (Hb0.out.trans (hb.mono Hb0.out.size)))
  have HKd2 := Lib.hid (fun (w1 : World) (hb : Below w0.heap.size w0 w1) => HKd.out w1 (Hb0.out.trans (hb.mono Hb0.out.size)))
  clear hAt hw0 hJ hj hqw HAt HKd
  go_enter Try.func27, Try.ntmps27
  go_upto_region 1 with fail
  rw [← Hw0.out]
  clear Hw0
  go_region_held3 (fun w' => At w' W.heap.size [.slice pa p.length pc, v1, v2, v3, .slice ak ks.length ck, v5, v6, v7, v8, v9, v10, v11, v12, v13, .int .i64 j, v15] 72) (refine HS0.out _ (by ((repeat (first | with_reducible exact Hb3.out | with_reducible exact Hb2.out | with_reducible exact Hb1.out | with_reducible exact Below.refl _ _ | with_reducible refine Below.drew ?_ | with_reducible refine Below.alloc ?_ ?_ _ | with_reducible refine Below.setCell ?_ ?_ _)) <;> (first | with_reducible exact Nat.le_refl _ | with_reducible exact Hb3.out.size | with_reducible exact Hb2.out.size | with_reducible exact Hb1.out.size | (have hsz := Hb3.out.size; simp [World.setCell]; omega) | (have hsz := Hb2.out.size; simp [World.setCell]; omega) | (have hsz := Hb1.out.size; simp [World.setCell]; omega) | (simp; done) | (simp; omega) | omega))))
    (first
    | (refine step_call rfl 57 _ _ rfl jat_ent [.agg #[.slice pa p.length pc, v1, v2, v3, .slice ak ks.length ck, v5, v6, v7, v8, v9, v10, v11, v12, v13, .int .i64 j, v15], .int .i64 0] ?_ _ (HAt2.out _ (by ((repeat (first | with_reducible exact Below.refl _ _ | with_reducible refine Below.drew ?_ | with_reducible refine Below.alloc ?_ ?_ _ | with_reducible refine Below.setCell ?_ ?_ _)) <;> (first | with_reducible exact Nat.le_refl _ | (simp; done) | (simp; omega) | omega)))) ?_
       · go_simp
       rintro e w1 ⟨za, zc, rfl, hq, hbel⟩
       refine ⟨_, rfl, ?_⟩
       have Hb1 := Lib.hid (Below.and (w0 := w0) (by ((repeat (first | with_reducible exact Below.refl _ _ | with_reducible refine Below.drew ?_ | with_reducible refine Below.alloc ?_ ?_ _ | with_reducible refine Below.setCell ?_ ?_ _)) <;> (first | with_reducible exact Nat.le_refl _ | (simp; done) | (simp; omega) | omega))) hbel)
       have Hz := Lib.hid hq.any
       clear hbel hq)
    | (refine step_call rfl 58 _ _ rfl jkid_ent [.agg #[.slice pa p.length pc, v1, v2, v3, .slice ak ks.length ck, v5, v6, v7, v8, v9, v10, v11, v12, v13, .int .i64 j, v15]] ?_ _ (HKd2.out _ (by ((repeat (first | with_reducible exact Hb1.out | with_reducible exact Below.refl _ _ | with_reducible refine Below.drew ?_ | with_reducible refine Below.alloc ?_ ?_ _ | with_reducible refine Below.setCell ?_ ?_ _)) <;> (first | with_reducible exact Nat.le_refl _ | with_reducible exact Hb1.out.size | (have hsz := Hb1.out.size; simp [World.setCell]; omega) | (simp; done) | (simp; omega) | omega)))) ?_
       · go_simp
       rintro e w2 ⟨kv, rfl, hkv, hbel⟩
       refine ⟨_, rfl, ?_⟩
       have Hb2 := Lib.hid (Below.and (w0 := w0) (by ((repeat (first | with_reducible exact Hb1.out | with_reducible exact Below.refl _ _ | with_reducible refine Below.drew ?_ | with_reducible refine Below.alloc ?_ ?_ _ | with_reducible refine Below.setCell ?_ ?_ _)) <;> (first | with_reducible exact Nat.le_refl _ | with_reducible exact Hb1.out.size | (have hsz := Hb1.out.size; simp [World.setCell]; omega) | (simp; done) | (simp; omega) | omega))) hbel)
       have Hs2 := Lib.hid hbel
       have Hkv := Lib.hid hkv
       clear hbel hkv)
    | (refine step_call rfl 40 _ _ rfl copy_ent [kv] ?_ _ (HC.out kv _ Hkv.out) ?_
       · go_simp
       rintro e w3 ⟨cs, rfl, hn, hbel⟩
       obtain ⟨l, a1, n1, c1, a2, n2, c2, a3, n3, c3, rfl⟩ := hn.form
       refine ⟨_, rfl, ?_⟩
       have Hb3 := Lib.hid (Below.and (w0 := w0) (by ((repeat (first | with_reducible exact Hb2.out | with_reducible exact Below.refl _ _ | with_reducible refine Below.drew ?_ | with_reducible refine Below.alloc ?_ ?_ _ | with_reducible refine Below.setCell ?_ ?_ _)) <;> (first | with_reducible exact Nat.le_refl _ | with_reducible exact Hb2.out.size | (have hsz := Hb2.out.size; simp [World.setCell]; omega) | (simp; done) | (simp; omega) | omega))) hbel)
       have Hs3 := Lib.hid hbel
       have Hn := Lib.hid hn.any
       clear hbel hn))
  all_goals
    go_wp2_with fail
    go_ret
    refine ⟨_, rfl, ops_one (o := ⟨2, zs, [], 0, q, []⟩) ⟨za, zc, none, 0, _, _, _, _, none, 0, rfl, (Hz.out.since Hs2.out).since Hs3.out, RowQ.empty _ _ _, Hn.out, RowQ.empty _ _ _⟩, Hb0.out.trans ((Hb3.out.alloc Hb3.out.size _).mono Hb0.out.size)⟩

end Go.Proofs.Ytiinmgccjlmoaaa
