/- Parts of the proof, one behind the other: RHR, ROR, RVM, ROS. -/
import Derived.Test.YtbommcakcmhalaaGreatDoorLM14
import Derived.Deep.MidRow
import Derived.Test.YtbommcakcmhalaaGreatDoorLM11
import Derived.Test.YtbommcakcmhalaaGreatDoorLM1
import Derived.MapKept
import Derived.ChangeMaps4
/- Walks: fix's remove, merge, fill; how a list of operations grows. -/
set_option linter.unusedVariables false
set_option linter.unusedSimpArgs false
set_option maxHeartbeats 2000000
set_option maxRecDepth 100000
namespace Go.Proofs.YtbommcakcmhalaaGreatDoor
open Go.RowKit Go.Redl
theorem info_op : (Tryz.prog.info? 63).map (fun i => (i.zero, i.size, i.bytes)) = some (some (.agg #[.int .i64 0, .slice none 0 0, .slice none 0 0, .int .i64 0, .bool false, .slice none 0 0, .slice none 0 0, .slice none 0 0, .slice none 0 0, .slice none 0 0, .slice none 0 0, .bool false, .slice none 0 0, .int .i64 0, .slice none 0 0, .int .i64 0, .bool false, .slice none 0 0, .int .i64 0, .slice none 0 0, .int .i64 0]), 21, 360) := by kernel_rfl
/-- A whole box, loaded: NO unrolling (a load of n cells costs the kernel 2^n otherwise). -/
theorem At.load {P : Program} {w : World} {N : Nat} {cs : List Value} {T : TypeId} {d : TypeDesc} (h : At w N cs T) (hu : P.underlying T = some d) (hd : d.isRow = true) (hi : (P.info? T).map (·.size) = some cs.length) : (Instr.loadAt T (.pointer (some ⟨N, 0, none⟩))).run P w = .ok (.agg cs.toArray) w :=
 run_loadAt_mid w N 0 T cs d (fun j v hj => by rw [Nat.zero_add]; exact h.cell j hj) hu hd hi
/-- A list of operations that grows: its row is its own, in no block ahead of M, and nothing that its operations lead to lies in it. -/
def OpsO (L M : Nat) (w : World) (v : Value) (l : List OpD) : Prop := ∃ css, w.ownsRow M 63 21 v l.length css /\ OpsQ w (fun b => L <= b /\ v.ownBlock ≠ some b) l css
theorem OpsO.nil (L M : Nat) (w : World) : OpsO L M w (.slice none 0 0) [] := ⟨[], World.ownsRow_nil _ _ _ _, OpsQ.nil _ _⟩
theorem OpsO.below {L M : Nat} {w w' : World} {v : Value} {l : List OpD} (h : OpsO L M w v l) (hb : Below w.heap.size w w') : OpsO L M w' v l := by
 obtain ⟨css, h1, h2⟩ := h
 exact ⟨css, own_keep h1 hb, h2.stay (stay_below hb _)⟩
theorem OpsO.ops {L M : Nat} {w : World} {v : Value} {l : List OpD} (h : OpsO L M w v l) : OpsV w l v := by
 obtain ⟨css, h1, h2⟩ := h
 exact OpsV.of_own h1 h2
theorem OpsO.form {L M : Nat} {w : World} {v : Value} {l : List OpD} (h : OpsO L M w v l) : ∃ a c, v = .slice a l.length c := by
 obtain ⟨a, c, css, hv, -, -⟩ := h.ops
 exact ⟨a, c, hv⟩
theorem OpsO.lt {L M : Nat} {w : World} {v : Value} {l : List OpD} (h : OpsO L M w v l) : ∀ b, w.heap.size <= b -> v.ownBlock ≠ some b := by
 obtain ⟨css, h1, h2⟩ := h
 intro b hb e
 have := h1.lt b e; omega
theorem OpsO.ge {L M : Nat} {w : World} {v : Value} {l : List OpD} (h : OpsO L M w v l) : ∀ b, v.ownBlock = some b -> M <= b := by
 obtain ⟨css, h1, h2⟩ := h
 intro b e
 exact (h1.lt b e).1
theorem OpsO.from {L L' M : Nat} {w : World} {v : Value} {l : List OpD} (h : OpsO L M w v l) (hL : L' <= L) : OpsO L' M w v l := by
 obtain ⟨css, h1, h2⟩ := h
 exact ⟨css, h1, h2.stay ⟨Nat.le_refl _, fun _ _ _ => rfl, fun b hb _ => ⟨Nat.le_trans hL hb.1, hb.2⟩⟩⟩
theorem OpsO.set {L M : Nat} {w : World} {v : Value} {l : List OpD} (h : OpsO L M w v l) {N o : Nat} (hN : N < M) (hL : N < L) (u : Value) : OpsO L M (w.setCell ⟨N, o, none⟩ u) v l := by
 obtain ⟨css, h1, h2⟩ := h
 refine ⟨css, ownsRow_setCell_below (a := ⟨N, o, none⟩) h1 hN _, h2.stay ⟨by simp [World.setCell], fun b hb _ => Below.heap_setCell w ⟨N, o, none⟩ u b (by show b ≠ N; omega), fun _ hb _ => hb⟩⟩
/-- One more operation put in. -/
theorem OpsO.push {L M : Nat} {w0 w' : World} {v v' : Value} {l : List OpD} {o : OpD} {c : List Value} {ob : Obj} {css : List Value} (h1 : w0.ownsRow M 63 21 v l.length css) (h2 : OpsQ w0 (fun b => L <= b /\ v.ownBlock ≠ some b) l css)
 (ho : OpQ w0 (fun b => L <= b /\ v.ownBlock ≠ some b) o c) (hg : (w0.alloc ob).grownBy w' v.ownBlock) (hown : w'.ownsRow M 63 21 v' (l.length + 1) (css ++ c)) (hw : v'.ownBlock = v.ownBlock ∨ ∀ k, v'.ownBlock = some k -> (w0.alloc ob).heap.size <= k) : OpsO L M w' v' (l ++ [o]) := by
 have hs := hg.size
 have hst : Stay w0 w' (fun b => L <= b /\ v.ownBlock ≠ some b) (fun b => L <= b /\ v'.ownBlock ≠ some b) := by
  refine ⟨by simp at hs; omega, fun b hb hlt => ?_, fun b hb hlt => ⟨hb.1, ?_⟩⟩
  . rw [hg.block b (by simp; omega) (fun e => hb.2 e.symm), Lib.alloc_old _ _ _ hlt]
  . rcases hw with e | e
    . rw [e]; exact hb.2
    . intro e2; have := e b e2; simp at this; omega
 refine ⟨css ++ c, by rw [List.length_append]; exact hown, OpsQ.append (h2.stay hst) (OpsQ.single (ho.stay hst))⟩
theorem below_grown {M : Nat} {w0 w' : World} {ob : Obj} {v : Value} (hg : (w0.alloc ob).grownBy w' v.ownBlock) (hM : M <= w0.heap.size) (hv : ∀ k, v.ownBlock = some k -> M <= k) : Below M w0 w' :=
 ((Below.refl M w0).alloc hM ob).grown hg (by simp; omega) hv
/-- append(list, operation), as a step of a region that draws. -/
theorem step_push {P : Program} {ops : Array Oper} {o : Oper} {a : Act} {w0 : World} {K : Act -> World -> Prop} {Q : Exit -> Act -> World -> Prop} {E : Prop} {ob : Obj}
 (hg : o.guard = none) (s x : Operand) (ho : o.op = .call { callee := .builtin .append, args := #[s, x], argTypes := #[42, 42] })
 (ht : P.underlying 42 = some (.slice 63)) (hi : (P.info? 63).map (fun i => (i.zero, i.size, i.bytes)) = some (some (.agg #[.int .i64 0, .slice none 0 0, .slice none 0 0, .int .i64 0, .bool false, .slice none 0 0, .slice none 0 0, .slice none 0 0, .slice none 0 0, .slice none 0 0, .slice none 0 0, .bool false, .slice none 0 0, .int .i64 0, .slice none 0 0, .int .i64 0, .bool false, .slice none 0 0, .int .i64 0, .slice none 0 0, .int .i64 0]), 21, 360))
 (L M : Nat) (v : Value) (l : List OpD) (hs : a.eval s = v) (hO : OpsO L M w0 v l) (od : OpD) (c : List Value) (hob : ob = .cells c.toArray 63) (hx : a.eval x = .slice (some ⟨w0.heap.size, 0, none⟩) 1 1)
 (hq : OpQ w0 (fun b => L <= b /\ v.ownBlock ≠ some b) od c) (hn : l.length <= 100000000) (hM : M <= w0.heap.size)
 (h : ∀ v' w', OpsO L M w' v' (l ++ [od]) -> Below M w0 w' -> K (a.put o.dst v') w') : if Region.wanted o (yielded ops a.tmps) = true then Oper.wp P o a (w0.alloc ob) K Q else E := by
 obtain ⟨css, h1, h2⟩ := hO
 subst hob
 have hat := At.fresh w0 c 63
 refine step_app2 hg s x 42 ho M 63 _ 21 360 ht hi rfl (by decide) v l.length css hs (own_keep h1 (one_below _ _)) ⟨w0.heap.size, 0, none⟩ 1 1 (w0.heap.size + 1) c hx ?_ (by unfold maxLen; omega) (by omega) (by simp; omega) fun v' w' hown hgrow hwh => ?_
 . refine ⟨by rw [hq.len], Nat.le_refl _, by unfold maxLen; omega, hq.one, (fun e => by cases e), fun _ => ⟨w0.heap.size, 0, rfl, by omega, fun j u hj => by rw [Nat.zero_add]; exact hat.cell j hj⟩⟩
 . exact h v' w' (OpsO.push h1 h2 hq hgrow hown hwh) (below_grown hgrow hM (fun k hk => (h1.lt k hk).1))
/-- A list of operations that leads to no block ahead of B. -/
def OpsF (B : Nat) (w : World) (l : List OpD) (v : Value) : Prop := ∃ a c css, v = .slice a l.length c /\ RowQ w (fun b => B <= b) 21 a l.length c css /\ OpsQ w (fun b => B <= b) l css
theorem OpsF.ops {B : Nat} {w : World} {l : List OpD} {v : Value} (h : OpsF B w l v) : OpsV w l v := by
 obtain ⟨a, c, css, rfl, h1, h2⟩ := h
 exact ⟨a, c, css, rfl, h1.row, h2.stay ⟨Nat.le_refl _, fun _ _ _ => rfl, fun _ _ _ => trivial⟩⟩
theorem OpsF.from {B B' : Nat} {w : World} {l : List OpD} {v : Value} (h : OpsF B w l v) (hB : B' <= B) : OpsF B' w l v := by
 obtain ⟨a, c, css, rfl, h1, h2⟩ := h
 exact ⟨a, c, css, rfl, h1.keep (Nat.le_refl _) (fun _ _ _ => rfl) (fun b hb _ => Nat.le_trans hB hb), h2.stay ⟨Nat.le_refl _, fun _ _ _ => rfl, fun b hb _ => Nat.le_trans hB hb⟩⟩
theorem OpsF.nil (B : Nat) (w : World) : OpsF B w [] (.slice none 0 0) := ⟨none, 0, [], rfl, RowQ.empty _ _ _, OpsQ.nil _ _⟩
theorem OpsO.opsF {B L M : Nat} {w : World} {v : Value} {l : List OpD} (h : OpsO L M w v l) (hL : B <= L) (hM : B <= M) : OpsF B w l v := by
 obtain ⟨css, h1, h2⟩ := h
 obtain ⟨a, c, hv, hq⟩ := rowq_own h1 (OpsQ.one h2)
 exact ⟨a, c, css, hv, hq.keep (Nat.le_refl _) (fun _ _ _ => rfl) (fun b hb _ => Nat.le_trans hM hb), h2.stay ⟨Nat.le_refl _, fun _ _ _ => rfl, fun b hb _ => Nat.le_trans hL hb.1⟩⟩
/-- One operation, just laid. -/
theorem ops_oneF {B : Nat} {w : World} {o : OpD} {c : List Value} {T : TypeId} (h : OpQ w (fun b => B <= b) o c) (hB : B <= w.heap.size) : OpsF B (w.alloc (.cells c.toArray T)) [o] (.slice (some ⟨w.heap.size, 0, none⟩) 1 1) := by
 have hb := one_below w (.cells c.toArray T)
 exact ⟨_, _, c, rfl, rowq_at (ok := fun b => B <= b) (At.fresh w c T) 1 21 (by rw [h.len]) (by omega) h.one hB, OpsQ.single (h.stay (stay_below hb _))⟩
abbrev OpsP (W : World) (l : List OpD) (e : Ending) (w' : World) : Prop := ∃ v, e = .returned v /\ OpsF W.heap.size w' l v /\ Below W.heap.size W w'
theorem _root_.Go.Redl.RowQ.any {w : World} {ok : Nat -> Prop} {sz n cap : Nat} {a : Option Addr} {cs : List Value} (h : RowQ w ok sz a n cap cs) : RowQ w (fun _ => True) sz a n cap cs := h.keep (Nat.le_refl _) (fun _ _ _ => rfl) (fun _ _ _ => trivial)
theorem _root_.Go.Redl.RowQ.imp {w : World} {ok ok' : Nat -> Prop} {sz n cap : Nat} {a : Option Addr} {cs : List Value} (h : RowQ w ok sz a n cap cs) (f : ∀ b, ok b -> ok' b) : RowQ w ok' sz a n cap cs := h.keep (Nat.le_refl _) (fun _ _ _ => rfl) (fun b hb _ => f b hb)
theorem _root_.Go.Redl.RowQ.since {w w' : World} {ok : Nat -> Prop} {sz n cap : Nat} {a : Option Addr} {cs : List Value} (h : RowQ w ok sz a n cap cs) (hb : Below w.heap.size w w') : RowQ w' ok sz a n cap cs := h.keep hb.size (fun b _ hlt => hb.block b hlt) (fun _ h _ => h)
theorem _root_.Go.Redl.NodeQ.any {w : World} {ok : Nat -> Prop} {n : NodeD} {cs : List Value} (h : NodeQ w ok n cs) : NodeQ w (fun _ => True) n cs := NodeQ.keep (Nat.le_refl _) (fun _ _ _ => rfl) (fun _ _ _ => trivial) n cs h
theorem _root_.Go.Redl.NodeQ.since {w w' : World} {ok : Nat -> Prop} {n : NodeD} {cs : List Value} (h : NodeQ w ok n cs) (hb : Below w.heap.size w w') : NodeQ w' ok n cs := NodeQ.keep hb.size (fun b _ hlt => hb.block b hlt) (fun _ h _ => h) n cs h
/-- What a job holds, at a world: its path, its element's Kids. -/
structure JobAt (W : World) (p : List Int) (pa : Option Addr) (pc : Nat) (ks : List NodeD) (ak : Option Addr) (ck : Nat) (css : List Value) (j : Nat) : Prop where
 path : RowA W W.heap.size 1 pa p.length pc (p.map (Value.int .i64))
 pl : p.length <= 100000
 kids : RowA W W.heap.size 4 ak ks.length ck css
 kids' : KidsC W W.heap.size ks css
 kl : wtAll ks <= 100000000
 at_ : j <= 100000000
theorem JobAt.keep {W w : World} {p : List Int} {pa : Option Addr} {pc : Nat} {ks : List NodeD} {ak : Option Addr} {ck : Nat} {css : List Value} {j : Nat} (h : JobAt W p pa pc ks ak ck css j) (hb : Below W.heap.size W w) : JobAt w p pa pc ks ak ck css j :=
 ⟨h.path.keep hb hb.size, h.pl, h.kids.keep hb hb.size, KidsC.keep hb hb.size _ _ h.kids', h.kl, h.at_⟩
theorem At.s16 {w : World} {N : Nat} {c0 c1 c2 c3 c4 c5 c6 c7 c8 c9 c10 c11 c12 c13 c14 c15 : Value} {T : TypeId} (h : At w N [c0, c1, c2, c3, c4, c5, c6, c7, c8, c9, c10, c11, c12, c13, c14, c15] T) (d0 d1 d2 d3 d4 d5 d6 d7 d8 d9 d10 d11 d12 d13 d14 d15 : Value) : At ((((((((((((((((w.setCell ⟨N, 0, none⟩ d0).setCell ⟨N, 1, none⟩ d1).setCell ⟨N, 2, none⟩ d2).setCell ⟨N, 3, none⟩ d3).setCell ⟨N, 4, none⟩ d4).setCell ⟨N, 5, none⟩ d5).setCell ⟨N, 6, none⟩ d6).setCell ⟨N, 7, none⟩ d7).setCell ⟨N, 8, none⟩ d8).setCell ⟨N, 9, none⟩ d9).setCell ⟨N, 10, none⟩ d10).setCell ⟨N, 11, none⟩ d11).setCell ⟨N, 12, none⟩ d12).setCell ⟨N, 13, none⟩ d13).setCell ⟨N, 14, none⟩ d14).setCell ⟨N, 15, none⟩ d15) N [d0, d1, d2, d3, d4, d5, d6, d7, d8, d9, d10, d11, d12, d13, d14, d15] T := by
 have h0 : At (w.setCell ⟨N, 0, none⟩ d0) N [d0, c1, c2, c3, c4, c5, c6, c7, c8, c9, c10, c11, c12, c13, c14, c15] T := h.set 0 d0
 have h1 : At ((w.setCell ⟨N, 0, none⟩ d0).setCell ⟨N, 1, none⟩ d1) N [d0, d1, c2, c3, c4, c5, c6, c7, c8, c9, c10, c11, c12, c13, c14, c15] T := h0.set 1 d1
 have h2 : At (((w.setCell ⟨N, 0, none⟩ d0).setCell ⟨N, 1, none⟩ d1).setCell ⟨N, 2, none⟩ d2) N [d0, d1, d2, c3, c4, c5, c6, c7, c8, c9, c10, c11, c12, c13, c14, c15] T := h1.set 2 d2
 have h3 : At ((((w.setCell ⟨N, 0, none⟩ d0).setCell ⟨N, 1, none⟩ d1).setCell ⟨N, 2, none⟩ d2).setCell ⟨N, 3, none⟩ d3) N [d0, d1, d2, d3, c4, c5, c6, c7, c8, c9, c10, c11, c12, c13, c14, c15] T := h2.set 3 d3
 have h4 : At (((((w.setCell ⟨N, 0, none⟩ d0).setCell ⟨N, 1, none⟩ d1).setCell ⟨N, 2, none⟩ d2).setCell ⟨N, 3, none⟩ d3).setCell ⟨N, 4, none⟩ d4) N [d0, d1, d2, d3, d4, c5, c6, c7, c8, c9, c10, c11, c12, c13, c14, c15] T := h3.set 4 d4
 have h5 : At ((((((w.setCell ⟨N, 0, none⟩ d0).setCell ⟨N, 1, none⟩ d1).setCell ⟨N, 2, none⟩ d2).setCell ⟨N, 3, none⟩ d3).setCell ⟨N, 4, none⟩ d4).setCell ⟨N, 5, none⟩ d5) N [d0, d1, d2, d3, d4, d5, c6, c7, c8, c9, c10, c11, c12, c13, c14, c15] T := h4.set 5 d5
 have h6 : At (((((((w.setCell ⟨N, 0, none⟩ d0).setCell ⟨N, 1, none⟩ d1).setCell ⟨N, 2, none⟩ d2).setCell ⟨N, 3, none⟩ d3).setCell ⟨N, 4, none⟩ d4).setCell ⟨N, 5, none⟩ d5).setCell ⟨N, 6, none⟩ d6) N [d0, d1, d2, d3, d4, d5, d6, c7, c8, c9, c10, c11, c12, c13, c14, c15] T := h5.set 6 d6
 have h7 : At ((((((((w.setCell ⟨N, 0, none⟩ d0).setCell ⟨N, 1, none⟩ d1).setCell ⟨N, 2, none⟩ d2).setCell ⟨N, 3, none⟩ d3).setCell ⟨N, 4, none⟩ d4).setCell ⟨N, 5, none⟩ d5).setCell ⟨N, 6, none⟩ d6).setCell ⟨N, 7, none⟩ d7) N [d0, d1, d2, d3, d4, d5, d6, d7, c8, c9, c10, c11, c12, c13, c14, c15] T := h6.set 7 d7
 have h8 : At (((((((((w.setCell ⟨N, 0, none⟩ d0).setCell ⟨N, 1, none⟩ d1).setCell ⟨N, 2, none⟩ d2).setCell ⟨N, 3, none⟩ d3).setCell ⟨N, 4, none⟩ d4).setCell ⟨N, 5, none⟩ d5).setCell ⟨N, 6, none⟩ d6).setCell ⟨N, 7, none⟩ d7).setCell ⟨N, 8, none⟩ d8) N [d0, d1, d2, d3, d4, d5, d6, d7, d8, c9, c10, c11, c12, c13, c14, c15] T := h7.set 8 d8
 have h9 : At ((((((((((w.setCell ⟨N, 0, none⟩ d0).setCell ⟨N, 1, none⟩ d1).setCell ⟨N, 2, none⟩ d2).setCell ⟨N, 3, none⟩ d3).setCell ⟨N, 4, none⟩ d4).setCell ⟨N, 5, none⟩ d5).setCell ⟨N, 6, none⟩ d6).setCell ⟨N, 7, none⟩ d7).setCell ⟨N, 8, none⟩ d8).setCell ⟨N, 9, none⟩ d9) N [d0, d1, d2, d3, d4, d5, d6, d7, d8, d9, c10, c11, c12, c13, c14, c15] T := h8.set 9 d9
 have h10 : At (((((((((((w.setCell ⟨N, 0, none⟩ d0).setCell ⟨N, 1, none⟩ d1).setCell ⟨N, 2, none⟩ d2).setCell ⟨N, 3, none⟩ d3).setCell ⟨N, 4, none⟩ d4).setCell ⟨N, 5, none⟩ d5).setCell ⟨N, 6, none⟩ d6).setCell ⟨N, 7, none⟩ d7).setCell ⟨N, 8, none⟩ d8).setCell ⟨N, 9, none⟩ d9).setCell ⟨N, 10, none⟩ d10) N [d0, d1, d2, d3, d4, d5, d6, d7, d8, d9, d10, c11, c12, c13, c14, c15] T := h9.set 10 d10
 have h11 : At ((((((((((((w.setCell ⟨N, 0, none⟩ d0).setCell ⟨N, 1, none⟩ d1).setCell ⟨N, 2, none⟩ d2).setCell ⟨N, 3, none⟩ d3).setCell ⟨N, 4, none⟩ d4).setCell ⟨N, 5, none⟩ d5).setCell ⟨N, 6, none⟩ d6).setCell ⟨N, 7, none⟩ d7).setCell ⟨N, 8, none⟩ d8).setCell ⟨N, 9, none⟩ d9).setCell ⟨N, 10, none⟩ d10).setCell ⟨N, 11, none⟩ d11) N [d0, d1, d2, d3, d4, d5, d6, d7, d8, d9, d10, d11, c12, c13, c14, c15] T := h10.set 11 d11
 have h12 : At (((((((((((((w.setCell ⟨N, 0, none⟩ d0).setCell ⟨N, 1, none⟩ d1).setCell ⟨N, 2, none⟩ d2).setCell ⟨N, 3, none⟩ d3).setCell ⟨N, 4, none⟩ d4).setCell ⟨N, 5, none⟩ d5).setCell ⟨N, 6, none⟩ d6).setCell ⟨N, 7, none⟩ d7).setCell ⟨N, 8, none⟩ d8).setCell ⟨N, 9, none⟩ d9).setCell ⟨N, 10, none⟩ d10).setCell ⟨N, 11, none⟩ d11).setCell ⟨N, 12, none⟩ d12) N [d0, d1, d2, d3, d4, d5, d6, d7, d8, d9, d10, d11, d12, c13, c14, c15] T := h11.set 12 d12
 have h13 : At ((((((((((((((w.setCell ⟨N, 0, none⟩ d0).setCell ⟨N, 1, none⟩ d1).setCell ⟨N, 2, none⟩ d2).setCell ⟨N, 3, none⟩ d3).setCell ⟨N, 4, none⟩ d4).setCell ⟨N, 5, none⟩ d5).setCell ⟨N, 6, none⟩ d6).setCell ⟨N, 7, none⟩ d7).setCell ⟨N, 8, none⟩ d8).setCell ⟨N, 9, none⟩ d9).setCell ⟨N, 10, none⟩ d10).setCell ⟨N, 11, none⟩ d11).setCell ⟨N, 12, none⟩ d12).setCell ⟨N, 13, none⟩ d13) N [d0, d1, d2, d3, d4, d5, d6, d7, d8, d9, d10, d11, d12, d13, c14, c15] T := h12.set 13 d13
 have h14 : At (((((((((((((((w.setCell ⟨N, 0, none⟩ d0).setCell ⟨N, 1, none⟩ d1).setCell ⟨N, 2, none⟩ d2).setCell ⟨N, 3, none⟩ d3).setCell ⟨N, 4, none⟩ d4).setCell ⟨N, 5, none⟩ d5).setCell ⟨N, 6, none⟩ d6).setCell ⟨N, 7, none⟩ d7).setCell ⟨N, 8, none⟩ d8).setCell ⟨N, 9, none⟩ d9).setCell ⟨N, 10, none⟩ d10).setCell ⟨N, 11, none⟩ d11).setCell ⟨N, 12, none⟩ d12).setCell ⟨N, 13, none⟩ d13).setCell ⟨N, 14, none⟩ d14) N [d0, d1, d2, d3, d4, d5, d6, d7, d8, d9, d10, d11, d12, d13, d14, c15] T := h13.set 14 d14
 exact h14.set 15 d15
theorem At.n16 {w : World} {N M : Nat} {cs : List Value} {T : TypeId} (h : At w M cs T) (hne : M ≠ N) (d0 d1 d2 d3 d4 d5 d6 d7 d8 d9 d10 d11 d12 d13 d14 d15 : Value) : At ((((((((((((((((w.setCell ⟨N, 0, none⟩ d0).setCell ⟨N, 1, none⟩ d1).setCell ⟨N, 2, none⟩ d2).setCell ⟨N, 3, none⟩ d3).setCell ⟨N, 4, none⟩ d4).setCell ⟨N, 5, none⟩ d5).setCell ⟨N, 6, none⟩ d6).setCell ⟨N, 7, none⟩ d7).setCell ⟨N, 8, none⟩ d8).setCell ⟨N, 9, none⟩ d9).setCell ⟨N, 10, none⟩ d10).setCell ⟨N, 11, none⟩ d11).setCell ⟨N, 12, none⟩ d12).setCell ⟨N, 13, none⟩ d13).setCell ⟨N, 14, none⟩ d14).setCell ⟨N, 15, none⟩ d15) M cs T :=
 (((((((((((((((h.set_ne hne _).set_ne hne _).set_ne hne _).set_ne hne _).set_ne hne _).set_ne hne _).set_ne hne _).set_ne hne _).set_ne hne _).set_ne hne _).set_ne hne _).set_ne hne _).set_ne hne _).set_ne hne _).set_ne hne _).set_ne hne _
theorem rowq_s16 {w : World} {ok : Nat -> Prop} {sz n cap N : Nat} {a : Option Addr} {cs : List Value} (h : RowQ w ok sz a n cap cs) (hne : ¬ ok N) (d0 d1 d2 d3 d4 d5 d6 d7 d8 d9 d10 d11 d12 d13 d14 d15 : Value) : RowQ ((((((((((((((((w.setCell ⟨N, 0, none⟩ d0).setCell ⟨N, 1, none⟩ d1).setCell ⟨N, 2, none⟩ d2).setCell ⟨N, 3, none⟩ d3).setCell ⟨N, 4, none⟩ d4).setCell ⟨N, 5, none⟩ d5).setCell ⟨N, 6, none⟩ d6).setCell ⟨N, 7, none⟩ d7).setCell ⟨N, 8, none⟩ d8).setCell ⟨N, 9, none⟩ d9).setCell ⟨N, 10, none⟩ d10).setCell ⟨N, 11, none⟩ d11).setCell ⟨N, 12, none⟩ d12).setCell ⟨N, 13, none⟩ d13).setCell ⟨N, 14, none⟩ d14).setCell ⟨N, 15, none⟩ d15) ok sz a n cap cs :=
 rowq_set (rowq_set (rowq_set (rowq_set (rowq_set (rowq_set (rowq_set (rowq_set (rowq_set (rowq_set (rowq_set (rowq_set (rowq_set (rowq_set (rowq_set (rowq_set h hne) hne) hne) hne) hne) hne) hne) hne) hne) hne) hne) hne) hne) hne) hne) hne
theorem prop_cl_ent : ∀ args w, (callFunc 116 args).run Tryz.prog w = .ok (.enter 116 args) w := by intro args w; kernel_rfl
theorem remove_c (p : List Int) (pa : Option Addr) (pc : Nat) (ks : List NodeD) (ak : Option Addr) (ck : Nat) (css : List Value) (v1 v2 v3 v5 v6 v7 v8 v9 v10 v11 v12 v13 v15 : Value) (j : Nat) (W : World)
 (hJ : JobAt W p pa pc ks ak ck css j) (hj : j < ks.length) :
 Calls Tryz.prog 58 #[.agg #[.slice pa p.length pc, v1, v2, v3, .slice ak ks.length ck, v5, v6, v7, v8, v9, v10, v11, v12, v13, .int .i64 j, v15]] W (OpsP W [⟨2, p ++ [(j : Int)], [], 0, kidAt ks j, []⟩]) := by
 have hkl : ks.length <= 100000000 := by have := wtAll_len ks; have := hJ.kl; omega
 have hqw : (kidAt ks j).wt <= 100000000 := by rw [kid_get hj]; have := wtAll_mem (List.getElem_mem hj); have := hJ.kl; omega
 have hAt := fun (w1 : World) (hb : Below W.heap.size W w1) => jat_c p pa pc v1 v2 v3 (.slice ak ks.length ck) v5 v6 v7 v8 v9 v10 v11 v12 v13 v15 j 0 w1 (hJ.keep hb).path hJ.pl hJ.at_ (by omega) (by omega)
 rw [Int.add_zero] at hAt
 have HAt := Lib.hid hAt
 have HKd := Lib.hid (fun (w1 : World) (hb : Below W.heap.size W w1) => jkid_c ks ak ck css (.slice pa p.length pc) v1 v2 v3 v5 v6 v7 v8 v9 v10 v11 v12 v13 v15 j w1 (hJ.keep hb).kids (hJ.keep hb).kids' hj hkl)
 generalize kidAt ks j = q at HKd hqw ⊢
 generalize p ++ [(j : Int)] = zs at HAt ⊢
 have HC := Lib.hid (fun (v : Value) (w1 : World) (hv : NodeV w1 w1.heap.size q v) => copy_c _ q v w1 (Nat.le_refl _) hqw hv)
 obtain ⟨w0, hw0⟩ : ∃ w0, w0 = W.alloc (Obj.cells #[.slice pa p.length pc, v1, v2, v3, .slice ak ks.length ck, v5, v6, v7, v8, v9, v10, v11, v12, v13, .int .i64 j, v15] 101) := ⟨_, rfl⟩
 have HB := Lib.hid (show At w0 W.heap.size [.slice pa p.length pc, v1, v2, v3, .slice ak ks.length ck, v5, v6, v7, v8, v9, v10, v11, v12, v13, .int .i64 j, v15] 101 by rw [hw0]; exact At.fresh _ _ _)
 have Hb0 := Lib.hid (show Below W.heap.size W w0 by rw [hw0]; exact one_below _ _)
 have Hw0 := Lib.hid hw0
 have HS0 := Lib.hid (fun (w' : World) (hb : Below w0.heap.size w0 w') => HB.out.kept hb)
 have hld := fun (w' : World) (h : At w' W.heap.size [.slice pa p.length pc, v1, v2, v3, .slice ak ks.length ck, v5, v6, v7, v8, v9, v10, v11, v12, v13, .int .i64 j, v15] 101) => At.load (P := Tryz.prog) h Tryz.underlying101 rfl (by kernel_rfl)
 simp [go_sem] at hld
 have HAt2 := Lib.hid (fun (w1 : World) (hb : Below w0.heap.size w0 w1) => HAt.out w1 (Hb0.out.trans (hb.mono Hb0.out.size)))
 have HKd2 := Lib.hid (fun (w1 : World) (hb : Below w0.heap.size w0 w1) => HKd.out w1 (Hb0.out.trans (hb.mono Hb0.out.size)))
 clear hAt hw0 hJ hj hqw HAt HKd
 go_enter Tryz.func58, Tryz.ntmps58
 go_upto_region 1 with fail
 rw [<- Hw0.out]
 clear Hw0
 go_region_held3 (fun w' => At w' W.heap.size [.slice pa p.length pc, v1, v2, v3, .slice ak ks.length ck, v5, v6, v7, v8, v9, v10, v11, v12, v13, .int .i64 j, v15] 101) (refine HS0.out _ (by ((repeat (first | with_reducible exact Hb3.out | with_reducible exact Hb2.out | with_reducible exact Hb1.out | with_reducible exact Below.refl _ _ | with_reducible refine Below.drew ?_ | with_reducible refine Below.alloc ?_ ?_ _ | with_reducible refine Below.setCell ?_ ?_ _)) <;> (first | with_reducible exact Nat.le_refl _ | with_reducible exact Hb3.out.size | with_reducible exact Hb2.out.size | with_reducible exact Hb1.out.size | (have hsz := Hb3.out.size; simp [World.setCell]; omega) | (have hsz := Hb2.out.size; simp [World.setCell]; omega) | (have hsz := Hb1.out.size; simp [World.setCell]; omega) | (simp; done) | (simp; omega) | omega))))
  (first
  | (refine step_call rfl 112 _ _ rfl jat_ent [.agg #[.slice pa p.length pc, v1, v2, v3, .slice ak ks.length ck, v5, v6, v7, v8, v9, v10, v11, v12, v13, .int .i64 j, v15], .int .i64 0] ?_ _ (HAt2.out _ (by ((repeat (first | with_reducible exact Below.refl _ _ | with_reducible refine Below.drew ?_ | with_reducible refine Below.alloc ?_ ?_ _ | with_reducible refine Below.setCell ?_ ?_ _)) <;> (first | with_reducible exact Nat.le_refl _ | (simp; done) | (simp; omega) | omega)))) ?_
     . go_simp
     rintro e w1 ⟨za, zc, rfl, hq, hbel⟩
     refine ⟨_, rfl, ?_⟩
     have Hb1 := Lib.hid (Below.and (w0 := w0) (by ((repeat (first | with_reducible exact Below.refl _ _ | with_reducible refine Below.drew ?_ | with_reducible refine Below.alloc ?_ ?_ _ | with_reducible refine Below.setCell ?_ ?_ _)) <;> (first | with_reducible exact Nat.le_refl _ | (simp; done) | (simp; omega) | omega))) hbel)
     have Hz := Lib.hid (RowQ.imp hq (fun b hb => (show W.heap.size <= b from Nat.le_trans (Nat.le_trans Hb0.out.size (by (first | exact Nat.le_refl _ | (simp; done) | (simp; omega) | omega))) hb)))
     clear hbel hq)
  | (refine step_call rfl 113 _ _ rfl jkid_ent [.agg #[.slice pa p.length pc, v1, v2, v3, .slice ak ks.length ck, v5, v6, v7, v8, v9, v10, v11, v12, v13, .int .i64 j, v15]] ?_ _ (HKd2.out _ (by ((repeat (first | with_reducible exact Hb1.out | with_reducible exact Below.refl _ _ | with_reducible refine Below.drew ?_ | with_reducible refine Below.alloc ?_ ?_ _ | with_reducible refine Below.setCell ?_ ?_ _)) <;> (first | with_reducible exact Nat.le_refl _ | with_reducible exact Hb1.out.size | (have hsz := Hb1.out.size; simp [World.setCell]; omega) | (simp; done) | (simp; omega) | omega)))) ?_
     . go_simp
     rintro e w2 ⟨kv, rfl, hkv, hbel⟩
     refine ⟨_, rfl, ?_⟩
     have Hb2 := Lib.hid (Below.and (w0 := w0) (by ((repeat (first | with_reducible exact Hb1.out | with_reducible exact Below.refl _ _ | with_reducible refine Below.drew ?_ | with_reducible refine Below.alloc ?_ ?_ _ | with_reducible refine Below.setCell ?_ ?_ _)) <;> (first | with_reducible exact Nat.le_refl _ | with_reducible exact Hb1.out.size | (have hsz := Hb1.out.size; simp [World.setCell]; omega) | (simp; done) | (simp; omega) | omega))) hbel)
     have Hs2 := Lib.hid hbel
     have Hkv := Lib.hid hkv
     clear hbel hkv)
  | (refine step_call rfl 64 _ _ rfl copy_ent [kv] ?_ _ (HC.out kv _ Hkv.out) ?_
     . go_simp
     rintro e w3 ⟨cs, rfl, hn, hbel⟩
     obtain ⟨l, a1, n1, c1, a2, n2, c2, a3, n3, c3, rfl⟩ := hn.form
     refine ⟨_, rfl, ?_⟩
     have Hb3 := Lib.hid (Below.and (w0 := w0) (by ((repeat (first | with_reducible exact Hb2.out | with_reducible exact Below.refl _ _ | with_reducible refine Below.drew ?_ | with_reducible refine Below.alloc ?_ ?_ _ | with_reducible refine Below.setCell ?_ ?_ _)) <;> (first | with_reducible exact Nat.le_refl _ | with_reducible exact Hb2.out.size | (have hsz := Hb2.out.size; simp [World.setCell]; omega) | (simp; done) | (simp; omega) | omega))) hbel)
     have Hs3 := Lib.hid hbel
     have Hn := Lib.hid (NodeQ.keep (ok' := fun b => W.heap.size <= b) (Nat.le_refl _) (fun _ _ _ => rfl) (fun b hb _ => Nat.le_trans (Nat.le_trans Hb0.out.size (by (first | exact Hb2.out.size | (have hsz := Hb2.out.size; simp; omega) | exact Nat.le_refl _ | (simp; done) | (simp; omega) | omega))) hb) _ _ hn)
     clear hbel hn))
 all_goals
  go_wp2_with fail
  go_ret
  refine ⟨_, rfl, ops_oneF (o := ⟨2, zs, [], 0, q, []⟩) ⟨za, zc, none, 0, _, _, _, _, none, 0, rfl, (Hz.out.since Hs2.out).since Hs3.out, RowQ.empty _ _ _, Hn.out, RowQ.empty _ _ _⟩ (Nat.le_trans Hb0.out.size Hb3.out.size), Hb0.out.trans ((Hb3.out.alloc Hb3.out.size _).mono Hb0.out.size)⟩
end Go.Proofs.YtbommcakcmhalaaGreatDoor
/- Walks: xpoint.Move at the zero point. -/
namespace Go.Proofs.YtbommcakcmhalaaGreatDoor
open Go.RowKit Go.Redl
theorem standsame_nil (p : List Int) (h : p ≠ []) : decide (p = ([] : List Int)) = false := decide_eq_false h
/-- Where the zero point goes: somewhere. -/
def PointZ (W : World) (e : Ending) (w' : World) : Prop := Below W.heap.size W w' /\ ∃ a c i b, e = .returned (.tuple #[.agg #[.slice a 0 c, .int .i64 i], .bool b])
theorem pmoveZ_c (p d : List Int) (kd pos : Int) (pa ta : Option Addr) (pc tc : Nat) (v4 v5 v6 v7 v8 v9 v10 v11 v12 v13 v14 v15 v16 v17 v18 v19 v20 : Value) (W : World) (hk : kd = 1 ∨ kd = 2 ∨ kd = 3 ∨ kd = 4 ∨ kd = 5)
 (hp : RowA W W.heap.size 1 pa p.length pc (p.map (Value.int .i64))) (hd : RowA W W.heap.size 1 ta d.length tc (d.map (Value.int .i64))) (hpl : p.length <= 1000000) (hdl : d.length <= 1000000) (hne : p ≠ []) :
 Calls Tryz.prog 135 #[.agg #[.slice none 0 0, .int .i64 0], .agg #[.int .i64 kd, .slice pa p.length pc, .slice ta d.length tc, .int .i64 pos, v4, v5, v6, v7, v8, v9, v10, v11, v12, v13, v14, v15, v16, v17, v18, v19, v20], .int .i64 1] W (PointZ W) := by
 obtain ⟨w0, hw0⟩ : ∃ w0, w0 = ((W.alloc (Obj.cells #[.slice none 0 0, .int .i64 0] 57)).alloc (Obj.cells #[.int .i64 kd, .slice pa p.length pc, .slice ta d.length tc, .int .i64 pos, v4, v5, v6, v7, v8, v9, v10, v11, v12, v13, v14, v15, v16, v17, v18, v19, v20] 63)).alloc (Obj.cells #[.slice none 0 0, .int .i64 0] 57) := ⟨_, rfl⟩
 have hb0 : Below W.heap.size W w0 := by rw [hw0]; exact three_below _ _ _ _
 have hA : At w0 W.heap.size [.slice none 0 0, .int .i64 0] 57 := by rw [hw0]; exact ((At.fresh W _ _).alloc _).alloc _
 have hB : At w0 (W.heap.size + 1) [.int .i64 kd, .slice pa p.length pc, .slice ta d.length tc, .int .i64 pos, v4, v5, v6, v7, v8, v9, v10, v11, v12, v13, v14, v15, v16, v17, v18, v19, v20] 63 := by rw [hw0]; exact (At.second W _ _ _).alloc _
 have hC : At w0 (W.heap.size + 1 + 1) [.slice none 0 0, .int .i64 0] 57 := by rw [hw0]; exact At.third W _ _ _ _
 have HM := Lib.hid (moveZ_c p d kd pos pa ta pc tc v4 v5 v6 v7 v8 v9 v10 v11 v12 v13 v14 v15 v16 v17 v18 v19 v20 w0 hk (hp.keep hb0 hb0.size) (hd.keep hb0 hb0.size) hpl hdl hne)
 have HT := Lib.hid (fun (w' : World) (hb : Below w0.heap.size w0 w') => tsame_c p [] pa none pc 0 W.heap.size w' (hp.keep (hb0.trans (hb.mono hb0.size)) (Nat.le_refl _)) (RowA.empty _ _ _))
 rw [standsame_nil p hne] at HT
 have hld := At.load (P := Tryz.prog) hB Tryz.underlying63 rfl (by kernel_rfl)
 simp [go_sem] at hld
 have y0 := hA.cell 0 rfl; have y1 := hA.cell 1 rfl
 have HA := Lib.hid hA; have HB := Lib.hid hB; have HC := Lib.hid hC
 have Hb0 := Lib.hid hb0; have Hw0 := Lib.hid hw0
 clear hA hB hC hw0 hb0 hp hd hne hk
 unfold PointZ
 go_enter Tryz.func135, Tryz.ntmps135
 go_upto_region 1 with fail
 rw [<- Hw0.out]
 clear Hw0
 go_wp2_with fail
 refine HM.out.mono ?_
 rintro e w1 ⟨hbel, va, vc, vb, rfl⟩
 have hA1 := HA.out.kept hbel; have hB1 := HB.out.kept hbel; have hC1 := HC.out.kept hbel
 have k0 := hA1.cell 0 rfl; have k1 := hA1.cell 1 rfl; have l1 := hB1.cell 1 rfl
 obtain ⟨⟨c0, c1⟩, cf, cl⟩ := hC1.f2
 have al := hA1.lt; have bl := hB1.lt
 have HT1 := Lib.hid (fun (w' : World) (hb : Below w1.heap.size w1 w') => HT.out w' (hbel.trans (hb.mono hbel.size)))
 have HC1 := Lib.hid hC1
 have HlC := Lib.hid hC1.lt
 have Hb1 := Lib.hid (Hb0.out.trans (hbel.mono Hb0.out.size))
 have HbW := Lib.hid Hb0.out.size
 clear hbel HM hld hA1 hB1 hC1 y0 y1 HA HB HC HT
 cases vb with
 | false =>
   go_wp2_with fail
   refine bodyPost_ret (v := .tuple #[.agg #[.slice none 0 0, .int .i64 0], .bool false]) (by simp [results, Tryz.results135, go_sem, c0, c1, cf, cl]) rfl ?_
   exact ⟨below_s2 Hb1.out (by omega) _ _, none, 0, 0, false, rfl⟩
 | true =>
   go_upto_region 5 with fail
   obtain ⟨w2, hw2⟩ : ∃ w2, w2 = w1.alloc (Obj.cells #[Value.slice va 0 vc, Value.int .i64 0] 57) := ⟨_, rfl⟩
   have hb2 : Below w1.heap.size w1 w2 := by rw [hw2]; exact one_below _ _
   have hD : At w2 w1.heap.size [.slice va 0 vc, .int .i64 0] 57 := by rw [hw2]; exact At.fresh _ _ _
   have HT2 := Lib.hid (HT1.out w2 hb2)
   rw [<- hw2]
   have hA2 : w2.cell? ⟨W.heap.size, 0, none⟩ = some (.slice none 0 0) := (hb2.cell (p := ⟨W.heap.size, 0, none⟩) al).trans k0
   have hB2 : w2.cell? ⟨W.heap.size + 1, 1, none⟩ = some (.slice pa p.length pc) := (hb2.cell (p := ⟨W.heap.size + 1, 1, none⟩) bl).trans l1
   have HC2 := Lib.hid (HC1.out.kept hb2)
   have HD2 := Lib.hid hD
   have Hb2 := Lib.hid (Hb1.out.trans (hb2.mono Hb1.out.size))
   clear hw2 hb2 hD HT1 k0 k1 l1 c0 c1 cf cl al bl
   go_wp2_with fail
   refine HT2.out.mono ?_
   rintro e w3 ⟨rfl, hdr⟩
   have hd := hdr.below w2.heap.size
   obtain ⟨⟨c0, c1⟩, cf, cl⟩ := (HC2.out.kept hd).f2
   obtain ⟨⟨d0, d1⟩, df, dl⟩ := (HD2.out.kept hd).f2
   have Hb3 := Lib.hid (Hb2.out.trans (hd.mono Hb2.out.size))
   clear HT2 hdr hd hA2 hB2
   go_wp2_with fail
   refine bodyPost_ret (v := .tuple #[.agg #[.slice va 0 vc, .int .i64 0], .bool true]) (by simp [results, Tryz.results135, go_sem, c0, c1, cf, cl]) rfl ?_
   exact ⟨below_s2 Hb3.out (by omega) _ _, va, vc, 0, true, rfl⟩
end Go.Proofs.YtbommcakcmhalaaGreatDoor
/- Words on maps from numbers to anything, made and filled by the call, then asked. -/
namespace Go.Proofs.YtbommcakcmhalaaGreatDoor
open Go.RowKit Go.Redl
/-- A map's entries, by their keys, in the order in which they came. -/
def MapAt (w : World) (b : Nat) (l : List (Int × Value)) : Prop := ∃ es ck, w.heap[b]? = some (.map es ck) /\ es.toList.map (fun e => (e.key, e.val)) = l.map (fun p => (Value.int .i64 p.1, p.2))
theorem MapAt.fresh (w : World) : MapAt (w.alloc (.map #[] 0)) w.heap.size [] := ⟨#[], 0, heap_alloc_new w _, rfl⟩
theorem MapAt.lt {w : World} {b : Nat} {l : List (Int × Value)} (h : MapAt w b l) : b < w.heap.size := by
 obtain ⟨es, ck, h1, -⟩ := h; exact (Array.getElem?_eq_some_iff.1 h1).1
theorem MapAt.kept {w w' : World} {b : Nat} {l : List (Int × Value)} (h : MapAt w b l) (hb : Below w.heap.size w w') : MapAt w' b l := by
 have hl := h.lt
 obtain ⟨es, ck, h1, h2⟩ := h
 exact ⟨es, ck, by rw [hb.block b hl]; exact h1, h2⟩
/-- Nothing but block b is other. -/
structure OnlyMap (b : Nat) (w w' : World) : Prop where
 os : w'.os = w.os
 tape : w'.tape = w.tape
 output : w'.output = w.output
 size : w'.heap.size = w.heap.size
 block : ∀ c, c ≠ b -> w'.heap[c]? = w.heap[c]?
theorem OnlyMap.below {b B : Nat} {W w w' : World} (h : OnlyMap b w w') (hb : Below B W w) (hB : B <= b) : Below B W w' :=
 ⟨h.os.trans hb.os, h.tape.trans hb.tape, h.output.trans hb.output, by rw [h.size]; exact hb.size, fun c hc => by rw [h.block c (by omega)]; exact hb.block c hc⟩
theorem MapAt.keys {w : World} {b : Nat} {l : List (Int × Value)} {es : Array MapEntry} (h : es.toList.map (fun e => (e.key, e.val)) = l.map (fun p => (Value.int .i64 p.1, p.2))) : ∀ x ∈ es.toList, MapKept.IsKey (.int .i64) x.key := by
 intro x hx
 have : (x.key, x.val) ∈ es.toList.map (fun e => (e.key, e.val)) := List.mem_map.2 ⟨x, hx, rfl⟩
 rw [h] at this
 obtain ⟨p, -, hp⟩ := List.mem_map.1 this
 injection hp with h1 h2
 rw [<- h1]
 exact rfl
theorem run_put {P : Program} {w : World} {b T K E : Nat} {l : List (Int × Value)} (h : MapAt w b l) (hT : P.underlying T = some (.map K E)) (hK : P.underlying K = some (.int .i64)) (k : Int) (v : Value) (hne : ∀ p ∈ l, p.1 ≠ k) :
 ∃ w', (Instr.mapUpdate T (.map (some b)) (.int .i64 k) v).run P w = .ok () w' /\ MapAt w' b (l ++ [(k, v)]) /\ OnlyMap b w w' := by
 obtain ⟨es, ck, hb, he⟩ := h
 have hkey : MapKept.IsKey (.int .i64) (.int .i64 k) := rfl
 have hks := MapAt.keys (w := w) (b := b) he
 rcases MapKept.findNow_spec hkey es.toList 0 hks with ⟨h1, h2⟩ | ⟨j, e0, h1, h2, h3⟩
 . refine ⟨{ w with heap := w.heap.setIfInBounds b (.map (es.push ⟨.int .i64 k, v, ck⟩) (ck + 1)) }, ?_, ⟨_, _, (MapKept.heap_set hb).1, by simp [he]⟩, ⟨rfl, rfl, rfl, by simp, fun c hc => (MapKept.heap_set hb).2 c hc⟩⟩
   simp [Instr.mapUpdate, run_underlying hT, MapKept.run_getObj_map hb, MapKept.run_checkKey hK hkey, MapKept.run_findKey hK h1, MapKept.run_setObj_map _ hb, Result.andThen]
 . exfalso
   have hm : (e0.key, e0.val) ∈ es.toList.map (fun e => (e.key, e.val)) := List.mem_map.2 ⟨e0, List.mem_of_getElem? h2, rfl⟩
   rw [he] at hm
   obtain ⟨p, hp, hpe⟩ := List.mem_map.1 hm
   injection hpe with e1 e2
   rw [h3] at e1
   injection e1 with e3 e4
   exact hne p hp e4
/-- What is asked of a map. -/
def askM (l : List (Int × Value)) (k : Int) (z : Value) : Value × Bool := match l.find? (fun p => decide (p.1 = k)) with
 | some p => (p.2, true)
 | none => (z, false)
theorem run_ask {P : Program} {w : World} {b T K E : Nat} {l : List (Int × Value)} (h : MapAt w b l) (hT : P.underlying T = some (.map K E)) (hK : P.underlying K = some (.int .i64)) (z : Value) (hz : ∀ w : World, (zeroValue E).run P w = .ok z w) (k : Int)
 (hnd : (l.map (·.1)).Nodup) :
 (Instr.lookup T (.map (some b)) (.int .i64 k) true).run P w = .ok (.tuple #[(askM l k z).1, .bool (askM l k z).2]) w := by
 obtain ⟨es, ck, hb, he⟩ := h
 have hkey : MapKept.IsKey (.int .i64) (.int .i64 k) := rfl
 have hks := MapAt.keys (w := w) (b := b) he
 rcases MapKept.findNow_spec hkey es.toList 0 hks with ⟨h1, h2⟩ | ⟨j, e0, h1, h2, h3⟩
 . have hn : askM l k z = (z, false) := by
    unfold askM
    rw [List.find?_eq_none.2 ?_]
    intro p hp
    have hm : ((Value.int .i64 p.1), p.2) ∈ l.map (fun p => (Value.int .i64 p.1, p.2)) := List.mem_map.2 ⟨p, hp, rfl⟩
    rw [<- he] at hm
    obtain ⟨x, hx, hxe⟩ := List.mem_map.1 hm
    injection hxe with e1 e2
    have := h2 x hx
    rw [e1] at this
    simpa using fun e => this (by rw [e])
   rw [hn]
   simp [Instr.lookup, run_underlying hT, MapKept.run_getObj_map hb, MapKept.run_checkKey hK hkey, MapKept.run_findKey hK h1, Result.andThen, hz]
 . have hj : (es.toList.map (fun e => (e.key, e.val)))[j]? = some (e0.key, e0.val) := by rw [List.getElem?_map, h2]; rfl
   rw [he, List.getElem?_map] at hj
   obtain ⟨p, hp, hpe⟩ := Option.map_eq_some_iff.1 hj
   injection hpe with e1 e2
   rw [h3] at e1
   injection e1 with e3 e4
   have hf : l.find? (fun p => decide (p.1 = k)) = some p := by
    obtain ⟨hjl, hpj⟩ := List.getElem?_eq_some_iff.1 hp
    rw [List.find?_eq_some_iff_getElem]
    refine ⟨by simpa using e4, j, hjl, hpj, fun i hi => ?_⟩
    have hne := List.pairwise_iff_getElem.1 hnd i j (by simp; omega) (by simpa using hjl) hi
    simp only [List.getElem_map, hpj, e4] at hne
    simpa using hne
   have hn : askM l k z = (p.2, true) := by unfold askM; rw [hf]
   rw [hn, e2]
   simp [Instr.lookup, run_underlying hT, MapKept.run_getObj_map hb, MapKept.run_checkKey hK hkey, MapKept.run_findKey hK h1, Result.andThen]
/-- A map made, as one operation of a plain region. -/
theorem wpList_makeMap {P : Program} {ops : Array Oper} {rest : List Oper} {o : Oper} {a : Act} {w : World} {Q : Exit -> Act -> World -> Prop} (hg : o.guard = none) (T : Nat) (ho : o.op = .makeMap T none)
 (hk : ∀ w', w' = w.alloc (.map #[] 0) -> wpList P ops Q rest (a.put o.dst (.map (some w.heap.size))) w') : wpList P ops Q (o :: rest) a w := by
 refine wpList_plain hg fun K' hK' => ?_
 have hr2 : (execOp a.eval o).run P w = .ok (.value (.map (some w.heap.size))) (w.alloc (.map #[] 0)) := by
  unfold execOp
  simp only [ho]
  rfl
 unfold Oper.wp
 rw [hr2]
 exact hK' _ _ (hk _ rfl)
/-- An entry put in, as one operation of a plain region. -/
theorem wpList_put {P : Program} {ops : Array Oper} {rest : List Oper} {o : Oper} {a : Act} {w : World} {Q : Exit -> Act -> World -> Prop} (hg : o.guard = none) (T K E : Nat) (m x : Operand) (k : Int) (ho : o.op = .insert T m (.const (.int .i64 k)) x)
 (b : Nat) (l : List (Int × Value)) (v : Value) (hm : a.eval m = .map (some b)) (hx : a.eval x = v) (h : MapAt w b l) (hT : P.underlying T = some (.map K E)) (hK : P.underlying K = some (.int .i64)) (hne : ∀ p ∈ l, p.1 ≠ k) (hd : o.dst = none)
 (hk : ∀ w', MapAt w' b (l ++ [(k, v)]) -> OnlyMap b w w' -> wpList P ops Q rest a w') : wpList P ops Q (o :: rest) a w := by
 obtain ⟨w', hr, h1, h2⟩ := run_put h hT hK k v hne
 refine wpList_plain hg fun K' hK' => ?_
 have hc : a.eval (.const (.int .i64 k)) = .int .i64 k := rfl
 have hr2 : (execOp a.eval o).run P w = .ok .skip w' := by
  unfold execOp
  simp only [ho, hm, hx, hc, hr, Sem.run_bind, Sem.run_pure, Result.andThen_ok]
 unfold Oper.wp
 rw [hr2]
 show K' (a.put o.dst undef) w'
 rw [hd]
 exact hK' a w' (hk w' h1 h2)
end Go.Proofs.YtbommcakcmhalaaGreatDoor
/- Walks: back's has, undoes (maps). -/
namespace Go.Proofs.YtbommcakcmhalaaGreatDoor
open Go.RowKit Go.Redl
theorem has_c (W : World) : Calls Tryz.prog 181 #[] W (fun e w' => e = .returned (.map (some W.heap.size)) /\ MapAt w' W.heap.size [(1, .string ⟨#[112,110]⟩), (2, .string ⟨#[112,110]⟩), (3, .string ⟨#[112,97,111]⟩), (4, .string ⟨#[112,97,119]⟩), (5, .string ⟨#[112,116]⟩), (6, .string ⟨#[112,111,119]⟩), (7, .string ⟨#[112,97,120]⟩), (8, .string ⟨#[112,97,120]⟩), (9, .string ⟨#[115]⟩)] /\ Below W.heap.size W w') := by
 go_enter Tryz.func181, Tryz.ntmps181
 go_wp2_with (first
  | (refine wpList_makeMap rfl _ rfl ?_
     intro p0 hp0
     have Hm0 := Lib.hid (show MapAt p0 W.heap.size [] by rw [hp0]; exact MapAt.fresh W)
     have Hp0 := Lib.hid (show Below W.heap.size W p0 by rw [hp0]; exact one_below W (.map #[] 0))
     clear hp0)
  | (refine wpList_put rfl 209 3 9 _ _ 1 rfl W.heap.size [] (.string ⟨#[112,110]⟩) rfl rfl Hm0.out Tryz.underlying209 Tryz.underlying3 (by simp) rfl ?_
     intro p1 hm1 ho1
     have Hm1 := Lib.hid hm1
     have Hp1 := Lib.hid (ho1.below Hp0.out (Nat.le_refl _))
     clear hm1 ho1)
  | (refine wpList_put rfl 209 3 9 _ _ 2 rfl W.heap.size [(1, .string ⟨#[112,110]⟩)] (.string ⟨#[112,110]⟩) rfl rfl Hm1.out Tryz.underlying209 Tryz.underlying3 (by simp) rfl ?_
     intro p2 hm2 ho2
     have Hm2 := Lib.hid hm2
     have Hp2 := Lib.hid (ho2.below Hp1.out (Nat.le_refl _))
     clear hm2 ho2)
  | (refine wpList_put rfl 209 3 9 _ _ 3 rfl W.heap.size [(1, .string ⟨#[112,110]⟩), (2, .string ⟨#[112,110]⟩)] (.string ⟨#[112,97,111]⟩) rfl rfl Hm2.out Tryz.underlying209 Tryz.underlying3 (by simp) rfl ?_
     intro p3 hm3 ho3
     have Hm3 := Lib.hid hm3
     have Hp3 := Lib.hid (ho3.below Hp2.out (Nat.le_refl _))
     clear hm3 ho3)
  | (refine wpList_put rfl 209 3 9 _ _ 4 rfl W.heap.size [(1, .string ⟨#[112,110]⟩), (2, .string ⟨#[112,110]⟩), (3, .string ⟨#[112,97,111]⟩)] (.string ⟨#[112,97,119]⟩) rfl rfl Hm3.out Tryz.underlying209 Tryz.underlying3 (by simp) rfl ?_
     intro p4 hm4 ho4
     have Hm4 := Lib.hid hm4
     have Hp4 := Lib.hid (ho4.below Hp3.out (Nat.le_refl _))
     clear hm4 ho4)
  | (refine wpList_put rfl 209 3 9 _ _ 5 rfl W.heap.size [(1, .string ⟨#[112,110]⟩), (2, .string ⟨#[112,110]⟩), (3, .string ⟨#[112,97,111]⟩), (4, .string ⟨#[112,97,119]⟩)] (.string ⟨#[112,116]⟩) rfl rfl Hm4.out Tryz.underlying209 Tryz.underlying3 (by simp) rfl ?_
     intro p5 hm5 ho5
     have Hm5 := Lib.hid hm5
     have Hp5 := Lib.hid (ho5.below Hp4.out (Nat.le_refl _))
     clear hm5 ho5)
  | (refine wpList_put rfl 209 3 9 _ _ 6 rfl W.heap.size [(1, .string ⟨#[112,110]⟩), (2, .string ⟨#[112,110]⟩), (3, .string ⟨#[112,97,111]⟩), (4, .string ⟨#[112,97,119]⟩), (5, .string ⟨#[112,116]⟩)] (.string ⟨#[112,111,119]⟩) rfl rfl Hm5.out Tryz.underlying209 Tryz.underlying3 (by simp) rfl ?_
     intro p6 hm6 ho6
     have Hm6 := Lib.hid hm6
     have Hp6 := Lib.hid (ho6.below Hp5.out (Nat.le_refl _))
     clear hm6 ho6)
  | (refine wpList_put rfl 209 3 9 _ _ 7 rfl W.heap.size [(1, .string ⟨#[112,110]⟩), (2, .string ⟨#[112,110]⟩), (3, .string ⟨#[112,97,111]⟩), (4, .string ⟨#[112,97,119]⟩), (5, .string ⟨#[112,116]⟩), (6, .string ⟨#[112,111,119]⟩)] (.string ⟨#[112,97,120]⟩) rfl rfl Hm6.out Tryz.underlying209 Tryz.underlying3 (by simp) rfl ?_
     intro p7 hm7 ho7
     have Hm7 := Lib.hid hm7
     have Hp7 := Lib.hid (ho7.below Hp6.out (Nat.le_refl _))
     clear hm7 ho7)
  | (refine wpList_put rfl 209 3 9 _ _ 8 rfl W.heap.size [(1, .string ⟨#[112,110]⟩), (2, .string ⟨#[112,110]⟩), (3, .string ⟨#[112,97,111]⟩), (4, .string ⟨#[112,97,119]⟩), (5, .string ⟨#[112,116]⟩), (6, .string ⟨#[112,111,119]⟩), (7, .string ⟨#[112,97,120]⟩)] (.string ⟨#[112,97,120]⟩) rfl rfl Hm7.out Tryz.underlying209 Tryz.underlying3 (by simp) rfl ?_
     intro p8 hm8 ho8
     have Hm8 := Lib.hid hm8
     have Hp8 := Lib.hid (ho8.below Hp7.out (Nat.le_refl _))
     clear hm8 ho8)
  | (refine wpList_put rfl 209 3 9 _ _ 9 rfl W.heap.size [(1, .string ⟨#[112,110]⟩), (2, .string ⟨#[112,110]⟩), (3, .string ⟨#[112,97,111]⟩), (4, .string ⟨#[112,97,119]⟩), (5, .string ⟨#[112,116]⟩), (6, .string ⟨#[112,111,119]⟩), (7, .string ⟨#[112,97,120]⟩), (8, .string ⟨#[112,97,120]⟩)] (.string ⟨#[115]⟩) rfl rfl Hm8.out Tryz.underlying209 Tryz.underlying3 (by simp) rfl ?_
     intro p9 hm9 ho9
     have Hm9 := Lib.hid hm9
     have Hp9 := Lib.hid (ho9.below Hp8.out (Nat.le_refl _))
     clear hm9 ho9))
 go_ret
 exact ⟨rfl, Hm9.out, Hp9.out⟩
theorem undoes_c (W : World) : Calls Tryz.prog 196 #[] W (fun e w' => e = .returned (.map (some W.heap.size)) /\ MapAt w' W.heap.size [(1, .int .i64 2), (2, .int .i64 1), (3, .int .i64 4), (4, .int .i64 3), (7, .int .i64 8), (8, .int .i64 7), (5, .int .i64 5), (6, .int .i64 6), (9, .int .i64 9)] /\ Below W.heap.size W w') := by
 go_enter Tryz.func196, Tryz.ntmps196
 go_wp2_with (first
  | (refine wpList_makeMap rfl _ rfl ?_
     intro p0 hp0
     have Hm0 := Lib.hid (show MapAt p0 W.heap.size [] by rw [hp0]; exact MapAt.fresh W)
     have Hp0 := Lib.hid (show Below W.heap.size W p0 by rw [hp0]; exact one_below W (.map #[] 0))
     clear hp0)
  | (refine wpList_put rfl 224 3 3 _ _ 1 rfl W.heap.size [] (.int .i64 2) rfl rfl Hm0.out Tryz.underlying224 Tryz.underlying3 (by simp) rfl ?_
     intro p1 hm1 ho1
     have Hm1 := Lib.hid hm1
     have Hp1 := Lib.hid (ho1.below Hp0.out (Nat.le_refl _))
     clear hm1 ho1)
  | (refine wpList_put rfl 224 3 3 _ _ 2 rfl W.heap.size [(1, .int .i64 2)] (.int .i64 1) rfl rfl Hm1.out Tryz.underlying224 Tryz.underlying3 (by simp) rfl ?_
     intro p2 hm2 ho2
     have Hm2 := Lib.hid hm2
     have Hp2 := Lib.hid (ho2.below Hp1.out (Nat.le_refl _))
     clear hm2 ho2)
  | (refine wpList_put rfl 224 3 3 _ _ 3 rfl W.heap.size [(1, .int .i64 2), (2, .int .i64 1)] (.int .i64 4) rfl rfl Hm2.out Tryz.underlying224 Tryz.underlying3 (by simp) rfl ?_
     intro p3 hm3 ho3
     have Hm3 := Lib.hid hm3
     have Hp3 := Lib.hid (ho3.below Hp2.out (Nat.le_refl _))
     clear hm3 ho3)
  | (refine wpList_put rfl 224 3 3 _ _ 4 rfl W.heap.size [(1, .int .i64 2), (2, .int .i64 1), (3, .int .i64 4)] (.int .i64 3) rfl rfl Hm3.out Tryz.underlying224 Tryz.underlying3 (by simp) rfl ?_
     intro p4 hm4 ho4
     have Hm4 := Lib.hid hm4
     have Hp4 := Lib.hid (ho4.below Hp3.out (Nat.le_refl _))
     clear hm4 ho4)
  | (refine wpList_put rfl 224 3 3 _ _ 7 rfl W.heap.size [(1, .int .i64 2), (2, .int .i64 1), (3, .int .i64 4), (4, .int .i64 3)] (.int .i64 8) rfl rfl Hm4.out Tryz.underlying224 Tryz.underlying3 (by simp) rfl ?_
     intro p5 hm5 ho5
     have Hm5 := Lib.hid hm5
     have Hp5 := Lib.hid (ho5.below Hp4.out (Nat.le_refl _))
     clear hm5 ho5)
  | (refine wpList_put rfl 224 3 3 _ _ 8 rfl W.heap.size [(1, .int .i64 2), (2, .int .i64 1), (3, .int .i64 4), (4, .int .i64 3), (7, .int .i64 8)] (.int .i64 7) rfl rfl Hm5.out Tryz.underlying224 Tryz.underlying3 (by simp) rfl ?_
     intro p6 hm6 ho6
     have Hm6 := Lib.hid hm6
     have Hp6 := Lib.hid (ho6.below Hp5.out (Nat.le_refl _))
     clear hm6 ho6)
  | (refine wpList_put rfl 224 3 3 _ _ 5 rfl W.heap.size [(1, .int .i64 2), (2, .int .i64 1), (3, .int .i64 4), (4, .int .i64 3), (7, .int .i64 8), (8, .int .i64 7)] (.int .i64 5) rfl rfl Hm6.out Tryz.underlying224 Tryz.underlying3 (by simp) rfl ?_
     intro p7 hm7 ho7
     have Hm7 := Lib.hid hm7
     have Hp7 := Lib.hid (ho7.below Hp6.out (Nat.le_refl _))
     clear hm7 ho7)
  | (refine wpList_put rfl 224 3 3 _ _ 6 rfl W.heap.size [(1, .int .i64 2), (2, .int .i64 1), (3, .int .i64 4), (4, .int .i64 3), (7, .int .i64 8), (8, .int .i64 7), (5, .int .i64 5)] (.int .i64 6) rfl rfl Hm7.out Tryz.underlying224 Tryz.underlying3 (by simp) rfl ?_
     intro p8 hm8 ho8
     have Hm8 := Lib.hid hm8
     have Hp8 := Lib.hid (ho8.below Hp7.out (Nat.le_refl _))
     clear hm8 ho8)
  | (refine wpList_put rfl 224 3 3 _ _ 9 rfl W.heap.size [(1, .int .i64 2), (2, .int .i64 1), (3, .int .i64 4), (4, .int .i64 3), (7, .int .i64 8), (8, .int .i64 7), (5, .int .i64 5), (6, .int .i64 6)] (.int .i64 9) rfl rfl Hm8.out Tryz.underlying224 Tryz.underlying3 (by simp) rfl ?_
     intro p9 hm9 ho9
     have Hm9 := Lib.hid hm9
     have Hp9 := Lib.hid (ho9.below Hp8.out (Nat.le_refl _))
     clear hm9 ho9))
 go_ret
 exact ⟨rfl, Hm9.out, Hp9.out⟩
end Go.Proofs.YtbommcakcmhalaaGreatDoor
