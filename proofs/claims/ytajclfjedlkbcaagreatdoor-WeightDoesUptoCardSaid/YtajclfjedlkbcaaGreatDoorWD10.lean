/- Parts of the proof, one behind the other: RHR, RVG, RVH, RN3, RR7, RVI. -/
import Derived.Test.YtajclfjedlkbcaaGreatDoorWD9
import Derived.Deep.MidRow
import Derived.Test.YtajclfjedlkbcaaGreatDoorWD1
import Derived.Test.YtajclfjedlkbcaaGreatDoorWD2
/- Walks: fix's remove, merge, fill; how a list of operations grows. -/
namespace Go.Proofs.YtajclfjedlkbcaaGreatDoor
open Go.RowKit Go.Redl
set_option linter.unusedVariables false
set_option linter.unusedSimpArgs false

theorem info_op : (Tryz.prog.info? 59).map (fun i => (i.zero, i.size, i.bytes)) = some (some (.agg #[.int .i64 0, .slice none 0 0, .slice none 0 0, .int .i64 0, .bool false, .slice none 0 0, .slice none 0 0, .slice none 0 0, .slice none 0 0, .slice none 0 0, .slice none 0 0, .bool false, .slice none 0 0, .int .i64 0, .slice none 0 0, .int .i64 0, .bool false, .slice none 0 0, .int .i64 0, .slice none 0 0, .int .i64 0]), 21, 360) := by kernel_rfl

/-- A whole box, loaded: NO unrolling (a load of n cells costs the kernel 2^n otherwise). -/
theorem At.load {P : Program} {w : World} {N : Nat} {cs : List Value} {T : TypeId} {d : TypeDesc} (h : At w N cs T) (hu : P.underlying T = some d) (hd : d.isRow = true) (hi : (P.info? T).map (·.size) = some cs.length) : (Instr.loadAt T (.pointer (some ⟨N, 0, none⟩))).run P w = .ok (.agg cs.toArray) w :=
  run_loadAt_mid w N 0 T cs d (fun j v hj => by rw [Nat.zero_add]; exact h.cell j hj) hu hd hi

/-- A list of operations that grows: its row is its own, in no block ahead of M, and nothing that its operations lead to lies in it. -/
def OpsO (L M : Nat) (w : World) (v : Value) (l : List OpD) : Prop := ∃ css, w.ownsRow M 59 21 v l.length css ∧ OpsQ w (fun b => L ≤ b ∧ v.ownBlock ≠ some b) l css
theorem OpsO.nil (L M : Nat) (w : World) : OpsO L M w (.slice none 0 0) [] := ⟨[], World.ownsRow_nil _ _ _ _, OpsQ.nil _ _⟩
theorem OpsO.below {L M : Nat} {w w' : World} {v : Value} {l : List OpD} (h : OpsO L M w v l) (hb : Below w.heap.size w w') : OpsO L M w' v l := by
  obtain ⟨css, h1, h2⟩ := h
  exact ⟨css, own_keep h1 hb, h2.stay (stay_below hb _)⟩
theorem OpsO.ops {L M : Nat} {w : World} {v : Value} {l : List OpD} (h : OpsO L M w v l) : OpsV w l v := by
  obtain ⟨css, h1, h2⟩ := h
  exact OpsV.of_own h1 h2
theorem OpsO.form {L M : Nat} {w : World} {v : Value} {l : List OpD} (h : OpsO L M w v l) : ∃ a c, v = .slice a l.length c := by
  obtain ⟨a, c, css, hv, -, -⟩ := h.ops
  exact ⟨a, c, hv⟩
theorem OpsO.lt {L M : Nat} {w : World} {v : Value} {l : List OpD} (h : OpsO L M w v l) : ∀ b, w.heap.size ≤ b → v.ownBlock ≠ some b := by
  obtain ⟨css, h1, h2⟩ := h
  intro b hb e
  have := h1.lt b e; omega
theorem OpsO.ge {L M : Nat} {w : World} {v : Value} {l : List OpD} (h : OpsO L M w v l) : ∀ b, v.ownBlock = some b → M ≤ b := by
  obtain ⟨css, h1, h2⟩ := h
  intro b e
  exact (h1.lt b e).1
theorem OpsO.from {L L' M : Nat} {w : World} {v : Value} {l : List OpD} (h : OpsO L M w v l) (hL : L' ≤ L) : OpsO L' M w v l := by
  obtain ⟨css, h1, h2⟩ := h
  exact ⟨css, h1, h2.stay ⟨Nat.le_refl _, fun _ _ _ => rfl, fun b hb _ => ⟨Nat.le_trans hL hb.1, hb.2⟩⟩⟩
theorem OpsO.set {L M : Nat} {w : World} {v : Value} {l : List OpD} (h : OpsO L M w v l) {N o : Nat} (hN : N < M) (hL : N < L) (u : Value) : OpsO L M (w.setCell ⟨N, o, none⟩ u) v l := by
  obtain ⟨css, h1, h2⟩ := h
  refine ⟨css, ownsRow_setCell_below (a := ⟨N, o, none⟩) h1 hN _, h2.stay ⟨by simp [World.setCell], fun b hb _ => Below.heap_setCell w ⟨N, o, none⟩ u b (by show b ≠ N; omega), fun _ hb _ => hb⟩⟩
/-- One more operation put in. -/
theorem OpsO.push {L M : Nat} {w0 w' : World} {v v' : Value} {l : List OpD} {o : OpD} {c : List Value} {ob : Obj} {css : List Value} (h1 : w0.ownsRow M 59 21 v l.length css) (h2 : OpsQ w0 (fun b => L ≤ b ∧ v.ownBlock ≠ some b) l css)
    (ho : OpQ w0 (fun b => L ≤ b ∧ v.ownBlock ≠ some b) o c) (hg : (w0.alloc ob).grownBy w' v.ownBlock) (hown : w'.ownsRow M 59 21 v' (l.length + 1) (css ++ c)) (hw : v'.ownBlock = v.ownBlock ∨ ∀ k, v'.ownBlock = some k → (w0.alloc ob).heap.size ≤ k) : OpsO L M w' v' (l ++ [o]) := by
  have hs := hg.size
  have hst : Stay w0 w' (fun b => L ≤ b ∧ v.ownBlock ≠ some b) (fun b => L ≤ b ∧ v'.ownBlock ≠ some b) := by
    refine ⟨by simp at hs; omega, fun b hb hlt => ?_, fun b hb hlt => ⟨hb.1, ?_⟩⟩
    · rw [hg.block b (by simp; omega) (fun e => hb.2 e.symm), Lib.alloc_old _ _ _ hlt]
    · rcases hw with e | e
      · rw [e]; exact hb.2
      · intro e2; have := e b e2; simp at this; omega
  refine ⟨css ++ c, by rw [List.length_append]; exact hown, OpsQ.append (h2.stay hst) (OpsQ.single (ho.stay hst))⟩
theorem below_grown {M : Nat} {w0 w' : World} {ob : Obj} {v : Value} (hg : (w0.alloc ob).grownBy w' v.ownBlock) (hM : M ≤ w0.heap.size) (hv : ∀ k, v.ownBlock = some k → M ≤ k) : Below M w0 w' :=
  ((Below.refl M w0).alloc hM ob).grown hg (by simp; omega) hv
/-- One operation, just laid. -/
theorem ops_one {w : World} {o : OpD} {c : List Value} {T : TypeId} (h : OpQ w (fun _ => True) o c) : OpsV (w.alloc (.cells c.toArray T)) [o] (.slice (some ⟨w.heap.size, 0, none⟩) 1 1) := by
  have hb := one_below w (.cells c.toArray T)
  refine ⟨_, _, c, rfl, ?_, OpsQ.single (h.stay (stay_below hb _))⟩
  exact (rowq_at (ok := fun _ => True) (At.fresh w c T) 1 21 (by rw [h.len]) (by omega) h.one trivial).row
abbrev OpsP (W : World) (l : List OpD) (e : Ending) (w' : World) : Prop := ∃ v, e = .returned v ∧ OpsV w' l v ∧ Below W.heap.size W w'
theorem _root_.Go.Redl.RowQ.any {w : World} {ok : Nat → Prop} {sz n cap : Nat} {a : Option Addr} {cs : List Value} (h : RowQ w ok sz a n cap cs) : RowQ w (fun _ => True) sz a n cap cs := h.keep (Nat.le_refl _) (fun _ _ _ => rfl) (fun _ _ _ => trivial)
theorem _root_.Go.Redl.RowQ.imp {w : World} {ok ok' : Nat → Prop} {sz n cap : Nat} {a : Option Addr} {cs : List Value} (h : RowQ w ok sz a n cap cs) (f : ∀ b, ok b → ok' b) : RowQ w ok' sz a n cap cs := h.keep (Nat.le_refl _) (fun _ _ _ => rfl) (fun b hb _ => f b hb)
theorem _root_.Go.Redl.RowQ.since {w w' : World} {ok : Nat → Prop} {sz n cap : Nat} {a : Option Addr} {cs : List Value} (h : RowQ w ok sz a n cap cs) (hb : Below w.heap.size w w') : RowQ w' ok sz a n cap cs := h.keep hb.size (fun b _ hlt => hb.block b hlt) (fun _ h _ => h)
theorem _root_.Go.Redl.NodeQ.any {w : World} {ok : Nat → Prop} {n : NodeD} {cs : List Value} (h : NodeQ w ok n cs) : NodeQ w (fun _ => True) n cs := NodeQ.keep (Nat.le_refl _) (fun _ _ _ => rfl) (fun _ _ _ => trivial) n cs h
theorem _root_.Go.Redl.NodeQ.since {w w' : World} {ok : Nat → Prop} {n : NodeD} {cs : List Value} (h : NodeQ w ok n cs) (hb : Below w.heap.size w w') : NodeQ w' ok n cs := NodeQ.keep hb.size (fun b _ hlt => hb.block b hlt) (fun _ h _ => h) n cs h

/-- What a job holds, at a world: its path, its element's Kids. -/
structure JobAt (W : World) (p : List Int) (pa : Option Addr) (pc : Nat) (ks : List NodeD) (ak : Option Addr) (ck : Nat) (css : List Value) (j : Nat) : Prop where
  path : RowA W W.heap.size 1 pa p.length pc (p.map (Value.int .i64))
  pl : p.length ≤ 100000
  kids : RowA W W.heap.size 4 ak ks.length ck css
  kids' : KidsC W W.heap.size ks css
  kl : wtAll ks ≤ 100000000
  at_ : j ≤ 100000000
theorem JobAt.keep {W w : World} {p : List Int} {pa : Option Addr} {pc : Nat} {ks : List NodeD} {ak : Option Addr} {ck : Nat} {css : List Value} {j : Nat} (h : JobAt W p pa pc ks ak ck css j) (hb : Below W.heap.size W w) : JobAt w p pa pc ks ak ck css j :=
  ⟨h.path.keep hb hb.size, h.pl, h.kids.keep hb hb.size, KidsC.keep hb hb.size _ _ h.kids', h.kl, h.at_⟩

theorem At.s16 {w : World} {N : Nat} {c0 c1 c2 c3 c4 c5 c6 c7 c8 c9 c10 c11 c12 c13 c14 c15 : Value} {T : TypeId} (h : At w N [c0, c1, c2, c3, c4, c5, c6, c7, c8, c9, c10, c11, c12, c13, c14, c15] T) (d0 d1 d2 d3 d4 d5 d6 d7 d8 d9 d10 d11 d12 d13 d14 d15 : Value) : At ((((((((((((((((w.setCell ⟨N, 0, none⟩ d0).setCell ⟨N, 1, none⟩ d1).setCell ⟨N, 2, none⟩ d2).setCell ⟨N, 3, none⟩ d3).setCell ⟨N, 4, none⟩ d4).setCell ⟨N, 5, none⟩ d5).setCell ⟨N, 6, none⟩ d6).setCell ⟨N, 7, none⟩ d7).setCell ⟨N, 8, none⟩ d8).setCell ⟨N, 9, none⟩ d9).setCell ⟨N, 10, none⟩ d10).setCell ⟨N, 11, none⟩ d11).setCell ⟨N, 12, none⟩ d12).setCell ⟨N, 13, none⟩ d13).setCell ⟨N, 14, none⟩ d14).setCell ⟨N, 15, none⟩ d15) N [d0, d1, d2, d3, d4, d5, d6, d7, d8, d9, d10, d11, d12, d13, d14, d15] T := by
  have h0 : At (w.setCell ⟨N, 0, none⟩ d0) N [d0, c1, c2, c3, c4, c5, c6, c7, c8, c9, c10, c11, c12, c13, c14, c15] T := h.set 0 d0
  have h1 : At ((w.setCell ⟨N, 0, none⟩ d0).setCell ⟨N, 1, none⟩ d1) N [d0, d1, c2, c3, c4, c5, c6, c7, c8, c9, c10, c11, c12, c13, c14, c15] T := h0.set 1 d1
  have h2 : At (((w.setCell ⟨N, 0, none⟩ d0).setCell ⟨N, 1, none⟩ d1).setCell ⟨N, 2, none⟩ d2) N [d0, d1, d2, c3, c4, c5, c6, c7, c8, c9, c10, c11, c12, c13, c14, c15] T := h1.set 2 d2
  have h3 : At ((((w.setCell ⟨N, 0, none⟩ d0).setCell ⟨N, 1, none⟩ d1).setCell ⟨N, 2, none⟩ d2).setCell ⟨N, 3, none⟩ d3) N [d0, d1, d2, d3, c4, c5, c6, c7, c8, c9, c10, c11, c12, c13, c14, c15] T := h2.set 3 d3
  have h4 : At (((((w.setCell ⟨N, 0, none⟩ d0).setCell ⟨N, 1, none⟩ d1).setCell ⟨N, 2, none⟩ d2).setCell ⟨N, 3, none⟩ d3).setCell ⟨N, 4, none⟩ d4) N [d0, d1, d2, d3, d4, c5, c6, c7, c8, c9, c10, c11, c12, c13, c14, c15] T := h3.set 4 d4
  have h5 : At ((((((w.setCell ⟨N, 0, none⟩ d0).setCell ⟨N, 1, none⟩ d1).setCell ⟨N, 2, none⟩ d2).setCell ⟨N, 3, none⟩ d3).setCell ⟨N, 4, none⟩ d4).setCell ⟨N, 5, none⟩ d5) N [d0, d1, d2, d3, d4, d5, c6, c7, c8, c9, c10, c11, c12, c13, c14, c15] T := h4.set 5 d5
  have h6 : At (((((((w.setCell ⟨N, 0, none⟩ d0).setCell ⟨N, 1, none⟩ d1).setCell ⟨N, 2, none⟩ d2).setCell ⟨N, 3, none⟩ d3).setCell ⟨N, 4, none⟩ d4).setCell ⟨N, 5, none⟩ d5).setCell ⟨N, 6, none⟩ d6) N [d0, d1, d2, d3, d4, d5, d6, c7, c8, c9, c10, c11, c12, c13, c14, c15] T := h5.set 6 d6
  have h7 : At ((((((((w.setCell ⟨N, 0, none⟩ d0).setCell ⟨N, 1, none⟩ d1).setCell ⟨N, 2, none⟩ d2).setCell ⟨N, 3, none⟩ d3).setCell ⟨N, 4, none⟩ d4).setCell ⟨N, 5, none⟩ d5).setCell ⟨N, 6, none⟩ d6).setCell ⟨N, 7, none⟩ d7) N [d0, d1, d2, d3, d4, d5, d6, d7, c8, c9, c10, c11, c12, c13, c14, c15] T := h6.set 7 d7
  have h8 : At (((((((((w.setCell ⟨N, 0, none⟩ d0).setCell ⟨N, 1, none⟩ d1).setCell ⟨N, 2, none⟩ d2).setCell ⟨N, 3, none⟩ d3).setCell ⟨N, 4, none⟩ d4).setCell ⟨N, 5, none⟩ d5).setCell ⟨N, 6, none⟩ d6).setCell ⟨N, 7, none⟩ d7).setCell ⟨N, 8, none⟩ d8) N [d0, d1, d2, d3, d4, d5, d6, d7, d8, c9, c10, c11, c12, c13, c14, c15] T := h7.set 8 d8
  have h9 : At ((((((((((w.setCell ⟨N, 0, none⟩ d0).setCell ⟨N, 1, none⟩ d1).setCell ⟨N, 2, none⟩ d2).setCell ⟨N, 3, none⟩ d3).setCell ⟨N, 4, none⟩ d4).setCell ⟨N, 5, none⟩ d5).setCell ⟨N, 6, none⟩ d6).setCell ⟨N, 7, none⟩ d7).setCell ⟨N, 8, none⟩ d8).setCell ⟨N, 9, none⟩ d9) N [d0, d1, d2, d3, d4, d5, d6, d7, d8, d9, c10, c11, c12, c13, c14, c15] T := h8.set 9 d9
  have h10 : At (((((((((((w.setCell ⟨N, 0, none⟩ d0).setCell ⟨N, 1, none⟩ d1).setCell ⟨N, 2, none⟩ d2).setCell ⟨N, 3, none⟩ d3).setCell ⟨N, 4, none⟩ d4).setCell ⟨N, 5, none⟩ d5).setCell ⟨N, 6, none⟩ d6).setCell ⟨N, 7, none⟩ d7).setCell ⟨N, 8, none⟩ d8).setCell ⟨N, 9, none⟩ d9).setCell ⟨N, 10, none⟩ d10) N [d0, d1, d2, d3, d4, d5, d6, d7, d8, d9, d10, c11, c12, c13, c14, c15] T := h9.set 10 d10
  have h11 : At ((((((((((((w.setCell ⟨N, 0, none⟩ d0).setCell ⟨N, 1, none⟩ d1).setCell ⟨N, 2, none⟩ d2).setCell ⟨N, 3, none⟩ d3).setCell ⟨N, 4, none⟩ d4).setCell ⟨N, 5, none⟩ d5).setCell ⟨N, 6, none⟩ d6).setCell ⟨N, 7, none⟩ d7).setCell ⟨N, 8, none⟩ d8).setCell ⟨N, 9, none⟩ d9).setCell ⟨N, 10, none⟩ d10).setCell ⟨N, 11, none⟩ d11) N [d0, d1, d2, d3, d4, d5, d6, d7, d8, d9, d10, d11, c12, c13, c14, c15] T := h10.set 11 d11
  have h12 : At (((((((((((((w.setCell ⟨N, 0, none⟩ d0).setCell ⟨N, 1, none⟩ d1).setCell ⟨N, 2, none⟩ d2).setCell ⟨N, 3, none⟩ d3).setCell ⟨N, 4, none⟩ d4).setCell ⟨N, 5, none⟩ d5).setCell ⟨N, 6, none⟩ d6).setCell ⟨N, 7, none⟩ d7).setCell ⟨N, 8, none⟩ d8).setCell ⟨N, 9, none⟩ d9).setCell ⟨N, 10, none⟩ d10).setCell ⟨N, 11, none⟩ d11).setCell ⟨N, 12, none⟩ d12) N [d0, d1, d2, d3, d4, d5, d6, d7, d8, d9, d10, d11, d12, c13, c14, c15] T := h11.set 12 d12
  have h13 : At ((((((((((((((w.setCell ⟨N, 0, none⟩ d0).setCell ⟨N, 1, none⟩ d1).setCell ⟨N, 2, none⟩ d2).setCell ⟨N, 3, none⟩ d3).setCell ⟨N, 4, none⟩ d4).setCell ⟨N, 5, none⟩ d5).setCell ⟨N, 6, none⟩ d6).setCell ⟨N, 7, none⟩ d7).setCell ⟨N, 8, none⟩ d8).setCell ⟨N, 9, none⟩ d9).setCell ⟨N, 10, none⟩ d10).setCell ⟨N, 11, none⟩ d11).setCell ⟨N, 12, none⟩ d12).setCell ⟨N, 13, none⟩ d13) N [d0, d1, d2, d3, d4, d5, d6, d7, d8, d9, d10, d11, d12, d13, c14, c15] T := h12.set 13 d13
  have h14 : At (((((((((((((((w.setCell ⟨N, 0, none⟩ d0).setCell ⟨N, 1, none⟩ d1).setCell ⟨N, 2, none⟩ d2).setCell ⟨N, 3, none⟩ d3).setCell ⟨N, 4, none⟩ d4).setCell ⟨N, 5, none⟩ d5).setCell ⟨N, 6, none⟩ d6).setCell ⟨N, 7, none⟩ d7).setCell ⟨N, 8, none⟩ d8).setCell ⟨N, 9, none⟩ d9).setCell ⟨N, 10, none⟩ d10).setCell ⟨N, 11, none⟩ d11).setCell ⟨N, 12, none⟩ d12).setCell ⟨N, 13, none⟩ d13).setCell ⟨N, 14, none⟩ d14) N [d0, d1, d2, d3, d4, d5, d6, d7, d8, d9, d10, d11, d12, d13, d14, c15] T := h13.set 14 d14
  exact h14.set 15 d15
theorem At.n16 {w : World} {N M : Nat} {cs : List Value} {T : TypeId} (h : At w M cs T) (hne : M ≠ N) (d0 d1 d2 d3 d4 d5 d6 d7 d8 d9 d10 d11 d12 d13 d14 d15 : Value) : At ((((((((((((((((w.setCell ⟨N, 0, none⟩ d0).setCell ⟨N, 1, none⟩ d1).setCell ⟨N, 2, none⟩ d2).setCell ⟨N, 3, none⟩ d3).setCell ⟨N, 4, none⟩ d4).setCell ⟨N, 5, none⟩ d5).setCell ⟨N, 6, none⟩ d6).setCell ⟨N, 7, none⟩ d7).setCell ⟨N, 8, none⟩ d8).setCell ⟨N, 9, none⟩ d9).setCell ⟨N, 10, none⟩ d10).setCell ⟨N, 11, none⟩ d11).setCell ⟨N, 12, none⟩ d12).setCell ⟨N, 13, none⟩ d13).setCell ⟨N, 14, none⟩ d14).setCell ⟨N, 15, none⟩ d15) M cs T :=
  (((((((((((((((h.set_ne hne _).set_ne hne _).set_ne hne _).set_ne hne _).set_ne hne _).set_ne hne _).set_ne hne _).set_ne hne _).set_ne hne _).set_ne hne _).set_ne hne _).set_ne hne _).set_ne hne _).set_ne hne _).set_ne hne _).set_ne hne _
theorem below_s16 {B : Nat} {W w : World} {N : Nat} (h : Below B W w) (hN : B ≤ N) (d0 d1 d2 d3 d4 d5 d6 d7 d8 d9 d10 d11 d12 d13 d14 d15 : Value) : Below B W ((((((((((((((((w.setCell ⟨N, 0, none⟩ d0).setCell ⟨N, 1, none⟩ d1).setCell ⟨N, 2, none⟩ d2).setCell ⟨N, 3, none⟩ d3).setCell ⟨N, 4, none⟩ d4).setCell ⟨N, 5, none⟩ d5).setCell ⟨N, 6, none⟩ d6).setCell ⟨N, 7, none⟩ d7).setCell ⟨N, 8, none⟩ d8).setCell ⟨N, 9, none⟩ d9).setCell ⟨N, 10, none⟩ d10).setCell ⟨N, 11, none⟩ d11).setCell ⟨N, 12, none⟩ d12).setCell ⟨N, 13, none⟩ d13).setCell ⟨N, 14, none⟩ d14).setCell ⟨N, 15, none⟩ d15) :=
  (((((((((((((((h.setCell (p := ⟨N, 0, none⟩) hN _).setCell (p := ⟨N, 1, none⟩) hN _).setCell (p := ⟨N, 2, none⟩) hN _).setCell (p := ⟨N, 3, none⟩) hN _).setCell (p := ⟨N, 4, none⟩) hN _).setCell (p := ⟨N, 5, none⟩) hN _).setCell (p := ⟨N, 6, none⟩) hN _).setCell (p := ⟨N, 7, none⟩) hN _).setCell (p := ⟨N, 8, none⟩) hN _).setCell (p := ⟨N, 9, none⟩) hN _).setCell (p := ⟨N, 10, none⟩) hN _).setCell (p := ⟨N, 11, none⟩) hN _).setCell (p := ⟨N, 12, none⟩) hN _).setCell (p := ⟨N, 13, none⟩) hN _).setCell (p := ⟨N, 14, none⟩) hN _).setCell (p := ⟨N, 15, none⟩) hN _
theorem rowq_s16 {w : World} {ok : Nat → Prop} {sz n cap N : Nat} {a : Option Addr} {cs : List Value} (h : RowQ w ok sz a n cap cs) (hne : ¬ ok N) (d0 d1 d2 d3 d4 d5 d6 d7 d8 d9 d10 d11 d12 d13 d14 d15 : Value) : RowQ ((((((((((((((((w.setCell ⟨N, 0, none⟩ d0).setCell ⟨N, 1, none⟩ d1).setCell ⟨N, 2, none⟩ d2).setCell ⟨N, 3, none⟩ d3).setCell ⟨N, 4, none⟩ d4).setCell ⟨N, 5, none⟩ d5).setCell ⟨N, 6, none⟩ d6).setCell ⟨N, 7, none⟩ d7).setCell ⟨N, 8, none⟩ d8).setCell ⟨N, 9, none⟩ d9).setCell ⟨N, 10, none⟩ d10).setCell ⟨N, 11, none⟩ d11).setCell ⟨N, 12, none⟩ d12).setCell ⟨N, 13, none⟩ d13).setCell ⟨N, 14, none⟩ d14).setCell ⟨N, 15, none⟩ d15) ok sz a n cap cs :=
  rowq_set (rowq_set (rowq_set (rowq_set (rowq_set (rowq_set (rowq_set (rowq_set (rowq_set (rowq_set (rowq_set (rowq_set (rowq_set (rowq_set (rowq_set (rowq_set h hne) hne) hne) hne) hne) hne) hne) hne) hne) hne) hne) hne) hne) hne) hne) hne

theorem prop_cl_ent : ∀ args w, (callFunc 86 args).run Tryz.prog w = .ok (.enter 86 args) w := by intro args w; kernel_rfl

end Go.Proofs.YtajclfjedlkbcaaGreatDoor
/- Walks: whether a schema is small enough to be played. -/
namespace Go.Proofs.YtajclfjedlkbcaaGreatDoor
open Go.RowKit Go.Redl
set_option linter.unusedVariables false
set_option linter.unusedSimpArgs false

theorem info_rule : (Tryz.prog.info? 27).map (fun i => (i.zero, i.size, i.bytes)) = some (some (.agg #[.string ⟨#[]⟩, .int .i64 0, .string ⟨#[]⟩, .int .i64 0, .string ⟨#[]⟩, .slice none 0 0, .int .i64 0, .string ⟨#[]⟩]), 8, 112) := by kernel_rfl

set_option maxRecDepth 100000 in
set_option maxHeartbeats 2000000 in
theorem rall_c (a : Option Addr) (n c : Nat) (css : List Value) (e1 e3 e5 e8 : List UInt8) (e2 e4 e7 : Int) (ea : Option Addr) (en ec : Nat) (v9 v10 v11 v12 v13 v14 v15 : Value) (W : World) (hr : RowA W W.heap.size 8 a n c css) (hn : n ≤ 100000000) :
    Calls Tryz.prog 28 #[.agg #[.slice a n c, strV e1, .int .i64 e2, strV e3, .int .i64 e4, strV e5, .slice ea en ec, .int .i64 e7, strV e8, v9, v10, v11, v12, v13, v14, v15]] W (MadeRow W 27 8 (n + 1) (css ++ [strV e1, .int .i64 e2, strV e3, .int .i64 e4, strV e5, .slice ea en ec, .int .i64 e7, strV e8])) := by
  obtain ⟨w0, hw0⟩ : ∃ w0, w0 = W.alloc (Obj.cells #[.slice a n c, strV e1, .int .i64 e2, strV e3, .int .i64 e4, strV e5, .slice ea en ec, .int .i64 e7, strV e8, v9, v10, v11, v12, v13, v14, v15] 30) := ⟨_, rfl⟩
  have hb0 : Below W.heap.size W w0 := by rw [hw0]; exact one_below _ _
  have hB : At w0 W.heap.size [.slice a n c, strV e1, .int .i64 e2, strV e3, .int .i64 e4, strV e5, .slice ea en ec, .int .i64 e7, strV e8, v9, v10, v11, v12, v13, v14, v15] 30 := by rw [hw0]; exact At.fresh _ _ _
  have HR := Lib.hid (fun (w1 : World) (hb : Below w0.heap.size w0 w1) => hr.keep (hb0.trans (hb.mono hb0.size)) (hb0.trans (hb.mono hb0.size)).size)
  have HS9 := Lib.hid (fun (w' : World) (h : At w' W.heap.size [.slice a n c, strV e1, .int .i64 e2, strV e3, .int .i64 e4, strV e5, .slice ea en ec, .int .i64 e7, strV e8, v9, v10, v11, v12, v13, v14, v15] 30) => (show w'.cell? ⟨W.heap.size, 0, none⟩ = some (.slice a n c) ∧ w'.cell? ⟨W.heap.size, 1, none⟩ = some (strV e1) ∧ w'.cell? ⟨W.heap.size, 2, none⟩ = some (.int .i64 e2) ∧ w'.cell? ⟨W.heap.size, 3, none⟩ = some (strV e3) ∧ w'.cell? ⟨W.heap.size, 4, none⟩ = some (.int .i64 e4) ∧ w'.cell? ⟨W.heap.size, 5, none⟩ = some (strV e5) ∧ w'.cell? ⟨W.heap.size, 6, none⟩ = some (.slice ea en ec) ∧ w'.cell? ⟨W.heap.size, 7, none⟩ = some (.int .i64 e7) ∧ w'.cell? ⟨W.heap.size, 8, none⟩ = some (strV e8) by
    obtain ⟨x0, x1, x2, x3, x4, x5, x6, x7, x8, -⟩ := h.f16.1
    exact ⟨x0, x1, x2, x3, x4, x5, x6, x7, x8⟩))
  have HS0 := Lib.hid (fun (w' : World) (hb : Below w0.heap.size w0 w') => HS9.out w' (hB.kept hb))
  have HB := Lib.hid hB
  have Hw0 := Lib.hid hw0; have Hb0 := Lib.hid hb0; have Hone := Lib.hid hr.one
  have hsz : W.heap.size + 1 ≤ w0.heap.size := hB.lt
  clear hw0 hb0 hB hr
  go_enter Tryz.func28, Tryz.ntmps28
  go_upto_region 1 with fail
  rw [← Hw0.out]
  clear Hw0
  go_region_held3 (fun w' => w'.cell? ⟨W.heap.size, 0, none⟩ = some (.slice a n c) ∧ w'.cell? ⟨W.heap.size, 1, none⟩ = some (strV e1) ∧ w'.cell? ⟨W.heap.size, 2, none⟩ = some (.int .i64 e2) ∧ w'.cell? ⟨W.heap.size, 3, none⟩ = some (strV e3) ∧ w'.cell? ⟨W.heap.size, 4, none⟩ = some (.int .i64 e4) ∧ w'.cell? ⟨W.heap.size, 5, none⟩ = some (strV e5) ∧ w'.cell? ⟨W.heap.size, 6, none⟩ = some (.slice ea en ec) ∧ w'.cell? ⟨W.heap.size, 7, none⟩ = some (.int .i64 e7) ∧ w'.cell? ⟨W.heap.size, 8, none⟩ = some (strV e8)) (first | with_reducible exact HS2.out | (refine HS0.out _ (by ((repeat (first | with_reducible exact Hb1.out | with_reducible exact Below.refl _ _ | with_reducible refine Below.drew ?_ | with_reducible refine Below.alloc ?_ ?_ _ | with_reducible refine Below.setCell ?_ ?_ _)) <;> (first | with_reducible exact Nat.le_refl _ | with_reducible exact Hb1.out.size | (have hsz := Hb1.out.size; simp [World.setCell]; omega) | (simp; done) | (simp; omega) | omega)))))
    (first
    | (refine step_app rfl _ _ 22 rfl _ 27 _ 8 112 Tryz.underlying22 info_rule rfl (by decide) (.slice none 0 0) 0 [] ?_ (World.ownsRow_nil _ _ _ _) a n c _ _ ?_ (HR.out _ (by ((repeat (first | with_reducible exact Below.refl _ _ | with_reducible refine Below.drew ?_ | with_reducible refine Below.alloc ?_ ?_ _ | with_reducible refine Below.setCell ?_ ?_ _)) <;> (first | with_reducible exact Nat.le_refl _ | (simp; done) | (simp; omega) | omega)))) ?_ ?_ (Nat.le_refl _) ?_
       · go_simp
       · go_simp
       · unfold maxLen; omega
       · omega
       intro v1 w1 hown hgrow
       have hbel := below_of_grown hgrow
       have Hz1 := Lib.hid hbel.size
       have Hb1 := Lib.hid (Below.and (w0 := w0) (by ((repeat (first | with_reducible exact Below.refl _ _ | with_reducible refine Below.drew ?_ | with_reducible refine Below.alloc ?_ ?_ _ | with_reducible refine Below.setCell ?_ ?_ _)) <;> (first | with_reducible exact Nat.le_refl _ | (simp; done) | (simp; omega) | omega))) hbel)
       rw [Nat.zero_add, List.nil_append] at hown
       have Hown := Lib.hid (own_mono (base := W.heap.size + 1) hown (by simp; omega))
       have HB1 := Lib.hid (HB.out.kept Hb1.out)
       first
         | (refine At.lay (N := ?_) (cs := [strV e1, .int .i64 e2, strV e3, .int .i64 e4, strV e5, .slice ea en ec, .int .i64 e7, strV e8]) (T := 27) (At.kept ?_ hbel) ?_
            rotate_left
            · (repeat (first | with_reducible exact At.second _ _ _ _ | with_reducible exact At.fresh _ _ _ | with_reducible refine At.drew ?_ | with_reducible refine At.alloc ?_ _))
            intro HE1)
         | skip
       clear hown hgrow hbel)
    | (refine step_app rfl _ _ 22 rfl (W.heap.size + 1) 27 _ 8 112 Tryz.underlying22 info_rule rfl (by decide) v1 n css ?_ (own_keep Hown.out (one_below _ _)) (some ⟨w1.heap.size, 0, none⟩) 1 1 _ [strV e1, .int .i64 e2, strV e3, .int .i64 e4, strV e5, .slice ea en ec, .int .i64 e7, strV e8] ?_ (RowQ.row (ok := fun _ => True) (rowq_at (T := 27) (by (repeat (first | with_reducible exact HE1.out | with_reducible exact At.second _ _ _ _ | with_reducible exact At.fresh _ _ _ | with_reducible refine At.drew ?_ | with_reducible refine At.alloc ?_ _))) 1 8 rfl (by omega) (by intro u hu; simp at hu; rcases hu with rfl | rfl | rfl | rfl | rfl | rfl | rfl | rfl <;> rfl) trivial)) ?_ ?_ ?_ ?_
       · go_simp
       · go_simp
       · unfold maxLen; omega
       · omega
       · have := Hb1.out.size; simp; omega
       intro v2 w2 hown2 hgrow2
       have Hown2 := Lib.hid hown2
       have Hb2 := Lib.hid ((show Below W.heap.size W _ from Hb0.out.trans ((show Below w0.heap.size w0 _ by ((repeat (first | with_reducible exact Hb1.out | with_reducible exact Below.refl _ _ | with_reducible refine Below.drew ?_ | with_reducible refine Below.alloc ?_ ?_ _ | with_reducible refine Below.setCell ?_ ?_ _)) <;> (first | with_reducible exact Nat.le_refl _ | with_reducible exact Hb1.out.size | (have hsz := Hb1.out.size; simp [World.setCell]; omega) | (simp; done) | (simp; omega) | omega))).mono Hb0.out.size)).grown hgrow2 (by have := Hb1.out.size; simp; omega) (fun k hk => by have := (Hown.out.lt k hk).1; omega))
       have HS2 := Lib.hid (HS9.out _ (At.grown (show At _ W.heap.size [.slice a n c, strV e1, .int .i64 e2, strV e3, .int .i64 e4, strV e5, .slice ea en ec, .int .i64 e7, strV e8, v9, v10, v11, v12, v13, v14, v15] 30 by (repeat (first | with_reducible exact HB1.out | with_reducible exact At.second _ _ _ _ | with_reducible exact At.fresh _ _ _ | with_reducible refine At.drew ?_ | with_reducible refine At.alloc ?_ _))) hgrow2 (fun e => by have := (Hown.out.lt _ e).1; omega)))
       clear hown2 hgrow2)
    | (refine step_app rfl _ _ 22 rfl (W.heap.size + 1) 27 _ 8 112 Tryz.underlying22 info_rule rfl (by decide) v1 n css ?_ Hown.out (some ⟨w0.heap.size, 0, none⟩) 1 1 _ [strV e1, .int .i64 e2, strV e3, .int .i64 e4, strV e5, .slice ea en ec, .int .i64 e7, strV e8] ?_ (RowQ.row (ok := fun _ => True) (rowq_at (T := 27) (by (repeat (first | with_reducible exact HE1.out | with_reducible exact At.second _ _ _ _ | with_reducible exact At.fresh _ _ _ | with_reducible refine At.drew ?_ | with_reducible refine At.alloc ?_ _))) 1 8 rfl (by omega) (by intro u hu; simp at hu; rcases hu with rfl | rfl | rfl | rfl | rfl | rfl | rfl | rfl <;> rfl) trivial)) ?_ ?_ ?_ ?_
       · go_simp
       · go_simp
       · unfold maxLen; omega
       · omega
       · have := Hb1.out.size; simp; omega
       intro v2 w2 hown2 hgrow2
       have Hown2 := Lib.hid hown2
       have Hb2 := Lib.hid ((show Below W.heap.size W _ from Hb0.out.trans ((show Below w0.heap.size w0 _ by ((repeat (first | with_reducible exact Hb1.out | with_reducible exact Below.refl _ _ | with_reducible refine Below.drew ?_ | with_reducible refine Below.alloc ?_ ?_ _ | with_reducible refine Below.setCell ?_ ?_ _)) <;> (first | with_reducible exact Nat.le_refl _ | with_reducible exact Hb1.out.size | (have hsz := Hb1.out.size; simp [World.setCell]; omega) | (simp; done) | (simp; omega) | omega))).mono Hb0.out.size)).grown hgrow2 (by have := Hb1.out.size; simp; omega) (fun k hk => by have := (Hown.out.lt k hk).1; omega))
       have HS2 := Lib.hid (HS9.out _ (At.grown (show At _ W.heap.size [.slice a n c, strV e1, .int .i64 e2, strV e3, .int .i64 e4, strV e5, .slice ea en ec, .int .i64 e7, strV e8, v9, v10, v11, v12, v13, v14, v15] 30 by (repeat (first | with_reducible exact HB1.out | with_reducible exact At.second _ _ _ _ | with_reducible exact At.fresh _ _ _ | with_reducible refine At.drew ?_ | with_reducible refine At.alloc ?_ _))) hgrow2 (fun e => by have := (Hown.out.lt _ e).1; omega)))
       clear hown2 hgrow2)
    )
  all_goals
    go_wp2_with fail
    go_ret
    exact ⟨_, rfl, own_mono Hown2.out (Nat.le_succ _), Hb2.out⟩

end Go.Proofs.YtajclfjedlkbcaaGreatDoor
/- Walks: whether a schema is small enough to be played. -/
namespace Go.Proofs.YtajclfjedlkbcaaGreatDoor
open Go.RowKit Go.Redl
set_option linter.unusedVariables false
set_option linter.unusedSimpArgs false

theorem RulesC.snoc {w : World} {B : Nat} {r : RuleD} {c2 : List Value} (hr : RuleC w B r c2) : ∀ {rs : List RuleD} {css : List Value}, RulesC w B rs css → RulesC w B (rs ++ [r]) (css ++ c2)
  | [], css, h => by
    rw [show css = [] from h]
    exact ⟨c2, [], by simp, hr, rfl⟩
  | q :: rs, css, h => by
    obtain ⟨c1, c3, rfl, h2, h3⟩ := h
    exact ⟨c1, c3 ++ c2, by simp, h2, RulesC.snoc hr h3⟩
theorem all_wt {s : SchemaD} (hw : s.wt ≤ 100000000) : ∀ j (hj : j < (s.rules ++ [s.els]).length), (s.rules ++ [s.els])[j].kids.length ≤ 100000000 := by
  intro j hj
  have hm := List.getElem_mem hj
  have h : (s.rules ++ [s.els])[j].wt ≤ s.wt := by
    unfold SchemaD.wt
    rcases List.mem_append.1 hm with h | h
    · have := rulesWt_mem h; omega
    · rw [List.mem_singleton.1 h]; omega
  have := kids_wt (s.rules ++ [s.els])[j]
  omega
/-- What a pair adds to the count, a rule's head, a rule, a schema: as the walk has them, wraps and all. -/
def pairZ (z : Int) (p : PairD) : Int := wrap64 (z + wrap64 ((wrap64 ((p.1.length : Int) + (p.2.2.length : Int))).tdiv 64))
def headZ (y : Int) (q : RuleD) : Int := wrap64 (y + wrap64 (1 + (q.kids.length : Int) + wrap64 ((wrap64 (wrap64 (wrap64 ((q.type.length : Int) + (q.text.2.length : Int)) + (q.other.2.length : Int)) + (q.fillT.length : Int))).tdiv 64)))
def ruleZ (y : Int) (q : RuleD) : Int := q.kids.foldl pairZ (headZ y q)
def fewZ (l : List RuleD) : Bool := decide (l.foldl ruleZ 0 ≤ 80)

set_option maxRecDepth 100000 in
set_option maxHeartbeats 2000000 in
theorem rfew15_c (s : SchemaD) (v : Value) (W : World) (hw : s.wt ≤ 100000000) (hv : SchemaV W W.heap.size s v) :
    Calls Tryz.prog 14 #[v] W (fun e w' => e = .returned (.bool (fewZ (s.rules ++ [s.els]))) ∧ Below W.heap.size W w') := by
  have hrl : s.rules.length ≤ 100000000 - 1 := by have := rulesWt_len s.rules; have : 1 ≤ s.els.wt := by { unfold RuleD.wt; omega }; unfold SchemaD.wt at hw; omega
  obtain ⟨a, c, css, ea, ec, o0, o1, o2, o3, o4, o5, rfl, h1, h2, h3, -⟩ := hv.open
  have hkl := all_wt hw
  obtain ⟨rs, ⟨ty, ⟨td, tt⟩, ⟨od, ot⟩, kids, fill, ft⟩, order, scap⟩ := s
  simp only at hrl h1 h2 h3 hkl ⊢
  obtain ⟨w0, hw0⟩ : ∃ w0, w0 = W.alloc (Obj.cells #[.slice a rs.length c, strV ty, .int .i64 td, strV tt, .int .i64 od, strV ot, .slice ea kids.length ec, .int .i64 fill, strV ft, .int .i64 o0, .int .i64 o1, .int .i64 o2, .int .i64 o3, .int .i64 o4, .int .i64 o5, .int .i64 scap] 30) := ⟨_, rfl⟩
  have hb0 : Below W.heap.size W w0 := by rw [hw0]; exact one_below _ _
  have hA : At w0 W.heap.size [.slice a rs.length c, strV ty, .int .i64 td, strV tt, .int .i64 od, strV ot, .slice ea kids.length ec, .int .i64 fill, strV ft, .int .i64 o0, .int .i64 o1, .int .i64 o2, .int .i64 o3, .int .i64 o4, .int .i64 o5, .int .i64 scap] 30 := by rw [hw0]; exact At.fresh _ _ _
  have HC := Lib.hid (rall_c a rs.length c css ty tt ot ft td od fill ea kids.length ec (.int .i64 o0) (.int .i64 o1) (.int .i64 o2) (.int .i64 o3) (.int .i64 o4) (.int .i64 o5) (.int .i64 scap) w0 (h1.keep hb0 hb0.size) (by omega))
  have HR := Lib.hid (fun (w' : World) (hb : Below W.heap.size W w') => RulesC.snoc (r := ⟨ty, (td, tt), (od, ot), kids, fill, ft⟩) (c2 := [strV ty, .int .i64 td, strV tt, .int .i64 od, strV ot, .slice ea kids.length ec, .int .i64 fill, strV ft]) (⟨ea, ec, rfl, h3.keep hb hb.size⟩) (RulesC.keep hb hb.size h2))
  have Hb0 := Lib.hid hb0; have Hw0 := Lib.hid hw0
  obtain ⟨L, hL⟩ : ∃ L : List RuleD, L = rs ++ [⟨ty, (td, tt), (od, ot), kids, fill, ft⟩] := ⟨_, rfl⟩
  have hLn : L.length = rs.length + 1 := by rw [hL]; simp
  rw [← hL] at HR hkl ⊢
  obtain ⟨T, hT⟩ : ∃ T, T = L.foldl ruleZ 0 := ⟨_, rfl⟩
  have HT := Lib.hid hT
  have HF := Lib.hid (show fewZ L = decide (T ≤ 80) by rw [hT]; rfl)
  have Hkl := Lib.hid hkl; have HLn := Lib.hid hLn
  obtain ⟨⟨x0, x1, x2, x3, x4, x5, x6, x7, x8, x9, x10, x11, x12, x13, x14, x15⟩, -, xl⟩ := hA.f16
  clear hw hv h1 h2 h3 hb0 hw0 hA hL hLn hkl hT
  go_enter Tryz.func14, Tryz.ntmps14
  go_upto_region 1 with fail
  rw [← Hw0.out]
  clear Hw0
  go_wp2_with fail
  refine HC.out.mono ?_
  rintro e w1 ⟨v1, rfl, hown, hbel⟩
  have hRc := HR.out w1 (Hb0.out.trans (hbel.mono Hb0.out.size))
  obtain ⟨qa, qc, rfl, hq⟩ := rowq_own hown (RulesC.one hRc)
  have Hq := Lib.hid hq.row; have HRc := Lib.hid hRc
  have Hb1 := Lib.hid (Hb0.out.trans (hbel.mono Hb0.out.size))
  have Hsz := Lib.hid (Hb0.out.trans (hbel.mono Hb0.out.size)).size
  clear HC HR hown hbel hRc hq x0 x1 x2 x3 x4 x5 x6 x7 x8 x9 x10 x11 x12 x13 x14 x15 xl Hb0
  rw [← HLn.out] at Hq
  rw [← HLn.out]
  have hlm : L.length ≤ 100000000 := by have := HLn.out; omega
  clear HLn hrl
  go_wp2_with fail
  go_loopg [3, 11] L.length (fun g x i wr => ∃ (k : Nat) (y : Int), x = .int .i64 y ∧ i = .int .i64 k ∧ k + g = L.length ∧ (L.drop k).foldl ruleZ y = T ∧ Below w1.heap.size w1 wr)
  case atStart => exact ⟨0, 0, rfl, rfl, by omega, HT.out.symm, Below.refl _ _⟩
  case round =>
    obtain ⟨k, y, rfl, rfl, hg, hfo, hbr⟩ := hrel
    have Hfo := Lib.hid hfo
    have Hbr := Lib.hid hbr
    by_cases hlt : k < L.length
    · have hlti : (k : Int) < L.length := by omega
      obtain ⟨b, off, ra, rc, rfl, -, hrr, g0, g1, g2, g3, g4, g5, g6, g7⟩ := rule8 (Hq.out.keep hbr hbr.size) (RulesC.keep hbr hbr.size HRc.out) k hlt
      have hkk := Hkl.out k hlt
      have Hrr := Lib.hid (fun (w' : World) (hb : Below wr.heap.size wr w') => hrr.keep hb hb.size)
      rw [List.drop_eq_getElem_cons hlt, List.foldl_cons] at hfo
      have Hfo := Lib.hid hfo
      clear hfo
      generalize L[k] = q at Hfo g0 g1 g2 g3 g4 g5 g6 g7 Hrr hkk
      obtain ⟨Y, hY⟩ : ∃ Y, Y = ruleZ y q := ⟨_, rfl⟩
      rw [← hY] at Hfo
      have HY := Lib.hid hY
      clear hbr hrr Hkl hY
      go_wp2_with fail
      go_loopg [3, 43] q.kids.length (fun g x i w2 => ∃ (j : Nat) (z : Int), x = .int .i64 z ∧ i = .int .i64 j ∧ j + g = q.kids.length ∧ (q.kids.drop j).foldl pairZ z = Y ∧ Below wr.heap.size wr w2)
      case atStart => exact ⟨0, _, rfl, rfl, by omega, HY.out.symm, one_below _ _⟩
      case round =>
        obtain ⟨j, z, rfl, rfl, hg2, hfp, hbr2⟩ := hrel
        have Hbr2 := Lib.hid hbr2
        by_cases hlt2 : j < q.kids.length
        · have hlti2 : (j : Int) < q.kids.length := by omega
          obtain ⟨b2, off2, rfl, -, p0, p1, p2⟩ := (Hrr.out _ hbr2).pair_at j hlt2
          rw [List.drop_eq_getElem_cons hlt2, List.foldl_cons] at hfp
          have Hfp := Lib.hid hfp
          generalize q.kids[j] = pr at Hfp p0 p1 p2
          clear hbr2 hfp
          go_wp2_with fail
          go_roundg (q.kids.length - (j + 1))
          case measure => omega
          case rel => exact ⟨j + 1, _, rfl, by go_num, by omega, Hfp.out, Hbr2.out.alloc Hbr2.out.size _⟩
        · obtain rfl : j = q.kids.length := by omega
          rw [List.drop_length, List.foldl_nil] at hfp
          have Hfp := Lib.hid hfp
          clear hbr2 hfp
          go_wp2_with fail
          go_roundg (L.length - (k + 1))
          case measure => omega
          case rel => exact ⟨k + 1, _, rfl, by go_num, by omega, (congrArg (fun x => (L.drop (k + 1)).foldl ruleZ x) Hfp.out).trans Hfo.out, Hbr.out.trans (Hbr2.out.mono Hbr.out.size)⟩
    · obtain rfl : k = L.length := by omega
      rw [List.drop_length, List.foldl_nil] at hfo
      have Hfo := Lib.hid hfo
      clear hbr hfo
      go_wp2_with fail
      go_ret
      exact ⟨ret_bool (HF.out.trans (by rw [← Hfo.out])).symm, Hb1.out.trans (Hbr.out.mono Hsz.out)⟩

end Go.Proofs.YtajclfjedlkbcaaGreatDoor
/- What is asked of trees: may one be, how it is written. Plain functions and their laws. -/
namespace Go.Proofs.YtajclfjedlkbcaaGreatDoor
open Go.RowKit Go.Redl
set_option linter.unusedVariables false

def lowB (c : UInt8) : Bool := decide (97 ≤ c.toNat ∧ c.toNat ≤ 122)
def valcB (c : UInt8) : Bool := lowB c || decide (48 ≤ c.toNat ∧ c.toNat ≤ 57) || c == 45
def keyB (s : List UInt8) : Bool := decide (1 ≤ s.length ∧ s.length ≤ 16) && s.all lowB
def valB (s : List UInt8) : Bool := decide (s.length ≤ 32) && s.all valcB
def leB (a b : List UInt8) : Bool := Op.bytesLess a b || a == b
/-- The first thing wrong with properties, behind a key. -/
def propsGo : List UInt8 → List PropD → Int
  | _, [] => 0
  | last, p :: ps => if keyB p.1 && valB p.2 then (if leB p.1 last then 1 else propsGo p.1 ps) else 3
def propsE (ps : List PropD) : Int := if 16 < ps.length then 2 else propsGo [] ps
/-- The key ahead of the k-th. -/
def lastK (ps : List PropD) (k : Nat) : List UInt8 := match k with | 0 => [] | k + 1 => (ps.getD k ([], [])).1
theorem propsGo_step {ps : List PropD} {k : Nat} (h : k < ps.length) : propsGo (lastK ps k) (ps.drop k) = if keyB ps[k].1 && valB ps[k].2 then (if leB ps[k].1 (lastK ps k) then 1 else propsGo (lastK ps (k + 1)) (ps.drop (k + 1))) else 3 := by
  conv => lhs; rw [List.drop_eq_getElem_cons h]
  simp only [propsGo]
  rw [show lastK ps (k + 1) = ps[k].1 by show (ps.getD k ([], [])).1 = _; rw [getD_of_lt h]]
theorem propsGo_end {ps : List PropD} {l : List UInt8} : propsGo l (ps.drop ps.length) = 0 := by simp [propsGo]

/-- What is wrong with a node by itself. -/
def ownE (l : Bool) (ps : List PropD) (t : List Int) (m : Nat) : Int := if propsE ps ≠ 0 then propsE ps else if (l && decide (0 < m)) || (!l && decide (0 < t.length)) then 7 else checkE t
mutual
/-- The first thing wrong with a tree. -/
def nodeE : NodeD → Int
  | .mk l ps t ks => if ownE l ps t ks.length ≠ 0 then ownE l ps t ks.length else kidsE ks
def kidsE : List NodeD → Int
  | [] => 0
  | k :: ks => if nodeE k ≠ 0 then nodeE k else kidsE ks
end
mutual
def sizeN : NodeD → Nat
  | .mk _ _ t ks => 1 + t.length + sizeK ks
def sizeK : List NodeD → Nat
  | [] => 0
  | k :: ks => sizeN k + sizeK ks
end
mutual
theorem sizeN_le : ∀ n : NodeD, sizeN n ≤ n.wt
  | .mk l ps t ks => by have := sizeK_le ks; simp only [sizeN, NodeD.wt]; omega
theorem sizeK_le : ∀ ks : List NodeD, sizeK ks ≤ wtAll ks
  | [] => by simp [sizeK, wtAll]
  | k :: ks => by have := sizeN_le k; have := sizeK_le ks; simp only [sizeK, wtAll]; omega
end
theorem sizeK_append (a b : List NodeD) : sizeK (a ++ b) = sizeK a + sizeK b := by
  induction a with
  | nil => simp [sizeK]
  | cons k ks ih => simp only [List.cons_append, sizeK, ih]; omega
theorem sizeK_succ {ks : List NodeD} {k : Nat} (h : k < ks.length) : sizeK (ks.take (k + 1)) = sizeK (ks.take k) + sizeN ks[k] := by
  rw [List.take_succ_eq_append_getElem h, sizeK_append]; simp [sizeK]
theorem kidsE_step {ks : List NodeD} {k : Nat} (h : k < ks.length) : kidsE (ks.drop k) = if nodeE ks[k] ≠ 0 then nodeE ks[k] else kidsE (ks.drop (k + 1)) := by
  conv => lhs; rw [List.drop_eq_getElem_cons h]
  simp only [kidsE]

/-- How a property, and properties, are written. -/
def propL (p : PropD) : List UInt8 := p.1 ++ 58 :: p.2
def propsC : UInt8 → List PropD → List UInt8
  | _, [] => []
  | c, p :: ps => c :: (propL p ++ propsC 44 ps)
def propsL (ps : List PropD) : List UInt8 := if ps.length = 0 then [] else propsC 123 ps ++ [125]
theorem propsC_succ : ∀ (ps : List PropD) (c : UInt8) (k : Nat) (h : k < ps.length), propsC c (ps.take (k + 1)) = propsC c (ps.take k) ++ ((if k = 0 then c else 44) :: propL ps[k])
  | [], c, k, h => absurd h (by simp)
  | p :: ps, c, 0, h => by simp [propsC]
  | p :: ps, c, k + 1, h => by
    have := propsC_succ ps 44 k (by simpa using h)
    simp only [List.take_succ_cons, propsC, this]
    simp
theorem propsC_len : ∀ (ps : List PropD) (c : UInt8), (propsC c ps).length = propsWt ps
  | [], c => rfl
  | p :: ps, c => by
    have := propsC_len ps 44
    simp only [propsC, propsWt, propL, List.length_cons, List.length_append, this]; omega
theorem propsWt_take (ps : List PropD) (k : Nat) : propsWt (ps.take k) ≤ propsWt ps := by
  induction ps generalizing k with
  | nil => simp
  | cons p ps ih =>
    cases k with
    | zero => simp [propsWt]
    | succ k => have := ih k; simp only [List.take_succ_cons, propsWt]; omega
mutual
/-- How a tree is written. -/
def printL : NodeD → List UInt8
  | .mk l ps t ks => propsL ps ++ (if l then quoteL t else 91 :: (printK ks ++ [93]))
def printK : List NodeD → List UInt8
  | [] => []
  | k :: ks => printL k ++ printK ks
end
theorem printK_append (a b : List NodeD) : printK (a ++ b) = printK a ++ printK b := by
  induction a with
  | nil => simp [printK]
  | cons k ks ih => simp only [List.cons_append, printK, ih, List.append_assoc]
theorem printK_succ {ks : List NodeD} {k : Nat} (h : k < ks.length) : printK (ks.take (k + 1)) = printK (ks.take k) ++ printL ks[k] := by
  rw [List.take_succ_eq_append_getElem h, printK_append]; simp [printK]
theorem propsL_len (ps : List PropD) : (propsL ps).length ≤ propsWt ps + 1 := by
  unfold propsL
  split
  · simp
  · simp [propsC_len]
theorem quoteL_len (zs : List Int) : (quoteL zs).length ≤ 22 * zs.length + 2 := by
  have := body_len zs
  simp [quoteL]; omega
mutual
theorem printL_len : ∀ n : NodeD, (printL n).length ≤ 22 * n.wt
  | .mk l ps t ks => by
    have h1 := printK_len ks
    have h2 := propsL_len ps
    have h3 := quoteL_len t
    simp only [printL, NodeD.wt, List.length_append]
    split
    · omega
    · simp only [List.length_cons, List.length_append, List.length_nil]; omega
theorem printK_len : ∀ ks : List NodeD, (printK ks).length ≤ 22 * wtAll ks
  | [] => by simp [printK, wtAll]
  | k :: ks => by
    have h1 := printL_len k
    have h2 := printK_len ks
    simp only [printK, wtAll, List.length_append]; omega
end
theorem printK_take_len (ks : List NodeD) (k : Nat) : (printK (ks.take k)).length ≤ 22 * wtAll ks := by
  have h1 := printK_len (ks.take k)
  have h2 := wtAll_take ks k
  omega

end Go.Proofs.YtajclfjedlkbcaaGreatDoor
/- Walks: the reference of node: left, Few. -/
namespace Go.Proofs.YtajclfjedlkbcaaGreatDoor
open Go.RowKit Go.Redl
set_option linter.unusedVariables false

/-- What properties' lengths count. -/
def propsQ : List PropD → Nat
  | [] => 0
  | p :: ps => p.1.length / 64 + p.2.length / 64 + propsQ ps
mutual
/-- How many more there might be. -/
def leftN : NodeD → Int → Int
  | .mk _ ps t ks, m => if m - (1 + t.length + ps.length : Nat) - (propsQ ps : Nat) < 0 then -1 else leftK ks (m - (1 + t.length + ps.length : Nat) - (propsQ ps : Nat))
def leftK : List NodeD → Int → Int
  | [], m => m
  | k :: ks, m => if leftN k m < 0 then -1 else leftK ks (leftN k m)
end
def fewB (n : NodeD) (m : Int) : Bool := decide (0 ≤ leftN n m)
theorem propsQ_append (a b : List PropD) : propsQ (a ++ b) = propsQ a + propsQ b := by
  induction a with
  | nil => simp [propsQ]
  | cons p ps ih => simp only [List.cons_append, propsQ, ih]; omega
theorem propsQ_succ {ps : List PropD} {k : Nat} (h : k < ps.length) : propsQ (ps.take (k + 1)) = propsQ (ps.take k) + (ps[k].1.length / 64 + ps[k].2.length / 64) := by
  rw [List.take_succ_eq_append_getElem h, propsQ_append]; simp [propsQ]
theorem propsQ_le (ps : List PropD) : propsQ ps ≤ propsWt ps := by
  induction ps with
  | nil => simp [propsQ]
  | cons p ps ih => simp only [propsQ, propsWt]; omega
mutual
theorem leftN_le : ∀ (n : NodeD) (m : Int), 0 ≤ m → -1 ≤ leftN n m ∧ leftN n m ≤ m
  | .mk l ps t ks, m, h => by
    simp only [leftN]
    split
    · omega
    · have := leftK_le ks (m - (1 + t.length + ps.length : Nat) - (propsQ ps : Nat)) (by omega)
      omega
theorem leftK_le : ∀ (ks : List NodeD) (m : Int), 0 ≤ m → -1 ≤ leftK ks m ∧ leftK ks m ≤ m
  | [], m, h => by simp only [leftK]; omega
  | k :: ks, m, h => by
    simp only [leftK]
    have h1 := leftN_le k m h
    split
    · omega
    · have := leftK_le ks (leftN k m) (by omega)
      omega
end
theorem leftK_step {ks : List NodeD} {k : Nat} {m : Int} (h : k < ks.length) : leftK (ks.drop k) m = if leftN ks[k] m < 0 then -1 else leftK (ks.drop (k + 1)) (leftN ks[k] m) := by
  conv => lhs; rw [List.drop_eq_getElem_cons h]
  simp only [leftK]
theorem div64 (n : Nat) : ((n : Int)).tdiv 64 = ((n / 64 : Nat) : Int) := by rw [Int.tdiv_eq_ediv_of_nonneg (by omega)]; omega
theorem left_eq {z : Int} {ks : List NodeD} {l : Bool} {ps : List PropD} {t : List Int} {most : Int} (hz : z = most - (1 + t.length + ps.length : Nat) - (propsQ ps : Nat)) :
    leftN (.mk l ps t ks) most = if z < 0 then -1 else leftK ks z := by subst hz; rfl

set_option maxRecDepth 100000 in
set_option maxHeartbeats 2000000 in
theorem rleft_c (m : Nat) : ∀ (n : NodeD) (v : Value) (most : Int) (w : World), n.wt ≤ m → n.wt ≤ 100000000 → 0 ≤ most → most ≤ 1000000 → NodeV w w.heap.size n v →
    Calls Tryz.prog 29 #[v, .int .i64 most] w fun e w' => e = .returned (.int .i64 (leftN n most)) ∧ Below w.heap.size w w' := by
  induction m with
  | zero => intro n v most w hm; have := wt_pos n; omega
  | succ m ih =>
    intro n v most w hm hn hm0 hm1 hv
    obtain ⟨l, ps, t, ks⟩ := n
    obtain ⟨ap, cp, at_, ct, ak, ck, css, rfl, hp, ht, hk, hc⟩ := hv.open
    have IH := Lib.hid ih
    have hwt : 1 + propsWt ps + t.length + wtAll ks = (NodeD.mk l ps t ks).wt := rfl
    have hw2 : wtAll ks ≤ 100000000 := by omega
    have hw3 : wtAll ks ≤ m := by omega
    have hw4 : propsWt ps ≤ 100000000 := by omega
    have hkl := wtAll_len ks
    have htl : t.length ≤ 100000000 := by omega
    have hpl := propsWt_len ps
    have Hl := fun z (hz : z = most - (1 + t.length + ps.length : Nat) - (propsQ ps : Nat)) => Lib.hid (left_eq (l := l) (ks := ks) hz)
    clear ih hv hwt hm hn ht
    go_enter Tryz.func29, Tryz.ntmps29
    go_wp2_with fail
    go_loopw [1, 22] (fun s i wr => ∃ k : Nat, k ≤ ps.length ∧ i = .int .i64 k ∧ s = .int .i64 (most - (1 + t.length + ps.length : Nat) - (propsQ (ps.take k) : Nat)) ∧ Below (w.heap.size + 1) (w.alloc (Obj.cells #[.bool l, .slice ap ps.length cp, .slice at_ t.length ct, .slice ak ks.length ck] 35)) wr) (fun _ i _ => ps.length - (intOf i).toNat)
    case atStart => exact ⟨0, Nat.zero_le _, rfl, by simp [propsQ], Below.refl _ _⟩
    case round =>
      obtain ⟨k, hkn, rfl, rfl, hbel⟩ := hrel
      have hr2 := hp.keep (below_unbox hbel) (below_unbox hbel).size
      have hcl := propsQ_le (ps.take k)
      have hck := propsWt_take ps k
      by_cases hlt : k < ps.length
      · have Hb := Lib.hid hbel
        have Hss := Lib.hid (propsQ_succ hlt)
        have hcw := propsWt_mem (List.getElem_mem hlt)
        obtain ⟨b, off, rfl, hb, g0, g1⟩ := hr2.prop_at k hlt
        generalize ps[k] = p at hcw g0 g1 Hss
        obtain ⟨p1, p2⟩ := p
        simp only at hcw g0 g1 Hss
        generalize propsQ (ps.take k) = T at hcl Hss ⊢
        have hTl : T ≤ 100000000 := by omega
        have hl1 : p1.length ≤ 100000000 := by omega
        have hl2 : p2.length ≤ 100000000 := by omega
        have hb2 : (⟨p1.toArray⟩ : ByteArray).size = p1.length := rfl
        clear hbel hcl hck hcw
        go_wp2_with fail
        go_roundw
        case rel => exact ⟨k + 1, by omega, by go_num, by rw [Hss.out]; go_num, below_box_more Hb.out⟩
        case measure => simp [intOf]; omega
      · obtain rfl : k = ps.length := by omega
        rw [List.take_length] at hcl ⊢
        obtain ⟨x0, x1, x2, x3⟩ := box_keep hbel
        have Hb := Lib.hid (below_unbox hbel)
        have Hl1 := Hl _ rfl
        have hz1 : most - (1 + t.length + ps.length : Nat) - (propsQ ps : Nat) ≤ 1000000 := by omega
        generalize most - (1 + t.length + ps.length : Nat) - (propsQ ps : Nat) = z at Hl1 hz1 ⊢
        clear hbel hcl hck Hl
        by_cases hz : z < 0
        · go_wp2_with fail
          go_ret
          exact ⟨ret_int (by rw [Hl1.out, if_pos hz]), Hb.out⟩
        · have Hl2 : Hid (leftN (.mk l ps t ks) most = leftK ks z) := by
            show leftN _ _ = _
            rw [Hl1.out, if_neg hz]
          have hz0 : 0 ≤ z := by omega
          clear hz Hl1
          go_wp2_with fail
          go_loopw [1, 43] (fun s i wr => ∃ (k : Nat) (y : Int), k ≤ ks.length ∧ 0 ≤ y ∧ y ≤ 1000000 ∧ i = .int .i64 k ∧ s = .int .i64 y ∧ leftK (ks.drop k) y = leftK ks z ∧ Below w.heap.size w wr) (fun _ i _ => ks.length - (intOf i).toNat)
          case atStart => exact ⟨0, z, Nat.zero_le _, hz0, hz1, rfl, rfl, by simp, Hb.out⟩
          case round =>
            obtain ⟨k, y, hkn, hy0, hy1, rfl, rfl, hke, hbel⟩ := hrel
            have hr2 := hk.keep hbel hbel.size
            have hc2 := KidsC.keep hbel hbel.size ks css hc
            have Hb2 := Lib.hid hbel
            have Hke := Lib.hid hke
            clear hbel hke x0 x1 x2 x3
            by_cases hlt : k < ks.length
            · have Hss := Lib.hid (leftK_step (m := y) hlt)
              have hkw := wtAll_mem (List.getElem_mem hlt)
              obtain ⟨b, off, l', a1, n1, c1, a2, n2, c2, a3, n3, c3, rfl, hb, hnc, g0, g1, g2, g3⟩ := hr2.kid_at hc2 k hlt
              generalize ks[k] = q at hnc hkw Hss
              have hB := (((Below.refl wr.heap.size wr).alloc (Nat.le_refl _) (Obj.cells #[.bool l', .slice a1 n1 c1, .slice a2 n2 c2, .slice a3 n3 c3] 35)))
              have HC := Lib.hid (IH.out q (.agg #[.bool l', .slice a1 n1 c1, .slice a2 n2 c2, .slice a3 n3 c3]) y _ (by omega) (by omega) hy0 hy1 ⟨_, rfl, NodeC.keep hB hB.size _ _ hnc⟩)
              have hql := leftN_le q y hy0
              generalize leftN q y = x at HC Hss hql
              obtain ⟨hq0, hq1⟩ := hql
              by_cases hx : x < 0
              · have Hr : Hid (leftN (.mk l ps t ks) most = -1) := by
                  show leftN _ _ = _
                  rw [Hl2.out, ← Hke.out, Hss.out, if_pos hx]
                go_wp2_with fail
                refine HC.out.mono ?_
                rintro e w2 ⟨rfl, hbel⟩
                have Hb3 := Lib.hid ((Hb2.out.alloc Hb2.out.size _).trans (hbel.mono (by simp; have := Hb2.out.size; omega)))
                clear hbel
                go_wp2_with fail
                go_ret
                exact ⟨ret_int Hr.out.symm, Hb3.out⟩
              · have Hr : Hid (leftK (ks.drop (k + 1)) x = leftK ks z) := by
                  show leftK _ _ = _
                  rw [← Hke.out, Hss.out, if_neg hx]
                go_wp2_with fail
                refine HC.out.mono ?_
                rintro e w2 ⟨rfl, hbel⟩
                have Hb3 := Lib.hid ((Hb2.out.alloc Hb2.out.size _).trans (hbel.mono (by simp; have := Hb2.out.size; omega)))
                clear hbel
                go_wp2_with fail
                go_roundw
                case rel => exact ⟨k + 1, x, by omega, by omega, by omega, by go_num, rfl, Hr.out, Hb3.out⟩
                case measure => simp [intOf]; omega
            · obtain rfl : k = ks.length := by omega
              go_wp2_with fail
              go_ret
              exact ⟨ret_int (by rw [Hl2.out, ← Hke.out, List.drop_length]; rfl), Hb2.out⟩

set_option maxRecDepth 100000 in
set_option maxHeartbeats 1000000 in
theorem rfew_c (n : NodeD) (v : Value) (most : Int) (w : World) (hn : n.wt ≤ 100000000) (h0 : 0 ≤ most) (h1 : most ≤ 1000000) (hv : NodeV w w.heap.size n v) :
    Calls Tryz.prog 15 #[v, .int .i64 most] w fun e w' => e = .returned (.bool (fewB n most)) ∧ Below w.heap.size w w' := by
  have hv0 := hv
  obtain ⟨l, ps, t, ks⟩ := n
  obtain ⟨ap, cp, at_, ct, ak, ck, css, rfl, -, -, -, -⟩ := hv0.open
  generalize NodeD.mk l ps t ks = n at hv hn ⊢
  have hB0 := ((Below.refl w.heap.size w).alloc (Nat.le_refl _) (Obj.cells #[.bool l, .slice ap ps.length cp, .slice at_ t.length ct, .slice ak ks.length ck] 35))
  have HS := Lib.hid (rleft_c _ n _ most _ (Nat.le_refl _) hn h0 h1 (hv.keep hB0 hB0.size))
  have Hf : Hid (fewB n most = decide (0 ≤ leftN n most)) := rfl
  generalize leftN n most = x at HS Hf
  clear hv0 hv hB0 hn
  go_enter Tryz.func15, Tryz.ntmps15
  go_wp2_with fail
  refine HS.out.mono ?_
  rintro e w1 ⟨rfl, hbel⟩
  have Hb1 := Lib.hid (below_unbox (below_box hbel))
  clear hbel HS
  go_wp2_with fail
  go_ret
  exact ⟨ret_bool Hf.out.symm, Hb1.out⟩

end Go.Proofs.YtajclfjedlkbcaaGreatDoor
/- Walks: whether the law's input is small. -/
namespace Go.Proofs.YtajclfjedlkbcaaGreatDoor
open Go.RowKit Go.Redl
set_option linter.unusedVariables false
set_option linter.unusedSimpArgs false

theorem rfew15_ent : ∀ args w, (callFunc 14 args).run Tryz.prog w = .ok (.enter 14 args) w := by intro args w; kernel_rfl
theorem rfew04_ent : ∀ args w, (callFunc 15 args).run Tryz.prog w = .ok (.enter 15 args) w := by intro args w; kernel_rfl
/-- A call whose guard holds. -/
theorem step_callG {P : Program} {ops : Array Oper} {o : Oper} {a : Act} {w : World} {K : Act → World → Prop} {Q : Exit → Act → World → Prop} {E : Prop}
    (hw : Region.wanted o (yielded ops a.tmps) = true) (f : FuncId) (args : Array Operand) (tys : Array TypeId) (ho : o.op = .call { callee := .value (.func f), args := args, argTypes := tys })
    (he : ∀ args w, (callFunc f args).run P w = .ok (.enter f args) w) (vals : List Value) (hv : args.toList.map a.eval = vals) (R : Ending → World → Prop) (hC : Calls P f vals.toArray w R)
    (h : ∀ e w', R e w' → ∃ v, e = .returned v ∧ K (a.put o.dst v) w') : if Region.wanted o (yielded ops a.tmps) = true then Oper.wp P o a w K Q else E := by
  rw [if_pos hw]
  unfold Oper.wp
  have hv' : args.map a.eval = vals.toArray := by rw [← hv]; apply Array.ext'; simp
  have hr : (execOp a.eval o).run P w = .ok (.enter f vals.toArray) w := by
    simp [execOp, ho, resolve, invoke, Act.eval, Deferred.ofValue, hv', he]
  rw [hr]
  show Calls P f vals.toArray w _
  refine hC.mono fun e w' hR => ?_
  obtain ⟨v, rfl, hk⟩ := h e w' hR
  exact hk

/-- The law's inputs are small. -/
def smallB (s : SchemaD) (n : NodeD) (p : List Int) : Bool := fewZ (s.rules ++ [s.els]) && fewB n 120 && decide (p.length ≤ 40)

end Go.Proofs.YtajclfjedlkbcaaGreatDoor
