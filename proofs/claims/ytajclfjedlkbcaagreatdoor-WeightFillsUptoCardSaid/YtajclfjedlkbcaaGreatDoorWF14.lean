/- Parts of the proof, one behind the other: RHR, RVG, RVH, RR7, RVI, RKO. -/
import Derived.Test.YtajclfjedlkbcaaGreatDoorWF13
import Derived.Deep.MidRow
import Derived.Test.YtajclfjedlkbcaaGreatDoorWF2
import Derived.Test.YtajclfjedlkbcaaGreatDoorWF3
import Derived.Test.YtajclfjedlkbcaaGreatDoorWF12
/- Walks: fix's remove, merge, fill; how a list of operations grows. -/
namespace Go.Proofs.YtajclfjedlkbcaaGreatDoor
open Go.RowKit Go.Redl
set_option linter.unusedVariables false
set_option linter.unusedSimpArgs false

theorem info_op : (Tryz.prog.info? 59).map (fun i => (i.zero, i.size, i.bytes)) = some (some (.agg #[.int .i64 0, .slice none 0 0, .slice none 0 0, .int .i64 0, .bool false, .slice none 0 0, .slice none 0 0, .slice none 0 0, .slice none 0 0, .slice none 0 0, .slice none 0 0, .bool false, .slice none 0 0, .int .i64 0, .slice none 0 0, .int .i64 0, .bool false, .slice none 0 0, .int .i64 0, .slice none 0 0, .int .i64 0]), 21, 360) := by kernel_rfl

/-- A whole box, loaded: NO unrolling (a load of n cells costs the kernel 2^n otherwise). -/
theorem At.load {P : Program} {w : World} {N : Nat} {cs : List Value} {T : TypeId} {d : TypeDesc} (h : At w N cs T) (hu : P.underlying T = some d) (hd : d.isRow = true) (hi : (P.info? T).map (·.size) = some cs.length) : (Instr.loadAt T (.pointer (some ⟨N, 0, none⟩))).run P w = .ok (.agg cs.toArray) w :=
  run_loadAt_mid w N 0 T cs d (fun j v hj => by rw [Nat.zero_add]; exact h.cell j hj) hu hd hi

/-- A list of operations that grows: its row is its own, in no block ahead of M, and nothing that its operations lead to lies in it. -/
def OpsO (L M : Nat) (w : World) (v : Value) (l : List OpD) : Prop := ∃ css, w.ownsRow M 59 21 v l.length css ∧ OpsQ w (fun b => L ≤ b ∧ v.ownBlock ≠ some b) l css
theorem OpsO.nil (L M : Nat) (w : World) : OpsO L M w (.slice none 0 0) [] := ⟨[], World.ownsRow_nil _ _ _ _, OpsQ.nil _ _⟩
theorem OpsO.below {L M : Nat} {w w' : World} {v : Value} {l : List OpD} (h : OpsO L M w v l) (hb : Below w.heap.size w w') : OpsO L M w' v l := by
  obtain ⟨css, h1, h2⟩ := h
  exact ⟨css, own_keep h1 hb, h2.stay (stay_below hb _)⟩
theorem OpsO.ops {L M : Nat} {w : World} {v : Value} {l : List OpD} (h : OpsO L M w v l) : OpsV w l v := by
  obtain ⟨css, h1, h2⟩ := h
  exact OpsV.of_own h1 h2
theorem OpsO.form {L M : Nat} {w : World} {v : Value} {l : List OpD} (h : OpsO L M w v l) : ∃ a c, v = .slice a l.length c := by
  obtain ⟨a, c, css, hv, -, -⟩ := h.ops
  exact ⟨a, c, hv⟩
theorem OpsO.lt {L M : Nat} {w : World} {v : Value} {l : List OpD} (h : OpsO L M w v l) : ∀ b, w.heap.size ≤ b → v.ownBlock ≠ some b := by
  obtain ⟨css, h1, h2⟩ := h
  intro b hb e
  have := h1.lt b e; omega
theorem OpsO.ge {L M : Nat} {w : World} {v : Value} {l : List OpD} (h : OpsO L M w v l) : ∀ b, v.ownBlock = some b → M ≤ b := by
  obtain ⟨css, h1, h2⟩ := h
  intro b e
  exact (h1.lt b e).1
theorem OpsO.from {L L' M : Nat} {w : World} {v : Value} {l : List OpD} (h : OpsO L M w v l) (hL : L' ≤ L) : OpsO L' M w v l := by
  obtain ⟨css, h1, h2⟩ := h
  exact ⟨css, h1, h2.stay ⟨Nat.le_refl _, fun _ _ _ => rfl, fun b hb _ => ⟨Nat.le_trans hL hb.1, hb.2⟩⟩⟩
theorem OpsO.set {L M : Nat} {w : World} {v : Value} {l : List OpD} (h : OpsO L M w v l) {N o : Nat} (hN : N < M) (hL : N < L) (u : Value) : OpsO L M (w.setCell ⟨N, o, none⟩ u) v l := by
  obtain ⟨css, h1, h2⟩ := h
  refine ⟨css, ownsRow_setCell_below (a := ⟨N, o, none⟩) h1 hN _, h2.stay ⟨by simp [World.setCell], fun b hb _ => Below.heap_setCell w ⟨N, o, none⟩ u b (by show b ≠ N; omega), fun _ hb _ => hb⟩⟩
/-- One more operation put in. -/
theorem OpsO.push {L M : Nat} {w0 w' : World} {v v' : Value} {l : List OpD} {o : OpD} {c : List Value} {ob : Obj} {css : List Value} (h1 : w0.ownsRow M 59 21 v l.length css) (h2 : OpsQ w0 (fun b => L ≤ b ∧ v.ownBlock ≠ some b) l css)
    (ho : OpQ w0 (fun b => L ≤ b ∧ v.ownBlock ≠ some b) o c) (hg : (w0.alloc ob).grownBy w' v.ownBlock) (hown : w'.ownsRow M 59 21 v' (l.length + 1) (css ++ c)) (hw : v'.ownBlock = v.ownBlock ∨ ∀ k, v'.ownBlock = some k → (w0.alloc ob).heap.size ≤ k) : OpsO L M w' v' (l ++ [o]) := by
  have hs := hg.size
  have hst : Stay w0 w' (fun b => L ≤ b ∧ v.ownBlock ≠ some b) (fun b => L ≤ b ∧ v'.ownBlock ≠ some b) := by
    refine ⟨by simp at hs; omega, fun b hb hlt => ?_, fun b hb hlt => ⟨hb.1, ?_⟩⟩
    · rw [hg.block b (by simp; omega) (fun e => hb.2 e.symm), Lib.alloc_old _ _ _ hlt]
    · rcases hw with e | e
      · rw [e]; exact hb.2
      · intro e2; have := e b e2; simp at this; omega
  refine ⟨css ++ c, by rw [List.length_append]; exact hown, OpsQ.append (h2.stay hst) (OpsQ.single (ho.stay hst))⟩
theorem below_grown {M : Nat} {w0 w' : World} {ob : Obj} {v : Value} (hg : (w0.alloc ob).grownBy w' v.ownBlock) (hM : M ≤ w0.heap.size) (hv : ∀ k, v.ownBlock = some k → M ≤ k) : Below M w0 w' :=
  ((Below.refl M w0).alloc hM ob).grown hg (by simp; omega) hv
/-- One operation, just laid. -/
theorem ops_one {w : World} {o : OpD} {c : List Value} {T : TypeId} (h : OpQ w (fun _ => True) o c) : OpsV (w.alloc (.cells c.toArray T)) [o] (.slice (some ⟨w.heap.size, 0, none⟩) 1 1) := by
  have hb := one_below w (.cells c.toArray T)
  refine ⟨_, _, c, rfl, ?_, OpsQ.single (h.stay (stay_below hb _))⟩
  exact (rowq_at (ok := fun _ => True) (At.fresh w c T) 1 21 (by rw [h.len]) (by omega) h.one trivial).row
abbrev OpsP (W : World) (l : List OpD) (e : Ending) (w' : World) : Prop := ∃ v, e = .returned v ∧ OpsV w' l v ∧ Below W.heap.size W w'
theorem _root_.Go.Redl.RowQ.any {w : World} {ok : Nat → Prop} {sz n cap : Nat} {a : Option Addr} {cs : List Value} (h : RowQ w ok sz a n cap cs) : RowQ w (fun _ => True) sz a n cap cs := h.keep (Nat.le_refl _) (fun _ _ _ => rfl) (fun _ _ _ => trivial)
theorem _root_.Go.Redl.RowQ.imp {w : World} {ok ok' : Nat → Prop} {sz n cap : Nat} {a : Option Addr} {cs : List Value} (h : RowQ w ok sz a n cap cs) (f : ∀ b, ok b → ok' b) : RowQ w ok' sz a n cap cs := h.keep (Nat.le_refl _) (fun _ _ _ => rfl) (fun b hb _ => f b hb)
theorem _root_.Go.Redl.RowQ.since {w w' : World} {ok : Nat → Prop} {sz n cap : Nat} {a : Option Addr} {cs : List Value} (h : RowQ w ok sz a n cap cs) (hb : Below w.heap.size w w') : RowQ w' ok sz a n cap cs := h.keep hb.size (fun b _ hlt => hb.block b hlt) (fun _ h _ => h)
theorem _root_.Go.Redl.NodeQ.any {w : World} {ok : Nat → Prop} {n : NodeD} {cs : List Value} (h : NodeQ w ok n cs) : NodeQ w (fun _ => True) n cs := NodeQ.keep (Nat.le_refl _) (fun _ _ _ => rfl) (fun _ _ _ => trivial) n cs h
theorem _root_.Go.Redl.NodeQ.since {w w' : World} {ok : Nat → Prop} {n : NodeD} {cs : List Value} (h : NodeQ w ok n cs) (hb : Below w.heap.size w w') : NodeQ w' ok n cs := NodeQ.keep hb.size (fun b _ hlt => hb.block b hlt) (fun _ h _ => h) n cs h

/-- What a job holds, at a world: its path, its element's Kids. -/
structure JobAt (W : World) (p : List Int) (pa : Option Addr) (pc : Nat) (ks : List NodeD) (ak : Option Addr) (ck : Nat) (css : List Value) (j : Nat) : Prop where
  path : RowA W W.heap.size 1 pa p.length pc (p.map (Value.int .i64))
  pl : p.length ≤ 100000
  kids : RowA W W.heap.size 4 ak ks.length ck css
  kids' : KidsC W W.heap.size ks css
  kl : wtAll ks ≤ 100000000
  at_ : j ≤ 100000000
theorem JobAt.keep {W w : World} {p : List Int} {pa : Option Addr} {pc : Nat} {ks : List NodeD} {ak : Option Addr} {ck : Nat} {css : List Value} {j : Nat} (h : JobAt W p pa pc ks ak ck css j) (hb : Below W.heap.size W w) : JobAt w p pa pc ks ak ck css j :=
  ⟨h.path.keep hb hb.size, h.pl, h.kids.keep hb hb.size, KidsC.keep hb hb.size _ _ h.kids', h.kl, h.at_⟩

theorem At.s16 {w : World} {N : Nat} {c0 c1 c2 c3 c4 c5 c6 c7 c8 c9 c10 c11 c12 c13 c14 c15 : Value} {T : TypeId} (h : At w N [c0, c1, c2, c3, c4, c5, c6, c7, c8, c9, c10, c11, c12, c13, c14, c15] T) (d0 d1 d2 d3 d4 d5 d6 d7 d8 d9 d10 d11 d12 d13 d14 d15 : Value) : At ((((((((((((((((w.setCell ⟨N, 0, none⟩ d0).setCell ⟨N, 1, none⟩ d1).setCell ⟨N, 2, none⟩ d2).setCell ⟨N, 3, none⟩ d3).setCell ⟨N, 4, none⟩ d4).setCell ⟨N, 5, none⟩ d5).setCell ⟨N, 6, none⟩ d6).setCell ⟨N, 7, none⟩ d7).setCell ⟨N, 8, none⟩ d8).setCell ⟨N, 9, none⟩ d9).setCell ⟨N, 10, none⟩ d10).setCell ⟨N, 11, none⟩ d11).setCell ⟨N, 12, none⟩ d12).setCell ⟨N, 13, none⟩ d13).setCell ⟨N, 14, none⟩ d14).setCell ⟨N, 15, none⟩ d15) N [d0, d1, d2, d3, d4, d5, d6, d7, d8, d9, d10, d11, d12, d13, d14, d15] T := by
  have h0 : At (w.setCell ⟨N, 0, none⟩ d0) N [d0, c1, c2, c3, c4, c5, c6, c7, c8, c9, c10, c11, c12, c13, c14, c15] T := h.set 0 d0
  have h1 : At ((w.setCell ⟨N, 0, none⟩ d0).setCell ⟨N, 1, none⟩ d1) N [d0, d1, c2, c3, c4, c5, c6, c7, c8, c9, c10, c11, c12, c13, c14, c15] T := h0.set 1 d1
  have h2 : At (((w.setCell ⟨N, 0, none⟩ d0).setCell ⟨N, 1, none⟩ d1).setCell ⟨N, 2, none⟩ d2) N [d0, d1, d2, c3, c4, c5, c6, c7, c8, c9, c10, c11, c12, c13, c14, c15] T := h1.set 2 d2
  have h3 : At ((((w.setCell ⟨N, 0, none⟩ d0).setCell ⟨N, 1, none⟩ d1).setCell ⟨N, 2, none⟩ d2).setCell ⟨N, 3, none⟩ d3) N [d0, d1, d2, d3, c4, c5, c6, c7, c8, c9, c10, c11, c12, c13, c14, c15] T := h2.set 3 d3
  have h4 : At (((((w.setCell ⟨N, 0, none⟩ d0).setCell ⟨N, 1, none⟩ d1).setCell ⟨N, 2, none⟩ d2).setCell ⟨N, 3, none⟩ d3).setCell ⟨N, 4, none⟩ d4) N [d0, d1, d2, d3, d4, c5, c6, c7, c8, c9, c10, c11, c12, c13, c14, c15] T := h3.set 4 d4
  have h5 : At ((((((w.setCell ⟨N, 0, none⟩ d0).setCell ⟨N, 1, none⟩ d1).setCell ⟨N, 2, none⟩ d2).setCell ⟨N, 3, none⟩ d3).setCell ⟨N, 4, none⟩ d4).setCell ⟨N, 5, none⟩ d5) N [d0, d1, d2, d3, d4, d5, c6, c7, c8, c9, c10, c11, c12, c13, c14, c15] T := h4.set 5 d5
  have h6 : At (((((((w.setCell ⟨N, 0, none⟩ d0).setCell ⟨N, 1, none⟩ d1).setCell ⟨N, 2, none⟩ d2).setCell ⟨N, 3, none⟩ d3).setCell ⟨N, 4, none⟩ d4).setCell ⟨N, 5, none⟩ d5).setCell ⟨N, 6, none⟩ d6) N [d0, d1, d2, d3, d4, d5, d6, c7, c8, c9, c10, c11, c12, c13, c14, c15] T := h5.set 6 d6
  have h7 : At ((((((((w.setCell ⟨N, 0, none⟩ d0).setCell ⟨N, 1, none⟩ d1).setCell ⟨N, 2, none⟩ d2).setCell ⟨N, 3, none⟩ d3).setCell ⟨N, 4, none⟩ d4).setCell ⟨N, 5, none⟩ d5).setCell ⟨N, 6, none⟩ d6).setCell ⟨N, 7, none⟩ d7) N [d0, d1, d2, d3, d4, d5, d6, d7, c8, c9, c10, c11, c12, c13, c14, c15] T := h6.set 7 d7
  have h8 : At (((((((((w.setCell ⟨N, 0, none⟩ d0).setCell ⟨N, 1, none⟩ d1).setCell ⟨N, 2, none⟩ d2).setCell ⟨N, 3, none⟩ d3).setCell ⟨N, 4, none⟩ d4).setCell ⟨N, 5, none⟩ d5).setCell ⟨N, 6, none⟩ d6).setCell ⟨N, 7, none⟩ d7).setCell ⟨N, 8, none⟩ d8) N [d0, d1, d2, d3, d4, d5, d6, d7, d8, c9, c10, c11, c12, c13, c14, c15] T := h7.set 8 d8
  have h9 : At ((((((((((w.setCell ⟨N, 0, none⟩ d0).setCell ⟨N, 1, none⟩ d1).setCell ⟨N, 2, none⟩ d2).setCell ⟨N, 3, none⟩ d3).setCell ⟨N, 4, none⟩ d4).setCell ⟨N, 5, none⟩ d5).setCell ⟨N, 6, none⟩ d6).setCell ⟨N, 7, none⟩ d7).setCell ⟨N, 8, none⟩ d8).setCell ⟨N, 9, none⟩ d9) N [d0, d1, d2, d3, d4, d5, d6, d7, d8, d9, c10, c11, c12, c13, c14, c15] T := h8.set 9 d9
  have h10 : At (((((((((((w.setCell ⟨N, 0, none⟩ d0).setCell ⟨N, 1, none⟩ d1).setCell ⟨N, 2, none⟩ d2).setCell ⟨N, 3, none⟩ d3).setCell ⟨N, 4, none⟩ d4).setCell ⟨N, 5, none⟩ d5).setCell ⟨N, 6, none⟩ d6).setCell ⟨N, 7, none⟩ d7).setCell ⟨N, 8, none⟩ d8).setCell ⟨N, 9, none⟩ d9).setCell ⟨N, 10, none⟩ d10) N [d0, d1, d2, d3, d4, d5, d6, d7, d8, d9, d10, c11, c12, c13, c14, c15] T := h9.set 10 d10
  have h11 : At ((((((((((((w.setCell ⟨N, 0, none⟩ d0).setCell ⟨N, 1, none⟩ d1).setCell ⟨N, 2, none⟩ d2).setCell ⟨N, 3, none⟩ d3).setCell ⟨N, 4, none⟩ d4).setCell ⟨N, 5, none⟩ d5).setCell ⟨N, 6, none⟩ d6).setCell ⟨N, 7, none⟩ d7).setCell ⟨N, 8, none⟩ d8).setCell ⟨N, 9, none⟩ d9).setCell ⟨N, 10, none⟩ d10).setCell ⟨N, 11, none⟩ d11) N [d0, d1, d2, d3, d4, d5, d6, d7, d8, d9, d10, d11, c12, c13, c14, c15] T := h10.set 11 d11
  have h12 : At (((((((((((((w.setCell ⟨N, 0, none⟩ d0).setCell ⟨N, 1, none⟩ d1).setCell ⟨N, 2, none⟩ d2).setCell ⟨N, 3, none⟩ d3).setCell ⟨N, 4, none⟩ d4).setCell ⟨N, 5, none⟩ d5).setCell ⟨N, 6, none⟩ d6).setCell ⟨N, 7, none⟩ d7).setCell ⟨N, 8, none⟩ d8).setCell ⟨N, 9, none⟩ d9).setCell ⟨N, 10, none⟩ d10).setCell ⟨N, 11, none⟩ d11).setCell ⟨N, 12, none⟩ d12) N [d0, d1, d2, d3, d4, d5, d6, d7, d8, d9, d10, d11, d12, c13, c14, c15] T := h11.set 12 d12
  have h13 : At ((((((((((((((w.setCell ⟨N, 0, none⟩ d0).setCell ⟨N, 1, none⟩ d1).setCell ⟨N, 2, none⟩ d2).setCell ⟨N, 3, none⟩ d3).setCell ⟨N, 4, none⟩ d4).setCell ⟨N, 5, none⟩ d5).setCell ⟨N, 6, none⟩ d6).setCell ⟨N, 7, none⟩ d7).setCell ⟨N, 8, none⟩ d8).setCell ⟨N, 9, none⟩ d9).setCell ⟨N, 10, none⟩ d10).setCell ⟨N, 11, none⟩ d11).setCell ⟨N, 12, none⟩ d12).setCell ⟨N, 13, none⟩ d13) N [d0, d1, d2, d3, d4, d5, d6, d7, d8, d9, d10, d11, d12, d13, c14, c15] T := h12.set 13 d13
  have h14 : At (((((((((((((((w.setCell ⟨N, 0, none⟩ d0).setCell ⟨N, 1, none⟩ d1).setCell ⟨N, 2, none⟩ d2).setCell ⟨N, 3, none⟩ d3).setCell ⟨N, 4, none⟩ d4).setCell ⟨N, 5, none⟩ d5).setCell ⟨N, 6, none⟩ d6).setCell ⟨N, 7, none⟩ d7).setCell ⟨N, 8, none⟩ d8).setCell ⟨N, 9, none⟩ d9).setCell ⟨N, 10, none⟩ d10).setCell ⟨N, 11, none⟩ d11).setCell ⟨N, 12, none⟩ d12).setCell ⟨N, 13, none⟩ d13).setCell ⟨N, 14, none⟩ d14) N [d0, d1, d2, d3, d4, d5, d6, d7, d8, d9, d10, d11, d12, d13, d14, c15] T := h13.set 14 d14
  exact h14.set 15 d15
theorem At.n16 {w : World} {N M : Nat} {cs : List Value} {T : TypeId} (h : At w M cs T) (hne : M ≠ N) (d0 d1 d2 d3 d4 d5 d6 d7 d8 d9 d10 d11 d12 d13 d14 d15 : Value) : At ((((((((((((((((w.setCell ⟨N, 0, none⟩ d0).setCell ⟨N, 1, none⟩ d1).setCell ⟨N, 2, none⟩ d2).setCell ⟨N, 3, none⟩ d3).setCell ⟨N, 4, none⟩ d4).setCell ⟨N, 5, none⟩ d5).setCell ⟨N, 6, none⟩ d6).setCell ⟨N, 7, none⟩ d7).setCell ⟨N, 8, none⟩ d8).setCell ⟨N, 9, none⟩ d9).setCell ⟨N, 10, none⟩ d10).setCell ⟨N, 11, none⟩ d11).setCell ⟨N, 12, none⟩ d12).setCell ⟨N, 13, none⟩ d13).setCell ⟨N, 14, none⟩ d14).setCell ⟨N, 15, none⟩ d15) M cs T :=
  (((((((((((((((h.set_ne hne _).set_ne hne _).set_ne hne _).set_ne hne _).set_ne hne _).set_ne hne _).set_ne hne _).set_ne hne _).set_ne hne _).set_ne hne _).set_ne hne _).set_ne hne _).set_ne hne _).set_ne hne _).set_ne hne _).set_ne hne _
theorem below_s16 {B : Nat} {W w : World} {N : Nat} (h : Below B W w) (hN : B ≤ N) (d0 d1 d2 d3 d4 d5 d6 d7 d8 d9 d10 d11 d12 d13 d14 d15 : Value) : Below B W ((((((((((((((((w.setCell ⟨N, 0, none⟩ d0).setCell ⟨N, 1, none⟩ d1).setCell ⟨N, 2, none⟩ d2).setCell ⟨N, 3, none⟩ d3).setCell ⟨N, 4, none⟩ d4).setCell ⟨N, 5, none⟩ d5).setCell ⟨N, 6, none⟩ d6).setCell ⟨N, 7, none⟩ d7).setCell ⟨N, 8, none⟩ d8).setCell ⟨N, 9, none⟩ d9).setCell ⟨N, 10, none⟩ d10).setCell ⟨N, 11, none⟩ d11).setCell ⟨N, 12, none⟩ d12).setCell ⟨N, 13, none⟩ d13).setCell ⟨N, 14, none⟩ d14).setCell ⟨N, 15, none⟩ d15) :=
  (((((((((((((((h.setCell (p := ⟨N, 0, none⟩) hN _).setCell (p := ⟨N, 1, none⟩) hN _).setCell (p := ⟨N, 2, none⟩) hN _).setCell (p := ⟨N, 3, none⟩) hN _).setCell (p := ⟨N, 4, none⟩) hN _).setCell (p := ⟨N, 5, none⟩) hN _).setCell (p := ⟨N, 6, none⟩) hN _).setCell (p := ⟨N, 7, none⟩) hN _).setCell (p := ⟨N, 8, none⟩) hN _).setCell (p := ⟨N, 9, none⟩) hN _).setCell (p := ⟨N, 10, none⟩) hN _).setCell (p := ⟨N, 11, none⟩) hN _).setCell (p := ⟨N, 12, none⟩) hN _).setCell (p := ⟨N, 13, none⟩) hN _).setCell (p := ⟨N, 14, none⟩) hN _).setCell (p := ⟨N, 15, none⟩) hN _
theorem rowq_s16 {w : World} {ok : Nat → Prop} {sz n cap N : Nat} {a : Option Addr} {cs : List Value} (h : RowQ w ok sz a n cap cs) (hne : ¬ ok N) (d0 d1 d2 d3 d4 d5 d6 d7 d8 d9 d10 d11 d12 d13 d14 d15 : Value) : RowQ ((((((((((((((((w.setCell ⟨N, 0, none⟩ d0).setCell ⟨N, 1, none⟩ d1).setCell ⟨N, 2, none⟩ d2).setCell ⟨N, 3, none⟩ d3).setCell ⟨N, 4, none⟩ d4).setCell ⟨N, 5, none⟩ d5).setCell ⟨N, 6, none⟩ d6).setCell ⟨N, 7, none⟩ d7).setCell ⟨N, 8, none⟩ d8).setCell ⟨N, 9, none⟩ d9).setCell ⟨N, 10, none⟩ d10).setCell ⟨N, 11, none⟩ d11).setCell ⟨N, 12, none⟩ d12).setCell ⟨N, 13, none⟩ d13).setCell ⟨N, 14, none⟩ d14).setCell ⟨N, 15, none⟩ d15) ok sz a n cap cs :=
  rowq_set (rowq_set (rowq_set (rowq_set (rowq_set (rowq_set (rowq_set (rowq_set (rowq_set (rowq_set (rowq_set (rowq_set (rowq_set (rowq_set (rowq_set (rowq_set h hne) hne) hne) hne) hne) hne) hne) hne) hne) hne) hne) hne) hne) hne) hne) hne

theorem prop_cl_ent : ∀ args w, (callFunc 86 args).run Tryz.prog w = .ok (.enter 86 args) w := by intro args w; kernel_rfl

end Go.Proofs.YtajclfjedlkbcaaGreatDoor
/- Walks: whether a schema is small enough to be played. -/
namespace Go.Proofs.YtajclfjedlkbcaaGreatDoor
open Go.RowKit Go.Redl
set_option linter.unusedVariables false
set_option linter.unusedSimpArgs false

theorem info_rule : (Tryz.prog.info? 27).map (fun i => (i.zero, i.size, i.bytes)) = some (some (.agg #[.string ⟨#[]⟩, .int .i64 0, .string ⟨#[]⟩, .int .i64 0, .string ⟨#[]⟩, .slice none 0 0, .int .i64 0, .string ⟨#[]⟩]), 8, 112) := by kernel_rfl

set_option maxRecDepth 100000 in
set_option maxHeartbeats 2000000 in
theorem rall_c (a : Option Addr) (n c : Nat) (css : List Value) (e1 e3 e5 e8 : List UInt8) (e2 e4 e7 : Int) (ea : Option Addr) (en ec : Nat) (v9 v10 v11 v12 v13 v14 v15 : Value) (W : World) (hr : RowA W W.heap.size 8 a n c css) (hn : n ≤ 100000000) :
    Calls Tryz.prog 28 #[.agg #[.slice a n c, strV e1, .int .i64 e2, strV e3, .int .i64 e4, strV e5, .slice ea en ec, .int .i64 e7, strV e8, v9, v10, v11, v12, v13, v14, v15]] W (MadeRow W 27 8 (n + 1) (css ++ [strV e1, .int .i64 e2, strV e3, .int .i64 e4, strV e5, .slice ea en ec, .int .i64 e7, strV e8])) := by
  obtain ⟨w0, hw0⟩ : ∃ w0, w0 = W.alloc (Obj.cells #[.slice a n c, strV e1, .int .i64 e2, strV e3, .int .i64 e4, strV e5, .slice ea en ec, .int .i64 e7, strV e8, v9, v10, v11, v12, v13, v14, v15] 30) := ⟨_, rfl⟩
  have hb0 : Below W.heap.size W w0 := by rw [hw0]; exact one_below _ _
  have hB : At w0 W.heap.size [.slice a n c, strV e1, .int .i64 e2, strV e3, .int .i64 e4, strV e5, .slice ea en ec, .int .i64 e7, strV e8, v9, v10, v11, v12, v13, v14, v15] 30 := by rw [hw0]; exact At.fresh _ _ _
  have HR := Lib.hid (fun (w1 : World) (hb : Below w0.heap.size w0 w1) => hr.keep (hb0.trans (hb.mono hb0.size)) (hb0.trans (hb.mono hb0.size)).size)
  have HS9 := Lib.hid (fun (w' : World) (h : At w' W.heap.size [.slice a n c, strV e1, .int .i64 e2, strV e3, .int .i64 e4, strV e5, .slice ea en ec, .int .i64 e7, strV e8, v9, v10, v11, v12, v13, v14, v15] 30) => (show w'.cell? ⟨W.heap.size, 0, none⟩ = some (.slice a n c) ∧ w'.cell? ⟨W.heap.size, 1, none⟩ = some (strV e1) ∧ w'.cell? ⟨W.heap.size, 2, none⟩ = some (.int .i64 e2) ∧ w'.cell? ⟨W.heap.size, 3, none⟩ = some (strV e3) ∧ w'.cell? ⟨W.heap.size, 4, none⟩ = some (.int .i64 e4) ∧ w'.cell? ⟨W.heap.size, 5, none⟩ = some (strV e5) ∧ w'.cell? ⟨W.heap.size, 6, none⟩ = some (.slice ea en ec) ∧ w'.cell? ⟨W.heap.size, 7, none⟩ = some (.int .i64 e7) ∧ w'.cell? ⟨W.heap.size, 8, none⟩ = some (strV e8) by
    obtain ⟨x0, x1, x2, x3, x4, x5, x6, x7, x8, -⟩ := h.f16.1
    exact ⟨x0, x1, x2, x3, x4, x5, x6, x7, x8⟩))
  have HS0 := Lib.hid (fun (w' : World) (hb : Below w0.heap.size w0 w') => HS9.out w' (hB.kept hb))
  have HB := Lib.hid hB
  have Hw0 := Lib.hid hw0; have Hb0 := Lib.hid hb0; have Hone := Lib.hid hr.one
  have hsz : W.heap.size + 1 ≤ w0.heap.size := hB.lt
  clear hw0 hb0 hB hr
  go_enter Tryz.func28, Tryz.ntmps28
  go_upto_region 1 with fail
  rw [← Hw0.out]
  clear Hw0
  go_region_held3 (fun w' => w'.cell? ⟨W.heap.size, 0, none⟩ = some (.slice a n c) ∧ w'.cell? ⟨W.heap.size, 1, none⟩ = some (strV e1) ∧ w'.cell? ⟨W.heap.size, 2, none⟩ = some (.int .i64 e2) ∧ w'.cell? ⟨W.heap.size, 3, none⟩ = some (strV e3) ∧ w'.cell? ⟨W.heap.size, 4, none⟩ = some (.int .i64 e4) ∧ w'.cell? ⟨W.heap.size, 5, none⟩ = some (strV e5) ∧ w'.cell? ⟨W.heap.size, 6, none⟩ = some (.slice ea en ec) ∧ w'.cell? ⟨W.heap.size, 7, none⟩ = some (.int .i64 e7) ∧ w'.cell? ⟨W.heap.size, 8, none⟩ = some (strV e8)) (first | with_reducible exact HS2.out | (refine HS0.out _ (by ((repeat (first | with_reducible exact Hb1.out | with_reducible exact Below.refl _ _ | with_reducible refine Below.drew ?_ | with_reducible refine Below.alloc ?_ ?_ _ | with_reducible refine Below.setCell ?_ ?_ _)) <;> (first | with_reducible exact Nat.le_refl _ | with_reducible exact Hb1.out.size | (have hsz := Hb1.out.size; simp [World.setCell]; omega) | (simp; done) | (simp; omega) | omega)))))
    (first
    | (refine step_app rfl _ _ 22 rfl _ 27 _ 8 112 Tryz.underlying22 info_rule rfl (by decide) (.slice none 0 0) 0 [] ?_ (World.ownsRow_nil _ _ _ _) a n c _ _ ?_ (HR.out _ (by ((repeat (first | with_reducible exact Below.refl _ _ | with_reducible refine Below.drew ?_ | with_reducible refine Below.alloc ?_ ?_ _ | with_reducible refine Below.setCell ?_ ?_ _)) <;> (first | with_reducible exact Nat.le_refl _ | (simp; done) | (simp; omega) | omega)))) ?_ ?_ (Nat.le_refl _) ?_
       · go_simp
       · go_simp
       · unfold maxLen; omega
       · omega
       intro v1 w1 hown hgrow
       have hbel := below_of_grown hgrow
       have Hz1 := Lib.hid hbel.size
       have Hb1 := Lib.hid (Below.and (w0 := w0) (by ((repeat (first | with_reducible exact Below.refl _ _ | with_reducible refine Below.drew ?_ | with_reducible refine Below.alloc ?_ ?_ _ | with_reducible refine Below.setCell ?_ ?_ _)) <;> (first | with_reducible exact Nat.le_refl _ | (simp; done) | (simp; omega) | omega))) hbel)
       rw [Nat.zero_add, List.nil_append] at hown
       have Hown := Lib.hid (own_mono (base := W.heap.size + 1) hown (by simp; omega))
       have HB1 := Lib.hid (HB.out.kept Hb1.out)
       first
         | (refine At.lay (N := ?_) (cs := [strV e1, .int .i64 e2, strV e3, .int .i64 e4, strV e5, .slice ea en ec, .int .i64 e7, strV e8]) (T := 27) (At.kept ?_ hbel) ?_
            rotate_left
            · (repeat (first | with_reducible exact At.second _ _ _ _ | with_reducible exact At.fresh _ _ _ | with_reducible refine At.drew ?_ | with_reducible refine At.alloc ?_ _))
            intro HE1)
         | skip
       clear hown hgrow hbel)
    | (refine step_app rfl _ _ 22 rfl (W.heap.size + 1) 27 _ 8 112 Tryz.underlying22 info_rule rfl (by decide) v1 n css ?_ (own_keep Hown.out (one_below _ _)) (some ⟨w1.heap.size, 0, none⟩) 1 1 _ [strV e1, .int .i64 e2, strV e3, .int .i64 e4, strV e5, .slice ea en ec, .int .i64 e7, strV e8] ?_ (RowQ.row (ok := fun _ => True) (rowq_at (T := 27) (by (repeat (first | with_reducible exact HE1.out | with_reducible exact At.second _ _ _ _ | with_reducible exact At.fresh _ _ _ | with_reducible refine At.drew ?_ | with_reducible refine At.alloc ?_ _))) 1 8 rfl (by omega) (by intro u hu; simp at hu; rcases hu with rfl | rfl | rfl | rfl | rfl | rfl | rfl | rfl <;> rfl) trivial)) ?_ ?_ ?_ ?_
       · go_simp
       · go_simp
       · unfold maxLen; omega
       · omega
       · have := Hb1.out.size; simp; omega
       intro v2 w2 hown2 hgrow2
       have Hown2 := Lib.hid hown2
       have Hb2 := Lib.hid ((show Below W.heap.size W _ from Hb0.out.trans ((show Below w0.heap.size w0 _ by ((repeat (first | with_reducible exact Hb1.out | with_reducible exact Below.refl _ _ | with_reducible refine Below.drew ?_ | with_reducible refine Below.alloc ?_ ?_ _ | with_reducible refine Below.setCell ?_ ?_ _)) <;> (first | with_reducible exact Nat.le_refl _ | with_reducible exact Hb1.out.size | (have hsz := Hb1.out.size; simp [World.setCell]; omega) | (simp; done) | (simp; omega) | omega))).mono Hb0.out.size)).grown hgrow2 (by have := Hb1.out.size; simp; omega) (fun k hk => by have := (Hown.out.lt k hk).1; omega))
       have HS2 := Lib.hid (HS9.out _ (At.grown (show At _ W.heap.size [.slice a n c, strV e1, .int .i64 e2, strV e3, .int .i64 e4, strV e5, .slice ea en ec, .int .i64 e7, strV e8, v9, v10, v11, v12, v13, v14, v15] 30 by (repeat (first | with_reducible exact HB1.out | with_reducible exact At.second _ _ _ _ | with_reducible exact At.fresh _ _ _ | with_reducible refine At.drew ?_ | with_reducible refine At.alloc ?_ _))) hgrow2 (fun e => by have := (Hown.out.lt _ e).1; omega)))
       clear hown2 hgrow2)
    | (refine step_app rfl _ _ 22 rfl (W.heap.size + 1) 27 _ 8 112 Tryz.underlying22 info_rule rfl (by decide) v1 n css ?_ Hown.out (some ⟨w0.heap.size, 0, none⟩) 1 1 _ [strV e1, .int .i64 e2, strV e3, .int .i64 e4, strV e5, .slice ea en ec, .int .i64 e7, strV e8] ?_ (RowQ.row (ok := fun _ => True) (rowq_at (T := 27) (by (repeat (first | with_reducible exact HE1.out | with_reducible exact At.second _ _ _ _ | with_reducible exact At.fresh _ _ _ | with_reducible refine At.drew ?_ | with_reducible refine At.alloc ?_ _))) 1 8 rfl (by omega) (by intro u hu; simp at hu; rcases hu with rfl | rfl | rfl | rfl | rfl | rfl | rfl | rfl <;> rfl) trivial)) ?_ ?_ ?_ ?_
       · go_simp
       · go_simp
       · unfold maxLen; omega
       · omega
       · have := Hb1.out.size; simp; omega
       intro v2 w2 hown2 hgrow2
       have Hown2 := Lib.hid hown2
       have Hb2 := Lib.hid ((show Below W.heap.size W _ from Hb0.out.trans ((show Below w0.heap.size w0 _ by ((repeat (first | with_reducible exact Hb1.out | with_reducible exact Below.refl _ _ | with_reducible refine Below.drew ?_ | with_reducible refine Below.alloc ?_ ?_ _ | with_reducible refine Below.setCell ?_ ?_ _)) <;> (first | with_reducible exact Nat.le_refl _ | with_reducible exact Hb1.out.size | (have hsz := Hb1.out.size; simp [World.setCell]; omega) | (simp; done) | (simp; omega) | omega))).mono Hb0.out.size)).grown hgrow2 (by have := Hb1.out.size; simp; omega) (fun k hk => by have := (Hown.out.lt k hk).1; omega))
       have HS2 := Lib.hid (HS9.out _ (At.grown (show At _ W.heap.size [.slice a n c, strV e1, .int .i64 e2, strV e3, .int .i64 e4, strV e5, .slice ea en ec, .int .i64 e7, strV e8, v9, v10, v11, v12, v13, v14, v15] 30 by (repeat (first | with_reducible exact HB1.out | with_reducible exact At.second _ _ _ _ | with_reducible exact At.fresh _ _ _ | with_reducible refine At.drew ?_ | with_reducible refine At.alloc ?_ _))) hgrow2 (fun e => by have := (Hown.out.lt _ e).1; omega)))
       clear hown2 hgrow2)
    )
  all_goals
    go_wp2_with fail
    go_ret
    exact ⟨_, rfl, own_mono Hown2.out (Nat.le_succ _), Hb2.out⟩

end Go.Proofs.YtajclfjedlkbcaaGreatDoor
/- Walks: whether a schema is small enough to be played. -/
namespace Go.Proofs.YtajclfjedlkbcaaGreatDoor
open Go.RowKit Go.Redl
set_option linter.unusedVariables false
set_option linter.unusedSimpArgs false

theorem RulesC.snoc {w : World} {B : Nat} {r : RuleD} {c2 : List Value} (hr : RuleC w B r c2) : ∀ {rs : List RuleD} {css : List Value}, RulesC w B rs css → RulesC w B (rs ++ [r]) (css ++ c2)
  | [], css, h => by
    rw [show css = [] from h]
    exact ⟨c2, [], by simp, hr, rfl⟩
  | q :: rs, css, h => by
    obtain ⟨c1, c3, rfl, h2, h3⟩ := h
    exact ⟨c1, c3 ++ c2, by simp, h2, RulesC.snoc hr h3⟩
theorem all_wt {s : SchemaD} (hw : s.wt ≤ 100000000) : ∀ j (hj : j < (s.rules ++ [s.els]).length), (s.rules ++ [s.els])[j].kids.length ≤ 100000000 := by
  intro j hj
  have hm := List.getElem_mem hj
  have h : (s.rules ++ [s.els])[j].wt ≤ s.wt := by
    unfold SchemaD.wt
    rcases List.mem_append.1 hm with h | h
    · have := rulesWt_mem h; omega
    · rw [List.mem_singleton.1 h]; omega
  have := kids_wt (s.rules ++ [s.els])[j]
  omega
/-- What a pair adds to the count, a rule's head, a rule, a schema: as the walk has them, wraps and all. -/
def pairZ (z : Int) (p : PairD) : Int := wrap64 (z + wrap64 ((wrap64 ((p.1.length : Int) + (p.2.2.length : Int))).tdiv 64))
def headZ (y : Int) (q : RuleD) : Int := wrap64 (y + wrap64 (1 + (q.kids.length : Int) + wrap64 ((wrap64 (wrap64 (wrap64 ((q.type.length : Int) + (q.text.2.length : Int)) + (q.other.2.length : Int)) + (q.fillT.length : Int))).tdiv 64)))
def ruleZ (y : Int) (q : RuleD) : Int := q.kids.foldl pairZ (headZ y q)
def fewZ (l : List RuleD) : Bool := decide (l.foldl ruleZ 0 ≤ 80)

set_option maxRecDepth 100000 in
set_option maxHeartbeats 2000000 in
theorem rfew15_c (s : SchemaD) (v : Value) (W : World) (hw : s.wt ≤ 100000000) (hv : SchemaV W W.heap.size s v) :
    Calls Tryz.prog 14 #[v] W (fun e w' => e = .returned (.bool (fewZ (s.rules ++ [s.els]))) ∧ Below W.heap.size W w') := by
  have hrl : s.rules.length ≤ 100000000 - 1 := by have := rulesWt_len s.rules; have : 1 ≤ s.els.wt := by { unfold RuleD.wt; omega }; unfold SchemaD.wt at hw; omega
  obtain ⟨a, c, css, ea, ec, o0, o1, o2, o3, o4, o5, rfl, h1, h2, h3, -⟩ := hv.open
  have hkl := all_wt hw
  obtain ⟨rs, ⟨ty, ⟨td, tt⟩, ⟨od, ot⟩, kids, fill, ft⟩, order, scap⟩ := s
  simp only at hrl h1 h2 h3 hkl ⊢
  obtain ⟨w0, hw0⟩ : ∃ w0, w0 = W.alloc (Obj.cells #[.slice a rs.length c, strV ty, .int .i64 td, strV tt, .int .i64 od, strV ot, .slice ea kids.length ec, .int .i64 fill, strV ft, .int .i64 o0, .int .i64 o1, .int .i64 o2, .int .i64 o3, .int .i64 o4, .int .i64 o5, .int .i64 scap] 30) := ⟨_, rfl⟩
  have hb0 : Below W.heap.size W w0 := by rw [hw0]; exact one_below _ _
  have hA : At w0 W.heap.size [.slice a rs.length c, strV ty, .int .i64 td, strV tt, .int .i64 od, strV ot, .slice ea kids.length ec, .int .i64 fill, strV ft, .int .i64 o0, .int .i64 o1, .int .i64 o2, .int .i64 o3, .int .i64 o4, .int .i64 o5, .int .i64 scap] 30 := by rw [hw0]; exact At.fresh _ _ _
  have HC := Lib.hid (rall_c a rs.length c css ty tt ot ft td od fill ea kids.length ec (.int .i64 o0) (.int .i64 o1) (.int .i64 o2) (.int .i64 o3) (.int .i64 o4) (.int .i64 o5) (.int .i64 scap) w0 (h1.keep hb0 hb0.size) (by omega))
  have HR := Lib.hid (fun (w' : World) (hb : Below W.heap.size W w') => RulesC.snoc (r := ⟨ty, (td, tt), (od, ot), kids, fill, ft⟩) (c2 := [strV ty, .int .i64 td, strV tt, .int .i64 od, strV ot, .slice ea kids.length ec, .int .i64 fill, strV ft]) (⟨ea, ec, rfl, h3.keep hb hb.size⟩) (RulesC.keep hb hb.size h2))
  have Hb0 := Lib.hid hb0; have Hw0 := Lib.hid hw0
  obtain ⟨L, hL⟩ : ∃ L : List RuleD, L = rs ++ [⟨ty, (td, tt), (od, ot), kids, fill, ft⟩] := ⟨_, rfl⟩
  have hLn : L.length = rs.length + 1 := by rw [hL]; simp
  rw [← hL] at HR hkl ⊢
  obtain ⟨T, hT⟩ : ∃ T, T = L.foldl ruleZ 0 := ⟨_, rfl⟩
  have HT := Lib.hid hT
  have HF := Lib.hid (show fewZ L = decide (T ≤ 80) by rw [hT]; rfl)
  have Hkl := Lib.hid hkl; have HLn := Lib.hid hLn
  obtain ⟨⟨x0, x1, x2, x3, x4, x5, x6, x7, x8, x9, x10, x11, x12, x13, x14, x15⟩, -, xl⟩ := hA.f16
  clear hw hv h1 h2 h3 hb0 hw0 hA hL hLn hkl hT
  go_enter Tryz.func14, Tryz.ntmps14
  go_upto_region 1 with fail
  rw [← Hw0.out]
  clear Hw0
  go_wp2_with fail
  refine HC.out.mono ?_
  rintro e w1 ⟨v1, rfl, hown, hbel⟩
  have hRc := HR.out w1 (Hb0.out.trans (hbel.mono Hb0.out.size))
  obtain ⟨qa, qc, rfl, hq⟩ := rowq_own hown (RulesC.one hRc)
  have Hq := Lib.hid hq.row; have HRc := Lib.hid hRc
  have Hb1 := Lib.hid (Hb0.out.trans (hbel.mono Hb0.out.size))
  have Hsz := Lib.hid (Hb0.out.trans (hbel.mono Hb0.out.size)).size
  clear HC HR hown hbel hRc hq x0 x1 x2 x3 x4 x5 x6 x7 x8 x9 x10 x11 x12 x13 x14 x15 xl Hb0
  rw [← HLn.out] at Hq
  rw [← HLn.out]
  have hlm : L.length ≤ 100000000 := by have := HLn.out; omega
  clear HLn hrl
  go_wp2_with fail
  go_loopg [3, 11] L.length (fun g x i wr => ∃ (k : Nat) (y : Int), x = .int .i64 y ∧ i = .int .i64 k ∧ k + g = L.length ∧ (L.drop k).foldl ruleZ y = T ∧ Below w1.heap.size w1 wr)
  case atStart => exact ⟨0, 0, rfl, rfl, by omega, HT.out.symm, Below.refl _ _⟩
  case round =>
    obtain ⟨k, y, rfl, rfl, hg, hfo, hbr⟩ := hrel
    have Hfo := Lib.hid hfo
    have Hbr := Lib.hid hbr
    by_cases hlt : k < L.length
    · have hlti : (k : Int) < L.length := by omega
      obtain ⟨b, off, ra, rc, rfl, -, hrr, g0, g1, g2, g3, g4, g5, g6, g7⟩ := rule8 (Hq.out.keep hbr hbr.size) (RulesC.keep hbr hbr.size HRc.out) k hlt
      have hkk := Hkl.out k hlt
      have Hrr := Lib.hid (fun (w' : World) (hb : Below wr.heap.size wr w') => hrr.keep hb hb.size)
      rw [List.drop_eq_getElem_cons hlt, List.foldl_cons] at hfo
      have Hfo := Lib.hid hfo
      clear hfo
      generalize L[k] = q at Hfo g0 g1 g2 g3 g4 g5 g6 g7 Hrr hkk
      obtain ⟨Y, hY⟩ : ∃ Y, Y = ruleZ y q := ⟨_, rfl⟩
      rw [← hY] at Hfo
      have HY := Lib.hid hY
      clear hbr hrr Hkl hY
      go_wp2_with fail
      go_loopg [3, 43] q.kids.length (fun g x i w2 => ∃ (j : Nat) (z : Int), x = .int .i64 z ∧ i = .int .i64 j ∧ j + g = q.kids.length ∧ (q.kids.drop j).foldl pairZ z = Y ∧ Below wr.heap.size wr w2)
      case atStart => exact ⟨0, _, rfl, rfl, by omega, HY.out.symm, one_below _ _⟩
      case round =>
        obtain ⟨j, z, rfl, rfl, hg2, hfp, hbr2⟩ := hrel
        have Hbr2 := Lib.hid hbr2
        by_cases hlt2 : j < q.kids.length
        · have hlti2 : (j : Int) < q.kids.length := by omega
          obtain ⟨b2, off2, rfl, -, p0, p1, p2⟩ := (Hrr.out _ hbr2).pair_at j hlt2
          rw [List.drop_eq_getElem_cons hlt2, List.foldl_cons] at hfp
          have Hfp := Lib.hid hfp
          generalize q.kids[j] = pr at Hfp p0 p1 p2
          clear hbr2 hfp
          go_wp2_with fail
          go_roundg (q.kids.length - (j + 1))
          case measure => omega
          case rel => exact ⟨j + 1, _, rfl, by go_num, by omega, Hfp.out, Hbr2.out.alloc Hbr2.out.size _⟩
        · obtain rfl : j = q.kids.length := by omega
          rw [List.drop_length, List.foldl_nil] at hfp
          have Hfp := Lib.hid hfp
          clear hbr2 hfp
          go_wp2_with fail
          go_roundg (L.length - (k + 1))
          case measure => omega
          case rel => exact ⟨k + 1, _, rfl, by go_num, by omega, (congrArg (fun x => (L.drop (k + 1)).foldl ruleZ x) Hfp.out).trans Hfo.out, Hbr.out.trans (Hbr2.out.mono Hbr.out.size)⟩
    · obtain rfl : k = L.length := by omega
      rw [List.drop_length, List.foldl_nil] at hfo
      have Hfo := Lib.hid hfo
      clear hbr hfo
      go_wp2_with fail
      go_ret
      exact ⟨ret_bool (HF.out.trans (by rw [← Hfo.out])).symm, Hb1.out.trans (Hbr.out.mono Hsz.out)⟩

end Go.Proofs.YtajclfjedlkbcaaGreatDoor
/- Walks: the reference of node: left, Few. -/
namespace Go.Proofs.YtajclfjedlkbcaaGreatDoor
open Go.RowKit Go.Redl
set_option linter.unusedVariables false

/-- What properties' lengths count. -/
def propsQ : List PropD → Nat
  | [] => 0
  | p :: ps => p.1.length / 64 + p.2.length / 64 + propsQ ps
mutual
/-- How many more there might be. -/
def leftN : NodeD → Int → Int
  | .mk _ ps t ks, m => if m - (1 + t.length + ps.length : Nat) - (propsQ ps : Nat) < 0 then -1 else leftK ks (m - (1 + t.length + ps.length : Nat) - (propsQ ps : Nat))
def leftK : List NodeD → Int → Int
  | [], m => m
  | k :: ks, m => if leftN k m < 0 then -1 else leftK ks (leftN k m)
end
def fewB (n : NodeD) (m : Int) : Bool := decide (0 ≤ leftN n m)
theorem propsQ_append (a b : List PropD) : propsQ (a ++ b) = propsQ a + propsQ b := by
  induction a with
  | nil => simp [propsQ]
  | cons p ps ih => simp only [List.cons_append, propsQ, ih]; omega
theorem propsQ_succ {ps : List PropD} {k : Nat} (h : k < ps.length) : propsQ (ps.take (k + 1)) = propsQ (ps.take k) + (ps[k].1.length / 64 + ps[k].2.length / 64) := by
  rw [List.take_succ_eq_append_getElem h, propsQ_append]; simp [propsQ]
theorem propsQ_le (ps : List PropD) : propsQ ps ≤ propsWt ps := by
  induction ps with
  | nil => simp [propsQ]
  | cons p ps ih => simp only [propsQ, propsWt]; omega
mutual
theorem leftN_le : ∀ (n : NodeD) (m : Int), 0 ≤ m → -1 ≤ leftN n m ∧ leftN n m ≤ m
  | .mk l ps t ks, m, h => by
    simp only [leftN]
    split
    · omega
    · have := leftK_le ks (m - (1 + t.length + ps.length : Nat) - (propsQ ps : Nat)) (by omega)
      omega
theorem leftK_le : ∀ (ks : List NodeD) (m : Int), 0 ≤ m → -1 ≤ leftK ks m ∧ leftK ks m ≤ m
  | [], m, h => by simp only [leftK]; omega
  | k :: ks, m, h => by
    simp only [leftK]
    have h1 := leftN_le k m h
    split
    · omega
    · have := leftK_le ks (leftN k m) (by omega)
      omega
end
theorem leftK_step {ks : List NodeD} {k : Nat} {m : Int} (h : k < ks.length) : leftK (ks.drop k) m = if leftN ks[k] m < 0 then -1 else leftK (ks.drop (k + 1)) (leftN ks[k] m) := by
  conv => lhs; rw [List.drop_eq_getElem_cons h]
  simp only [leftK]
theorem div64 (n : Nat) : ((n : Int)).tdiv 64 = ((n / 64 : Nat) : Int) := by rw [Int.tdiv_eq_ediv_of_nonneg (by omega)]; omega
theorem left_eq {z : Int} {ks : List NodeD} {l : Bool} {ps : List PropD} {t : List Int} {most : Int} (hz : z = most - (1 + t.length + ps.length : Nat) - (propsQ ps : Nat)) :
    leftN (.mk l ps t ks) most = if z < 0 then -1 else leftK ks z := by subst hz; rfl

set_option maxRecDepth 100000 in
set_option maxHeartbeats 2000000 in
theorem rleft_c (m : Nat) : ∀ (n : NodeD) (v : Value) (most : Int) (w : World), n.wt ≤ m → n.wt ≤ 100000000 → 0 ≤ most → most ≤ 1000000 → NodeV w w.heap.size n v →
    Calls Tryz.prog 29 #[v, .int .i64 most] w fun e w' => e = .returned (.int .i64 (leftN n most)) ∧ Below w.heap.size w w' := by
  induction m with
  | zero => intro n v most w hm; have := wt_pos n; omega
  | succ m ih =>
    intro n v most w hm hn hm0 hm1 hv
    obtain ⟨l, ps, t, ks⟩ := n
    obtain ⟨ap, cp, at_, ct, ak, ck, css, rfl, hp, ht, hk, hc⟩ := hv.open
    have IH := Lib.hid ih
    have hwt : 1 + propsWt ps + t.length + wtAll ks = (NodeD.mk l ps t ks).wt := rfl
    have hw2 : wtAll ks ≤ 100000000 := by omega
    have hw3 : wtAll ks ≤ m := by omega
    have hw4 : propsWt ps ≤ 100000000 := by omega
    have hkl := wtAll_len ks
    have htl : t.length ≤ 100000000 := by omega
    have hpl := propsWt_len ps
    have Hl := fun z (hz : z = most - (1 + t.length + ps.length : Nat) - (propsQ ps : Nat)) => Lib.hid (left_eq (l := l) (ks := ks) hz)
    clear ih hv hwt hm hn ht
    go_enter Tryz.func29, Tryz.ntmps29
    go_wp2_with fail
    go_loopw [1, 22] (fun s i wr => ∃ k : Nat, k ≤ ps.length ∧ i = .int .i64 k ∧ s = .int .i64 (most - (1 + t.length + ps.length : Nat) - (propsQ (ps.take k) : Nat)) ∧ Below (w.heap.size + 1) (w.alloc (Obj.cells #[.bool l, .slice ap ps.length cp, .slice at_ t.length ct, .slice ak ks.length ck] 35)) wr) (fun _ i _ => ps.length - (intOf i).toNat)
    case atStart => exact ⟨0, Nat.zero_le _, rfl, by simp [propsQ], Below.refl _ _⟩
    case round =>
      obtain ⟨k, hkn, rfl, rfl, hbel⟩ := hrel
      have hr2 := hp.keep (below_unbox hbel) (below_unbox hbel).size
      have hcl := propsQ_le (ps.take k)
      have hck := propsWt_take ps k
      by_cases hlt : k < ps.length
      · have Hb := Lib.hid hbel
        have Hss := Lib.hid (propsQ_succ hlt)
        have hcw := propsWt_mem (List.getElem_mem hlt)
        obtain ⟨b, off, rfl, hb, g0, g1⟩ := hr2.prop_at k hlt
        generalize ps[k] = p at hcw g0 g1 Hss
        obtain ⟨p1, p2⟩ := p
        simp only at hcw g0 g1 Hss
        generalize propsQ (ps.take k) = T at hcl Hss ⊢
        have hTl : T ≤ 100000000 := by omega
        have hl1 : p1.length ≤ 100000000 := by omega
        have hl2 : p2.length ≤ 100000000 := by omega
        have hb2 : (⟨p1.toArray⟩ : ByteArray).size = p1.length := rfl
        clear hbel hcl hck hcw
        go_wp2_with fail
        go_roundw
        case rel => exact ⟨k + 1, by omega, by go_num, by rw [Hss.out]; go_num, below_box_more Hb.out⟩
        case measure => simp [intOf]; omega
      · obtain rfl : k = ps.length := by omega
        rw [List.take_length] at hcl ⊢
        obtain ⟨x0, x1, x2, x3⟩ := box_keep hbel
        have Hb := Lib.hid (below_unbox hbel)
        have Hl1 := Hl _ rfl
        have hz1 : most - (1 + t.length + ps.length : Nat) - (propsQ ps : Nat) ≤ 1000000 := by omega
        generalize most - (1 + t.length + ps.length : Nat) - (propsQ ps : Nat) = z at Hl1 hz1 ⊢
        clear hbel hcl hck Hl
        by_cases hz : z < 0
        · go_wp2_with fail
          go_ret
          exact ⟨ret_int (by rw [Hl1.out, if_pos hz]), Hb.out⟩
        · have Hl2 : Hid (leftN (.mk l ps t ks) most = leftK ks z) := by
            show leftN _ _ = _
            rw [Hl1.out, if_neg hz]
          have hz0 : 0 ≤ z := by omega
          clear hz Hl1
          go_wp2_with fail
          go_loopw [1, 43] (fun s i wr => ∃ (k : Nat) (y : Int), k ≤ ks.length ∧ 0 ≤ y ∧ y ≤ 1000000 ∧ i = .int .i64 k ∧ s = .int .i64 y ∧ leftK (ks.drop k) y = leftK ks z ∧ Below w.heap.size w wr) (fun _ i _ => ks.length - (intOf i).toNat)
          case atStart => exact ⟨0, z, Nat.zero_le _, hz0, hz1, rfl, rfl, by simp, Hb.out⟩
          case round =>
            obtain ⟨k, y, hkn, hy0, hy1, rfl, rfl, hke, hbel⟩ := hrel
            have hr2 := hk.keep hbel hbel.size
            have hc2 := KidsC.keep hbel hbel.size ks css hc
            have Hb2 := Lib.hid hbel
            have Hke := Lib.hid hke
            clear hbel hke x0 x1 x2 x3
            by_cases hlt : k < ks.length
            · have Hss := Lib.hid (leftK_step (m := y) hlt)
              have hkw := wtAll_mem (List.getElem_mem hlt)
              obtain ⟨b, off, l', a1, n1, c1, a2, n2, c2, a3, n3, c3, rfl, hb, hnc, g0, g1, g2, g3⟩ := hr2.kid_at hc2 k hlt
              generalize ks[k] = q at hnc hkw Hss
              have hB := (((Below.refl wr.heap.size wr).alloc (Nat.le_refl _) (Obj.cells #[.bool l', .slice a1 n1 c1, .slice a2 n2 c2, .slice a3 n3 c3] 35)))
              have HC := Lib.hid (IH.out q (.agg #[.bool l', .slice a1 n1 c1, .slice a2 n2 c2, .slice a3 n3 c3]) y _ (by omega) (by omega) hy0 hy1 ⟨_, rfl, NodeC.keep hB hB.size _ _ hnc⟩)
              have hql := leftN_le q y hy0
              generalize leftN q y = x at HC Hss hql
              obtain ⟨hq0, hq1⟩ := hql
              by_cases hx : x < 0
              · have Hr : Hid (leftN (.mk l ps t ks) most = -1) := by
                  show leftN _ _ = _
                  rw [Hl2.out, ← Hke.out, Hss.out, if_pos hx]
                go_wp2_with fail
                refine HC.out.mono ?_
                rintro e w2 ⟨rfl, hbel⟩
                have Hb3 := Lib.hid ((Hb2.out.alloc Hb2.out.size _).trans (hbel.mono (by simp; have := Hb2.out.size; omega)))
                clear hbel
                go_wp2_with fail
                go_ret
                exact ⟨ret_int Hr.out.symm, Hb3.out⟩
              · have Hr : Hid (leftK (ks.drop (k + 1)) x = leftK ks z) := by
                  show leftK _ _ = _
                  rw [← Hke.out, Hss.out, if_neg hx]
                go_wp2_with fail
                refine HC.out.mono ?_
                rintro e w2 ⟨rfl, hbel⟩
                have Hb3 := Lib.hid ((Hb2.out.alloc Hb2.out.size _).trans (hbel.mono (by simp; have := Hb2.out.size; omega)))
                clear hbel
                go_wp2_with fail
                go_roundw
                case rel => exact ⟨k + 1, x, by omega, by omega, by omega, by go_num, rfl, Hr.out, Hb3.out⟩
                case measure => simp [intOf]; omega
            · obtain rfl : k = ks.length := by omega
              go_wp2_with fail
              go_ret
              exact ⟨ret_int (by rw [Hl2.out, ← Hke.out, List.drop_length]; rfl), Hb2.out⟩

set_option maxRecDepth 100000 in
set_option maxHeartbeats 1000000 in
theorem rfew_c (n : NodeD) (v : Value) (most : Int) (w : World) (hn : n.wt ≤ 100000000) (h0 : 0 ≤ most) (h1 : most ≤ 1000000) (hv : NodeV w w.heap.size n v) :
    Calls Tryz.prog 15 #[v, .int .i64 most] w fun e w' => e = .returned (.bool (fewB n most)) ∧ Below w.heap.size w w' := by
  have hv0 := hv
  obtain ⟨l, ps, t, ks⟩ := n
  obtain ⟨ap, cp, at_, ct, ak, ck, css, rfl, -, -, -, -⟩ := hv0.open
  generalize NodeD.mk l ps t ks = n at hv hn ⊢
  have hB0 := ((Below.refl w.heap.size w).alloc (Nat.le_refl _) (Obj.cells #[.bool l, .slice ap ps.length cp, .slice at_ t.length ct, .slice ak ks.length ck] 35))
  have HS := Lib.hid (rleft_c _ n _ most _ (Nat.le_refl _) hn h0 h1 (hv.keep hB0 hB0.size))
  have Hf : Hid (fewB n most = decide (0 ≤ leftN n most)) := rfl
  generalize leftN n most = x at HS Hf
  clear hv0 hv hB0 hn
  go_enter Tryz.func15, Tryz.ntmps15
  go_wp2_with fail
  refine HS.out.mono ?_
  rintro e w1 ⟨rfl, hbel⟩
  have Hb1 := Lib.hid (below_unbox (below_box hbel))
  clear hbel HS
  go_wp2_with fail
  go_ret
  exact ⟨ret_bool Hf.out.symm, Hb1.out⟩

end Go.Proofs.YtajclfjedlkbcaaGreatDoor
/- Walks: whether the law's input is small. -/
namespace Go.Proofs.YtajclfjedlkbcaaGreatDoor
open Go.RowKit Go.Redl
set_option linter.unusedVariables false
set_option linter.unusedSimpArgs false

theorem rfew15_ent : ∀ args w, (callFunc 14 args).run Tryz.prog w = .ok (.enter 14 args) w := by intro args w; kernel_rfl
theorem rfew04_ent : ∀ args w, (callFunc 15 args).run Tryz.prog w = .ok (.enter 15 args) w := by intro args w; kernel_rfl
/-- A call whose guard holds. -/
theorem step_callG {P : Program} {ops : Array Oper} {o : Oper} {a : Act} {w : World} {K : Act → World → Prop} {Q : Exit → Act → World → Prop} {E : Prop}
    (hw : Region.wanted o (yielded ops a.tmps) = true) (f : FuncId) (args : Array Operand) (tys : Array TypeId) (ho : o.op = .call { callee := .value (.func f), args := args, argTypes := tys })
    (he : ∀ args w, (callFunc f args).run P w = .ok (.enter f args) w) (vals : List Value) (hv : args.toList.map a.eval = vals) (R : Ending → World → Prop) (hC : Calls P f vals.toArray w R)
    (h : ∀ e w', R e w' → ∃ v, e = .returned v ∧ K (a.put o.dst v) w') : if Region.wanted o (yielded ops a.tmps) = true then Oper.wp P o a w K Q else E := by
  rw [if_pos hw]
  unfold Oper.wp
  have hv' : args.map a.eval = vals.toArray := by rw [← hv]; apply Array.ext'; simp
  have hr : (execOp a.eval o).run P w = .ok (.enter f vals.toArray) w := by
    simp [execOp, ho, resolve, invoke, Act.eval, Deferred.ofValue, hv', he]
  rw [hr]
  show Calls P f vals.toArray w _
  refine hC.mono fun e w' hR => ?_
  obtain ⟨v, rfl, hk⟩ := h e w' hR
  exact hk

/-- The law's inputs are small. -/
def smallB (s : SchemaD) (n : NodeD) (p : List Int) : Bool := fewZ (s.rules ++ [s.els]) && fewB n 120 && decide (p.length ≤ 40)

end Go.Proofs.YtajclfjedlkbcaaGreatDoor
/- Walks: redlinelaw19's example, and whether all is small enough. -/
namespace Go.Proofs.YtajclfjedlkbcaaGreatDoor
open Go.RowKit Go.Redl
set_option linter.unusedVariables false
set_option linter.unusedSimpArgs false

def live19D : NodeD := .mk false [(typeB, [100, 111, 99])] [] [.mk true [] [97] [], .mk true [] [98] []]
theorem live19_reg : regN live19D [[]] = 3 := by kernel_rfl
set_option maxRecDepth 100000 in
set_option maxHeartbeats 2000000 in
theorem live19_c (W : World) : Calls Tryz.prog 5 #[] W fun e w' => e = .returned (.bool true) ∧ Below W.heap.size W w' := by
  have HL := Lib.hid (fun (w : World) => leaf_c 97 rfl [] none 0 w (RowA.empty _ _ _))
  have HL2 := Lib.hid (fun (w : World) => leaf_c 98 rfl [] none 0 w (RowA.empty _ _ _))
  have HE := Lib.hid (fun (w1 : World) (d1 d2 : List Value) (h1 : d1.length = 4) (h2 : d2.length = 4) (hn1 : NodeC w1 w1.heap.size (.mk true [] [97] []) d1) (hn2 : NodeC w1 w1.heap.size (.mk true [] [98] []) d2) =>
    elem_c 100 [111, 99] (some ⟨w1.heap.size, 0, none⟩) 2 [.mk true [] [97] [], .mk true [] [98] []] (d1 ++ d2) (w1.alloc (Obj.cells (d1 ++ d2).toArray 35)) (row_cells 4 2 (d1 ++ d2) (by simp [h1, h2]) (by omega) (by intro u hu; exact (List.mem_append.1 hu).elim (hn1.one u) (hn2.one u)) (Below.refl _ _)) (by
      have hb := below_new w1 (Obj.cells (d1 ++ d2).toArray 35)
      unfold KidsC
      refine ⟨d1, d2, rfl, NodeC.keep hb hb.size _ _ hn1, ?_⟩
      unfold KidsC
      exact ⟨d2, [], by simp, NodeC.keep hb hb.size _ _ hn2, by unfold KidsC; rfl⟩))
  have HR := Lib.hid (fun (w1 : World) (v : Value) (hv : NodeV w1 w1.heap.size live19D v) => by
    have hb := one_below w1 (Obj.cells #[.slice none 0 0] 47)
    have hx : ReadX (w1.alloc (Obj.cells #[.slice none 0 0] 47)) (w1.heap.size + 1) (.slice (some ⟨w1.heap.size, 0, none⟩) 1 1) [([], none, 0)] := ⟨⟨_, _, rfl, row_one w1 (.slice none 0 0) 47 _ rfl (by omega)⟩, fun x hx => by rw [List.mem_singleton.1 hx]; exact RowA.empty _ _ _⟩
    have h := region_c live19D v (w1.heap.size + 1) _ _ (w1.alloc (Obj.cells #[.slice none 0 0] 47)) (by decide) (hv.keep hb (by omega)) (by simp) hx (by simp) (fun x hx => by rw [List.mem_singleton.1 hx]; simp)
    rw [show pxs [([], none, 0)] = [[]] from rfl, live19_reg] at h
    exact h)
  go_enter Tryz.func5, Tryz.ntmps5
  go_wp2_with fail
  refine (HL.out W).mono ?_
  rintro e w1 ⟨ap, cp, at_, ct, rfl, hnc, hbel⟩
  have Hb1 := Lib.hid hbel; have Hn1 := Lib.hid hnc
  clear hbel hnc HL
  go_wp2_with fail
  refine (HL2.out w1).mono ?_
  rintro e w2 ⟨ap2, cp2, at2, ct2, rfl, hnc, hbel⟩
  have Hb2 := Lib.hid (below_then Hb1.out hbel (Nat.le_refl _))
  have HE1 := HE.out w2 _ _ rfl rfl (NodeC.keep hbel hbel.size _ _ Hn1.out) hnc
  clear hbel hnc HL2 HE Hn1
  go_wp2_with fail
  refine HE1.mono ?_
  rintro e w3 ⟨g, rfl, hnc, hbel⟩
  have Hb3 := Lib.hid (below_then (Hb2.out.alloc Hb2.out.size _) hbel (Nat.le_refl _))
  have HR1 := Lib.hid (HR.out w3 _ ⟨_, rfl, hnc⟩)
  clear hbel hnc HE1 HR
  go_wp2_with fail
  refine HR1.out.mono ?_
  rintro e w4 ⟨rfl, hbel⟩
  have Hb4 := Lib.hid (below_then (Hb3.out.alloc Hb3.out.size _) hbel (Nat.le_refl _))
  clear hbel HR1
  go_wp2_with fail
  go_ret
  exact ⟨rfl, Hb4.out⟩

/-- All is small enough to be played. -/
def small19 (s : SchemaD) (n : NodeD) (L : List (List Int)) (m : Nat) : Bool := L.all (fun p => decide (p.length ≤ 40)) && (fewZ (s.rules ++ [s.els]) && (fewB n 50 && (decide (L.length ≤ 30) && decide (m ≤ 400))))
theorem all_drop {xs : List PX} {k : Nat} (h : k < xs.length) : (pxs (xs.drop k)).all (fun p => decide (p.length ≤ 40)) = (decide (xs[k].1.length ≤ 40) && (pxs (xs.drop (k + 1))).all (fun p => decide (p.length ≤ 40))) := by
  rw [List.drop_eq_getElem_cons h]; rfl
set_option maxRecDepth 100000 in
set_option maxHeartbeats 4000000 in
theorem few19_c (s : SchemaD) (n : NodeD) (u v : Value) (vx : Value) (xs : List PX) (qa : Option Addr) (m qc : Nat) (W : World) (hs : s.wt ≤ 100000000) (hn : n.wt ≤ 100000000) (hxl : xs.length ≤ 100000000) (hm : m ≤ 100000000) (hu : SchemaV W W.heap.size s u) (hv : NodeV W W.heap.size n v) (hx : ReadX W W.heap.size vx xs) :
    Calls Tryz.prog 6 #[u, v, vx, .slice qa m qc] W (fun e w' => e = .returned (.bool (small19 s n (pxs xs) m)) ∧ Below W.heap.size W w') := by
  have hu0 := hu; have hv0 := hv
  obtain ⟨l, ps, t, ks⟩ := n
  obtain ⟨a, c, css, ea, ec, o0, o1, o2, o3, o4, o5, rfl, -, -, -, -⟩ := hu0.open
  obtain ⟨ap, cp, at_, ct, ak, ck, cs4, rfl, -, -, -, -⟩ := hv0.open
  generalize NodeD.mk l ps t ks = n at hn hv ⊢
  obtain ⟨xa, xc, rfl, -⟩ := hx.row
  obtain ⟨w0, hw0⟩ : ∃ w0, w0 = (W.alloc (Obj.cells #[.slice a s.rules.length c, strV s.els.type, .int .i64 s.els.text.1, strV s.els.text.2, .int .i64 s.els.other.1, strV s.els.other.2, .slice ea s.els.kids.length ec, .int .i64 s.els.fill, strV s.els.fillT, .int .i64 o0, .int .i64 o1, .int .i64 o2, .int .i64 o3, .int .i64 o4, .int .i64 o5, .int .i64 s.cap] 30)).alloc (Obj.cells #[.bool l, .slice ap ps.length cp, .slice at_ t.length ct, .slice ak ks.length ck] 35) := ⟨_, rfl⟩
  have hb0 : Below W.heap.size W w0 := by rw [hw0]; exact (one_below _ _).trans ((one_below _ _).mono (one_below _ _).size)
  have hA : At w0 W.heap.size [.slice a s.rules.length c, strV s.els.type, .int .i64 s.els.text.1, strV s.els.text.2, .int .i64 s.els.other.1, strV s.els.other.2, .slice ea s.els.kids.length ec, .int .i64 s.els.fill, strV s.els.fillT, .int .i64 o0, .int .i64 o1, .int .i64 o2, .int .i64 o3, .int .i64 o4, .int .i64 o5, .int .i64 s.cap] 30 := by rw [hw0]; exact (At.fresh W _ _).alloc _
  have hN : At w0 (W.heap.size + 1) [.bool l, .slice ap ps.length cp, .slice at_ t.length ct, .slice ak ks.length ck] 35 := by rw [hw0]; exact At.second W _ _ _
  have HS := Lib.hid (fun (w' : World) (hb : Below w0.heap.size w0 w') => rfew15_c s _ w' hs (hu.keep (hb0.trans (hb.mono hb0.size)) (hb0.trans (hb.mono hb0.size)).size))
  have HT := Lib.hid (fun (w' : World) (hb : Below w0.heap.size w0 w') => rfew_c n _ 50 w' hn (by omega) (by omega) (hv.keep (hb0.trans (hb.mono hb0.size)) (hb0.trans (hb.mono hb0.size)).size))
  have HX := Lib.hid (fun (w' : World) (hb : Below w0.heap.size w0 w') => hx.keep (hb0.trans (hb.mono hb0.size)) (hb0.trans (hb.mono hb0.size)).size)
  have hld := fun (w' : World) (h : At w' W.heap.size [.slice a s.rules.length c, strV s.els.type, .int .i64 s.els.text.1, strV s.els.text.2, .int .i64 s.els.other.1, strV s.els.other.2, .slice ea s.els.kids.length ec, .int .i64 s.els.fill, strV s.els.fillT, .int .i64 o0, .int .i64 o1, .int .i64 o2, .int .i64 o3, .int .i64 o4, .int .i64 o5, .int .i64 s.cap] 30) => ldx (P := Tryz.prog) h Tryz.underlying30 rfl (by kernel_rfl)
  simp [go_sem] at hld
  obtain ⟨T, hT⟩ : ∃ T, T = small19 s n (pxs xs) m := ⟨_, rfl⟩
  have HT0 := Lib.hid (show ((pxs (xs.drop 0)).all (fun p => decide (p.length ≤ 40)) && (fewZ (s.rules ++ [s.els]) && (fewB n 50 && (decide (xs.length ≤ 30) && decide (m ≤ 400))))) = T by rw [hT]; unfold small19; simp)
  rw [← hT]
  have HA := Lib.hid hA; have HN := Lib.hid hN
  have Hb0 := Lib.hid hb0; have Hw0 := Lib.hid hw0
  clear hu hv hu0 hv0 hs hn hb0 hw0 hA hN hx hT
  go_enter Tryz.func6, Tryz.ntmps6
  go_upto_region 1 with fail
  rw [← Hw0.out]
  clear Hw0
  go_wp2_with fail
  go_loopg [13] xs.length (fun g i wr => ∃ k : Nat, i = .int .i64 k ∧ k + g = xs.length ∧ Hid (((pxs (xs.drop k)).all (fun p => decide (p.length ≤ 40)) && (fewZ (s.rules ++ [s.els]) && (fewB n 50 && (decide (xs.length ≤ 30) && decide (m ≤ 400))))) = T) ∧ wr = w0)
  case atStart => exact ⟨0, rfl, by omega, HT0, rfl⟩
  case round =>
    obtain ⟨k, rfl, hg, hst, rfl⟩ := hrel
    by_cases hlt : k < xs.length
    · have hlti : (k : Int) < xs.length := by omega
      have hXr := HX.out wr (Below.refl _ _)
      obtain ⟨b, off, rfl, hb, hc⟩ := hXr.at_ k hlt
      have Hst := Lib.hid ((congrArg (· && (fewZ (s.rules ++ [s.els]) && (fewB n 50 && (decide (xs.length ≤ 30) && decide (m ≤ 400))))) (all_drop hlt)).symm.trans hst.out)
      generalize xs[k] = x at hc Hst
      obtain ⟨q0, qa', qc'⟩ := x
      unfold pxV at hc
      simp only at hc Hst
      clear hXr hb hst
      by_cases hq : q0.length ≤ 40
      · have hqi : ¬ (40 : Int) < q0.length := by omega
        have Hst2 := Lib.hid (show ((pxs (xs.drop (k + 1))).all (fun p => decide (p.length ≤ 40)) && (fewZ (s.rules ++ [s.els]) && (fewB n 50 && (decide (xs.length ≤ 30) && decide (m ≤ 400))))) = T by have h := Hst.out; rw [decide_eq_true hq, Bool.true_and] at h; exact h)
        clear hq Hst
        go_wp2_with fail
        go_roundg (xs.length - (k + 1))
        case measure => omega
        case rel => exact ⟨k + 1, by go_num, by omega, Hst2, rfl⟩
      · have hqi : (40 : Int) < q0.length := by omega
        have Hst2 := Lib.hid (show false = T by have h := Hst.out; rw [decide_eq_false hq, Bool.false_and, Bool.false_and] at h; exact h)
        clear hq Hst
        go_wp2_with fail
        go_ret
        exact ⟨ret_bool Hst2.out, Hb0.out⟩
    · obtain rfl : k = xs.length := by omega
      have Hst2 := Lib.hid (show (fewZ (s.rules ++ [s.els]) && (fewB n 50 && (decide (xs.length ≤ 30) && decide (m ≤ 400)))) = T by have h := hst.out; rw [List.drop_length] at h; exact h)
      have hS := hld wr (HA.out)
      have HS1 := Lib.hid (HS.out wr (Below.refl _ _))
      clear hst HX
      have hnl : ¬ (xs.length : Int) < xs.length := by omega
      go_wp2_with fail
      refine HS1.out.mono ?_
      rintro e w1 ⟨rfl, hbel⟩
      have Hb1 := Lib.hid hbel
      have HT1 := Lib.hid (HT.out w1 hbel)
      obtain ⟨⟨y0, y1, y2, y3⟩, -, yl⟩ := (HN.out.kept hbel).f4
      clear hbel HS1 HS hS HN hld
      cases h1 : fewZ (s.rules ++ [s.els]) with
      | false =>
        have Hr := Lib.hid (show false = T by have h := Hst2.out; rw [h1, Bool.false_and] at h; exact h)
        clear h1 HT1 Hst2
        go_wp2_with fail
        go_ret
        exact ⟨ret_bool Hr.out, Hb0.out.trans (Hb1.out.mono Hb0.out.size)⟩
      | true =>
        have Hst3 := Lib.hid (show (fewB n 50 && (decide (xs.length ≤ 30) && decide (m ≤ 400))) = T by have h := Hst2.out; rw [h1, Bool.true_and] at h; exact h)
        clear h1 Hst2
        go_wp2_with fail
        refine HT1.out.mono ?_
        rintro e w2 ⟨rfl, hbel⟩
        have Hb2 := Lib.hid (Hb0.out.trans ((below_and Hb1.out hbel).mono Hb0.out.size))
        clear hbel HT1 y0 y1 y2 y3 yl HT
        cases h2 : fewB n 50 with
        | false =>
          have Hr := Lib.hid (show false = T by have h := Hst3.out; rw [h2, Bool.false_and] at h; exact h)
          clear h2 Hst3
          go_wp2_with fail
          go_ret
          exact ⟨ret_bool Hr.out, Hb2.out⟩
        | true =>
          have Hst4 := Lib.hid (show (decide (xs.length ≤ 30) && decide (m ≤ 400)) = T by have h := Hst3.out; rw [h2, Bool.true_and] at h; exact h)
          clear h2 Hst3
          by_cases h3 : xs.length ≤ 30
          · have h3i : (xs.length : Int) ≤ 30 := by omega
            have Hst5 := Lib.hid (show decide (m ≤ 400) = T by have h := Hst4.out; rw [decide_eq_true h3, Bool.true_and] at h; exact h)
            clear h3 Hst4
            by_cases h4 : m ≤ 400
            · have h4i : (m : Int) ≤ 400 := by omega
              have Hr := Lib.hid ((decide_eq_true h4).symm.trans Hst5.out)
              clear h4 Hst5
              go_wp2_with fail
              go_ret
              exact ⟨ret_bool (by first | exact Hr.out | (rw [← Hr.out]; simp; done) | (rw [← Hr.out]; simp; omega)), Hb2.out⟩
            · have h4i : ¬ (m : Int) ≤ 400 := by omega
              have Hr := Lib.hid ((decide_eq_false h4).symm.trans Hst5.out)
              clear h4 Hst5
              go_wp2_with fail
              go_ret
              exact ⟨ret_bool (by first | exact Hr.out | (rw [← Hr.out]; simp; done) | (rw [← Hr.out]; simp; omega)), Hb2.out⟩
          · have h3i : ¬ (xs.length : Int) ≤ 30 := by omega
            have Hr := Lib.hid (show false = T by have h := Hst4.out; rw [decide_eq_false h3, Bool.false_and] at h; exact h)
            clear h3 Hst4
            go_wp2_with fail
            go_ret
            exact ⟨ret_bool (by first | exact Hr.out | (rw [← Hr.out]; simp; done) | (rw [← Hr.out]; simp; omega)), Hb2.out⟩

end Go.Proofs.YtajclfjedlkbcaaGreatDoor
