/- Walks: tree's paths: the function asked at each node, the list that grows. -/
import Derived.Test.YtiinmgccjlmoaaaRCT
namespace Go.Proofs.Ytiinmgccjlmoaaa
open Go.RowKit Go.Redl
set_option linter.unusedVariables false

/-- A call of a function value as one step of a region that draws, met by its contract. -/
theorem step_callv {P : Program} {ops : Array Oper} {o : Oper} {a : Act} {w : World} {K : Act → World → Prop} {Q : Exit → Act → World → Prop} {E : Prop}
    (hg : o.guard = none) (f : FuncId) (s : Operand) (caps : Array Value) (args : Array Operand) (tys : Array TypeId) (ho : o.op = .call { callee := .value s, args := args, argTypes := tys }) (hs : a.eval s = .func (.func f) #[] caps)
    (he : ∀ args w, (callFunc f args).run P w = .ok (.enter f args) w) (vals : List Value) (hv : args.toList.map a.eval = vals) (R : Ending → World → Prop) (hC : Calls P f (vals.toArray ++ caps) w R)
    (h : ∀ e w', R e w' → ∃ v, e = .returned v ∧ K (a.put o.dst v) w') : if Region.wanted o (yielded ops a.tmps) = true then Oper.wp P o a w K Q else E := by
  have hw : Region.wanted o (yielded ops a.tmps) = true := by simp [Region.wanted, hg]
  rw [if_pos hw]
  unfold Oper.wp
  have hv' : args.map a.eval = vals.toArray := by rw [← hv]; apply Array.ext'; simp
  have hr : (execOp a.eval o).run P w = .ok (.enter f (vals.toArray ++ caps)) w := by
    simp [execOp, ho, resolve, invoke, hs, Deferred.ofValue, hv', he]
  rw [hr]
  show Calls P f (vals.toArray ++ caps) w _
  refine hC.mono fun e w' hR => ?_
  obtain ⟨v, rfl, hk⟩ := h e w' hR
  exact hk

theorem info_slc : (Try.prog.info? 36).map (fun i => (i.zero, i.size, i.bytes)) = some (some (.slice none 0 0), 1, 24) := by kernel_rfl
theorem paths1_ent : ∀ args w, (callFunc 82 args).run Try.prog w = .ok (.enter 82 args) w := by intro args w; kernel_rfl
theorem cln_int_ent : ∀ args w, (callFunc 45 args).run Try.prog w = .ok (.enter 45 args) w := by intro args w; kernel_rfl

/-- The asked function's contract. -/
def WantC (B cb : Nat) (caps : Array Value) (want : NodeD → Bool) (M : Nat) : Prop :=
  ∀ (n : NodeD) (v : Value) (W : World), n.wt ≤ M → NodeV W B n v → B ≤ W.heap.size → Calls Try.prog cb (#[v] ++ caps) W fun e w' => e = .returned (.bool (want n)) ∧ Below W.heap.size W w'
/-- The three variables, and the list. -/
structure BoxesAt (W : World) (tb ob eb cb : Nat) (caps : Array Value) (M : Nat) (l : List (List Int)) (ov : Value) (cs : List Value) : Prop where
  t : W.heap[tb]? = some (Obj.cells #[.func (.func cb) #[] caps] 87 (0, 0))
  e : W.heap[eb]? = some (Obj.cells #[.func (.func 82) #[] #[.pointer (some ⟨tb, 0, none⟩), .pointer (some ⟨ob, 0, none⟩), .pointer (some ⟨eb, 0, none⟩)]] 126 (0, 0))
  o : W.heap[ob]? = some (Obj.cells #[ov] 44 (0, 0))
  own : W.ownsRow M 36 1 ov l.length cs
  rows : PathsQ W (fun b => M ≤ b ∧ ov.ownBlock ≠ some b) l cs
  lt : tb < M ∧ ob < M ∧ eb < M ∧ tb ≠ ob ∧ eb ≠ ob
theorem BoxesAt.below {W W' : World} {tb ob eb cb M : Nat} {caps : Array Value} {l : List (List Int)} {ov : Value} {cs : List Value} (h : BoxesAt W tb ob eb cb caps M l ov cs) (hb : Below W.heap.size W W') : BoxesAt W' tb ob eb cb caps M l ov cs :=
  ⟨by rw [hb.block _ (Array.getElem?_eq_some_iff.1 h.t).1]; exact h.t, by rw [hb.block _ (Array.getElem?_eq_some_iff.1 h.e).1]; exact h.e, by rw [hb.block _ (Array.getElem?_eq_some_iff.1 h.o).1]; exact h.o,
    own_keep h.own hb, h.rows.keep hb.size (fun b _ hlt => hb.block b hlt) (fun _ hb _ => hb), h.lt⟩
theorem BoxesAt.cells {W : World} {tb ob eb cb M : Nat} {caps : Array Value} {l : List (List Int)} {ov : Value} {cs : List Value} (h : BoxesAt W tb ob eb cb caps M l ov cs) :
    W.cell? ⟨tb, 0, none⟩ = some (.func (.func cb) #[] caps) ∧ W.cell? ⟨eb, 0, none⟩ = some (.func (.func 82) #[] #[.pointer (some ⟨tb, 0, none⟩), .pointer (some ⟨ob, 0, none⟩), .pointer (some ⟨eb, 0, none⟩)]) ∧
      W.cell? ⟨ob, 0, none⟩ = some ov ∧ W.frozen? ⟨ob, 0, none⟩ = false ∧ tb < W.heap.size ∧ ob < W.heap.size ∧ eb < W.heap.size :=
  ⟨by rw [cell_of_row _ _ _ _ _ _ h.t]; rfl, by rw [cell_of_row _ _ _ _ _ _ h.e]; rfl, by rw [cell_of_row _ _ _ _ _ _ h.o]; rfl, Lib.frozen_of_heap h.o _, (Array.getElem?_eq_some_iff.1 h.t).1, (Array.getElem?_eq_some_iff.1 h.o).1, (Array.getElem?_eq_some_iff.1 h.e).1⟩
theorem BoxesAt.notOwn {W : World} {tb ob eb cb M : Nat} {caps : Array Value} {l : List (List Int)} {ov : Value} {cs : List Value} (h : BoxesAt W tb ob eb cb caps M l ov cs) {b : Nat} (hb : b < M ∨ W.heap.size ≤ b) : ov.ownBlock ≠ some b := by
  intro e; have := h.own.lt b e; omega
/-- One more path put in. -/
theorem BoxesAt.push {w1 w2 w3 : World} {tb ob eb cb M : Nat} {caps : Array Value} {l : List (List Int)} {ov v' : Value} {cs : List Value} {zs : List Int} {pa : Option Addr} {pc : Nat} {o : Obj}
    (h : BoxesAt w1 tb ob eb cb caps M l ov cs) (hM : M ≤ w1.heap.size) (h1 : Below w1.heap.size w1 w2) (hr : RowQ w2 (fun b => w1.heap.size ≤ b) 1 pa zs.length pc (zs.map (Value.int .i64)))
    (hg : (w2.alloc o).grownBy w3 ov.ownBlock) (hown : w3.ownsRow M 36 1 v' (l.length + 1) (cs ++ [.slice pa zs.length pc])) (hw : v'.ownBlock = ov.ownBlock ∨ ∀ k, v'.ownBlock = some k → (w2.alloc o).heap.size ≤ k) :
    BoxesAt (w3.setCell ⟨ob, 0, none⟩ v') tb ob eb cb caps M (l ++ [zs]) v' (cs ++ [.slice pa zs.length pc]) ∧ Grew ob ov v' w1 (w3.setCell ⟨ob, 0, none⟩ v') := by
  have s1 := h1.size
  have hb2 := (Below.refl w2.heap.size w2).alloc (Nat.le_refl _) o
  have s2 := hb2.size; have s3 := hg.size
  obtain ⟨l1, l2, l3, n1, n2⟩ := h.lt
  have hblk : ∀ b, b < w1.heap.size → ov.ownBlock ≠ some b → w3.heap[b]? = w1.heap[b]? := fun b hb hne => by
    rw [hg.block b (by omega) (fun e => hne e.symm), hb2.block b (by omega), h1.block b hb]
  have hset : ∀ b, b ≠ ob → (w3.setCell ⟨ob, 0, none⟩ v').heap[b]? = w3.heap[b]? := fun b hb => Below.heap_setCell _ ⟨ob, 0, none⟩ _ b hb
  have ho3 : w3.heap[ob]? = some (Obj.cells #[ov] 44 (0, 0)) := by rw [hblk ob (by omega) (h.notOwn (.inl l2))]; exact h.o
  have hst1 := stay_kids h.own h1 hb2 hg hw
  have hst2 := stay_kid h.own hM hb2 hg hw
  have hne : ∀ b, M ≤ b → b ≠ ob := fun b hb => by omega
  refine ⟨⟨?_, ?_, ?_, ?_, ?_, h.lt⟩, ⟨?_, ?_, ?_, ?_, fun b hb hne hv => ?_, ?_⟩⟩
  · rw [hset tb n1, hblk tb (by omega) (h.notOwn (.inl l1))]; exact h.t
  · rw [hset eb n2, hblk eb (by omega) (h.notOwn (.inl l3))]; exact h.e
  · exact Lib.heap_setCell_same (i := 0) ho3 _
  · rw [List.length_append]
    exact ownsRow_setCell_below (a := ⟨ob, 0, none⟩) hown l2 _
  · have hq : PathsQ w3 (fun b => M ≤ b ∧ v'.ownBlock ≠ some b) (l ++ [zs]) (cs ++ [.slice pa zs.length pc]) := PathsQ.snoc (hr.stay hst2) (h.rows.stay hst1)
    exact hq.keep (by simp [World.setCell]) (fun b hb _ => hset b (hne b hb.1)) (fun b hb _ => hb)
  · show w3.os = _; rw [hg.os, hb2.os, h1.os]
  · show w3.tape = _; rw [hg.tape, hb2.tape, h1.tape]
  · show w3.output = _; rw [hg.output, hb2.output, h1.output]
  · simp [World.setCell]; omega
  · rw [hset b hne]; exact hblk b hb hv
  · rcases hw with e | e
    · exact .inl e
    · exact .inr fun k hk => by have := e k hk; omega

def PathsP (tb ob eb cb : Nat) (caps : Array Value) (M : Nat) (ov : Value) (W : World) (l' : List (List Int)) (e : Ending) (w' : World) : Prop :=
  e = .returned (.tuple #[]) ∧ ∃ ov' cs', BoxesAt w' tb ob eb cb caps M l' ov' cs' ∧ Grew ob ov ov' W w'

theorem pathsK_step {want : NodeD → Bool} {ks : List NodeD} {k : Nat} {p : List Int} (h : k < ks.length) : pathsK want (ks.drop k) k p = pathsW want ks[k] (p ++ [(k : Int)]) ++ pathsK want (ks.drop (k + 1)) (k + 1) p := by
  conv => lhs; rw [List.drop_eq_getElem_cons h]
  simp only [pathsK]

mutual
theorem pathsW_len (want : NodeD → Bool) : ∀ (n : NodeD) (p : List Int), (pathsW want n p).length ≤ n.wt
  | .mk l ps t ks, p => by
    unfold pathsW
    have := pathsK_len want ks 0 p
    simp only [List.length_append, NodeD.wt]
    split <;> simp <;> omega
theorem pathsK_len (want : NodeD → Bool) : ∀ (ks : List NodeD) (i : Nat) (p : List Int), (pathsK want ks i p).length ≤ wtAll ks
  | [], i, p => by unfold pathsK; simp
  | k :: ks, i, p => by
    unfold pathsK
    have h1 := pathsW_len want k (p ++ [(i : Int)])
    have h2 := pathsK_len want ks (i + 1) p
    simp only [List.length_append, wtAll]
    omega
end

end Go.Proofs.Ytiinmgccjlmoaaa
