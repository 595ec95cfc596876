/- Walks: the reference's Ops (what repairs an element). -/
import Derived.Test.YtiinmgccjlmoaaaRVB
import Derived.Test.YtiinmgccjlmoaaaRVA
namespace Go.Proofs.Ytiinmgccjlmoaaa
open Go.RowKit Go.Redl
set_option linter.unusedVariables false
set_option linter.unusedSimpArgs false

theorem rfind_ent : ∀ args w, (callFunc 33 args).run Try.prog w = .ok (.enter 33 args) w := by intro args w; kernel_rfl
theorem relem_ent : ∀ args w, (callFunc 19 args).run Try.prog w = .ok (.enter 19 args) w := by intro args w; kernel_rfl
set_option maxRecDepth 100000 in
set_option maxHeartbeats 1000000 in
theorem relem0_c (kind : List UInt8) (W : World) : Calls Try.prog 19 #[strV kind, .slice none 0 0] W (CopyP W (elemN kind)) := by
  cases kind with
  | nil =>
    have HE : Hid (elemN [] = .mk false [] [] []) := rfl
    go_enter Try.func19, Try.ntmps19
    go_wp2_with fail
    refine bodyPost_ret (v := .agg #[.bool false, .slice none 0 0, .slice none 0 0, .slice none 0 0]) (by simp [results, Try.results19, go_sem]) rfl ?_
    rw [HE.out]
    exact ⟨_, rfl, zero_q _ _, two_below W _ _⟩
  | cons x r =>
    have HE : Hid (elemN (x :: r) = .mk false [(typeB, x :: r)] [] []) := by show elemN _ = _; unfold elemN; rw [if_neg (by simp)]
    have hne : ((⟨(x :: r).toArray⟩ : ByteArray).toList.isEmpty) = false := by rw [ByteArray.toList_mk]; rfl
    have hne2 : (!(⟨(x :: r).toArray⟩ : ByteArray).toList.isEmpty) = true := by rw [ByteArray.toList_mk]; rfl
    have Hpc : Hid (propCells [(typeB, x :: r)] = [.string ⟨#[116, 121, 112, 101]⟩, .string ⟨(x :: r).toArray⟩]) := rfl
    obtain ⟨S, hS⟩ : ∃ S, S = (⟨(x :: r).toArray⟩ : ByteArray) := ⟨_, rfl⟩
    rw [show strV (x :: r) = .string S by rw [hS]]
    rw [← hS] at hne hne2 Hpc
    clear hS
    go_enter Try.func19, Try.ntmps19
    go_wp2_with fail
    have hb1 := fun (o1 o2 : Obj) => Lib.hid (three_below W o1 o2 (Obj.cells #[.string ⟨#[116, 121, 112, 101]⟩, .string S] 89))
    refine bodyPost_ret (v := .agg #[.bool false, .slice (some ⟨W.heap.size + 1 + 1, 0, none⟩) 1 1, .slice none 0 0, .slice none 0 0]) (by simp [results, Try.results19, go_sem]) rfl ?_
    refine ⟨_, rfl, ?_, (hb1 _ _).out⟩
    rw [HE.out]
    unfold NodeQ
    refine ⟨some ⟨W.heap.size + 1 + 1, 0, none⟩, 1, none, 0, none, 0, [], rfl, ?_, RowQ.empty _ _ _, by simp, RowQ.empty _ _ _, by unfold KidsQ; rfl⟩
    rw [Hpc.out]
    exact rowq_at (At.third W _ _ [.string ⟨#[116, 121, 112, 101]⟩, .string S] 89) 1 2 rfl (by omega) (by intro u hu; simp at hu; rcases hu with rfl | rfl <;> rfl) (by omega)


/-- The same where the region has drawn its order and called nothing yet. -/
theorem step_pushD {P : Program} {ops : Array Oper} {o : Oper} {a : Act} {w0 : World} {K : Act → World → Prop} {Q : Exit → Act → World → Prop} {E : Prop} {ob : Obj}
    (hg : o.guard = none) (s x : Operand) (ho : o.op = .call { callee := .builtin .append, args := #[s, x], argTypes := #[39, 39] })
    (ht : P.underlying 39 = some (.slice 62)) (hi : (P.info? 62).map (fun i => (i.zero, i.size, i.bytes)) = some (some (.agg #[.int .i64 0, .slice none 0 0, .slice none 0 0, .int .i64 0, .bool false, .slice none 0 0, .slice none 0 0, .slice none 0 0, .slice none 0 0, .slice none 0 0, .slice none 0 0, .bool false, .slice none 0 0, .int .i64 0, .slice none 0 0, .int .i64 0, .bool false, .slice none 0 0, .int .i64 0, .slice none 0 0, .int .i64 0]), 21, 360))
    (L M : Nat) (v : Value) (l : List OpD) (hs : a.eval s = v) (hO : OpsO L M w0.drew v l) (od : OpD) (c : List Value) (hob : ob = .cells c.toArray 62) (hx : a.eval x = .slice (some ⟨w0.heap.size, 0, none⟩) 1 1)
    (hq : OpQ w0.drew (fun b => L ≤ b ∧ v.ownBlock ≠ some b) od c) (hn : l.length ≤ 100000000) (hM : M ≤ w0.heap.size)
    (h : ∀ v' w', OpsO L M w' v' (l ++ [od]) → Below M w0.drew w' → K (a.put o.dst v') w') : if Region.wanted o (yielded ops a.tmps) = true then Oper.wp P o a (w0.alloc ob).drew K Q else E :=
  step_push (w0 := w0.drew) hg s x ho ht hi L M v l hs hO od c hob hx hq hn hM h
/-- An operation put behind a list, in a plain region. -/
theorem wpList_push {P : Program} {ops : Array Oper} {rest : List Oper} {o : Oper} {a : Act} {w0 : World} {Q : Exit → Act → World → Prop} {ob : Obj}
    (hg : o.guard = none) (s x : Operand) (ho : o.op = .call { callee := .builtin .append, args := #[s, x], argTypes := #[39, 39] })
    (ht : P.underlying 39 = some (.slice 62)) (hi : (P.info? 62).map (fun i => (i.zero, i.size, i.bytes)) = some (some (.agg #[.int .i64 0, .slice none 0 0, .slice none 0 0, .int .i64 0, .bool false, .slice none 0 0, .slice none 0 0, .slice none 0 0, .slice none 0 0, .slice none 0 0, .slice none 0 0, .bool false, .slice none 0 0, .int .i64 0, .slice none 0 0, .int .i64 0, .bool false, .slice none 0 0, .int .i64 0, .slice none 0 0, .int .i64 0]), 21, 360))
    (L M : Nat) (v : Value) (l : List OpD) (hs : a.eval s = v) (hO : OpsO L M w0 v l) (od : OpD) (c : List Value) (hob : ob = .cells c.toArray 62) (hx : a.eval x = .slice (some ⟨w0.heap.size, 0, none⟩) 1 1)
    (hq : OpQ w0 (fun b => L ≤ b ∧ v.ownBlock ≠ some b) od c) (hn : l.length ≤ 100000000) (hM : M ≤ w0.heap.size)
    (h : ∀ v' w', OpsO L M w' v' (l ++ [od]) → Below M w0 w' → wpList P ops Q rest (a.put o.dst v') w') : wpList P ops Q (o :: rest) a (w0.alloc ob) := by
  refine wpList_plain hg fun K hK => ?_
  have := step_push (ops := ops) (K := K) (Q := Q) (E := True) hg s x ho ht hi L M v l hs hO od c hob hx hq hn hM (fun v' w' h1 h2 => hK _ _ (h v' w' h1 h2))
  simpa [Region.wanted, hg] using this
/-- A tree where it lies, as one whose blocks are whatever they are. -/
theorem NodeC.any {w : World} {B : Nat} (hB : B ≤ w.heap.size) {n : NodeD} {cs : List Value} (h : NodeC w B n cs) : NodeQ w (fun _ => True) n cs := NodeQ.keep (Nat.le_refl _) (fun _ _ _ => rfl) (fun _ _ _ => trivial) _ _ (NodeC.q hB n cs h)
theorem RowA.any {w : World} {B sz n cap : Nat} {a : Option Addr} {cs : List Value} (h : RowA w B sz a n cap cs) (hB : B ≤ w.heap.size) : RowQ w (fun _ => True) sz a n cap cs := (h.q hB).imp (fun _ _ => trivial)

end Go.Proofs.Ytiinmgccjlmoaaa
