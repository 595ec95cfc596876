/- Words on maps from numbers to anything, made and filled by the call, then asked. -/
import Derived.Test.YtiinmgccjlmoaaaRBase
import Derived.MapKept
import Derived.ChangeMaps4
namespace Go.Proofs.Ytiinmgccjlmoaaa
open Go.RowKit Go.Redl
set_option linter.unusedVariables false

/-- A map's entries, by their keys, in the order in which they came. -/
def MapAt (w : World) (b : Nat) (l : List (Int × Value)) : Prop := ∃ es ck, w.heap[b]? = some (.map es ck) ∧ es.toList.map (fun e => (e.key, e.val)) = l.map (fun p => (Value.int .i64 p.1, p.2))
theorem MapAt.fresh (w : World) : MapAt (w.alloc (.map #[] 0)) w.heap.size [] := ⟨#[], 0, heap_alloc_new w _, rfl⟩
theorem MapAt.lt {w : World} {b : Nat} {l : List (Int × Value)} (h : MapAt w b l) : b < w.heap.size := by
  obtain ⟨es, ck, h1, -⟩ := h; exact (Array.getElem?_eq_some_iff.1 h1).1
theorem MapAt.kept {w w' : World} {b : Nat} {l : List (Int × Value)} (h : MapAt w b l) (hb : Below w.heap.size w w') : MapAt w' b l := by
  have hl := h.lt
  obtain ⟨es, ck, h1, h2⟩ := h
  exact ⟨es, ck, by rw [hb.block b hl]; exact h1, h2⟩
/-- Nothing but block b is other. -/
structure OnlyMap (b : Nat) (w w' : World) : Prop where
  os : w'.os = w.os
  tape : w'.tape = w.tape
  output : w'.output = w.output
  size : w'.heap.size = w.heap.size
  block : ∀ c, c ≠ b → w'.heap[c]? = w.heap[c]?
theorem OnlyMap.below {b B : Nat} {W w w' : World} (h : OnlyMap b w w') (hb : Below B W w) (hB : B ≤ b) : Below B W w' :=
  ⟨h.os.trans hb.os, h.tape.trans hb.tape, h.output.trans hb.output, by rw [h.size]; exact hb.size, fun c hc => by rw [h.block c (by omega)]; exact hb.block c hc⟩
theorem MapAt.keys {w : World} {b : Nat} {l : List (Int × Value)} {es : Array MapEntry} (h : es.toList.map (fun e => (e.key, e.val)) = l.map (fun p => (Value.int .i64 p.1, p.2))) : ∀ x ∈ es.toList, MapKept.IsKey (.int .i64) x.key := by
  intro x hx
  have : (x.key, x.val) ∈ es.toList.map (fun e => (e.key, e.val)) := List.mem_map.2 ⟨x, hx, rfl⟩
  rw [h] at this
  obtain ⟨p, -, hp⟩ := List.mem_map.1 this
  injection hp with h1 h2
  rw [← h1]
  exact rfl
theorem run_put {P : Program} {w : World} {b T K E : Nat} {l : List (Int × Value)} (h : MapAt w b l) (hT : P.underlying T = some (.map K E)) (hK : P.underlying K = some (.int .i64)) (k : Int) (v : Value) (hne : ∀ p ∈ l, p.1 ≠ k) :
    ∃ w', (Instr.mapUpdate T (.map (some b)) (.int .i64 k) v).run P w = .ok () w' ∧ MapAt w' b (l ++ [(k, v)]) ∧ OnlyMap b w w' := by
  obtain ⟨es, ck, hb, he⟩ := h
  have hkey : MapKept.IsKey (.int .i64) (.int .i64 k) := rfl
  have hks := MapAt.keys (w := w) (b := b) he
  rcases MapKept.findNow_spec hkey es.toList 0 hks with ⟨h1, h2⟩ | ⟨j, e0, h1, h2, h3⟩
  · refine ⟨{ w with heap := w.heap.setIfInBounds b (.map (es.push ⟨.int .i64 k, v, ck⟩) (ck + 1)) }, ?_, ⟨_, _, (MapKept.heap_set hb).1, by simp [he]⟩, ⟨rfl, rfl, rfl, by simp, fun c hc => (MapKept.heap_set hb).2 c hc⟩⟩
    simp [Instr.mapUpdate, run_underlying hT, MapKept.run_getObj_map hb, MapKept.run_checkKey hK hkey, MapKept.run_findKey hK h1, MapKept.run_setObj_map _ hb, Result.andThen]
  · exfalso
    have hm : (e0.key, e0.val) ∈ es.toList.map (fun e => (e.key, e.val)) := List.mem_map.2 ⟨e0, List.mem_of_getElem? h2, rfl⟩
    rw [he] at hm
    obtain ⟨p, hp, hpe⟩ := List.mem_map.1 hm
    injection hpe with e1 e2
    rw [h3] at e1
    injection e1 with e3 e4
    exact hne p hp e4
/-- What is asked of a map. -/
def askM (l : List (Int × Value)) (k : Int) (z : Value) : Value × Bool := match l.find? (fun p => decide (p.1 = k)) with
  | some p => (p.2, true)
  | none => (z, false)
theorem run_ask {P : Program} {w : World} {b T K E : Nat} {l : List (Int × Value)} (h : MapAt w b l) (hT : P.underlying T = some (.map K E)) (hK : P.underlying K = some (.int .i64)) (z : Value) (hz : ∀ w : World, (zeroValue E).run P w = .ok z w) (k : Int)
    (hnd : (l.map (·.1)).Nodup) :
    (Instr.lookup T (.map (some b)) (.int .i64 k) true).run P w = .ok (.tuple #[(askM l k z).1, .bool (askM l k z).2]) w := by
  obtain ⟨es, ck, hb, he⟩ := h
  have hkey : MapKept.IsKey (.int .i64) (.int .i64 k) := rfl
  have hks := MapAt.keys (w := w) (b := b) he
  rcases MapKept.findNow_spec hkey es.toList 0 hks with ⟨h1, h2⟩ | ⟨j, e0, h1, h2, h3⟩
  · have hn : askM l k z = (z, false) := by
      unfold askM
      rw [List.find?_eq_none.2 ?_]
      intro p hp
      have hm : ((Value.int .i64 p.1), p.2) ∈ l.map (fun p => (Value.int .i64 p.1, p.2)) := List.mem_map.2 ⟨p, hp, rfl⟩
      rw [← he] at hm
      obtain ⟨x, hx, hxe⟩ := List.mem_map.1 hm
      injection hxe with e1 e2
      have := h2 x hx
      rw [e1] at this
      simpa using fun e => this (by rw [e])
    rw [hn]
    simp [Instr.lookup, run_underlying hT, MapKept.run_getObj_map hb, MapKept.run_checkKey hK hkey, MapKept.run_findKey hK h1, Result.andThen, hz]
  · have hj : (es.toList.map (fun e => (e.key, e.val)))[j]? = some (e0.key, e0.val) := by rw [List.getElem?_map, h2]; rfl
    rw [he, List.getElem?_map] at hj
    obtain ⟨p, hp, hpe⟩ := Option.map_eq_some_iff.1 hj
    injection hpe with e1 e2
    rw [h3] at e1
    injection e1 with e3 e4
    have hf : l.find? (fun p => decide (p.1 = k)) = some p := by
      obtain ⟨hjl, hpj⟩ := List.getElem?_eq_some_iff.1 hp
      rw [List.find?_eq_some_iff_getElem]
      refine ⟨by simpa using e4, j, hjl, hpj, fun i hi => ?_⟩
      have hne := List.pairwise_iff_getElem.1 hnd i j (by simp; omega) (by simpa using hjl) hi
      simp only [List.getElem_map, hpj, e4] at hne
      simpa using hne
    have hn : askM l k z = (p.2, true) := by unfold askM; rw [hf]
    rw [hn, e2]
    simp [Instr.lookup, run_underlying hT, MapKept.run_getObj_map hb, MapKept.run_checkKey hK hkey, MapKept.run_findKey hK h1, Result.andThen]
/-- A map made, as one operation of a plain region. -/
theorem wpList_makeMap {P : Program} {ops : Array Oper} {rest : List Oper} {o : Oper} {a : Act} {w : World} {Q : Exit → Act → World → Prop} (hg : o.guard = none) (T : Nat) (ho : o.op = .makeMap T none)
    (hk : ∀ w', w' = w.alloc (.map #[] 0) → wpList P ops Q rest (a.put o.dst (.map (some w.heap.size))) w') : wpList P ops Q (o :: rest) a w := by
  refine wpList_plain hg fun K' hK' => ?_
  have hr2 : (execOp a.eval o).run P w = .ok (.value (.map (some w.heap.size))) (w.alloc (.map #[] 0)) := by
    unfold execOp
    simp only [ho]
    rfl
  unfold Oper.wp
  rw [hr2]
  exact hK' _ _ (hk _ rfl)
/-- An entry put in, as one operation of a plain region. -/
theorem wpList_put {P : Program} {ops : Array Oper} {rest : List Oper} {o : Oper} {a : Act} {w : World} {Q : Exit → Act → World → Prop} (hg : o.guard = none) (T K E : Nat) (m x : Operand) (k : Int) (ho : o.op = .insert T m (.const (.int .i64 k)) x)
    (b : Nat) (l : List (Int × Value)) (v : Value) (hm : a.eval m = .map (some b)) (hx : a.eval x = v) (h : MapAt w b l) (hT : P.underlying T = some (.map K E)) (hK : P.underlying K = some (.int .i64)) (hne : ∀ p ∈ l, p.1 ≠ k) (hd : o.dst = none)
    (hk : ∀ w', MapAt w' b (l ++ [(k, v)]) → OnlyMap b w w' → wpList P ops Q rest a w') : wpList P ops Q (o :: rest) a w := by
  obtain ⟨w', hr, h1, h2⟩ := run_put h hT hK k v hne
  refine wpList_plain hg fun K' hK' => ?_
  have hc : a.eval (.const (.int .i64 k)) = .int .i64 k := rfl
  have hr2 : (execOp a.eval o).run P w = .ok .skip w' := by
    unfold execOp
    simp only [ho, hm, hx, hc, hr, Sem.run_bind, Sem.run_pure, Result.andThen_ok]
  unfold Oper.wp
  rw [hr2]
  show K' (a.put o.dst undef) w'
  rw [hd]
  exact hK' a w' (hk w' h1 h2)

end Go.Proofs.Ytiinmgccjlmoaaa
