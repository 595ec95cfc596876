/- Parts of the proof, one behind the other: RCU, RKC, RKF, RKG, RKH. -/
import Derived.Test.YtajclfjedlkbcaaGreatDoorWD4
import Derived.Test.YtajclfjedlkbcaaGreatDoorWD5
import Derived.Deep.RegionHeld3
import Derived.Test.YtajclfjedlkbcaaGreatDoorWD1
import Derived.Test.YtajclfjedlkbcaaGreatDoorWD3
/- Walks: tree's paths: the function asked at each node, the list that grows. -/
namespace Go.Proofs.YtajclfjedlkbcaaGreatDoor
open Go.RowKit Go.Redl
set_option linter.unusedVariables false

/-- A call of a function value as one step of a region that draws, met by its contract. -/
theorem step_callv {P : Program} {ops : Array Oper} {o : Oper} {a : Act} {w : World} {K : Act → World → Prop} {Q : Exit → Act → World → Prop} {E : Prop}
    (hg : o.guard = none) (f : FuncId) (s : Operand) (caps : Array Value) (args : Array Operand) (tys : Array TypeId) (ho : o.op = .call { callee := .value s, args := args, argTypes := tys }) (hs : a.eval s = .func (.func f) #[] caps)
    (he : ∀ args w, (callFunc f args).run P w = .ok (.enter f args) w) (vals : List Value) (hv : args.toList.map a.eval = vals) (R : Ending → World → Prop) (hC : Calls P f (vals.toArray ++ caps) w R)
    (h : ∀ e w', R e w' → ∃ v, e = .returned v ∧ K (a.put o.dst v) w') : if Region.wanted o (yielded ops a.tmps) = true then Oper.wp P o a w K Q else E := by
  have hw : Region.wanted o (yielded ops a.tmps) = true := by simp [Region.wanted, hg]
  rw [if_pos hw]
  unfold Oper.wp
  have hv' : args.map a.eval = vals.toArray := by rw [← hv]; apply Array.ext'; simp
  have hr : (execOp a.eval o).run P w = .ok (.enter f (vals.toArray ++ caps)) w := by
    simp [execOp, ho, resolve, invoke, hs, Deferred.ofValue, hv', he]
  rw [hr]
  show Calls P f (vals.toArray ++ caps) w _
  refine hC.mono fun e w' hR => ?_
  obtain ⟨v, rfl, hk⟩ := h e w' hR
  exact hk

theorem info_slc : (Tryz.prog.info? 47).map (fun i => (i.zero, i.size, i.bytes)) = some (some (.slice none 0 0), 1, 24) := by kernel_rfl
theorem paths1_ent : ∀ args w, (callFunc 89 args).run Tryz.prog w = .ok (.enter 89 args) w := by intro args w; kernel_rfl
theorem cln_int_ent : ∀ args w, (callFunc 35 args).run Tryz.prog w = .ok (.enter 35 args) w := by intro args w; kernel_rfl

/-- The asked function's contract. -/
def WantC (B cb : Nat) (caps : Array Value) (want : NodeD → Bool) (M : Nat) : Prop :=
  ∀ (n : NodeD) (v : Value) (W : World), n.wt ≤ M → NodeV W B n v → B ≤ W.heap.size → Calls Tryz.prog cb (#[v] ++ caps) W fun e w' => e = .returned (.bool (want n)) ∧ Below W.heap.size W w'
/-- The three variables, and the list. -/
structure BoxesAt (W : World) (tb ob eb cb : Nat) (caps : Array Value) (M : Nat) (l : List (List Int)) (ov : Value) (cs : List Value) : Prop where
  t : W.heap[tb]? = some (Obj.cells #[.func (.func cb) #[] caps] 84 (0, 0))
  e : W.heap[eb]? = some (Obj.cells #[.func (.func 89) #[] #[.pointer (some ⟨tb, 0, none⟩), .pointer (some ⟨ob, 0, none⟩), .pointer (some ⟨eb, 0, none⟩)]] 122 (0, 0))
  o : W.heap[ob]? = some (Obj.cells #[ov] 36 (0, 0))
  own : W.ownsRow M 47 1 ov l.length cs
  rows : PathsQ W (fun b => M ≤ b ∧ ov.ownBlock ≠ some b) l cs
  lt : tb < M ∧ ob < M ∧ eb < M ∧ tb ≠ ob ∧ eb ≠ ob
theorem BoxesAt.below {W W' : World} {tb ob eb cb M : Nat} {caps : Array Value} {l : List (List Int)} {ov : Value} {cs : List Value} (h : BoxesAt W tb ob eb cb caps M l ov cs) (hb : Below W.heap.size W W') : BoxesAt W' tb ob eb cb caps M l ov cs :=
  ⟨by rw [hb.block _ (Array.getElem?_eq_some_iff.1 h.t).1]; exact h.t, by rw [hb.block _ (Array.getElem?_eq_some_iff.1 h.e).1]; exact h.e, by rw [hb.block _ (Array.getElem?_eq_some_iff.1 h.o).1]; exact h.o,
    own_keep h.own hb, h.rows.keep hb.size (fun b _ hlt => hb.block b hlt) (fun _ hb _ => hb), h.lt⟩
theorem BoxesAt.cells {W : World} {tb ob eb cb M : Nat} {caps : Array Value} {l : List (List Int)} {ov : Value} {cs : List Value} (h : BoxesAt W tb ob eb cb caps M l ov cs) :
    W.cell? ⟨tb, 0, none⟩ = some (.func (.func cb) #[] caps) ∧ W.cell? ⟨eb, 0, none⟩ = some (.func (.func 89) #[] #[.pointer (some ⟨tb, 0, none⟩), .pointer (some ⟨ob, 0, none⟩), .pointer (some ⟨eb, 0, none⟩)]) ∧
      W.cell? ⟨ob, 0, none⟩ = some ov ∧ W.frozen? ⟨ob, 0, none⟩ = false ∧ tb < W.heap.size ∧ ob < W.heap.size ∧ eb < W.heap.size :=
  ⟨by rw [cell_of_row _ _ _ _ _ _ h.t]; rfl, by rw [cell_of_row _ _ _ _ _ _ h.e]; rfl, by rw [cell_of_row _ _ _ _ _ _ h.o]; rfl, Lib.frozen_of_heap h.o _, (Array.getElem?_eq_some_iff.1 h.t).1, (Array.getElem?_eq_some_iff.1 h.o).1, (Array.getElem?_eq_some_iff.1 h.e).1⟩
theorem BoxesAt.notOwn {W : World} {tb ob eb cb M : Nat} {caps : Array Value} {l : List (List Int)} {ov : Value} {cs : List Value} (h : BoxesAt W tb ob eb cb caps M l ov cs) {b : Nat} (hb : b < M ∨ W.heap.size ≤ b) : ov.ownBlock ≠ some b := by
  intro e; have := h.own.lt b e; omega
/-- One more path put in. -/
theorem BoxesAt.push {w1 w2 w3 : World} {tb ob eb cb M : Nat} {caps : Array Value} {l : List (List Int)} {ov v' : Value} {cs : List Value} {zs : List Int} {pa : Option Addr} {pc : Nat} {o : Obj}
    (h : BoxesAt w1 tb ob eb cb caps M l ov cs) (hM : M ≤ w1.heap.size) (h1 : Below w1.heap.size w1 w2) (hr : RowQ w2 (fun b => w1.heap.size ≤ b) 1 pa zs.length pc (zs.map (Value.int .i64)))
    (hg : (w2.alloc o).grownBy w3 ov.ownBlock) (hown : w3.ownsRow M 47 1 v' (l.length + 1) (cs ++ [.slice pa zs.length pc])) (hw : v'.ownBlock = ov.ownBlock ∨ ∀ k, v'.ownBlock = some k → (w2.alloc o).heap.size ≤ k) :
    BoxesAt (w3.setCell ⟨ob, 0, none⟩ v') tb ob eb cb caps M (l ++ [zs]) v' (cs ++ [.slice pa zs.length pc]) ∧ Grew ob ov v' w1 (w3.setCell ⟨ob, 0, none⟩ v') := by
  have s1 := h1.size
  have hb2 := (Below.refl w2.heap.size w2).alloc (Nat.le_refl _) o
  have s2 := hb2.size; have s3 := hg.size
  obtain ⟨l1, l2, l3, n1, n2⟩ := h.lt
  have hblk : ∀ b, b < w1.heap.size → ov.ownBlock ≠ some b → w3.heap[b]? = w1.heap[b]? := fun b hb hne => by
    rw [hg.block b (by omega) (fun e => hne e.symm), hb2.block b (by omega), h1.block b hb]
  have hset : ∀ b, b ≠ ob → (w3.setCell ⟨ob, 0, none⟩ v').heap[b]? = w3.heap[b]? := fun b hb => Below.heap_setCell _ ⟨ob, 0, none⟩ _ b hb
  have ho3 : w3.heap[ob]? = some (Obj.cells #[ov] 36 (0, 0)) := by rw [hblk ob (by omega) (h.notOwn (.inl l2))]; exact h.o
  have hst1 := stay_kids h.own h1 hb2 hg hw
  have hst2 := stay_kid h.own hM hb2 hg hw
  have hne : ∀ b, M ≤ b → b ≠ ob := fun b hb => by omega
  refine ⟨⟨?_, ?_, ?_, ?_, ?_, h.lt⟩, ⟨?_, ?_, ?_, ?_, fun b hb hne hv => ?_, ?_⟩⟩
  · rw [hset tb n1, hblk tb (by omega) (h.notOwn (.inl l1))]; exact h.t
  · rw [hset eb n2, hblk eb (by omega) (h.notOwn (.inl l3))]; exact h.e
  · exact Lib.heap_setCell_same (i := 0) ho3 _
  · rw [List.length_append]
    exact ownsRow_setCell_below (a := ⟨ob, 0, none⟩) hown l2 _
  · have hq : PathsQ w3 (fun b => M ≤ b ∧ v'.ownBlock ≠ some b) (l ++ [zs]) (cs ++ [.slice pa zs.length pc]) := PathsQ.snoc (hr.stay hst2) (h.rows.stay hst1)
    exact hq.keep (by simp [World.setCell]) (fun b hb _ => hset b (hne b hb.1)) (fun b hb _ => hb)
  · show w3.os = _; rw [hg.os, hb2.os, h1.os]
  · show w3.tape = _; rw [hg.tape, hb2.tape, h1.tape]
  · show w3.output = _; rw [hg.output, hb2.output, h1.output]
  · simp [World.setCell]; omega
  · rw [hset b hne]; exact hblk b hb hv
  · rcases hw with e | e
    · exact .inl e
    · exact .inr fun k hk => by have := e k hk; omega

def PathsP (tb ob eb cb : Nat) (caps : Array Value) (M : Nat) (ov : Value) (W : World) (l' : List (List Int)) (e : Ending) (w' : World) : Prop :=
  e = .returned (.tuple #[]) ∧ ∃ ov' cs', BoxesAt w' tb ob eb cb caps M l' ov' cs' ∧ Grew ob ov ov' W w'

theorem pathsK_step {want : NodeD → Bool} {ks : List NodeD} {k : Nat} {p : List Int} (h : k < ks.length) : pathsK want (ks.drop k) k p = pathsW want ks[k] (p ++ [(k : Int)]) ++ pathsK want (ks.drop (k + 1)) (k + 1) p := by
  conv => lhs; rw [List.drop_eq_getElem_cons h]
  simp only [pathsK]

mutual
theorem pathsW_len (want : NodeD → Bool) : ∀ (n : NodeD) (p : List Int), (pathsW want n p).length ≤ n.wt
  | .mk l ps t ks, p => by
    unfold pathsW
    have := pathsK_len want ks 0 p
    simp only [List.length_append, NodeD.wt]
    split <;> simp <;> omega
theorem pathsK_len (want : NodeD → Bool) : ∀ (ks : List NodeD) (i : Nat) (p : List Int), (pathsK want ks i p).length ≤ wtAll ks
  | [], i, p => by unfold pathsK; simp
  | k :: ks, i, p => by
    unfold pathsK
    have h1 := pathsW_len want k (p ++ [(i : Int)])
    have h2 := pathsK_len want ks (i + 1) p
    simp only [List.length_append, wtAll]
    omega
end

end Go.Proofs.YtajclfjedlkbcaaGreatDoor
/- Walks: slices.CompactFunc at rows of paths. -/
namespace Go.Proofs.YtajclfjedlkbcaaGreatDoor
open Go.RowKit Go.Redl
set_option linter.unusedVariables false

/-- Whether the k-th is kept: it is the first, or not as the one ahead of it. -/
def keepU (eq : PX → PX → Bool) (xs : List PX) (k : Nat) : Bool := decide (k = 0) || !eq (xs.getD k px0) (xs.getD (k - 1) px0)
/-- What is kept of the first k. -/
def compU (eq : PX → PX → Bool) (xs : List PX) : Nat → List PX
  | 0 => []
  | k + 1 => compU eq xs k ++ (if keepU eq xs k then [xs.getD k px0] else [])
theorem compU_keep {eq : PX → PX → Bool} {xs : List PX} {k : Nat} (hk : k < xs.length) (h : k = 0 ∨ eq xs[k] (xs[k - 1]'(by omega)) = false) : compU eq xs (k + 1) = compU eq xs k ++ [xs[k]] := by
  have hK : keepU eq xs k = true := by
    unfold keepU
    rcases h with h | h
    · simp [h]
    · rw [px_get hk, px_get (show k - 1 < xs.length by omega), h]; simp
  show compU eq xs k ++ _ = _
  rw [if_pos hK, px_get hk]
theorem compU_skip {eq : PX → PX → Bool} {xs : List PX} {k : Nat} (hk : k < xs.length) (h0 : 0 < k) (h : eq xs[k] (xs[k - 1]'(by omega)) = true) : compU eq xs (k + 1) = compU eq xs k := by
  have hK : keepU eq xs k = false := by
    unfold keepU
    rw [px_get hk, px_get (show k - 1 < xs.length by omega), h]; simp; omega
  show compU eq xs k ++ _ = _
  rw [hK]; simp

set_option maxRecDepth 100000 in
set_option maxHeartbeats 4000000 in
theorem cmpx_c (g : Nat) (eq : PX → PX → Bool) (M L : Nat) (v : Value) (xs : List PX) (W : World) (hg : ∀ args w, (callFunc g args).run Tryz.prog w = .ok (.enter g args) w) (hx : RowX W M L v xs) (hn : xs.length ≤ 100000000)
    (hp : ∀ x ∈ xs, ∀ y ∈ xs, ∀ W', W.grownBy W' v.ownBlock → Calls Tryz.prog g #[pxV x, pxV y] W' fun e w' => e = .returned (.bool (eq x y)) ∧ Below W'.heap.size W' w') :
    Calls Tryz.prog 65 #[v, .func (.func g) #[] #[]] W (DelP W M L v (compU eq xs xs.length)) := by
  by_cases h2 : xs.length < 2
  · have hc : compU eq xs xs.length = xs := by
      match xs, h2 with
      | [], _ => rfl
      | [x], _ => rfl
    rw [hc]
    obtain ⟨a, c, rfl⟩ := hx.form
    have h2i : (xs.length : Int) < 2 := by omega
    have Hx := Lib.hid hx
    clear hx hp hg hc
    go_enter Tryz.func65, Tryz.ntmps65
    go_wp2_with fail
    go_ret
    exact ⟨_, rfl, Hx.out, fun k hk => hk, World.grownBy.refl _ _⟩
  · rcases hx.open with ⟨rfl, rfl⟩ | ⟨b, cap, tl, rfl, hMb, hA, hcl, hcm⟩
    · exact absurd (by simp) h2
    have hq0 : ∀ x ∈ xs, PxQ W (fun k => L ≤ k ∧ k ≠ b) x := fun x hx' => rowq_imp (hx.all x hx') fun k hk => ⟨hk.1, fun e => hk.2 (by rw [e]; rfl)⟩
    have hown : (Value.slice (some ⟨b, 0, none⟩) xs.length cap).ownBlock = some b := rfl
    rw [hown] at hp
    have HA := Lib.hid hA; have Hq0 := Lib.hid hq0; have HP := Lib.hid hp; have Hx := Lib.hid hx
    have h2i : ¬ (xs.length : Int) < 2 := by omega
    have hnd : decide ((xs.length : Int) < 2) = false := decide_eq_false h2i
    have Hone := Lib.hid (show compU eq xs 1 = xs.take 1 by
      have h := compU_keep (eq := eq) (xs := xs) (k := 0) (by omega) (.inl rfl)
      rw [h]; cases xs with
      | nil => simp at h2
      | cons x xs => rfl)
    clear hp hx hA hq0 hown
    go_enter Tryz.func65, Tryz.ntmps65
    go_wp2_with fail
    go_loopg [5, 6, 7] xs.length (fun gg s5 _ _ wr => ∃ k : Nat, s5 = .int .i64 k ∧ 1 ≤ k ∧ k ≤ xs.length ∧ xs.length - k ≤ gg ∧ Hid (compU eq xs k = xs.take k) ∧ Hid (Below W.heap.size W wr))
    case atStart => exact ⟨1, rfl, by omega, by omega, by omega, Hone, Below.refl _ _⟩
    case round =>
      obtain ⟨k, rfl, h1, hkn, hgg, hcu, hbr⟩ := hrel
      by_cases hlt : k < xs.length
      · have hlti : (k : Int) < (xs.length : Int) := by omega
        have hsub : IntKind.i64.wrap ((k : Int) - 1) = ((k - 1 : Nat) : Int) := by rw [show ((k : Int) - 1) = ((k - 1 : Nat) : Int) by omega]; exact IntWalk.i64_in _ (by omega)
        have hi1 : ((k - 1 : Nat) : Int) < xs.length := by omega
        have hk1 : k - 1 < xs.length := by omega
        have hAr := HA.out.kept hbr.out
        have cj := px_cell hAr k (by omega)
        have ci := px_cell hAr (k - 1) (by omega)
        have Hbw := Lib.hid (At.lt hAr)
        have HC := Lib.hid (fun (w' : World) (hb : Below wr.heap.size wr w') => HP.out xs[k] (List.getElem_mem hlt) xs[k - 1] (List.getElem_mem hk1) w' ((grown_of_below hbr.out).then hb))
        have Hst := Lib.hid (show xs.take (k + 1) = xs.take k ++ [xs[k]] from List.take_succ_eq_append_getElem hlt)
        have Hkeep := Lib.hid (compU_keep (eq := eq) hlt)
        have Hskip := Lib.hid (compU_skip (eq := eq) hlt h1)
        generalize xs[k - 1] = y at ci HC Hkeep Hskip
        generalize xs[k] = x at cj HC Hkeep Hskip Hst
        obtain ⟨x0, xa, xc⟩ := x
        obtain ⟨y0, ya, yc⟩ := y
        unfold pxV at ci cj HC
        have HS0 := Lib.hid (fun (w' : World) (hb : Below wr.heap.size wr w') => And.intro ((hb.cell (by exact Hbw.out)).trans cj) ((hb.cell (by exact Hbw.out)).trans ci))
        clear hAr ci cj
        go_upto_region 6 with fail
        go_region_held3 (fun w' => w'.cell? ⟨b, k, none⟩ = some (.slice xa x0.length xc) ∧ w'.cell? ⟨b, k - 1, none⟩ = some (.slice ya y0.length yc)) (refine HS0.out _ (by ((repeat (first | with_reducible exact Hb1.out | with_reducible exact Below.refl _ _ | with_reducible refine Below.drew ?_ | with_reducible refine Below.alloc ?_ ?_ _ | with_reducible refine Below.setCell ?_ ?_ _)) <;> (first | with_reducible exact Nat.le_refl _ | with_reducible exact Hb1.out.size | (have hsz := Hb1.out.size; simp [World.setCell]; omega) | (simp; done) | (simp; omega) | omega))))
          (first
          | (refine step_callv rfl g _ #[] _ _ rfl ?_ hg [.slice xa x0.length xc, .slice ya y0.length yc] ?_ _ (HC.out _ (by ((repeat (first | with_reducible exact Below.refl _ _ | with_reducible refine Below.drew ?_ | with_reducible refine Below.alloc ?_ ?_ _ | with_reducible refine Below.setCell ?_ ?_ _)) <;> (first | with_reducible exact Nat.le_refl _ | (simp; done) | (simp; omega) | omega)))) ?_
             · go_simp
             · go_simp
             rintro e w1 ⟨rfl, hbel⟩
             refine ⟨_, rfl, ?_⟩
             have Hb1 := Lib.hid (below_and (w0 := wr) (by ((repeat (first | with_reducible exact Below.refl _ _ | with_reducible refine Below.drew ?_ | with_reducible refine Below.alloc ?_ ?_ _ | with_reducible refine Below.setCell ?_ ?_ _)) <;> (first | with_reducible exact Nat.le_refl _ | (simp; done) | (simp; omega) | omega))) hbel)
             clear hbel))
        all_goals
          cases hq : eq (x0, xa, xc) (y0, ya, yc) with
          | false =>
            have HQ := Lib.hid (Hkeep.out (.inr hq))
            clear hq HC
            go_wp2_with fail
            go_roundg (xs.length - (k + 1))
            case measure => omega
            case rel => exact ⟨k + 1, by go_num, by omega, by omega, Nat.le_refl _, (show compU eq xs (k + 1) = xs.take (k + 1) by rw [HQ.out, hcu.out, Hst.out]), (show Below _ _ _ from hbr.out.trans (Hb1.out.mono hbr.out.size))⟩
          | true =>
            have HQ := Lib.hid (Hskip.out hq)
            have hb2 := hbr.out.trans (Hb1.out.mono hbr.out.size)
            have HA2 := Lib.hid (HA.out.kept hb2)
            have HG2 := Lib.hid (grown_of_below (r := some b) hb2)
            clear hq HC hb2 Hkeep Hskip
            have hki : (k : Int) ≤ xs.length := by omega
            go_wp2_with fail
            go_loopg [5, 7] xs.length (fun gg s5 s7 w2 => ∃ (i j : Nat) (zs : List PX), s5 = .int .i64 i ∧ s7 = .int .i64 j ∧ zs.length = xs.length ∧ i < k + j ∧ 1 ≤ j ∧ k + j ≤ xs.length ∧ xs.length - (k + j) ≤ gg ∧ Hid (zs.take i = compU eq xs (k + j)) ∧ Hid (zs.drop (k + j - 1) = xs.drop (k + j - 1)) ∧ Hid (∀ z ∈ zs, z ∈ xs) ∧ Hid (At w2 b (zs.map pxV ++ tl) 47) ∧ Hid (W.grownBy w2 (some b)))
            case atStart => exact ⟨k, 1, xs, rfl, rfl, rfl, by omega, by omega, by omega, by omega, (show xs.take k = compU eq xs (k + 1) by rw [HQ.out, hcu.out]), rfl, fun z hz => hz, HA2, HG2⟩
            case round =>
              obtain ⟨i, j, zs, rfl, rfl, hzl, hij, hj1, hjn, hgg2, hdone, hrest, hmem, hAt, hgr⟩ := hrel
              by_cases hlt2 : k + j < xs.length
              · have hltj : (j : Int) < ((xs.length - k : Nat) : Int) := by omega
                have hsub2 : IntKind.i64.wrap ((j : Int) - 1) = ((j - 1 : Nat) : Int) := by rw [show ((j : Int) - 1) = ((j - 1 : Nat) : Int) by omega]; exact IntWalk.i64_in _ (by omega)
                have hj2 : ((j - 1 : Nat) : Int) < ((xs.length - k : Nat) : Int) := by omega
                have hiti : (i : Int) < (xs.length : Int) := by omega
                have hp1 : k + (j - 1) < xs.length := by omega
                have hz0 : zs[k + (j - 1)] = xs[k + (j - 1)] := by
                  have h := hrest.out
                  rw [show k + j - 1 = k + (j - 1) by omega, List.drop_eq_getElem_cons (show k + (j - 1) < zs.length by omega), List.drop_eq_getElem_cons hp1] at h
                  exact (List.cons.inj h).1
                have hr2 : zs.drop (k + j) = xs.drop (k + j) := by
                  have h := congrArg (List.drop 1) hrest.out
                  rw [List.drop_drop, List.drop_drop, show k + j - 1 + 1 = k + j by omega] at h
                  exact h
                have hz1 : zs[k + j] = xs[k + j] := by
                  have h := hr2
                  rw [List.drop_eq_getElem_cons (show k + j < zs.length by omega), List.drop_eq_getElem_cons hlt2] at h
                  exact (List.cons.inj h).1
                have cj := px_cell hAt.out (k + j) (by omega)
                have ci := px_cell hAt.out (k + (j - 1)) (by omega)
                rw [hz1] at cj; rw [hz0] at ci
                have Hbw2 := Lib.hid (At.lt hAt.out)
                have Hr2 := Lib.hid hr2
                have HC := Lib.hid (fun (w' : World) (hb : Below wr.heap.size wr w') => HP.out xs[k + j] (List.getElem_mem hlt2) xs[k + (j - 1)] (List.getElem_mem hp1) w' (hgr.out.then hb))
                have hpos : 0 < k + j := by omega
                have Hkeep := Lib.hid (show eq xs[k + j] xs[k + (j - 1)] = false → compU eq xs (k + j + 1) = compU eq xs (k + j) ++ [xs[k + j]] from fun h => compU_keep hlt2 (.inr (by simpa only [show k + j - 1 = k + (j - 1) by omega] using h)))
                have Hskip := Lib.hid (show eq xs[k + j] xs[k + (j - 1)] = true → compU eq xs (k + j + 1) = compU eq xs (k + j) from fun h => compU_skip hlt2 hpos (by simpa only [show k + j - 1 = k + (j - 1) by omega] using h))
                have Hmem := Lib.hid (show xs[k + j] ∈ xs from List.getElem_mem hlt2)
                clear hz0 hz1 hr2
                generalize xs[k + (j - 1)] = y at ci HC Hkeep Hskip
                generalize xs[k + j] = x at cj HC Hkeep Hskip Hmem
                obtain ⟨x1, xb, xd⟩ := x
                obtain ⟨y1, yb, yd⟩ := y
                unfold pxV at ci cj HC
                have HS1 := Lib.hid (fun (w' : World) (hb : Below wr.heap.size wr w') => And.intro ((hb.cell (by exact Hbw2.out)).trans cj) ((hb.cell (by exact Hbw2.out)).trans ci))
                clear ci cj
                go_upto_region 11 with fail
                go_region_held3 (fun w' => w'.cell? ⟨b, k + j, none⟩ = some (.slice xb x1.length xd) ∧ w'.cell? ⟨b, k + (j - 1), none⟩ = some (.slice yb y1.length yd)) (refine HS1.out _ (by ((repeat (first | with_reducible exact Hb3.out | with_reducible exact Below.refl _ _ | with_reducible refine Below.drew ?_ | with_reducible refine Below.alloc ?_ ?_ _ | with_reducible refine Below.setCell ?_ ?_ _)) <;> (first | with_reducible exact Nat.le_refl _ | with_reducible exact Hb3.out.size | (have hsz := Hb3.out.size; simp [World.setCell]; omega) | (simp; done) | (simp; omega) | omega))))
                  (first
                  | (refine step_callv rfl g _ #[] _ _ rfl ?_ hg [.slice xb x1.length xd, .slice yb y1.length yd] ?_ _ (HC.out _ (by ((repeat (first | with_reducible exact Below.refl _ _ | with_reducible refine Below.drew ?_ | with_reducible refine Below.alloc ?_ ?_ _ | with_reducible refine Below.setCell ?_ ?_ _)) <;> (first | with_reducible exact Nat.le_refl _ | (simp; done) | (simp; omega) | omega)))) ?_
                     · go_simp
                     · go_simp
                     rintro e w3 ⟨rfl, hbel⟩
                     refine ⟨_, rfl, ?_⟩
                     have Hb3 := Lib.hid (below_and (w0 := wr) (by ((repeat (first | with_reducible exact Below.refl _ _ | with_reducible refine Below.drew ?_ | with_reducible refine Below.alloc ?_ ?_ _ | with_reducible refine Below.setCell ?_ ?_ _)) <;> (first | with_reducible exact Nat.le_refl _ | (simp; done) | (simp; omega) | omega))) hbel)
                     clear hbel))
                all_goals
                  cases hq : eq (x1, xb, xd) (y1, yb, yd) with
                  | false =>
                    have HQ3 := Lib.hid (Hkeep.out hq)
                    have HA3 := Lib.hid (hAt.out.kept Hb3.out); have HG3 := Lib.hid (hgr.out.then Hb3.out)
                    have ci := px_cell HA3.out i (by omega)
                    have cf : w3.frozen? ⟨b, i, none⟩ = false := Lib.frozen_of_heap HA3.out _
                    have cj := (Hb3.out.cell (p := ⟨b, k + j, none⟩) (by exact Hbw2.out)).trans (HS1.out wr (Below.refl _ _)).1
                    have hi2 : i < zs.length := by omega
                    generalize zs[i] = old at ci
                    clear hq HC Hkeep Hskip
                    go_wp2_with fail
                    go_roundg (xs.length - (k + (j + 1)))
                    case measure => omega
                    case rel =>
                      refine ⟨i + 1, j + 1, zs.set i (x1, xb, xd), by go_num, by go_num, by rw [List.length_set]; exact hzl, by omega, by omega, by omega, Nat.le_refl _, ?_, ?_, ?_, ?_, HG3.out.set i _⟩
                      · show (zs.set i (x1, xb, xd)).take (i + 1) = compU eq xs (k + (j + 1))
                        rw [← Nat.add_assoc, HQ3.out, ← hdone.out, List.take_set, List.take_succ_eq_append_getElem hi2, List.set_append_right _ _ (by simp; omega)]
                        simp [Nat.min_eq_left (Nat.le_of_lt hi2)]
                      · show (zs.set i (x1, xb, xd)).drop (k + (j + 1) - 1) = xs.drop (k + (j + 1) - 1)
                        rw [show k + (j + 1) - 1 = k + j by omega, List.drop_set_of_lt (by omega), Hr2.out]
                      · intro z hz
                        rcases List.mem_or_eq_of_mem_set hz with h | h
                        · exact hmem.out z h
                        · rw [h]; exact Hmem.out
                      · show At _ b ((zs.set i (x1, xb, xd)).map pxV ++ tl) 47
                        have h := HA3.out.set i (pxV (x1, xb, xd))
                        rw [List.set_append_left _ _ (by simpa using hi2), ← List.map_set] at h
                        exact h
                  | true =>
                    have HQ3 := Lib.hid (Hskip.out hq)
                    have HA3 := Lib.hid (hAt.out.kept Hb3.out); have HG3 := Lib.hid (hgr.out.then Hb3.out)
                    clear hq HC Hkeep Hskip
                    go_wp2_with fail
                    go_roundg (xs.length - (k + (j + 1)))
                    case measure => omega
                    case rel =>
                      refine ⟨i, j + 1, zs, rfl, by go_num, hzl, by omega, by omega, by omega, Nat.le_refl _, ?_, ?_, hmem, HA3, HG3⟩
                      · show zs.take i = compU eq xs (k + (j + 1))
                        rw [← Nat.add_assoc, HQ3.out, hdone.out]
                      · show zs.drop (k + (j + 1) - 1) = xs.drop (k + (j + 1) - 1)
                        rw [show k + (j + 1) - 1 = k + j by omega, Hr2.out]
              · have hje : k + j = xs.length := by omega
                have hltz : ¬ (j : Int) < ((xs.length - k : Nat) : Int) := by omega
                have hiti : (i : Int) ≤ (xs.length : Int) := by omega
                have hcl := fun ty => Lib.run_clear_slice (P := Tryz.prog) wr 36 47 ty (.slice none 0 0) Tryz.underlying36 (fun w => by kernel_rfl) rfl rfl b (0 + i) (xs.length - i) (cap - i) (by omega) (fun k hk => by
                  have := px_cell hAt.out (i + k) (by omega)
                  rw [Nat.zero_add, this]; rfl) (fun k hk => Lib.frozen_of_heap hAt.out _)
                rw [Nat.zero_add] at hcl
                have Hcut := Lib.hid (RowX.cut (i := i) (n := xs.length) hMb hAt.out (by omega) hcm (by omega) (fun x hx' => (Hq0.out x (hmem.out x hx')).grown hgr.out))
                have Hgs := Lib.hid (fun vs => World.grownBy.setCells vs i wr hgr.out)
                have Hfin := Lib.hid (show zs.take i = compU eq xs xs.length by rw [hdone.out, hje])
                have Hlen : Hid ((zs.take i).length = i) := by show _ = _; simp; omega
                obtain ⟨vs, hvs⟩ : ∃ vs, vs = List.replicate (xs.length - i) (Value.slice none 0 0) := ⟨_, rfl⟩
                rw [← hvs] at hcl
                clear hAt hgr hvs hje
                go_wp2_with fail
                go_ret
                rw [← Hfin.out]
                refine ⟨.slice (some ⟨b, 0, none⟩) (zs.take i).length cap, by rw [Hlen.out]; rfl, Hcut.out vs, fun k hk => hk, Hgs.out vs⟩
      · obtain rfl : k = xs.length := by omega
        have hltz : ¬ (xs.length : Int) < (xs.length : Int) := by omega
        have hfull := Lib.hid (show compU eq xs xs.length = xs by have := hcu.out; rwa [List.take_length] at this)
        clear hcu
        go_wp2_with fail
        go_ret
        rw [hfull.out]
        exact ⟨_, rfl, Hx.out.below hbr.out, fun k hk => hk, grown_of_below hbr.out⟩

end Go.Proofs.YtajclfjedlkbcaaGreatDoor
/- Walks: slices.SortFunc at rows of paths. -/
namespace Go.Proofs.YtajclfjedlkbcaaGreatDoor
open Go.RowKit Go.Redl Go.Sort Go.Shelf
set_option linter.unusedVariables false

section
variable {α : Type} [Inhabited α]
theorem sortWorld_by (enc : α → Value) (w : World) (blk off m : Nat) (dk : Array α) (os : Array Obj) : w.grownBy (sortWorld enc w blk off m dk os) (some blk) := by
  refine ⟨rfl, rfl, rfl, ?_, fun k hk hne => ?_⟩
  · simp [sortWorld, grow, putRow, mapBlock, Sort.ahead]
  · have hne' : ¬ blk = k := fun e => hne (by rw [e])
    show ((w.heap.modify blk _) ++ os)[k]? = w.heap[k]?
    rw [Array.getElem?_append_left (by simpa using hk), Array.getElem?_modify, if_neg hne']
theorem sortWorld_at (enc : α → Value) (w : World) (b m : Nat) (dk : Array α) (os : Array Obj) (l : List Value) (tl : List Value) (T : TypeId) (h : At w b (l ++ tl) T) (hl : dk.size = l.length) :
    At (sortWorld enc w b 0 m dk os) b (dk.toList.map enc ++ tl) T := by
  have hb := h.lt
  unfold At at h ⊢
  show ((w.heap.modify b _) ++ os)[b]? = _
  rw [Array.getElem?_append_left (by simpa using hb), Array.getElem?_modify, if_pos rfl, h]
  simp only [Option.map_some, onCells]
  congr 2
  apply Array.ext_getElem?
  intro k
  unfold putCells
  rw [Array.getElem?_mapIdx]
  simp only [List.getElem?_toArray, Nat.zero_le, true_and, Nat.zero_add, Nat.sub_zero]
  by_cases hk : k < dk.size
  · rw [List.getElem?_append_left (by omega), List.getElem?_append_left (by simpa using hk), List.getElem?_map, List.getElem?_eq_getElem (show k < l.length by omega)]
    simp [hk]
  · rw [List.getElem?_append_right (by omega), List.getElem?_append_right (by simpa using hk)]
    have hk' : ¬ k < l.length := by omega
    simp [hk', hl]
end

/-- In order. -/
abbrev SortL (l : List (List Int)) : Prop := l.Pairwise fun p q => ¬ cmpL q p < 0
def SortP (W : World) (M L : Nat) (v : Value) (xs : List PX) (e : Ending) (w' : World) : Prop :=
  e = .returned (.tuple #[]) ∧ ∃ ys : List PX, ys.Perm xs ∧ SortL (pxs ys) ∧ RowX w' M L v ys ∧ W.grownBy w' v.ownBlock

theorem cmpL_swo {α : Type} (f : α → List Int) : SWO (ltOf fun x y : α => cmpL (f x) (f y)) where
  irrefl x := by simp [ltOf, cmpL_self]
  trans x y z h1 h2 := by
    unfold ltOf at *
    simp only [decide_eq_true_eq] at *
    exact cmpL_trans h1 h2
  ntrans x y z h1 h2 := by
    unfold ltOf at *
    simp only [decide_eq_false_iff_not] at *
    intro h3
    rcases cmpL_three (f y) (f x) with h | h | h
    · rcases cmpL_three (f z) (f y) with h' | h' | h'
      · have := cmpL_trans h3 h'
        exact h1 this
      · rw [h'] at h3; exact h1 h3
      · exact h2 h'
    · rw [h] at h2; exact h2 h3
    · exact h1 h

theorem sortx_ent : ∀ args w, (callFunc 63 args).run Tryz.prog w = .ok (.enter 63 args) w := by intro args w; kernel_rfl
theorem insort_ent : ∀ args w, (callFunc 124 args).run Tryz.prog w = .ok (.enter 124 args) w := by intro args w; kernel_rfl
theorem pdq_ent : ∀ args w, (callFunc 108 args).run Tryz.prog w = .ok (.enter 108 args) w := by intro args w; kernel_rfl
/-- No element: nothing is done. -/
theorem insort0_c (fv : Value) (W : World) : Calls Tryz.prog 124 #[.slice none 0 0, .int .i64 0, .int .i64 0, fv] W fun e w' => e = .returned (.tuple #[]) ∧ w' = W := by
  go_enter Tryz.func124, Tryz.ntmps124
  go_wp2_with fail
  go_loopg [8, 9] 1 (fun g i _ wr => i = .int .i64 1 ∧ wr = W)
  case atStart => exact ⟨rfl, rfl⟩
  case round =>
    obtain ⟨rfl, rfl⟩ := hrel
    go_wp2_with fail
    go_end0
    exact ⟨rfl, rfl⟩
set_option maxRecDepth 100000 in
theorem pdq0_c (lim : Int) (fv : Value) (W : World) : Calls Tryz.prog 108 #[.slice none 0 0, .int .i64 0, .int .i64 0, .int .i64 lim, fv] W fun e w' => e = .returned (.tuple #[]) ∧ w' = W := by
  have HI := Lib.hid (insort0_c fv W)
  go_enter Tryz.func108, Tryz.ntmps108
  go_wp2_with fail
  go_loopg [1, 2, 3, 10, 11, 12] 1 (fun g a b l _ _ _ wr => a = .int .i64 0 ∧ b = .int .i64 0 ∧ l = .int .i64 lim ∧ wr = W)
  case atStart => exact ⟨rfl, rfl, rfl, rfl⟩
  case round =>
    obtain ⟨rfl, rfl, rfl, rfl⟩ := hrel
    go_wp2_with fail
    refine HI.out.mono ?_
    rintro e w1 ⟨rfl, rfl⟩
    go_wp2_with fail
    exact bodyPost_ret (v := .tuple #[]) (by simp [results, Tryz.results108]) rfl ⟨rfl, rfl⟩
set_option maxRecDepth 100000 in
theorem sort0_c (fv : Value) (W : World) : Calls Tryz.prog 63 #[.slice none 0 0, fv] W fun e w' => e = .returned (.tuple #[]) ∧ w' = W := by
  have hl : Calls Tryz.prog 109 #[.int .u64 0] W fun e w' => e = .returned (.int .i64 (Lib.bitLen 0 : Nat)) ∧ w' = W :=
    Any.bits_Len (SlLaysF0.n15.bits (P := Tryz.prog) (ρ := Tryz.sortL_ren) { Tryz.sortL with }) 0 W (by omega) (by omega)
  have HL := Lib.hid hl
  have HP := Lib.hid (fun lim => pdq0_c lim fv W)
  clear hl
  go_enter Tryz.func63, Tryz.ntmps63
  go_wp2_with fail
  refine HL.out.mono ?_
  rintro e w1 ⟨rfl, rfl⟩
  go_wp2_with fail
  refine (HP.out _).mono ?_
  rintro e w1 ⟨rfl, rfl⟩
  go_wp2_with fail
  go_end0
  exact ⟨rfl, rfl⟩

set_option maxRecDepth 100000 in
set_option maxHeartbeats 1000000 in
theorem sortx_c (M L : Nat) (v : Value) (xs : List PX) (W : World) (hx : RowX W M L v xs) (hn : xs.length ≤ 100000000) :
    Calls Tryz.prog 63 #[v, .func (.func 64) #[] #[]] W (SortP W M L v xs) := by
  rcases hx.open with ⟨rfl, rfl⟩ | ⟨b, cap, tl, rfl, hMb, hA, hcl, hcm⟩
  · exact (sort0_c _ W).mono fun e w' hh => ⟨hh.1, [], List.Perm.refl _, List.Pairwise.nil, by rw [hh.2]; exact RowX.nil _ _ _, by rw [hh.2]; exact World.grownBy.refl _ _⟩
  · have hq0 : ∀ x ∈ xs, PxQ W (fun k => L ≤ k ∧ k ≠ b) x := fun x hx' => rowq_imp (hx.all x hx') fun k hk => ⟨hk.1, fun e => hk.2 (by rw [e]; rfl)⟩
    let α := {x : PX // PxQ W (fun k => L ≤ k ∧ k ≠ b) x}
    have instI : Inhabited α := ⟨⟨([], none, 0), RowQ.empty _ _ _⟩⟩
    let enc : α → Value := fun x => pxV x.1
    let d : Array α := (xs.attachWith _ hq0).toArray
    have hdl : d.toList.map (·.1) = xs := List.attachWith_map_subtype_val hq0
    have hds : d.size = xs.length := List.length_attachWith (H := hq0)
    have hde : d.toList.map enc = xs.map pxV := by
      rw [← hdl, List.map_map]
      congr 1
    have hH : Holds enc W b 0 d := by
      intro j hj
      have hj' : j < xs.length := by omega
      refine ⟨?_, Lib.frozen_of_heap hA _⟩
      rw [Nat.zero_add, px_cell hA j hj', getElem!_pos d j hj]
      have h1 : (d.toList.map (·.1))[j]'(by simpa using hj) = xs[j] := by simp only [hdl]
      rw [List.getElem_map] at h1
      show some (pxV xs[j]) = some (pxV (d[j]).1)
      rw [← h1]; simp
    have hcmp : CmpLays1 Tryz.prog 64 #[] enc (fun x y => cmpL x.1.1 y.1.1) b 0 d.size W := by
      intro m os dk hs x y
      have hg := sortWorld_by enc W b 0 m dk os
      have hxq := PxQ.grown x.2 hg
      have hyq := PxQ.grown y.2 hg
      obtain ⟨⟨x0, xa, xc⟩, hx2⟩ := x
      obtain ⟨⟨y0, ya, yc⟩, hy2⟩ := y
      have h := tcmp_c x0 y0 xa ya xc yc _ (sortWorld enc W b 0 m dk os) hxq.row hyq.row
      refine h.mono fun e w' hh => ⟨hh.1, 0, #[], ?_⟩
      rw [hh.2, grow_empty]; rfl
    have hS := Any.slices_SortFunc Tryz.sortL enc (fun _ => rfl) (fun x y => cmpL x.1.1 y.1.1) (cmpL_swo fun x : α => x.1.1) 64 #[] b 0 cap d W tcmp_ent hcmp hH hA.lt (by omega)
    rw [hds] at hS
    refine Calls.mono (f := 63) hS fun e w' hh => ?_
    obtain ⟨rfl, d', n, os, ⟨hps, -, hpp⟩, hs, rfl⟩ := hh
    have hperm : d'.toList.Perm d.toList := by
      have e1 : (d'.extract 0 xs.length).toList = d'.toList := by
        rw [Array.extract_eq_self_of_le (by omega)]
      have e2 : (d.extract 0 xs.length).toList = d.toList := by
        rw [Array.extract_eq_self_of_le (by omega)]
      rw [e1, e2] at hpp
      exact hpp
    have hg := sortWorld_by enc W b 0 n d' os
    have hpm : (d'.toList.map (·.1)).Perm xs := by have := hperm.map (fun x : α => x.1); rwa [hdl] at this
    have hlen : (d'.toList.map (·.1)).length = xs.length := hpm.length_eq
    refine ⟨rfl, d'.toList.map (·.1), hpm, ?_, ?_, hg⟩
    · show SortL ((d'.toList.map (·.1)).map (·.1))
      rw [List.map_map, SortL, List.pairwise_map, List.pairwise_iff_getElem]
      intro i j hi hj hij
      have h := hs i j (Nat.zero_le _) hij (by simpa [hps, hds] using hj)
      unfold ltOf at h
      simp only [decide_eq_false_iff_not] at h
      rw [getElem!_pos d' i (by simpa using hi), getElem!_pos d' j (by simpa using hj)] at h
      simpa using h
    · rw [← hlen]
      have h := sortWorld_at enc W b n d' os (xs.map pxV) tl 47 hA (by simp [hps, hds])
      have h2 : At (sortWorld enc W b 0 n d' os) b ((d'.toList.map (·.1)).map pxV ++ tl) 47 := by rw [List.map_map]; exact h
      exact RowX.shut hMb h2 (by omega) hcm fun x hx' => (hq0 x (hpm.subset hx')).grown hg

end Go.Proofs.YtajclfjedlkbcaaGreatDoor
/- Plain words: lists of paths in order, none twice; walk: dirty's set. -/
namespace Go.Proofs.YtajclfjedlkbcaaGreatDoor
open Go.RowKit Go.Redl
set_option linter.unusedVariables false

/-- In order, none twice. -/
abbrev StrictL (l : List (List Int)) : Prop := l.Pairwise fun p q => cmpL p q < 0
def insL (p : List Int) : List (List Int) → List (List Int)
  | [] => [p]
  | q :: l => if cmpL p q < 0 then p :: q :: l else if p = q then q :: l else q :: insL p l
/-- Paths in order, none twice. -/
def setL (l : List (List Int)) : List (List Int) := l.foldr insL []
theorem mem_insL {p x : List Int} : ∀ {l : List (List Int)}, x ∈ insL p l ↔ x = p ∨ x ∈ l
  | [] => by simp [insL]
  | q :: l => by
    unfold insL
    split
    · simp
    split
    · rename_i h; subst h; simp
    · rw [List.mem_cons, mem_insL, List.mem_cons]
      constructor
      · rintro (h | h | h)
        · exact .inr (.inl h)
        · exact .inl h
        · exact .inr (.inr h)
      · rintro (h | h | h)
        · exact .inr (.inl h)
        · exact .inl h
        · exact .inr (.inr h)
theorem insL_strict {p : List Int} : ∀ {l : List (List Int)}, StrictL l → StrictL (insL p l)
  | [], _ => by simp [insL]
  | q :: l, h => by
    obtain ⟨h1, h2⟩ := List.pairwise_cons.1 h
    unfold insL
    split
    · rename_i hlt
      refine List.pairwise_cons.2 ⟨fun x hx => ?_, h⟩
      rcases List.mem_cons.1 hx with rfl | hx
      · exact hlt
      · exact cmpL_trans hlt (h1 x hx)
    split
    · exact h
    · rename_i hn hne
      refine List.pairwise_cons.2 ⟨fun x hx => ?_, insL_strict h2⟩
      rcases mem_insL.1 hx with rfl | hx
      · rcases cmpL_three x q with h | h | h
        · exact absurd h hn
        · exact absurd h hne
        · exact h
      · exact h1 x hx
theorem mem_setL {x : List Int} : ∀ {l : List (List Int)}, x ∈ setL l ↔ x ∈ l
  | [] => by simp [setL]
  | p :: l => by
    show x ∈ insL p (setL l) ↔ _
    rw [mem_insL, mem_setL, List.mem_cons]
theorem setL_strict : ∀ l : List (List Int), StrictL (setL l)
  | [] => by simp [setL]
  | p :: l => insL_strict (setL_strict l)
theorem strict_irr {p : List Int} (h : cmpL p p < 0) : False := by rw [cmpL_self] at h; omega
/-- Two lists in order, none twice, of the same paths are one. -/
theorem strict_unique : ∀ {l l' : List (List Int)}, StrictL l → StrictL l' → (∀ x, x ∈ l ↔ x ∈ l') → l = l'
  | [], [], _, _, _ => rfl
  | [], q :: l', _, _, h => absurd ((h q).2 (by simp)) (by simp)
  | p :: l, [], _, _, h => absurd ((h p).1 (by simp)) (by simp)
  | p :: l, q :: l', h1, h2, h => by
    obtain ⟨a1, a2⟩ := List.pairwise_cons.1 h1
    obtain ⟨b1, b2⟩ := List.pairwise_cons.1 h2
    have hpq : p = q := by
      rcases List.mem_cons.1 ((h p).1 (by simp)) with e | e
      · exact e
      · rcases List.mem_cons.1 ((h q).2 (by simp)) with e' | e'
        · exact e'.symm
        · exact absurd (cmpL_trans (b1 p e) (a1 q e')) fun h => strict_irr h
    subst hpq
    rw [strict_unique a2 b2 fun x => ?_]
    constructor
    · intro hx
      rcases List.mem_cons.1 ((h x).1 (by simp [hx])) with e | e
      · subst e; exact absurd (a1 x hx) fun h => strict_irr h
      · exact e
    · intro hx
      rcases List.mem_cons.1 ((h x).2 (by simp [hx])) with e | e
      · subst e; exact absurd (b1 x hx) fun h => strict_irr h
      · exact e
theorem setL_eq {l r : List (List Int)} (h : StrictL r) (hm : ∀ x, x ∈ r ↔ x ∈ l) : r = setL l :=
  strict_unique h (setL_strict l) fun x => by rw [hm, mem_setL]

theorem pxs_append (a b : List PX) : pxs (a ++ b) = pxs a ++ pxs b := List.map_append
theorem pxs_one (x : PX) : pxs [x] = [x.1] := rfl
/-- What is left of paths in order, those that are as the one ahead struck. -/
theorem compU_sorted (xs : List PX) (hs : SortL (pxs xs)) : ∀ k, k ≤ xs.length → StrictL (pxs (compU (fun x y => decide (x.1 = y.1)) xs k)) ∧ (∀ p, p ∈ pxs (compU (fun x y => decide (x.1 = y.1)) xs k) ↔ p ∈ pxs (xs.take k)) ∧ ∀ x ∈ compU (fun x y => decide (x.1 = y.1)) xs k, x ∈ xs
  | 0, _ => by simp [compU]
  | k + 1, hk => by
    obtain ⟨h1, h2, h3⟩ := compU_sorted xs hs k (by omega)
    have hlt : k < xs.length := by omega
    have htk : xs.take (k + 1) = xs.take k ++ [xs[k]] := List.take_succ_eq_append_getElem hlt
    have hle : ∀ p ∈ pxs (xs.take k), ¬ cmpL xs[k].1 p < 0 := by
      intro p hp
      simp only [List.mem_map] at hp
      obtain ⟨x, hx, rfl⟩ := hp
      obtain ⟨j, hj, rfl⟩ := List.mem_iff_getElem.1 hx
      have hj' : j < k := by simp at hj; omega
      have h := List.pairwise_iff_getElem.1 hs j k (by simp; omega) (by simpa using hlt) hj'
      simpa using h
    by_cases hd : k = 0 ∨ decide (xs[k].1 = (xs[k - 1]'(by omega)).1) = false
    · rw [compU_keep (eq := fun x y => decide (x.1 = y.1)) hlt hd, htk]
      refine ⟨?_, fun p => ?_, fun x hx => ?_⟩
      · rw [pxs_append, pxs_one]
        refine List.pairwise_append.2 ⟨h1, by simp, fun p hp q hq => ?_⟩
        rw [List.mem_singleton.1 hq]
        have hp' := (h2 p).1 hp
        have hn := hle p hp'
        rcases cmpL_three p xs[k].1 with h | h | h
        · exact h
        · exfalso
          rcases hd with h0 | hd
          · subst h0; simp at hp'
          · simp only [decide_eq_false_iff_not] at hd
            apply hd
            -- the one ahead lies between
            have hk0 : k ≠ 0 := by rintro rfl; simp at hp'
            have hb := List.pairwise_iff_getElem.1 hs (k - 1) k (by simp; omega) (by simpa using hlt) (by omega)
            simp only [List.getElem_map] at hb
            simp only [List.mem_map] at hp'
            obtain ⟨x, hx, rfl⟩ := hp'
            obtain ⟨j, hj, rfl⟩ := List.mem_iff_getElem.1 hx
            have hj' : j < k := by simp at hj; omega
            simp only [List.getElem_take] at h hn
            by_cases hjk : j = k - 1
            · subst hjk; exact h.symm
            · have hc := List.pairwise_iff_getElem.1 hs j (k - 1) (by simp; omega) (by simp; omega) (by omega)
              simp only [List.getElem_map] at hc
              rw [h] at hc
              rcases cmpL_three xs[k].1 (xs[k - 1]'(by omega)).1 with h' | h' | h'
              · exact absurd h' hb
              · exact h'
              · exact absurd h' hc
        · exact absurd h hn
      · rw [pxs_append, pxs_append, List.mem_append, List.mem_append, h2]
      · rcases List.mem_append.1 hx with hx | hx
        · exact h3 x hx
        · simp only [List.mem_singleton] at hx; subst hx; exact List.getElem_mem hlt
    · have hk0 : 0 < k := by omega
      have he : decide (xs[k].1 = (xs[k - 1]'(by omega)).1) = true := by
        cases h : decide (xs[k].1 = (xs[k - 1]'(by omega)).1) with
        | true => rfl
        | false => exact absurd (.inr h) hd
      rw [compU_skip (eq := fun x y => decide (x.1 = y.1)) hlt hk0 he, htk]
      refine ⟨h1, fun p => ?_, h3⟩
      rw [h2, pxs_append, pxs_one, List.mem_append]
      constructor
      · exact .inl
      · rintro (h | h)
        · exact h
        · rw [List.mem_singleton.1 h]
          rw [of_decide_eq_true he]
          refine List.mem_map.2 ⟨xs[k - 1]'(by omega), ?_, rfl⟩
          exact List.mem_iff_getElem.2 ⟨k - 1, by simp; omega, by simp⟩

end Go.Proofs.YtajclfjedlkbcaaGreatDoor
/- Walks: dirty's set, elements; a row of paths copied. -/
namespace Go.Proofs.YtajclfjedlkbcaaGreatDoor
open Go.RowKit Go.Redl
set_option linter.unusedVariables false

theorem PxQ.own {w w' : World} {r : Option Nat} {L : Nat} {x : PX} (h : PxQ w (fun k => L ≤ k ∧ r ≠ some k) x) (hg : w.grownBy w' r) : PxQ w' (fun k => L ≤ k ∧ r ≠ some k) x :=
  RowQ.keep h hg.size (fun k hk hlt => hg.block k hlt (fun e => hk.2 e.symm)) (fun _ h _ => h)
/-- What is done with a row in its own place. -/
def InP (W : World) (M L : Nat) (v : Value) (xs : List PX) (l : List (List Int)) (e : Ending) (w' : World) : Prop :=
  ∃ v' ys, e = .returned v' ∧ RowX w' M L v' ys ∧ pxs ys = l ∧ (∀ x ∈ ys, x ∈ xs) ∧ (∀ k, v'.ownBlock = some k → v.ownBlock = some k) ∧ W.grownBy w' v.ownBlock
theorem tuple_nil_ret {P : Ending → Prop} (h : P (.returned (.tuple #[]))) : P (.returned (.tuple #[])) := h
theorem cmpx_ent : ∀ args w, (callFunc 65 args).run Tryz.prog w = .ok (.enter 65 args) w := by intro args w; kernel_rfl
theorem delx_ent : ∀ args w, (callFunc 75 args).run Tryz.prog w = .ok (.enter 75 args) w := by intro args w; kernel_rfl
theorem set_ent : ∀ args w, (callFunc 32 args).run Tryz.prog w = .ok (.enter 32 args) w := by intro args w; kernel_rfl

set_option maxRecDepth 100000 in
set_option maxHeartbeats 1000000 in
theorem set_c (M L : Nat) (v : Value) (xs : List PX) (W : World) (hx : RowX W M L v xs) (hn : xs.length ≤ 100000000) : Calls Tryz.prog 32 #[v] W (InP W M L v xs (setL (pxs xs))) := by
  have HS := Lib.hid (sortx_c M L v xs W hx hn)
  have HC := Lib.hid (fun (w1 : World) (ys : List PX) (hp : ys.Perm xs) (hy : RowX w1 M L v ys) => cmpx_c 66 (fun x y => decide (x.1 = y.1)) M L v ys w1 tsame_ent hy (by rw [hp.length_eq]; exact hn) fun x hx' y hy' W' hg => by
    obtain ⟨x0, xa, xc⟩ := x
    obtain ⟨y0, ya, yc⟩ := y
    exact (tsame_c x0 y0 xa ya xc yc _ W' (PxQ.own (hy.all _ hx') hg).row (PxQ.own (hy.all _ hy') hg).row).mono fun e w' hh => ⟨hh.1, hh.2.below _⟩)
  obtain ⟨a, c, rfl⟩ := hx.form
  clear hx
  go_enter Tryz.func32, Tryz.ntmps32
  go_wp2_with fail
  refine HS.out.mono ?_
  rintro e w1 ⟨rfl, ys, hp, hs, hy, hg⟩
  have HC1 := Lib.hid (HC.out w1 ys hp hy)
  have Hp := Lib.hid hp; have Hs := Lib.hid hs; have Hg := Lib.hid hg
  clear HS HC hp hs hy hg
  go_wp2_with fail
  refine HC1.out.mono ?_
  rintro e w2 ⟨v', rfl, hz, hk, hg⟩
  obtain ⟨a', c', hv'⟩ := hz.form
  have Hz := Lib.hid hz; have Hk := Lib.hid hk; have Hg2 := Lib.hid hg
  have Hv := Lib.hid hv'
  clear HC1 hz hk hg hv'
  go_wp2_with fail
  go_ret
  obtain ⟨h1, h2, h3⟩ := compU_sorted ys Hs.out ys.length (Nat.le_refl _)
  rw [List.take_length] at h2
  refine ⟨v', _, rfl, Hz.out, ?_, fun x hx => Hp.out.subset (h3 x hx), Hk.out, Hg.out.trans Hg2.out⟩
  exact setL_eq h1 fun x => by rw [h2]; exact (Hp.out.map (·.1)).mem_iff

/-- An element stands there. -/
def isElem (n : NodeD) (p : List Int) : Bool := match atN n p with
  | some k => !leafOf k
  | none => false
theorem elem1_ent : ∀ args w, (callFunc 85 args).run Tryz.prog w = .ok (.enter 85 args) w := by intro args w; kernel_rfl
set_option maxRecDepth 100000 in
set_option maxHeartbeats 1000000 in
theorem elem1_c (n : NodeD) (c0 c1 c2 c3 : Value) (N : Nat) (p : List Int) (pa : Option Addr) (pc : Nat) (W : World) (hbig : n.wt ≤ 100000000) (hv : NodeV W W.heap.size n (.agg #[c0, c1, c2, c3])) (hN : At W N [c0, c1, c2, c3] 35) (hp : RowA W W.heap.size 1 pa p.length pc (p.map (Value.int .i64))) :
    Calls Tryz.prog 85 #[.slice pa p.length pc, .pointer (some ⟨N, 0, none⟩)] W fun e w' => e = .returned (.bool (!isElem n p)) ∧ Below W.heap.size W w' := by
  have HG := Lib.hid (get_c n p _ pa pc W hbig hv hp)
  obtain ⟨⟨x0, x1, x2, x3⟩, -, xl⟩ := hN.f4
  unfold isElem
  cases hat : atN n p with
  | none =>
    rw [hat] at HG
    clear hv hN hp hat
    go_enter Tryz.func85, Tryz.ntmps85
    go_wp2_with fail
    refine HG.out.mono ?_
    rintro e w1 ⟨rfl, hbel⟩
    have Hb := Lib.hid hbel
    clear hbel HG x0 x1 x2 x3 xl
    go_wp2_with fail
    go_ret
    exact ⟨rfl, Hb.out.trans ((one_below w1 _).mono Hb.out.size)⟩
  | some k =>
    rw [hat] at HG
    clear hv hN hp hat
    go_enter Tryz.func85, Tryz.ntmps85
    go_wp2_with fail
    refine HG.out.mono ?_
    rintro e w1 ⟨cs, rfl, hq, hbel⟩
    obtain ⟨l, ps, t, ks⟩ := k
    have hq' := NodeQ.node _ _ hq
    unfold NodeC at hq'
    obtain ⟨ap, cp, at_, ct, ak, ck, css, rfl, -⟩ := hq'
    have Hb := Lib.hid hbel
    clear hbel HG x0 x1 x2 x3 xl hq
    go_wp2_with fail
    go_ret
    exact ⟨ret_bool (by simp [leafOf]), Hb.out.trans ((one_below w1 _).mono Hb.out.size)⟩

end Go.Proofs.YtajclfjedlkbcaaGreatDoor
