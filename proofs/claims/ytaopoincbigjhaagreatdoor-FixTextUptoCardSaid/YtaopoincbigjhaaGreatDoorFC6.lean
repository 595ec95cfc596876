/- Parts of the proof, one behind the other: RTE, RTF, RHD. -/
import Derived.Test.YtaopoincbigjhaaGreatDoorFC5
import Derived.Deep.AppendSrc
import Derived.Test.YtaopoincbigjhaaGreatDoorFC2
/- Walks: slices.Insert at rows of nodes. -/
namespace Go.Proofs.YtaopoincbigjhaaGreatDoor
open Go.RowKit Go.Redl Go.Lib
set_option linter.unusedVariables false
set_option linter.unusedSimpArgs false

theorem rowq_box {w : World} {N : Nat} {cs : List Value} {T : TypeId} (h : At w N cs T) (n sz : Nat) (hl : cs.length = n * sz) (hn : n ≤ 100000000) (h1 : ∀ u ∈ cs, u.oneCell' = true) : RowA w w.heap.size sz (some ⟨N, 0, none⟩) n n cs :=
  ⟨hl, Nat.le_refl _, by unfold maxLen; omega, h1, (fun e => by cases e), fun _ => ⟨N, 0, rfl, h.lt, fun j u hj => by rw [Nat.zero_add]; exact h.cell j hj⟩⟩
theorem insn_ent : ∀ args w, (callFunc 170 args).run Tryz.prog w = .ok (.enter 170 args) w := by intro args w; kernel_rfl
/-- A row that a call makes out of an own one. -/
def InsP (W : World) (M : Nat) (v : Value) (n : Nat) (css : List Value) (e : Ending) (w' : World) : Prop :=
  ∃ v', e = .returned v' ∧ w'.ownsRow M 35 4 v' n css ∧ W.grownBy w' v.ownBlock ∧ (v'.ownBlock = v.ownBlock ∨ ∀ k, v'.ownBlock = some k → W.heap.size ≤ k)
set_option maxRecDepth 100000 in
set_option maxHeartbeats 4000000 in
/-- At the end. -/
theorem insn_end (M : Nat) (v : Value) (n : Nat) (css : List Value) (vb : Nat) (c : List Value) (w : World) (hown : w.ownsRow M 35 4 v n css) (hn : n ≤ 100000000) (hM : M ≤ w.heap.size) (hv : At w vb c 35) (hc : c.length = 4) (h1 : ∀ u ∈ c, u.oneCell' = true) :
    Calls Tryz.prog 170 #[v, .int .i64 n, .slice (some ⟨vb, 0, none⟩) 1 1] w (InsP w M v (n + 1) (css ++ c)) := by
  have hr : RowA w w.heap.size 4 (some ⟨vb, 0, none⟩) 1 1 c := rowq_box hv 1 4 (by rw [hc]) (by omega) h1
  have Hown := Lib.hid hown; have Hr := Lib.hid hr
  rcases hown.2 with ⟨rfl, rfl⟩ | ⟨g, cap, cur, rfl, hb, hg, hnc, hcm, hcs, htake⟩
  · clear hown hr
    go_enter Tryz.func170, Tryz.ntmps170
    go_wp2_with (at_builtin; refine wpList_app2 rfl _ _ 33 rfl M 35 _ 4 80 Tryz.underlying33 info_nodeC rfl (by decide) _ 0 css rfl Hown.out _ 1 1 w.heap.size c rfl Hr.out (by unfold maxLen; omega) (by omega) hM ?_; intro v' w' ho hgr hw; have Ho := Lib.hid (show w'.ownsRow M 35 4 v' (0 + 1) (css ++ c) ∧ _ ∧ _ from ⟨ho, hgr, hw⟩); clear ho hgr hw)
    go_ret
    exact ⟨_, rfl, Ho.out.1, Ho.out.2.1, Ho.out.2.2⟩
  · unfold maxLen at hcm
    clear hown hr hb hg hcs htake
    go_enter Tryz.func170, Tryz.ntmps170
    go_wp2_with (at_builtin; refine wpList_app2 rfl _ _ 33 rfl M 35 _ 4 80 Tryz.underlying33 info_nodeC rfl (by decide) _ n css rfl Hown.out _ 1 1 w.heap.size c rfl Hr.out (by unfold maxLen; omega) (by omega) hM ?_; intro v' w' ho hgr hw; have Ho := Lib.hid (show w'.ownsRow M 35 4 v' (n + 1) (css ++ c) ∧ _ ∧ _ from ⟨ho, hgr, hw⟩); clear ho hgr hw)
    all_goals go_ret
    all_goals exact ⟨_, rfl, Ho.out.1, Ho.out.2.1, Ho.out.2.2⟩
theorem size_node : (Tryz.prog.info? 35).map (·.size) = some 4 := by kernel_rfl
theorem shape_at {w : World} {N : Nat} {cs : List Value} {T : TypeId} (h : At w N cs T) : w.shape? N = some (T, cs.length) := by
  unfold At at h
  simp [World.shape?, h]
/-- The entry of the model for overlaps: two blocks. -/
theorem over_c (vb g off lb cb : Nat) (c : List Value) (cur : Array Value) (w : World) (hv : At w vb c 35) (hc : c.length = 4) (hg : w.heap[g]? = some (.cells cur 35 (0, 0))) (hcs : cur.size ≠ 0) (hne : vb ≠ g) :
    (callFunc 220 #[.slice (some ⟨vb, 0, none⟩) 1 1, .slice (some ⟨g, off, none⟩) lb cb]).run Tryz.prog w = .ok (.value (.bool false)) w := by
  rw [run_callFunc_extern Tryz.func220 (by kernel_rfl) (by kernel_rfl) (by kernel_rfl) (e := Extern.SlicesOverlaps.overlaps #[33, 33] #[4]) (by kernel_rfl),
    Lib.run_overlaps_apart w 33 4 35 Tryz.underlying33 4 (by intro w; kernel_rfl) ⟨vb, 0, none⟩ ⟨g, off, none⟩ 1 1 lb cb hne 35 35 4 cur.size (by rw [shape_at hv, hc]) (by simp [World.shape?, hg]) hcs (Lib.frozen_of_heap hv _) (Lib.frozen_of_heap hv _)]
  rfl
set_option maxRecDepth 100000 in
set_option maxHeartbeats 4000000 in
/-- Ahead of the end, there is room. -/
theorem insn_shift (M g n cap i : Nat) (cur : Array Value) (vb : Nat) (c : List Value) (w : World) (hM : M ≤ g) (hg : w.heap[g]? = some (.cells cur 35 (0, 0))) (hroom : n + 1 ≤ cap) (hcm : cap ≤ maxLen) (hcs : cur.size = cap * 4) (h1c : ∀ u ∈ cur.toList.take (n * 4), u.oneCell' = true)
    (hi : i < n) (hn : n ≤ 100000000) (hv : At w vb c 35) (hc : c.length = 4) (h1 : ∀ u ∈ c, u.oneCell' = true) (hne : vb ≠ g) :
    Calls Tryz.prog 170 #[.slice (some ⟨g, 0, none⟩) n cap, .int .i64 i, .slice (some ⟨vb, 0, none⟩) 1 1] w fun e w' => e = .returned (.slice (some ⟨g, 0, none⟩) (n + 1) cap) ∧ w' = (w.drew.setCells g ((i + 1) * 4) ((cur.toList.take (n * 4)).drop (i * 4))).setCells g (i * 4) c := by
  unfold maxLen at hcm
  have hz2 : ¬ ((i : Int) = (n : Int)) := by omega
  have hov := fun lb cb => over_c vb g ((i + 1) * 4) lb cb c cur w hv hc hg (by omega) hne
  have hcell : ∀ j u, cur[j]? = some u → w.cell? ⟨g, j, none⟩ = some u := fun j u hj => by rw [cell_of_row _ _ _ _ _ _ hg]; exact hj
  have hsome : ∀ j, j < cap * 4 → (w.cell? ⟨g, j, none⟩).isSome = true := fun j hj => by rw [cell_of_row _ _ _ _ _ _ hg, Array.getElem?_eq_getElem (by omega)]; rfl
  have hfz : ∀ j, w.frozen? ⟨g, j, none⟩ = false := fun j => Lib.frozen_of_heap hg _
  obtain ⟨D, hD⟩ : ∃ D, D = (cur.toList.take (n * 4)).drop (i * 4) := ⟨_, rfl⟩
  have hdl : D.length = (n - i) * 4 := by rw [hD]; simp; omega
  have hDat : ∀ j u, D[j]? = some u → cur[i * 4 + j]? = some u := fun j u hj => by
    rw [hD, List.getElem?_drop] at hj
    rw [List.getElem?_take] at hj
    split at hj
    · simpa using hj
    · cases hj
  have hD1 : ∀ u ∈ D, u.oneCell' = true := fun u hu => h1c u (by rw [hD] at hu; exact List.mem_of_mem_drop hu)
  rw [← hD]
  have hcp1 : ∀ ty dc sc, (Builtin.copy_ #[33, 33] ty #[.slice (some ⟨g, (i + 1) * 4, none⟩) (n - i) dc, .slice (some ⟨g, i * 4, none⟩) (n + 1 - i) sc]).run Tryz.prog w.drew = .ok (goInt (Nat.min (n + 1 - i) (n - i))) (w.drew.setCells g ((i + 1) * 4) D) := fun ty dc sc =>
    run_copy_k w.drew _ _ ty 35 4 g ((i + 1) * 4) (n - i) dc ⟨g, i * 4, none⟩ (n + 1 - i) sc D Tryz.underlying33 size_node (by rw [hdl]; simp only [Nat.min_def]; split <;> omega)
      (fun j u hj => by rw [Addr.add_lit]; exact hcell _ _ (hDat j u hj)) (fun j hj => hsome _ (by rw [hdl] at hj; omega)) (fun j hj => hfz _) hD1
  obtain ⟨W1, hW1⟩ : ∃ W1, W1 = w.drew.setCells g ((i + 1) * 4) D := ⟨_, rfl⟩
  have hsp1 : ∀ k, k < cap * 4 → (W1.cell? ⟨g, k, none⟩).isSome = true := fun k hk => by
    rw [hW1]
    exact isSome_setCells g D _ w.drew (fun j hj => hsome ((i + 1) * 4 + j) (by rw [hdl] at hj; omega)) _ (hsome k hk)
  have hcp2 : ∀ (W : World), (∀ x, W.cell? x = W1.cell? x) → (∀ x, W.frozen? x = W1.frozen? x) → ∀ ty dc, (Builtin.copy_ #[33, 33] ty #[.slice (some ⟨g, i * 4, none⟩) (n + 1 - i) dc, .slice (some ⟨vb, 0, none⟩) 1 1]).run Tryz.prog W = .ok (goInt (Nat.min 1 (n + 1 - i))) (W.setCells g (i * 4) c) := fun W hWc hWf ty dc =>
    run_copy_k W _ _ ty 35 4 g (i * 4) (n + 1 - i) dc ⟨vb, 0, none⟩ 1 1 c Tryz.underlying33 size_node (by rw [hc]; simp only [Nat.min_def]; split <;> omega)
      (fun j u hj => by
        rw [Addr.add_lit, hWc, hW1, World.cell?_setCells_out g _ _ _ _ (fun h _ => absurd h hne), Nat.zero_add]
        exact hv.cell j hj)
      (fun j hj => by rw [hWc]; exact hsp1 _ (by rw [hc] at hj; omega)) (fun j hj => by rw [hWf, hW1, World.frozen?_setCells]; exact hfz _) h1
  rw [← hW1] at hcp1
  have hw1 : IntKind.i64.wrap ((i : Int) + 1) = (i : Int) + 1 := by rw [IntKind.wrap_i64]; omega
  have hw2 : IntKind.i64.wrap ((n : Int) + 1) = (n : Int) + 1 := by rw [IntKind.wrap_i64]; omega
  have hb1 : (0 : Int) ≤ (i : Int) + 1 := by omega
  have hin : i ≤ n := by omega
  have htn : ((i : Int) + 1).toNat = i + 1 := by omega
  have htn2 : ((n : Int) + 1).toNat = n + 1 := by omega
  have hb2 : ¬ (cap = i + 1) := by omega
  have hb3 : (i : Int) ≤ (n : Int) + 1 := by omega
  have hb4 : ¬ (cap = i) := by omega
  have Hcp1 := Lib.hid hcp1; have Hcp2 := Lib.hid hcp2; have HW1 := Lib.hid hW1; have Hov := Lib.hid hov
  clear hcell hsome hfz hdl hDat hD1 hsp1 hcp1 hcp2 hv hg hcs h1c h1 hD hW1 hM hov
  go_enter Tryz.func170, Tryz.ntmps170
  go_wp2_with (simp only [Hov.out])
  go_region_law
    (refine step_copy_k rfl _ _ 33 33 rfl (.slice (some ⟨g, (i + 1) * 4, none⟩) (n - i) (cap - (i + 1))) (.slice (some ⟨g, i * 4, none⟩) (n + 1 - i) (cap - i)) ?_ ?_ (Hcp1.out _ _ _) ?_
     · go_simp
     · go_simp)
  have hcp2 := fun ty dc => Hcp2.out W1 (fun _ => rfl) (fun _ => rfl) ty dc
  go_wp2_with fail
  go_ret
  first | exact ⟨rfl, rfl⟩ | exact ⟨rfl, by rw [HW1.out]⟩
set_option maxRecDepth 100000 in
set_option maxHeartbeats 4000000 in
/-- Ahead of the end, there is no room: a new row. -/
theorem insn_grow (g n cap i : Nat) (cur : Array Value) (vb : Nat) (c : List Value) (w : World) (hg : w.heap[g]? = some (.cells cur 35 (0, 0))) (hnc : n ≤ cap) (hroom : cap < n + 1) (hcs : cur.size = cap * 4) (h1c : ∀ u ∈ cur.toList.take (n * 4), u.oneCell' = true)
    (hi : i < n) (hn : n ≤ 100000000) (hv : At w vb c 35) (hc : c.length = 4) (h1 : ∀ u ∈ c, u.oneCell' = true) :
    Calls Tryz.prog 170 #[.slice (some ⟨g, 0, none⟩) n cap, .int .i64 i, .slice (some ⟨vb, 0, none⟩) 1 1] w fun e w' => ∃ G T, e = .returned (.slice (some ⟨w.heap.size, 0, none⟩) (n + 1) G) ∧ n + 1 ≤ G ∧ G ≤ maxLen ∧ T.length = (G - i) * 4 ∧
      w' = (((w.drew.alloc (.cells (cur.toList.take (i * 4) ++ T).toArray 35)).setCells w.heap.size (i * 4) c).drew).setCells w.heap.size ((i + 1) * 4) ((cur.toList.take (n * 4)).drop (i * 4)) := by
  obtain ⟨i0, hi0, hz0, hzs, hzb⟩ := info_parts info_nodeC
  have hz2 : ¬ ((i : Int) = (n : Int)) := by omega
  have hz3 : (cap : Int) < (n : Int) + 1 := by omega
  have hgw : g < w.heap.size := (Array.getElem?_eq_some_iff.1 hg).1
  have hvw : vb < w.heap.size := At.lt hv
  have hkk : (n : Int) + 1 - (i : Int) = ((n + 1 - i : Nat) : Int) := by omega
  have hik : i + (n + 1 - i) = n + 1 := by omega
  have hcell : ∀ j u, cur[j]? = some u → w.cell? ⟨g, j, none⟩ = some u := fun j u hj => by rw [cell_of_row _ _ _ _ _ _ hg]; exact hj
  have hold : (Builtin.firstCells i0.size i (.slice (some ⟨g, 0, none⟩) i cap)).run Tryz.prog w.drew = .ok (cur.toList.take (i * 4)).toArray w.drew := by
    rw [hzs]
    exact run_firstCells_some w.drew 4 i ⟨g, 0, none⟩ i cap (cur.toList.take (i * 4)) (by rw [List.length_take, Array.length_toList]; omega) (fun j u hj => by
      rw [Addr.add_lit, Nat.zero_add]
      rw [List.getElem?_take] at hj
      split at hj
      · exact hcell j u (by simpa using hj)
      · cases hj)
  obtain ⟨Z, hZ⟩ : ∃ Z, Z = (Value.agg #[.bool false, .slice none 0 0, .slice none 0 0, .slice none 0 0]).cells := ⟨_, rfl⟩
  have hZ4 : Z.size = 4 := by rw [hZ]; rfl
  have hrz : ∀ ty, (Builtin.append_ #[33, 3] ty #[.slice (some ⟨g, 0, none⟩) i cap, .int .i64 ((n : Int) + 1 - (i : Int))]).run Tryz.prog w = .ok (.slice (some ⟨w.heap.size, 0, none⟩) (n + 1) (grownCap w (n + 1) cap 35))
      (w.drew.alloc (.cells ((cur.toList.take (i * 4)).toArray ++ Builtin.zeroCells Z (n + 1 - i) ++ Builtin.zeroCells Z (grownCap w (n + 1) cap 35 - (n + 1))) 35)) := fun ty => by
    have h := Lib.run_append_grow_zeros w 33 3 ty 35 i0 _ .i64 .i64 Tryz.underlying33 Tryz.underlying3 hi0 hz0 (some ⟨g, 0, none⟩) i cap (cur.toList.take (i * 4)) hold (n + 1 - i) (by omega) (by omega) (by omega) (by omega) (by rw [hzb]; omega) (by rw [hzb, hik]; exact growslice_fits (by omega) (by omega))
    rw [hik, ← hZ] at h
    rw [hkk]
    exact h
  obtain ⟨G, hG⟩ : ∃ G, G = grownCap w (n + 1) cap 35 := ⟨_, rfl⟩
  have hGn : n + 1 ≤ G := by rw [hG]; exact grownCap_ge w _ _ _
  have hG63 : G ≤ maxLen := by rw [hG]; exact grownCap_le_maxLen w (n + 1) cap 35 (by unfold maxLen; omega)
  rw [← hG] at hrz
  obtain ⟨T, hT, hTl⟩ : ∃ T : List Value, (cur.toList.take (i * 4)).toArray ++ Builtin.zeroCells Z (n + 1 - i) ++ Builtin.zeroCells Z (G - (n + 1)) = (cur.toList.take (i * 4) ++ T).toArray ∧ T.length = (G - i) * 4 := by
    refine ⟨(Builtin.zeroCells Z (n + 1 - i)).toList ++ (Builtin.zeroCells Z (G - (n + 1))).toList, ?_, ?_⟩
    · apply Array.toList_inj.1; simp
    · simp [Builtin.zeroCells, hZ4]; omega
  rw [hT] at hrz
  obtain ⟨ROW, hROW⟩ : ∃ ROW, ROW = (cur.toList.take (i * 4) ++ T).toArray := ⟨_, rfl⟩
  have hRl : ROW.size = G * 4 := by rw [hROW]; simp [hTl]; omega
  rw [← hROW] at hrz
  obtain ⟨D, hD⟩ : ∃ D, D = (cur.toList.take (n * 4)).drop (i * 4) := ⟨_, rfl⟩
  have hdl : D.length = (n - i) * 4 := by rw [hD]; simp; omega
  have hDat : ∀ j u, D[j]? = some u → cur[i * 4 + j]? = some u := fun j u hj => by
    rw [hD, List.getElem?_drop] at hj
    rw [List.getElem?_take] at hj
    split at hj
    · simpa using hj
    · cases hj
  have hD1 : ∀ u ∈ D, u.oneCell' = true := fun u hu => h1c u (by rw [hD] at hu; exact List.mem_of_mem_drop hu)
  obtain ⟨W1, hW1⟩ : ∃ W1, W1 = w.drew.alloc (.cells ROW 35) := ⟨_, rfl⟩
  have hN : ∀ j, j < G * 4 → (W1.cell? ⟨w.heap.size, j, none⟩).isSome = true := fun j hj => by
    rw [hW1, World.cell?_alloc_at (w := w.drew) ROW _ w.heap.size j rfl, Array.getElem?_eq_getElem (by omega)]; rfl
  have hNf : ∀ j, W1.frozen? ⟨w.heap.size, j, none⟩ = false := fun j => by rw [hW1]; exact World.frozen?_alloc_at (w := w.drew) ROW _ w.heap.size j rfl
  have hOb : ∀ j v, w.cell? ⟨g, j, none⟩ = some v → W1.cell? ⟨g, j, none⟩ = some v := fun j v h => by rw [hW1, World.cell?_alloc_past (w := w.drew) _ g j hgw]; exact h
  have hOv : ∀ j v, w.cell? ⟨vb, j, none⟩ = some v → W1.cell? ⟨vb, j, none⟩ = some v := fun j v h => by rw [hW1, World.cell?_alloc_past (w := w.drew) _ vb j hvw]; exact h
  have hcpA : ∀ ty dc, (Builtin.copy_ #[33, 33] ty #[.slice (some ⟨w.heap.size, i * 4, none⟩) (n + 1 - i) dc, .slice (some ⟨vb, 0, none⟩) 1 1]).run Tryz.prog W1 = .ok (goInt (Nat.min 1 (n + 1 - i))) (W1.setCells w.heap.size (i * 4) c) := fun ty dc =>
    run_copy_k W1 _ _ ty 35 4 w.heap.size (i * 4) (n + 1 - i) dc ⟨vb, 0, none⟩ 1 1 c Tryz.underlying33 size_node (by rw [hc]; simp only [Nat.min_def]; split <;> omega)
      (fun j u hj => by rw [Addr.add_lit, Nat.zero_add]; exact hOv _ u (hv.cell j hj))
      (fun j hj => hN _ (by rw [hc] at hj; omega)) (fun j hj => hNf _) h1
  have hgi : ¬ (G = i) := by omega
  have hgim : ¬ (G = i + 1) := by omega
  have hci : ¬ (cap = i) := by omega
  have hbN : g ≠ w.heap.size := by omega
  obtain ⟨W2, hW2⟩ : ∃ W2, W2 = W1.setCells w.heap.size (i * 4) c := ⟨_, rfl⟩
  have hcpB : ∀ (W : World), (∀ x, W.cell? x = W2.cell? x) → (∀ x, W.frozen? x = W2.frozen? x) → ∀ ty dc sc, (Builtin.copy_ #[33, 33] ty #[.slice (some ⟨w.heap.size, (i + 1) * 4, none⟩) (n - i) dc, .slice (some ⟨g, i * 4, none⟩) (n - i) sc]).run Tryz.prog W = .ok (goInt (Nat.min (n - i) (n - i))) (W.setCells w.heap.size ((i + 1) * 4) D) := fun W hWc hWf ty dc sc =>
    run_copy_k W _ _ ty 35 4 w.heap.size ((i + 1) * 4) (n - i) dc ⟨g, i * 4, none⟩ (n - i) sc D Tryz.underlying33 size_node (by rw [hdl]; simp only [Nat.min_def]; split <;> omega)
      (fun j u hj => by
        rw [Addr.add_lit, hWc, hW2, World.cell?_setCells_out _ _ _ _ _ (fun h _ => absurd h hbN)]
        exact hOb _ u (hcell _ _ (hDat j u hj)))
      (fun j hj => by rw [hWc, hW2]; exact isSome_setCells _ c _ W1 (fun t ht => hN (i * 4 + t) (by rw [hc] at ht; omega)) _ (hN _ (by rw [hdl] at hj; omega)))
      (fun j hj => by rw [hWf, hW2, World.frozen?_setCells]; exact hNf _) hD1
  rw [← hW1] at hrz
  rw [← hW2] at hcpA
  have hw1 : IntKind.i64.wrap ((i : Int) + 1) = (i : Int) + 1 := by rw [IntKind.wrap_i64]; omega
  have hw2 : IntKind.i64.wrap ((n : Int) + 1) = (n : Int) + 1 := by rw [IntKind.wrap_i64]; omega
  have hw3 : IntKind.i64.wrap ((n : Int) + 1 - (i : Int)) = (n : Int) + 1 - (i : Int) := by rw [IntKind.wrap_i64]; omega
  have hb1 : (0 : Int) ≤ (i : Int) + 1 := by omega
  have hin : i ≤ n := by omega
  have htn : ((i : Int) + 1).toNat = i + 1 := by omega
  have hb3 : (i : Int) ≤ (n : Int) := by omega
  have hb5 : (i : Int) ≤ (n : Int) + 1 := by omega
  have Hrz := Lib.hid hrz; have HcpA := Lib.hid hcpA; have HcpB := Lib.hid hcpB; have HW1 := Lib.hid hW1; have HW2 := Lib.hid hW2; have HROW := Lib.hid hROW; have HG63 := Lib.hid hG63; have HTl := Lib.hid hTl
  unfold maxLen at hG63
  clear hkk hik hold hROW hG hRl hcell hrz hT hZ hZ4 hdl hDat hD1 hN hNf hOb hOv hcpA hcpB hW1 hW2 hTl hg hcs h1c hv h1 hz0 hzs hzb hi0
  rw [← hD]
  have HD := Lib.hid hD
  clear hD
  go_enter Tryz.func170, Tryz.ntmps170
  have hcpA := HcpA.out
  go_wp2_with (at_builtin; refine Lib.wpList_append_run _ rfl _ _ _ _ rfl _ _ rfl rfl _ _ (Hrz.out _) ?_)
  go_region_law
    (refine step_copy_k rfl _ _ 33 33 rfl (.slice (some ⟨w.heap.size, (i + 1) * 4, none⟩) (n - i) (G - (i + 1))) (.slice (some ⟨g, i * 4, none⟩) (n - i) (cap - i)) ?_ ?_ (HcpB.out W2.drew (fun _ => rfl) (fun _ => rfl) _ _ _) ?_
     · go_simp
     · go_simp)
  go_wp2_with fail
  go_ret
  refine ⟨G, T, rfl, hGn, HG63.out, HTl.out, ?_⟩
  rw [HW2.out, HW1.out, HROW.out]
/-- A row in its own block, its cells told. -/
theorem own_of_block {w : World} {M g n cap : Nat} {cur : Array Value} {T : TypeId} {xs : List Value} (hM : M ≤ g) (hg : w.heap[g]? = some (.cells cur T (0, 0))) (hnc : n ≤ cap) (hcm : cap ≤ maxLen) (hcs : cur.size = cap * 4) (ht : cur.toList.take (n * 4) = xs) (hl : xs.length = n * 4) : w.ownsRow M T 4 (.slice (some ⟨g, 0, none⟩) n cap) n xs :=
  ⟨hl, .inr ⟨g, cap, cur, rfl, hM, hg, hnc, hcm, hcs, ht⟩⟩
theorem lay_shift {α : Type} (L c D R : List α) (a k : Nat) (hc : c.length = k) (ha : a + k ≤ L.length) : ((L.take (a + k) ++ D ++ R).take a ++ c ++ (L.take (a + k) ++ D ++ R).drop (a + k)).take (a + k + D.length) = L.take a ++ (c ++ D) := by
  have h1 : (L.take (a + k)).length = a + k := by simp; omega
  have h2 : (L.take (a + k) ++ D ++ R).take a = L.take a := by rw [List.append_assoc, List.take_append_of_le_length (by omega), List.take_take, Nat.min_eq_left (by omega)]
  have h3 : (L.take (a + k) ++ D ++ R).drop (a + k) = D ++ R := by rw [List.append_assoc, List.drop_left' h1]
  have h4 : (L.take a ++ (c ++ D)).length = a + k + D.length := by simp; omega
  rw [h2, h3, show L.take a ++ c ++ (D ++ R) = (L.take a ++ (c ++ D)) ++ R by simp, List.take_left' h4]
theorem lay_two {α : Type} (P T c D S S2 : List α) (a k : Nat) (hP : P.length = a) (hc : c.length = k) : ((((P ++ T).take a ++ c ++ S).take (a + k)) ++ D ++ S2).take (a + k + D.length) = P ++ (c ++ D) := by
  have h1 : (P ++ T).take a = P := List.take_left' hP
  have h2 : (P ++ c).length = a + k := by simp; omega
  have h4 : (P ++ (c ++ D)).length = a + k + D.length := by simp; omega
  rw [h1, List.take_left' h2, show P ++ c ++ D ++ S2 = (P ++ (c ++ D)) ++ S2 by simp, List.take_left' h4]
theorem grown_drew {w : World} {r : Option Nat} : w.grownBy w.drew r := grown_of_below (Below.refl _ _).drew
/-- slices.Insert of one node, at a row of a call's own. -/
theorem insn_c (M : Nat) (v : Value) (n i : Nat) (css : List Value) (vb : Nat) (c : List Value) (w : World) (hown : w.ownsRow M 35 4 v n css) (h1c : ∀ u ∈ css, u.oneCell' = true) (hi : i ≤ n) (hn : n ≤ 100000000) (hM : M ≤ w.heap.size)
    (hv : At w vb c 35) (hc : c.length = 4) (h1 : ∀ u ∈ c, u.oneCell' = true) (hne : v.ownBlock ≠ some vb) :
    Calls Tryz.prog 170 #[v, .int .i64 i, .slice (some ⟨vb, 0, none⟩) 1 1] w (InsP w M v (n + 1) (css.take (i * 4) ++ (c ++ css.drop (i * 4)))) := by
  have hcl := hown.1
  by_cases hin : i = n
  · subst hin
    rw [List.take_of_length_le (by omega), List.drop_eq_nil_of_le (by omega), List.append_nil]
    exact insn_end M v i css vb c w hown hn hM hv hc h1
  · have hlt : i < n := by omega
    rcases hown.2 with ⟨rfl, rfl⟩ | ⟨g, cap, cur, rfl, hb, hg, hnc, hcm, hcs, htake⟩
    · omega
    have hob : (Value.slice (some ⟨g, 0, none⟩) n cap).ownBlock = some g := rfl
    have hD : (css.drop (i * 4)).length = (n - i) * 4 := by rw [List.length_drop, hcl, ← Nat.sub_mul]
    have e1 : cur.toList.take (i * 4) = css.take (i * 4) := by rw [← htake, List.take_take, Nat.min_eq_left (by omega)]
    by_cases hroom : n + 1 ≤ cap
    · refine (insn_shift M g n cap i cur vb c w hb hg hroom hcm hcs (by rw [htake]; exact h1c) hlt hn hv hc h1 (fun e => hne (by rw [e]; rfl))).mono ?_
      rintro e w' ⟨rfl, rfl⟩
      rw [htake]
      obtain ⟨c1, g1, g2, g3⟩ := heap_setCells g (css.drop (i * 4)) ((i + 1) * 4) w.drew cur _ _ (show w.drew.heap[g]? = _ from hg) (by rw [hD]; omega)
      obtain ⟨c2, k1, k2, k3⟩ := heap_setCells g c (i * 4) _ c1 _ _ g1 (by rw [hc]; omega)
      refine ⟨_, rfl, own_of_block hb k1 hroom hcm (by omega) ?_ ?_, (show w.grownBy ((w.drew.setCells g ((i + 1) * 4) (css.drop (i * 4))).setCells g (i * 4) c) (some g) from (grown_drew.trans (grown_setCells _ _ _)).trans (grown_setCells _ _ _)), .inl rfl⟩
      · rw [k3, g3, ← e1, hc]
        have h := lay_shift cur.toList c (css.drop (i * 4)) (cur.toList.drop ((i + 1) * 4 + (css.drop (i * 4)).length)) (i * 4) 4 hc (by rw [Array.length_toList]; omega)
        rw [hD] at h ⊢
        rw [show i * 4 + 4 + (n - i) * 4 = (n + 1) * 4 by omega, show i * 4 + 4 = (i + 1) * 4 by omega] at h
        rw [show i * 4 + 4 = (i + 1) * 4 by omega]
        exact h
      · simp only [List.length_append, hc, hD, List.length_take, hcl]; omega
    · refine (insn_grow g n cap i cur vb c w hg hnc (by omega) hcs (by rw [htake]; exact h1c) hlt hn hv hc h1).mono ?_
      rintro e w' ⟨G, T, rfl, hG, hGm, hT, rfl⟩
      rw [htake, e1]
      have htl : (css.take (i * 4)).length = i * 4 := by rw [List.length_take]; omega
      obtain ⟨c1, g1, g2, g3⟩ := heap_setCells w.heap.size c (i * 4) (w.drew.alloc (.cells (css.take (i * 4) ++ T).toArray 35)) (css.take (i * 4) ++ T).toArray _ _ (heap_alloc_new w.drew _) (by simp [htl, hT, hc]; omega)
      have hcz : c1.size = G * 4 := by rw [g2]; simp [htl, hT]; omega
      obtain ⟨c2, k1, k2, k3⟩ := heap_setCells w.heap.size (css.drop (i * 4)) ((i + 1) * 4) ((w.drew.alloc (.cells (css.take (i * 4) ++ T).toArray 35)).setCells w.heap.size (i * 4) c).drew c1 _ _ g1 (by rw [hD, hcz]; omega)
      refine ⟨_, rfl, own_of_block hM k1 hG hGm (by omega) ?_ ?_, ?_, .inr fun k hk => ?_⟩
      · rw [k3, g3, List.toList_toArray]
        have h := lay_two (css.take (i * 4)) T c (css.drop (i * 4)) ((css.take (i * 4) ++ T).drop (i * 4 + c.length)) (c1.toList.drop ((i + 1) * 4 + (css.drop (i * 4)).length)) (i * 4) 4 htl hc
        rw [g3, List.toList_toArray] at h
        rw [hD] at h ⊢
        rw [show i * 4 + 4 + (n - i) * 4 = (n + 1) * 4 by omega, show i * 4 + 4 = (i + 1) * 4 by omega] at h
        exact h
      · simp only [List.length_append, hc, hD, List.length_take, hcl]; omega
      · refine grown_of_below ?_
        have hb1 : Below w.heap.size w (w.drew.alloc (.cells (css.take (i * 4) ++ T).toArray 35)) := (Below.refl _ _).drew.alloc (Nat.le_refl _) _
        have hb2 := hb1.grown (grown_setCells c (i * 4) _) hb1.size (fun k e => by cases e; exact Nat.le_refl _)
        exact (hb2.drew).grown (grown_setCells _ _ _) hb2.size (fun k e => by cases e; exact Nat.le_refl _)
      · simp [Value.ownBlock] at hk; omega
end Go.Proofs.YtaopoincbigjhaaGreatDoor
/- Walks: slices.Delete of one at rows of nodes. -/
namespace Go.Proofs.YtaopoincbigjhaaGreatDoor
open Go.RowKit Go.Redl Go.Lib
set_option linter.unusedVariables false
set_option linter.unusedSimpArgs false

theorem deln_ent : ∀ args w, (callFunc 168 args).run Tryz.prog w = .ok (.enter 168 args) w := by intro args w; kernel_rfl
theorem step_append_run {P : Program} {ops : Array Oper} {o : Oper} {a : Act} {w : World} {K : Act → World → Prop} {Q : Exit → Act → World → Prop} {E : Prop}
    (hg : o.guard = none) (d x : Operand) (dT sT : TypeId) (hop : o.op = Op.call { callee := Callee.builtin Builtin.append, args := #[d, x], argTypes := #[dT, sT] })
    (v u : Value) (hd : a.eval d = v) (hx : a.eval x = u) {v' : Value} {w' : World} (hr : (Builtin.append_ #[dT, sT] o.type #[v, u]).run P w = .ok v' w') (hK : K (a.put o.dst v') w') :
    if Region.wanted o (yielded ops a.tmps) = true then Oper.wp P o a w K Q else E := by
  have hw : Region.wanted o (yielded ops a.tmps) = true := by simp [Region.wanted, hg]
  rw [if_pos hw]
  unfold Oper.wp
  simp [execOp, hop, resolve, invoke, builtin, hd, hx, hr, Result.andThen]
  exact hK
theorem run_clear_k {P : Program} (w : World) (t e ty : TypeId) (z : Value) (Z : List Value) (ht : P.underlying t = some (.slice e)) (hv : ∀ w, (zeroValue e).run P w = .ok z w) (hZ : (Builtin.zeroCells z.cells 1).toList = Z) (h1 : ∀ u ∈ Z, u.oneCell' = true) (b o c : Nat)
    (hc : ∀ j, j < Z.length → (w.cell? ⟨b, o + j, none⟩).isSome = true) (hf : ∀ j, j < Z.length → w.frozen? ⟨b, o + j, none⟩ = false) :
    (Builtin.clear_ #[t] ty #[.slice (some ⟨b, o, none⟩) 1 c]).run P w = .ok (.tuple #[]) (w.setCells b o Z) := by
  have hst := run_storeCells_cells (P := P) b o Z 0 w (by simpa using hc) (by simpa using hf) h1
  simp only [Nat.add_zero] at hst
  simp [Builtin.clear_, run_underlying ht, hv, hZ, hst]
abbrev zero4 : List Value := [.bool false, .slice none 0 0, .slice none 0 0, .slice none 0 0]
theorem zero_node : ∀ w : World, (zeroValue 35).run Tryz.prog w = .ok (.agg #[.bool false, .slice none 0 0, .slice none 0 0, .slice none 0 0]) w := fun w => by kernel_rfl
set_option maxRecDepth 100000 in
set_option maxHeartbeats 4000000 in
theorem deln_mid (M g n cap i : Nat) (cur : Array Value) (w : World) (hM : M ≤ g) (hg : w.heap[g]? = some (.cells cur 35 (0, 0))) (hnc : n ≤ cap) (hcm : cap ≤ maxLen) (hcs : cur.size = cap * 4) (h1c : ∀ u ∈ cur.toList.take (n * 4), u.oneCell' = true)
    (hi : i + 1 ≤ n) (hn : n ≤ 100000000) :
    Calls Tryz.prog 168 #[.slice (some ⟨g, 0, none⟩) n cap, .int .i64 i, .int .i64 ((i + 1 : Nat) : Int)] w fun e w' => e = .returned (.slice (some ⟨g, 0, none⟩) (n - 1) cap) ∧ w' = (w.drew.setCells g (i * 4) ((cur.toList.take (n * 4)).drop ((i + 1) * 4))).setCells g ((n - 1) * 4) zero4 := by
  unfold maxLen at hcm
  obtain ⟨i0, hi0, hz0, hzs, hzb⟩ := info_parts info_nodeC
  have hcell : ∀ j u, cur[j]? = some u → w.cell? ⟨g, j, none⟩ = some u := fun j u hj => by rw [cell_of_row _ _ _ _ _ _ hg]; exact hj
  have hsome : ∀ j, j < cap * 4 → (w.cell? ⟨g, j, none⟩).isSome = true := fun j hj => by rw [cell_of_row _ _ _ _ _ _ hg, Array.getElem?_eq_getElem (by omega)]; rfl
  have hfz : ∀ j, w.frozen? ⟨g, j, none⟩ = false := fun j => Lib.frozen_of_heap hg _
  obtain ⟨D, hD⟩ : ∃ D, D = (cur.toList.take (n * 4)).drop ((i + 1) * 4) := ⟨_, rfl⟩
  have hdl : D.length = (n - (i + 1)) * 4 := by rw [hD]; simp; omega
  have hDat : ∀ j u, D[j]? = some u → cur[(i + 1) * 4 + j]? = some u := fun j u hj => by
    rw [hD, List.getElem?_drop] at hj
    rw [List.getElem?_take] at hj
    split at hj
    · simpa using hj
    · cases hj
  have hD1 : ∀ u ∈ D, u.oneCell' = true := fun u hu => h1c u (by rw [hD] at hu; exact List.mem_of_mem_drop hu)
  rw [← hD]
  have hap : ∀ (ty : TypeId) (a : Option Addr) (c : Nat), (n - (i + 1) ≠ 0 → a = some ⟨g, (i + 1) * 4, none⟩) → (a = none → c = 0) → (Builtin.append_ #[33, 33] ty #[.slice (some ⟨g, 0, none⟩) i cap, .slice a (n - (i + 1)) c]).run Tryz.prog w.drew = .ok (.slice (some ⟨g, 0, none⟩) (n - 1) cap) (w.drew.setCells g (i * 4) D) := fun ty a c ha ha2 => by
    have hs : Src Tryz.prog i0.size 33 (.slice a (n - (i + 1)) c) (n - (i + 1)) D w.drew := by
      rw [hzs]
      cases a with
      | none =>
        have h0 : n - (i + 1) = 0 := Classical.byContradiction fun h => by cases ha h
        have hd0 : D = [] := List.eq_nil_of_length_eq_zero (by rw [hdl, h0])
        rw [h0, hd0]
        exact Src.ofNil _ Tryz.underlying33 c
      | some a =>
        refine Src.ofSlice _ Tryz.underlying33 a _ c D hdl (fun j u hj => ?_) hD1
        have hne : n - (i + 1) ≠ 0 := fun h0 => by
          have hd0 : D = [] := List.eq_nil_of_length_eq_zero (by rw [hdl, h0])
          rw [hd0] at hj; cases hj
        obtain rfl := Option.some.inj (ha hne)
        rw [Addr.add_lit]
        exact hcell _ _ (hDat j u hj)
    have h := run_append_room_src w.drew 33 33 ty 35 i0 Tryz.underlying33 hi0 g 0 i cap _ (n - (i + 1)) D hs (by omega) (fun j hj => by rw [hzs, Nat.zero_add]; exact hsome _ (by rw [hdl] at hj; omega)) (fun j hj => by rw [hzs, Nat.zero_add]; exact hfz _)
    rw [hzs, Nat.zero_add, show i + (n - (i + 1)) = n - 1 by omega] at h
    exact h
  obtain ⟨W1, hW1⟩ : ∃ W1, W1 = w.drew.setCells g (i * 4) D := ⟨_, rfl⟩
  have hcl : ∀ ty c, (Builtin.clear_ #[33] ty #[.slice (some ⟨g, (n - 1) * 4, none⟩) 1 c]).run Tryz.prog W1 = .ok (.tuple #[]) (W1.setCells g ((n - 1) * 4) zero4) := fun ty c =>
    run_clear_k W1 33 35 ty _ zero4 Tryz.underlying33 zero_node (by kernel_rfl) (by intro u hu; simp only [List.mem_cons, List.not_mem_nil, or_false] at hu; rcases hu with rfl | rfl | rfl | rfl <;> rfl) g ((n - 1) * 4) c
      (fun j hj => by rw [hW1]; exact isSome_setCells g D _ w.drew (fun t ht => hsome (i * 4 + t) (by rw [hdl] at ht; omega)) _ (hsome ((n - 1) * 4 + j) (by simp at hj; omega))) (fun j hj => by rw [hW1, World.frozen?_setCells]; exact hfz _)
  rw [← hW1] at hap
  have h0 : (0 : Int) ≤ (i : Int) + 1 := by omega
  have h1 : ¬ ((i : Int) = (i : Int) + 1) := by omega
  have h2 : (i : Int) ≤ (i : Int) + 1 := by omega
  have h3 : (i : Int) + 1 ≤ (n : Int) := by omega
  have h4 : ((n : Int) - 1) = ((n - 1 : Nat) : Int) := by omega
  have h5 : ((n - 1 : Nat) : Int) ≤ (n : Int) := by omega
  have h6 : n - (n - 1) = 1 := by omega
  have h7 : (i : Int) ≤ (cap : Int) := by omega
  have h8 : (n : Int) ≤ (cap : Int) := by omega
  have h9 : ¬ (cap = n - 1) := by omega
  have Hap := Lib.hid hap; have Hcl := Lib.hid hcl; have HW1 := Lib.hid hW1
  clear hcell hsome hfz hdl hDat hD1 hap hg hcs h1c hW1 hD hM hi0 hz0 hzs hzb
  by_cases hce : cap = i + 1
  · obtain rfl : n = i + 1 := by omega
    subst hce
    have hap0 := fun ty => Hap.out ty (some ⟨g, 0, none⟩) 0 (fun h => by omega) (fun h => by cases h)
    simp only [Nat.sub_self, Nat.add_sub_cancel] at hap0
    go_enter Tryz.func168, Tryz.ntmps168
    go_wp2_with fail
    go_region_law
      (refine step_append_run rfl _ _ 33 33 rfl (.slice (some ⟨g, 0, none⟩) i (i + 1)) (.slice (some ⟨g, 0, none⟩) 0 0) ?_ ?_ (hap0 _) ?_
       · go_simp
       · go_simp)
    have hcl := Hcl.out
    simp only [Nat.add_sub_cancel] at hcl
    go_wp2_with fail
    go_ret
    exact ⟨rfl, by rw [HW1.out]; rfl⟩
  · have hce2 : ¬ (cap = i + 1) := hce
    go_enter Tryz.func168, Tryz.ntmps168
    go_wp2_with fail
    go_region_law
      (refine step_append_run rfl _ _ 33 33 rfl (.slice (some ⟨g, 0, none⟩) i cap) (.slice (some ⟨g, (i + 1) * 4, none⟩) (n - (i + 1)) (cap - (i + 1))) ?_ ?_ (Hap.out _ _ _ (fun _ => rfl) (fun h => by cases h)) ?_
       · go_simp
       · go_simp)
    have hcl := Hcl.out
    go_wp2_with fail
    go_ret
    exact ⟨rfl, by rw [HW1.out]⟩
theorem lay_del {α : Type} (P D R S : List α) (a k : Nat) (hP : P.length = a) (hk : a + D.length = k) : (((P ++ D ++ R).take k) ++ S).take k = P ++ D := by
  have h1 : (P ++ D).length = k := by simp; omega
  rw [List.take_left' h1, List.take_left' h1]
/-- slices.Delete of one node, at a row of a call's own. -/
theorem deln_c (M : Nat) (v : Value) (n i : Nat) (css : List Value) (w : World) (hown : w.ownsRow M 35 4 v n css) (h1c : ∀ u ∈ css, u.oneCell' = true) (hi : i < n) (hn : n ≤ 100000000) :
    Calls Tryz.prog 168 #[v, .int .i64 i, .int .i64 ((i + 1 : Nat) : Int)] w (InsP w M v (n - 1) (css.take (i * 4) ++ css.drop ((i + 1) * 4))) := by
  have hcl := hown.1
  rcases hown.2 with ⟨rfl, rfl⟩ | ⟨g, cap, cur, rfl, hb, hg, hnc, hcm, hcs, htake⟩
  · omega
  have hD : (css.drop ((i + 1) * 4)).length = (n - (i + 1)) * 4 := by rw [List.length_drop, hcl, ← Nat.sub_mul]
  have e1 : cur.toList.take (i * 4) = css.take (i * 4) := by rw [← htake, List.take_take, Nat.min_eq_left (by omega)]
  have htl : (css.take (i * 4)).length = i * 4 := by rw [List.length_take]; omega
  refine (deln_mid M g n cap i cur w hb hg hnc hcm hcs (by rw [htake]; exact h1c) hi hn).mono ?_
  rintro e w' ⟨rfl, rfl⟩
  rw [htake]
  obtain ⟨c1, g1, g2, g3⟩ := heap_setCells g (css.drop ((i + 1) * 4)) (i * 4) w.drew cur _ _ (show w.drew.heap[g]? = _ from hg) (by rw [hD]; omega)
  obtain ⟨c2, k1, k2, k3⟩ := heap_setCells g zero4 ((n - 1) * 4) _ c1 _ _ g1 (by simp; omega)
  refine ⟨_, rfl, own_of_block hb k1 (by omega) hcm (by omega) ?_ ?_, (show w.grownBy ((w.drew.setCells g (i * 4) (css.drop ((i + 1) * 4))).setCells g ((n - 1) * 4) zero4) (some g) from (grown_drew.trans (grown_setCells _ _ _)).trans (grown_setCells _ _ _)), .inl rfl⟩
  · rw [k3, g3, e1, List.append_assoc]
    exact lay_del _ _ _ _ (i * 4) _ htl (by rw [hD]; omega)
  · rw [List.length_append, htl, hD]; omega
end Go.Proofs.YtaopoincbigjhaaGreatDoor
/- Walks: node.Type, table's typed, ActOf, RuleOf. -/
namespace Go.Proofs.YtaopoincbigjhaaGreatDoor
open Go.RowKit Go.Redl
set_option linter.unusedVariables false

theorem At.second (W : World) (o : Obj) (cs : List Value) (T : TypeId) : At ((W.alloc o).alloc (.cells cs.toArray T)) (W.heap.size + 1) cs T := by
  have h := At.fresh (W.alloc o) cs T
  rwa [show (W.alloc o).heap.size = W.heap.size + 1 by simp] at h
theorem At.third (W : World) (o o' : Obj) (cs : List Value) (T : TypeId) : At (((W.alloc o).alloc o').alloc (.cells cs.toArray T)) (W.heap.size + 1 + 1) cs T := by
  have h := At.second (W.alloc o) o' cs T
  rwa [show (W.alloc o).heap.size = W.heap.size + 1 by simp] at h
theorem At.fourth (W : World) (o o' o'' : Obj) (cs : List Value) (T : TypeId) : At ((((W.alloc o).alloc o').alloc o'').alloc (.cells cs.toArray T)) (W.heap.size + 1 + 1 + 1) cs T := by
  have h := At.third (W.alloc o) o' o'' cs T
  rwa [show (W.alloc o).heap.size = W.heap.size + 1 by simp] at h
theorem two_below (W : World) (o o' : Obj) : Below W.heap.size W ((W.alloc o).alloc o') := ((Below.refl _ _).alloc (Nat.le_refl _) o).alloc (by simp) o'
theorem three_below (W : World) (o o' o'' : Obj) : Below W.heap.size W (((W.alloc o).alloc o').alloc o'') := (two_below W o o').alloc (by simp; omega) o''
theorem four_below (W : World) (o o' o'' o3 : Obj) : Below W.heap.size W ((((W.alloc o).alloc o').alloc o'').alloc o3) := (three_below W o o' o'').alloc (by simp; omega) o3
set_option maxRecDepth 100000 in
set_option maxHeartbeats 1000000 in
theorem type_c (n : NodeD) (v : Value) (W : World) (hn : n.wt ≤ 100000000) (hv : NodeV W W.heap.size n v) : Calls Tryz.prog 49 #[v] W fun e w' => e = .returned (strV (typeN n)) ∧ Below W.heap.size W w' := by
  have hv0 := hv
  obtain ⟨lf, ps, t, ks⟩ := n
  obtain ⟨ap, cp, at_, ct, ak, ck, css, rfl, hp, -, -, -⟩ := hv0.open
  have hpl : ps.length ≤ 100000000 := by have := propsWt_len ps; simp only [NodeD.wt] at hn; omega
  have hb0 := one_below W (Obj.cells #[.bool lf, .slice ap ps.length cp, .slice at_ t.length ct, .slice ak ks.length ck] 35)
  have HG := Lib.hid (pget_c ps ap cp typeB _ (hp.keep hb0 hb0.size) hpl)
  have Hb0 := Lib.hid hb0
  cases lf with
  | true =>
    have HT : Hid (typeN (.mk true ps t ks) = []) := rfl
    clear hv hv0 hp hb0 hn HG
    go_enter Tryz.func49, Tryz.ntmps49
    go_wp2_with fail
    go_ret
    rw [HT.out]
    exact ⟨rfl, Hb0.out⟩
  | false =>
    have HT : Hid (typeN (.mk false ps t ks) = (getP ps typeB).getD []) := rfl
    clear hv hv0 hp hb0 hn
    go_enter Tryz.func49, Tryz.ntmps49
    go_wp2_with fail
    refine HG.out.mono ?_
    rintro e w1 ⟨rfl, hbel⟩
    have Hb1 := Lib.hid (Hb0.out.trans (hbel.mono Hb0.out.size))
    clear hbel HG
    go_wp2_with fail
    go_ret
    rw [HT.out]
    exact ⟨rfl, Hb1.out⟩
theorem type_ent : ∀ args w, (callFunc 49 args).run Tryz.prog w = .ok (.enter 49 args) w := by intro args w; kernel_rfl
theorem actIn_some {r : RuleD} {k : List UInt8} {j : Nat} (hj : j < r.kids.length) (h : r.kids[j].1 = k) (hb : ∀ i (hi : i < j), (r.kids[i]'(by omega)).1 ≠ k) : actIn r k = r.kids[j].2 := by
  unfold actIn
  rw [find_idx (q := fun p => decide (p.1 = k)) hj (by simpa using h) (fun i hi => by simpa using hb i hi)]
  rfl
theorem actIn_none {r : RuleD} {k : List UInt8} (hb : ∀ i (hi : i < r.kids.length), r.kids[i].1 ≠ k) : actIn r k = r.other := by
  unfold actIn
  rw [find_none (fun i hi => by simpa using hb i hi)]
  rfl
set_option maxRecDepth 100000 in
theorem typed1_c (K : List UInt8) (d : Int) (t k : List UInt8) (N : Nat) (W : World) (hN : W.cell? ⟨N, 0, none⟩ = some (strV k)) :
    Calls Tryz.prog 150 #[.agg #[strV K, .int .i64 d, strV t], .pointer (some ⟨N, 0, none⟩)] W fun e w' => e = .returned (.bool (decide (K = k))) ∧ Below W.heap.size W w' := by
  have hlt := World.block_lt_of_cell? W _ hN
  have Hb := Lib.hid (one_below W (Obj.cells #[strV K, .int .i64 d, strV t] 129))
  go_enter Tryz.func150, Tryz.ntmps150
  go_wp2_with fail
  go_ret
  exact ⟨ret_bool (beq_dec _ _), Hb.out⟩
theorem typed1_ent : ∀ args w, (callFunc 150 args).run Tryz.prog w = .ok (.enter 150 args) w := by intro args w; kernel_rfl
theorem typed_ent : ∀ args w, (callFunc 89 args).run Tryz.prog w = .ok (.enter 89 args) w := by intro args w; kernel_rfl
abbrev ActP (W : World) (a : ActD) (e : Ending) (w' : World) : Prop := e = .returned (.agg #[.int .i64 a.1, strV a.2]) ∧ Below W.heap.size W w'
set_option maxRecDepth 100000 in
set_option maxHeartbeats 1000000 in
theorem typed_c (r : RuleD) (a : Option Addr) (c : Nat) (k : List UInt8) (W : World) (hr : RowA W W.heap.size 3 a r.kids.length c (pairCells r.kids)) (hn : r.kids.length ≤ 100000000) :
    Calls Tryz.prog 89 #[.agg (ruleCells r a c).toArray, strV k] W (ActP W (actIn r k)) := by
  have hs1 := fun (j : Nat) (hj : j < r.kids.length) h hb => actIn_some (r := r) (k := k) (j := j) hj h hb
  have hs2 := fun hb => actIn_none (r := r) (k := k) hb
  obtain ⟨R, hR⟩ : ∃ R, R = actIn r k := ⟨_, rfl⟩
  rw [← hR]
  rw [← hR] at hs1 hs2
  obtain ⟨ty, ⟨td, tt⟩, ⟨od, ot⟩, kids, fill, ft⟩ := r
  simp only at hr hn hs1 hs2
  have hcells : (ruleCells ⟨ty, (td, tt), (od, ot), kids, fill, ft⟩ a c).toArray = #[strV ty, .int .i64 td, strV tt, .int .i64 od, strV ot, .slice a kids.length c, .int .i64 fill, strV ft] := rfl
  rw [hcells]
  obtain ⟨w0, hw0⟩ : ∃ w0, w0 = (((W.alloc (Obj.cells #[strV ty, .int .i64 td, strV tt, .int .i64 od, strV ot, .slice a kids.length c, .int .i64 fill, strV ft] 27)).alloc (Obj.cells #[strV k] 9)).alloc (Obj.cells #[.int .i64 0, strV []] 24)) := ⟨_, rfl⟩
  have hb0 : Below W.heap.size W w0 := by rw [hw0]; exact three_below _ _ _ _
  have hA : At w0 W.heap.size [strV ty, .int .i64 td, strV tt, .int .i64 od, strV ot, .slice a kids.length c, .int .i64 fill, strV ft] 27 := by rw [hw0]; exact ((At.fresh W _ _).alloc _).alloc _
  have hK : At w0 (W.heap.size + 1) [strV k] 9 := by rw [hw0]; exact (At.second W _ _ _).alloc _
  have hX : At w0 (W.heap.size + 1 + 1) [.int .i64 0, strV []] 24 := by rw [hw0]; exact At.third W _ _ _ _
  have hr0 := hr.keep hb0 hb0.size
  have hgd : ∀ j (hj : j < kids.length), kids.getD j ([], 0, []) = kids[j] := fun j hj => by simp [List.getD, List.getElem?_eq_getElem hj]
  have HI := Lib.hid (idx_pair kids.length a c 150 #[.pointer (some ⟨W.heap.size + 1, 0, none⟩)] (fun j => decide ((kids.getD j ([], 0, [])).1 = k)) w0 hn typed1_ent (fun j W' hj hb => by
    obtain ⟨b, off, ha, -, h0, h1, h2⟩ := (hr0.keep hb hb.size).pair_at j hj
    refine ⟨b, off, _, _, _, ha, h0, h1, h2, ?_⟩
    rw [hgd j hj]
    exact typed1_c kids[j].1 kids[j].2.1 kids[j].2.2 k _ W' ((hK.kept hb).cell 0 rfl)))
  have Hr := Lib.hid hr0; have Hb0 := Lib.hid hb0; have HA := Lib.hid hA; have HX := Lib.hid hX
  obtain ⟨⟨x0, x1, x2, x3, x4, x5, x6, x7⟩, -, xl⟩ := hA.f8
  have Hw0 := Lib.hid hw0
  have hcl : W.heap.size ≤ W.heap.size + 1 + 1 := by omega
  rcases idxP_cases (fun j => decide ((kids.getD j ([], 0, [])).1 = k)) kids.length with ⟨j, hj, hp, hmin, he⟩ | ⟨hall, he⟩
  · rw [he] at HI
    have HG := Lib.hid (hs1 j hj (by have h := of_decide_eq_true hp; rw [hgd j hj] at h; exact h) (fun i hi => by have h := of_decide_eq_false (hmin i hi); rw [hgd i (by omega)] at h; exact h))
    have hji : (j : Int) < kids.length := by omega
    clear he hmin hp hr hr0 hb0 hK hA hX hs1 hs2 hR hcells hw0
    go_enter Tryz.func89, Tryz.ntmps89
    go_upto_region 1 with fail
    rw [← Hw0.out]
    clear Hw0
    go_wp2_with fail
    refine HI.out.mono ?_
    rintro e w1 ⟨rfl, hbel⟩
    obtain ⟨b, off, rfl, -, h0, h1, h2⟩ := (Hr.out.keep hbel hbel.size).pair_at j hj
    have Hb1 := Lib.hid (Hb0.out.trans (hbel.mono Hb0.out.size))
    obtain ⟨⟨y0, y1, y2, y3, y4, y5, y6, y7⟩, -, yl⟩ := (HA.out.kept hbel).f8
    obtain ⟨⟨z0, z1⟩, zf, zl⟩ := (HX.out.kept hbel).f2
    generalize kids[j] = q at h0 h1 h2 HG
    obtain ⟨q0, q1, q2⟩ := q
    clear hbel HI x0 x1 x2 x3 x4 x5 x6 x7
    go_wp2_with fail
    refine bodyPost_ret (v := .agg #[.int .i64 q1, strV q2]) (by simp [results, Tryz.results89, go_sem, z0, z1]) rfl ?_
    rw [HG.out]
    exact ⟨rfl, below_s2 Hb1.out hcl _ _⟩
  · rw [he] at HI
    have HG := Lib.hid (hs2 (fun i hi => by have h := of_decide_eq_false (hall i hi); rw [hgd i hi] at h; exact h))
    clear he hall hr hr0 hb0 hK hA hX hs1 hs2 hR hcells hw0
    go_enter Tryz.func89, Tryz.ntmps89
    go_upto_region 1 with fail
    rw [← Hw0.out]
    clear Hw0
    go_wp2_with fail
    refine HI.out.mono ?_
    rintro e w1 ⟨rfl, hbel⟩
    have Hb1 := Lib.hid (Hb0.out.trans (hbel.mono Hb0.out.size))
    obtain ⟨⟨y0, y1, y2, y3, y4, y5, y6, y7⟩, -, yl⟩ := (HA.out.kept hbel).f8
    obtain ⟨⟨z0, z1⟩, zf, zl⟩ := (HX.out.kept hbel).f2
    clear hbel HI x0 x1 x2 x3 x4 x5 x6 x7
    go_wp2_with fail
    refine bodyPost_ret (v := .agg #[.int .i64 od, strV ot]) (by simp [results, Tryz.results89, go_sem, z0, z1]) rfl ?_
    rw [HG.out]
    exact ⟨rfl, below_s2 Hb1.out hcl _ _⟩
set_option maxRecDepth 100000 in
set_option maxHeartbeats 2000000 in
theorem actOf_c (r : RuleD) (a : Option Addr) (c : Nat) (n : NodeD) (v : Value) (W : World) (hr : RowA W W.heap.size 3 a r.kids.length c (pairCells r.kids)) (hn : r.kids.length ≤ 100000000) (hv : NodeV W W.heap.size n v) (hw : n.wt ≤ 100000000) :
    Calls Tryz.prog 63 #[.agg (ruleCells r a c).toArray, v] W (ActP W (actOf r n)) := by
  have hv0 := hv
  obtain ⟨lf, ps, t, ks⟩ := n
  obtain ⟨ap, cp, at_, ct, ak, ck, css, rfl, -, -, -, -⟩ := hv0.open
  have hl : leafOf (.mk lf ps t ks) = lf := rfl
  generalize NodeD.mk lf ps t ks = n at hv hw hl ⊢
  have hR : actOf r n = if lf then r.text else actIn r (typeN n) := by unfold actOf; rw [hl]
  rw [hR]
  have hY := fun (w1 : World) (hr : RowA w1 w1.heap.size 3 a r.kids.length c (pairCells r.kids)) => typed_c r a c (typeN n) w1 hr hn
  obtain ⟨R, hR2⟩ : ∃ R, R = actIn r (typeN n) := ⟨_, rfl⟩
  rw [← hR2] at hY ⊢
  obtain ⟨ty, ⟨td, tt⟩, ⟨od, ot⟩, kids, fill, ft⟩ := r
  simp only [ruleCells] at hr hn hY ⊢
  obtain ⟨w0, hw0⟩ : ∃ w0, w0 = (((W.alloc (Obj.cells #[strV ty, .int .i64 td, strV tt, .int .i64 od, strV ot, .slice a kids.length c, .int .i64 fill, strV ft] 27)).alloc (Obj.cells #[.bool lf, .slice ap ps.length cp, .slice at_ t.length ct, .slice ak ks.length ck] 35)).alloc (Obj.cells #[.int .i64 0, strV []] 24)) := ⟨_, rfl⟩
  have hb0 : Below W.heap.size W w0 := by rw [hw0]; exact three_below _ _ _ _
  have hA : At w0 W.heap.size [strV ty, .int .i64 td, strV tt, .int .i64 od, strV ot, .slice a kids.length c, .int .i64 fill, strV ft] 27 := by rw [hw0]; exact ((At.fresh W _ _).alloc _).alloc _
  have hK : At w0 (W.heap.size + 1) [.bool lf, .slice ap ps.length cp, .slice at_ t.length ct, .slice ak ks.length ck] 35 := by rw [hw0]; exact (At.second W _ _ _).alloc _
  have hX : At w0 (W.heap.size + 1 + 1) [.int .i64 0, strV []] 24 := by rw [hw0]; exact At.third W _ _ _ _
  have HT := Lib.hid (type_c n _ w0.drew hw (hv.keep (hb0.drew) hb0.size))
  have HY := Lib.hid (fun (w1 : World) (hb : Below w0.heap.size w0 w1) => hY w1 (hr.keep (hb0.trans (hb.mono hb0.size)) (Nat.le_trans hb0.size hb.size)))
  have hcl : W.heap.size ≤ W.heap.size + 1 + 1 := by omega
  have Hw0 := Lib.hid hw0; have Hb0 := Lib.hid hb0; have HA := Lib.hid hA; have HK := Lib.hid hK; have HX := Lib.hid hX
  obtain ⟨⟨x0, x1, x2, x3, x4, x5, x6, x7⟩, -, xl⟩ := hA.f8
  obtain ⟨⟨y0, y1, y2, y3⟩, -, yl⟩ := hK.f4
  obtain ⟨⟨z0, z1⟩, zf, zl⟩ := hX.f2
  clear hw0 hb0 hA hK hX hv hv0 hr hY hR hR2 hl
  cases lf with
  | true =>
    clear HT HY
    go_enter Tryz.func63, Tryz.ntmps63
    go_upto_region 1 with fail
    rw [← Hw0.out]
    clear Hw0
    go_wp2_with fail
    refine bodyPost_ret (v := .agg #[.int .i64 td, strV tt]) (by simp [results, Tryz.results63, go_sem, z0, z1]) rfl ?_
    exact ⟨rfl, below_s2 Hb0.out hcl _ _⟩
  | false =>
    go_enter Tryz.func63, Tryz.ntmps63
    go_upto_region 1 with fail
    rw [← Hw0.out]
    clear Hw0
    go_wp2_with fail
    go_region_law (first
      | (refine step_call rfl 49 _ _ rfl type_ent [.agg #[.bool false, .slice ap ps.length cp, .slice at_ t.length ct, .slice ak ks.length ck]] ?_ _ HT.out ?_
         · go_simp
         rintro e w1 ⟨rfl, hbel⟩
         refine ⟨_, rfl, ?_⟩
         have hb1 : Below w0.heap.size w0 w1 := ((Below.refl w0.heap.size w0).drew).trans hbel
         have Hb1 := Lib.hid hb1
         have HY1 := Lib.hid (HY.out w1 hb1)
         obtain ⟨⟨p0, p1, p2, p3, p4, p5, p6, p7⟩, -, pl⟩ := (HA.out.kept hb1).f8
         obtain ⟨⟨q0, q1, q2, q3⟩, -, ql⟩ := (HK.out.kept hb1).f4
         clear hbel hb1)
      | (refine step_call rfl 89 _ _ rfl typed_ent [.agg #[strV ty, .int .i64 td, strV tt, .int .i64 od, strV ot, .slice a kids.length c, .int .i64 fill, strV ft], strV (typeN n)] ?_ _ HY1.out ?_
         · go_simp
         rintro e w2 ⟨rfl, hbel⟩
         refine ⟨_, rfl, ?_⟩
         have hb2 : Below w0.heap.size w0 w2 := Hb1.out.trans (hbel.mono Hb1.out.size)
         have Hb2 := Lib.hid (Hb0.out.trans (hb2.mono Hb0.out.size))
         obtain ⟨⟨r0, r1⟩, rf, rl⟩ := (HX.out.kept hb2).f2
         clear hbel hb2))
    all_goals
      go_wp2_with fail
      refine bodyPost_ret (v := .agg #[.int .i64 R.1, strV R.2]) (by simp [results, Tryz.results63, go_sem, r0, r1]) rfl ?_
      exact ⟨rfl, below_s2 Hb2.out hcl _ _⟩
end Go.Proofs.YtaopoincbigjhaaGreatDoor
