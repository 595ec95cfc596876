/- Parts of the proof, one behind the other: RTF, RHD, RTG, RSort, RSB, RSE, RHP. -/
import Derived.Test.YtbommcakcmhalaaGreatDoorLM5
import Derived.Deep.AppendSrc
import Derived.Test.YtbommcakcmhalaaGreatDoorLM2
import Derived.Shelf.SlGeneric
import Derived.Ground.SlsfProg
import Derived.Shelf.SlSortCmp.Whole1
import Derived.Test.YtbommcakcmhalaaGreatDoorProg
import Derived.Test.YtbommcakcmhalaaGreatDoorLM4
import Derived.Deep.LoopGhost
import Derived.Deep.DeepCutAuto
import Derived.Deep.RegionLaw
/- Walks: slices.Delete of one at rows of nodes. -/
set_option linter.unusedVariables false
set_option linter.unusedSimpArgs false
set_option maxHeartbeats 4000000
set_option maxRecDepth 100000
namespace Go.Proofs.YtbommcakcmhalaaGreatDoor
open Go.RowKit Go.Redl Go.Lib
theorem deln_ent : ∀ args w, (callFunc 187 args).run Tryz.prog w = .ok (.enter 187 args) w := by intro args w; kernel_rfl
theorem step_append_run {P : Program} {ops : Array Oper} {o : Oper} {a : Act} {w : World} {K : Act -> World -> Prop} {Q : Exit -> Act -> World -> Prop} {E : Prop}
 (hg : o.guard = none) (d x : Operand) (dT sT : TypeId) (hop : o.op = Op.call { callee := Callee.builtin Builtin.append, args := #[d, x], argTypes := #[dT, sT] })
 (v u : Value) (hd : a.eval d = v) (hx : a.eval x = u) {v' : Value} {w' : World} (hr : (Builtin.append_ #[dT, sT] o.type #[v, u]).run P w = .ok v' w') (hK : K (a.put o.dst v') w') :
 if Region.wanted o (yielded ops a.tmps) = true then Oper.wp P o a w K Q else E := by
 have hw : Region.wanted o (yielded ops a.tmps) = true := by simp [Region.wanted, hg]
 rw [if_pos hw]
 unfold Oper.wp
 simp [execOp, hop, resolve, invoke, builtin, hd, hx, hr, Result.andThen]
 exact hK
theorem run_clear_k {P : Program} (w : World) (t e ty : TypeId) (z : Value) (Z : List Value) (ht : P.underlying t = some (.slice e)) (hv : ∀ w, (zeroValue e).run P w = .ok z w) (hZ : (Builtin.zeroCells z.cells 1).toList = Z) (h1 : ∀ u ∈ Z, u.oneCell' = true) (b o c : Nat)
 (hc : ∀ j, j < Z.length -> (w.cell? ⟨b, o + j, none⟩).isSome = true) (hf : ∀ j, j < Z.length -> w.frozen? ⟨b, o + j, none⟩ = false) :
 (Builtin.clear_ #[t] ty #[.slice (some ⟨b, o, none⟩) 1 c]).run P w = .ok (.tuple #[]) (w.setCells b o Z) := by
 have hst := run_storeCells_cells (P := P) b o Z 0 w (by simpa using hc) (by simpa using hf) h1
 simp only [Nat.add_zero] at hst
 simp [Builtin.clear_, run_underlying ht, hv, hZ, hst]
abbrev zero4 : List Value := [.bool false, .slice none 0 0, .slice none 0 0, .slice none 0 0]
theorem zero_node : ∀ w : World, (zeroValue 35).run Tryz.prog w = .ok (.agg #[.bool false, .slice none 0 0, .slice none 0 0, .slice none 0 0]) w := fun w => by kernel_rfl
theorem deln_mid (M g n cap i : Nat) (cur : Array Value) (w : World) (hM : M <= g) (hg : w.heap[g]? = some (.cells cur 35 (0, 0))) (hnc : n <= cap) (hcm : cap <= maxLen) (hcs : cur.size = cap * 4) (h1c : ∀ u ∈ cur.toList.take (n * 4), u.oneCell' = true)
 (hi : i + 1 <= n) (hn : n <= 100000000) :
 Calls Tryz.prog 187 #[.slice (some ⟨g, 0, none⟩) n cap, .int .i64 i, .int .i64 ((i + 1 : Nat) : Int)] w fun e w' => e = .returned (.slice (some ⟨g, 0, none⟩) (n - 1) cap) /\ w' = (w.drew.setCells g (i * 4) ((cur.toList.take (n * 4)).drop ((i + 1) * 4))).setCells g ((n - 1) * 4) zero4 := by
 unfold maxLen at hcm
 obtain ⟨i0, hi0, hz0, hzs, hzb⟩ := info_parts info_nodeC
 have hcell : ∀ j u, cur[j]? = some u -> w.cell? ⟨g, j, none⟩ = some u := fun j u hj => by rw [cell_of_row _ _ _ _ _ _ hg]; exact hj
 have hsome : ∀ j, j < cap * 4 -> (w.cell? ⟨g, j, none⟩).isSome = true := fun j hj => by rw [cell_of_row _ _ _ _ _ _ hg, Array.getElem?_eq_getElem (by omega)]; rfl
 have hfz : ∀ j, w.frozen? ⟨g, j, none⟩ = false := fun j => Lib.frozen_of_heap hg _
 obtain ⟨D, hD⟩ : ∃ D, D = (cur.toList.take (n * 4)).drop ((i + 1) * 4) := ⟨_, rfl⟩
 have hdl : D.length = (n - (i + 1)) * 4 := by rw [hD]; simp; omega
 have hDat : ∀ j u, D[j]? = some u -> cur[(i + 1) * 4 + j]? = some u := fun j u hj => by
  rw [hD, List.getElem?_drop] at hj
  rw [List.getElem?_take] at hj
  split at hj
  . simpa using hj
  . cases hj
 have hD1 : ∀ u ∈ D, u.oneCell' = true := fun u hu => h1c u (by rw [hD] at hu; exact List.mem_of_mem_drop hu)
 rw [<- hD]
 have hap : ∀ (ty : TypeId) (a : Option Addr) (c : Nat), (n - (i + 1) ≠ 0 -> a = some ⟨g, (i + 1) * 4, none⟩) -> (a = none -> c = 0) -> (Builtin.append_ #[33, 33] ty #[.slice (some ⟨g, 0, none⟩) i cap, .slice a (n - (i + 1)) c]).run Tryz.prog w.drew = .ok (.slice (some ⟨g, 0, none⟩) (n - 1) cap) (w.drew.setCells g (i * 4) D) := fun ty a c ha ha2 => by
  have hs : Src Tryz.prog i0.size 33 (.slice a (n - (i + 1)) c) (n - (i + 1)) D w.drew := by
   rw [hzs]
   cases a with
   | none =>
     have h0 : n - (i + 1) = 0 := Classical.byContradiction fun h => by cases ha h
     have hd0 : D = [] := List.eq_nil_of_length_eq_zero (by rw [hdl, h0])
     rw [h0, hd0]
     exact Src.ofNil _ Tryz.underlying33 c
   | some a =>
     refine Src.ofSlice _ Tryz.underlying33 a _ c D hdl (fun j u hj => ?_) hD1
     have hne : n - (i + 1) ≠ 0 := fun h0 => by
      have hd0 : D = [] := List.eq_nil_of_length_eq_zero (by rw [hdl, h0])
      rw [hd0] at hj; cases hj
     obtain rfl := Option.some.inj (ha hne)
     rw [Addr.add_lit]
     exact hcell _ _ (hDat j u hj)
  have h := run_append_room_src w.drew 33 33 ty 35 i0 Tryz.underlying33 hi0 g 0 i cap _ (n - (i + 1)) D hs (by omega) (fun j hj => by rw [hzs, Nat.zero_add]; exact hsome _ (by rw [hdl] at hj; omega)) (fun j hj => by rw [hzs, Nat.zero_add]; exact hfz _)
  rw [hzs, Nat.zero_add, show i + (n - (i + 1)) = n - 1 by omega] at h
  exact h
 obtain ⟨W1, hW1⟩ : ∃ W1, W1 = w.drew.setCells g (i * 4) D := ⟨_, rfl⟩
 have hcl : ∀ ty c, (Builtin.clear_ #[33] ty #[.slice (some ⟨g, (n - 1) * 4, none⟩) 1 c]).run Tryz.prog W1 = .ok (.tuple #[]) (W1.setCells g ((n - 1) * 4) zero4) := fun ty c =>
  run_clear_k W1 33 35 ty _ zero4 Tryz.underlying33 zero_node (by kernel_rfl) (by intro u hu; simp only [List.mem_cons, List.not_mem_nil, or_false] at hu; rcases hu with rfl | rfl | rfl | rfl <;> rfl) g ((n - 1) * 4) c
   (fun j hj => by rw [hW1]; exact isSome_setCells g D _ w.drew (fun t ht => hsome (i * 4 + t) (by rw [hdl] at ht; omega)) _ (hsome ((n - 1) * 4 + j) (by simp at hj; omega))) (fun j hj => by rw [hW1, World.frozen?_setCells]; exact hfz _)
 rw [<- hW1] at hap
 have h0 : (0 : Int) <= (i : Int) + 1 := by omega
 have h1 : ¬ ((i : Int) = (i : Int) + 1) := by omega
 have h2 : (i : Int) <= (i : Int) + 1 := by omega
 have h3 : (i : Int) + 1 <= (n : Int) := by omega
 have h4 : ((n : Int) - 1) = ((n - 1 : Nat) : Int) := by omega
 have h5 : ((n - 1 : Nat) : Int) <= (n : Int) := by omega
 have h6 : n - (n - 1) = 1 := by omega
 have h7 : (i : Int) <= (cap : Int) := by omega
 have h8 : (n : Int) <= (cap : Int) := by omega
 have h9 : ¬ (cap = n - 1) := by omega
 have Hap := Lib.hid hap; have Hcl := Lib.hid hcl; have HW1 := Lib.hid hW1
 clear hcell hsome hfz hdl hDat hD1 hap hg hcs h1c hW1 hD hM hi0 hz0 hzs hzb
 by_cases hce : cap = i + 1
 . obtain rfl : n = i + 1 := by omega
   subst hce
   have hap0 := fun ty => Hap.out ty (some ⟨g, 0, none⟩) 0 (fun h => by omega) (fun h => by cases h)
   simp only [Nat.sub_self, Nat.add_sub_cancel] at hap0
   go_enter Tryz.func187, Tryz.ntmps187
   go_wp2_with fail
   go_region_law
    (refine step_append_run rfl _ _ 33 33 rfl (.slice (some ⟨g, 0, none⟩) i (i + 1)) (.slice (some ⟨g, 0, none⟩) 0 0) ?_ ?_ (hap0 _) ?_
     . go_simp
     . go_simp)
   have hcl := Hcl.out
   simp only [Nat.add_sub_cancel] at hcl
   go_wp2_with fail
   go_ret
   exact ⟨rfl, by rw [HW1.out]; rfl⟩
 . have hce2 : ¬ (cap = i + 1) := hce
   go_enter Tryz.func187, Tryz.ntmps187
   go_wp2_with fail
   go_region_law
    (refine step_append_run rfl _ _ 33 33 rfl (.slice (some ⟨g, 0, none⟩) i cap) (.slice (some ⟨g, (i + 1) * 4, none⟩) (n - (i + 1)) (cap - (i + 1))) ?_ ?_ (Hap.out _ _ _ (fun _ => rfl) (fun h => by cases h)) ?_
     . go_simp
     . go_simp)
   have hcl := Hcl.out
   go_wp2_with fail
   go_ret
   exact ⟨rfl, by rw [HW1.out]⟩
theorem lay_del {α : Type} (P D R S : List α) (a k : Nat) (hP : P.length = a) (hk : a + D.length = k) : (((P ++ D ++ R).take k) ++ S).take k = P ++ D := by
 have h1 : (P ++ D).length = k := by simp; omega
 rw [List.take_left' h1, List.take_left' h1]
/-- slices.Delete of one node, at a row of a call's own. -/
theorem deln_c (M : Nat) (v : Value) (n i : Nat) (css : List Value) (w : World) (hown : w.ownsRow M 35 4 v n css) (h1c : ∀ u ∈ css, u.oneCell' = true) (hi : i < n) (hn : n <= 100000000) :
 Calls Tryz.prog 187 #[v, .int .i64 i, .int .i64 ((i + 1 : Nat) : Int)] w (InsP w M v (n - 1) (css.take (i * 4) ++ css.drop ((i + 1) * 4))) := by
 have hcl := hown.1
 rcases hown.2 with ⟨rfl, rfl⟩ | ⟨g, cap, cur, rfl, hb, hg, hnc, hcm, hcs, htake⟩
 . omega
 have hD : (css.drop ((i + 1) * 4)).length = (n - (i + 1)) * 4 := by rw [List.length_drop, hcl, <- Nat.sub_mul]
 have e1 : cur.toList.take (i * 4) = css.take (i * 4) := by rw [<- htake, List.take_take, Nat.min_eq_left (by omega)]
 have htl : (css.take (i * 4)).length = i * 4 := by rw [List.length_take]; omega
 refine (deln_mid M g n cap i cur w hb hg hnc hcm hcs (by rw [htake]; exact h1c) hi hn).mono ?_
 rintro e w' ⟨rfl, rfl⟩
 rw [htake]
 obtain ⟨c1, g1, g2, g3⟩ := heap_setCells g (css.drop ((i + 1) * 4)) (i * 4) w.drew cur _ _ (show w.drew.heap[g]? = _ from hg) (by rw [hD]; omega)
 obtain ⟨c2, k1, k2, k3⟩ := heap_setCells g zero4 ((n - 1) * 4) _ c1 _ _ g1 (by simp; omega)
 refine ⟨_, rfl, own_of_block hb k1 (by omega) hcm (by omega) ?_ ?_, (show w.grownBy ((w.drew.setCells g (i * 4) (css.drop ((i + 1) * 4))).setCells g ((n - 1) * 4) zero4) (some g) from (grown_drew.trans (grown_setCells _ _ _)).trans (grown_setCells _ _ _)), .inl rfl⟩
 . rw [k3, g3, e1, List.append_assoc]
   exact lay_del _ _ _ _ (i * 4) _ htl (by rw [hD]; omega)
 . rw [List.length_append, htl, hD]; omega
end Go.Proofs.YtbommcakcmhalaaGreatDoor
/- Walks: node.Type, table's typed, ActOf, RuleOf. -/
namespace Go.Proofs.YtbommcakcmhalaaGreatDoor
open Go.RowKit Go.Redl
theorem At.second (W : World) (o : Obj) (cs : List Value) (T : TypeId) : At ((W.alloc o).alloc (.cells cs.toArray T)) (W.heap.size + 1) cs T := by
 have h := At.fresh (W.alloc o) cs T
 rwa [show (W.alloc o).heap.size = W.heap.size + 1 by simp] at h
theorem At.third (W : World) (o o' : Obj) (cs : List Value) (T : TypeId) : At (((W.alloc o).alloc o').alloc (.cells cs.toArray T)) (W.heap.size + 1 + 1) cs T := by
 have h := At.second (W.alloc o) o' cs T
 rwa [show (W.alloc o).heap.size = W.heap.size + 1 by simp] at h
theorem At.fourth (W : World) (o o' o'' : Obj) (cs : List Value) (T : TypeId) : At ((((W.alloc o).alloc o').alloc o'').alloc (.cells cs.toArray T)) (W.heap.size + 1 + 1 + 1) cs T := by
 have h := At.third (W.alloc o) o' o'' cs T
 rwa [show (W.alloc o).heap.size = W.heap.size + 1 by simp] at h
theorem two_below (W : World) (o o' : Obj) : Below W.heap.size W ((W.alloc o).alloc o') := ((Below.refl _ _).alloc (Nat.le_refl _) o).alloc (by simp) o'
theorem three_below (W : World) (o o' o'' : Obj) : Below W.heap.size W (((W.alloc o).alloc o').alloc o'') := (two_below W o o').alloc (by simp; omega) o''
theorem four_below (W : World) (o o' o'' o3 : Obj) : Below W.heap.size W ((((W.alloc o).alloc o').alloc o'').alloc o3) := (three_below W o o' o'').alloc (by simp; omega) o3
theorem type_c (n : NodeD) (v : Value) (W : World) (hn : n.wt <= 100000000) (hv : NodeV W W.heap.size n v) : Calls Tryz.prog 57 #[v] W fun e w' => e = .returned (strV (typeN n)) /\ Below W.heap.size W w' := by
 have hv0 := hv
 obtain ⟨lf, ps, t, ks⟩ := n
 obtain ⟨ap, cp, at_, ct, ak, ck, css, rfl, hp, -, -, -⟩ := hv0.open
 have hpl : ps.length <= 100000000 := by have := propsWt_len ps; simp only [NodeD.wt] at hn; omega
 have hb0 := one_below W (Obj.cells #[.bool lf, .slice ap ps.length cp, .slice at_ t.length ct, .slice ak ks.length ck] 35)
 have HG := Lib.hid (pget_c ps ap cp typeB _ (hp.keep hb0 hb0.size) hpl)
 have Hb0 := Lib.hid hb0
 cases lf with
 | true =>
   have HT : Hid (typeN (.mk true ps t ks) = []) := rfl
   clear hv hv0 hp hb0 hn HG
   go_enter Tryz.func57, Tryz.ntmps57
   go_wp2_with fail
   go_ret
   rw [HT.out]
   exact ⟨rfl, Hb0.out⟩
 | false =>
   have HT : Hid (typeN (.mk false ps t ks) = (getP ps typeB).getD []) := rfl
   clear hv hv0 hp hb0 hn
   go_enter Tryz.func57, Tryz.ntmps57
   go_wp2_with fail
   refine HG.out.mono ?_
   rintro e w1 ⟨rfl, hbel⟩
   have Hb1 := Lib.hid (Hb0.out.trans (hbel.mono Hb0.out.size))
   clear hbel HG
   go_wp2_with fail
   go_ret
   rw [HT.out]
   exact ⟨rfl, Hb1.out⟩
theorem type_ent : ∀ args w, (callFunc 57 args).run Tryz.prog w = .ok (.enter 57 args) w := by intro args w; kernel_rfl
theorem actIn_some {r : RuleD} {k : List UInt8} {j : Nat} (hj : j < r.kids.length) (h : r.kids[j].1 = k) (hb : ∀ i (hi : i < j), (r.kids[i]'(by omega)).1 ≠ k) : actIn r k = r.kids[j].2 := by
 unfold actIn
 rw [find_idx (q := fun p => decide (p.1 = k)) hj (by simpa using h) (fun i hi => by simpa using hb i hi)]
 rfl
theorem actIn_none {r : RuleD} {k : List UInt8} (hb : ∀ i (hi : i < r.kids.length), r.kids[i].1 ≠ k) : actIn r k = r.other := by
 unfold actIn
 rw [find_none (fun i hi => by simpa using hb i hi)]
 rfl
theorem typed1_c (K : List UInt8) (d : Int) (t k : List UInt8) (N : Nat) (W : World) (hN : W.cell? ⟨N, 0, none⟩ = some (strV k)) :
 Calls Tryz.prog 170 #[.agg #[strV K, .int .i64 d, strV t], .pointer (some ⟨N, 0, none⟩)] W fun e w' => e = .returned (.bool (decide (K = k))) /\ Below W.heap.size W w' := by
 have hlt := World.block_lt_of_cell? W _ hN
 have Hb := Lib.hid (one_below W (Obj.cells #[strV K, .int .i64 d, strV t] 143))
 go_enter Tryz.func170, Tryz.ntmps170
 go_wp2_with fail
 go_ret
 exact ⟨ret_bool (beq_dec _ _), Hb.out⟩
theorem typed1_ent : ∀ args w, (callFunc 170 args).run Tryz.prog w = .ok (.enter 170 args) w := by intro args w; kernel_rfl
theorem typed_ent : ∀ args w, (callFunc 104 args).run Tryz.prog w = .ok (.enter 104 args) w := by intro args w; kernel_rfl
abbrev ActP (W : World) (a : ActD) (e : Ending) (w' : World) : Prop := e = .returned (.agg #[.int .i64 a.1, strV a.2]) /\ Below W.heap.size W w'
theorem typed_c (r : RuleD) (a : Option Addr) (c : Nat) (k : List UInt8) (W : World) (hr : RowA W W.heap.size 3 a r.kids.length c (pairCells r.kids)) (hn : r.kids.length <= 100000000) :
 Calls Tryz.prog 104 #[.agg (ruleCells r a c).toArray, strV k] W (ActP W (actIn r k)) := by
 have hs1 := fun (j : Nat) (hj : j < r.kids.length) h hb => actIn_some (r := r) (k := k) (j := j) hj h hb
 have hs2 := fun hb => actIn_none (r := r) (k := k) hb
 obtain ⟨R, hR⟩ : ∃ R, R = actIn r k := ⟨_, rfl⟩
 rw [<- hR]
 rw [<- hR] at hs1 hs2
 obtain ⟨ty, ⟨td, tt⟩, ⟨od, ot⟩, kids, fill, ft⟩ := r
 simp only at hr hn hs1 hs2
 have hcells : (ruleCells ⟨ty, (td, tt), (od, ot), kids, fill, ft⟩ a c).toArray = #[strV ty, .int .i64 td, strV tt, .int .i64 od, strV ot, .slice a kids.length c, .int .i64 fill, strV ft] := rfl
 rw [hcells]
 obtain ⟨w0, hw0⟩ : ∃ w0, w0 = (((W.alloc (Obj.cells #[strV ty, .int .i64 td, strV tt, .int .i64 od, strV ot, .slice a kids.length c, .int .i64 fill, strV ft] 27)).alloc (Obj.cells #[strV k] 9)).alloc (Obj.cells #[.int .i64 0, strV []] 24)) := ⟨_, rfl⟩
 have hb0 : Below W.heap.size W w0 := by rw [hw0]; exact three_below _ _ _ _
 have hA : At w0 W.heap.size [strV ty, .int .i64 td, strV tt, .int .i64 od, strV ot, .slice a kids.length c, .int .i64 fill, strV ft] 27 := by rw [hw0]; exact ((At.fresh W _ _).alloc _).alloc _
 have hK : At w0 (W.heap.size + 1) [strV k] 9 := by rw [hw0]; exact (At.second W _ _ _).alloc _
 have hX : At w0 (W.heap.size + 1 + 1) [.int .i64 0, strV []] 24 := by rw [hw0]; exact At.third W _ _ _ _
 have hr0 := hr.keep hb0 hb0.size
 have hgd : ∀ j (hj : j < kids.length), kids.getD j ([], 0, []) = kids[j] := fun j hj => by simp [List.getD, List.getElem?_eq_getElem hj]
 have HI := Lib.hid (idx_pair kids.length a c 170 #[.pointer (some ⟨W.heap.size + 1, 0, none⟩)] (fun j => decide ((kids.getD j ([], 0, [])).1 = k)) w0 hn typed1_ent (fun j W' hj hb => by
  obtain ⟨b, off, ha, -, h0, h1, h2⟩ := (hr0.keep hb hb.size).pair_at j hj
  refine ⟨b, off, _, _, _, ha, h0, h1, h2, ?_⟩
  rw [hgd j hj]
  exact typed1_c kids[j].1 kids[j].2.1 kids[j].2.2 k _ W' ((hK.kept hb).cell 0 rfl)))
 have Hr := Lib.hid hr0; have Hb0 := Lib.hid hb0; have HA := Lib.hid hA; have HX := Lib.hid hX
 obtain ⟨⟨x0, x1, x2, x3, x4, x5, x6, x7⟩, -, xl⟩ := hA.f8
 have Hw0 := Lib.hid hw0
 have hcl : W.heap.size <= W.heap.size + 1 + 1 := by omega
 rcases idxP_cases (fun j => decide ((kids.getD j ([], 0, [])).1 = k)) kids.length with ⟨j, hj, hp, hmin, he⟩ | ⟨hall, he⟩
 . rw [he] at HI
   have HG := Lib.hid (hs1 j hj (by have h := of_decide_eq_true hp; rw [hgd j hj] at h; exact h) (fun i hi => by have h := of_decide_eq_false (hmin i hi); rw [hgd i (by omega)] at h; exact h))
   have hji : (j : Int) < kids.length := by omega
   clear he hmin hp hr hr0 hb0 hK hA hX hs1 hs2 hR hcells hw0
   go_enter Tryz.func104, Tryz.ntmps104
   go_upto_region 1 with fail
   rw [<- Hw0.out]
   clear Hw0
   go_wp2_with fail
   refine HI.out.mono ?_
   rintro e w1 ⟨rfl, hbel⟩
   obtain ⟨b, off, rfl, -, h0, h1, h2⟩ := (Hr.out.keep hbel hbel.size).pair_at j hj
   have Hb1 := Lib.hid (Hb0.out.trans (hbel.mono Hb0.out.size))
   obtain ⟨⟨y0, y1, y2, y3, y4, y5, y6, y7⟩, -, yl⟩ := (HA.out.kept hbel).f8
   obtain ⟨⟨z0, z1⟩, zf, zl⟩ := (HX.out.kept hbel).f2
   generalize kids[j] = q at h0 h1 h2 HG
   obtain ⟨q0, q1, q2⟩ := q
   clear hbel HI x0 x1 x2 x3 x4 x5 x6 x7
   go_wp2_with fail
   refine bodyPost_ret (v := .agg #[.int .i64 q1, strV q2]) (by simp [results, Tryz.results104, go_sem, z0, z1]) rfl ?_
   rw [HG.out]
   exact ⟨rfl, below_s2 Hb1.out hcl _ _⟩
 . rw [he] at HI
   have HG := Lib.hid (hs2 (fun i hi => by have h := of_decide_eq_false (hall i hi); rw [hgd i hi] at h; exact h))
   clear he hall hr hr0 hb0 hK hA hX hs1 hs2 hR hcells hw0
   go_enter Tryz.func104, Tryz.ntmps104
   go_upto_region 1 with fail
   rw [<- Hw0.out]
   clear Hw0
   go_wp2_with fail
   refine HI.out.mono ?_
   rintro e w1 ⟨rfl, hbel⟩
   have Hb1 := Lib.hid (Hb0.out.trans (hbel.mono Hb0.out.size))
   obtain ⟨⟨y0, y1, y2, y3, y4, y5, y6, y7⟩, -, yl⟩ := (HA.out.kept hbel).f8
   obtain ⟨⟨z0, z1⟩, zf, zl⟩ := (HX.out.kept hbel).f2
   clear hbel HI x0 x1 x2 x3 x4 x5 x6 x7
   go_wp2_with fail
   refine bodyPost_ret (v := .agg #[.int .i64 od, strV ot]) (by simp [results, Tryz.results104, go_sem, z0, z1]) rfl ?_
   rw [HG.out]
   exact ⟨rfl, below_s2 Hb1.out hcl _ _⟩
theorem actOf_c (r : RuleD) (a : Option Addr) (c : Nat) (n : NodeD) (v : Value) (W : World) (hr : RowA W W.heap.size 3 a r.kids.length c (pairCells r.kids)) (hn : r.kids.length <= 100000000) (hv : NodeV W W.heap.size n v) (hw : n.wt <= 100000000) :
 Calls Tryz.prog 65 #[.agg (ruleCells r a c).toArray, v] W (ActP W (actOf r n)) := by
 have hv0 := hv
 obtain ⟨lf, ps, t, ks⟩ := n
 obtain ⟨ap, cp, at_, ct, ak, ck, css, rfl, -, -, -, -⟩ := hv0.open
 have hl : leafOf (.mk lf ps t ks) = lf := rfl
 generalize NodeD.mk lf ps t ks = n at hv hw hl ⊢
 have hR : actOf r n = if lf then r.text else actIn r (typeN n) := by unfold actOf; rw [hl]
 rw [hR]
 have hY := fun (w1 : World) (hr : RowA w1 w1.heap.size 3 a r.kids.length c (pairCells r.kids)) => typed_c r a c (typeN n) w1 hr hn
 obtain ⟨R, hR2⟩ : ∃ R, R = actIn r (typeN n) := ⟨_, rfl⟩
 rw [<- hR2] at hY ⊢
 obtain ⟨ty, ⟨td, tt⟩, ⟨od, ot⟩, kids, fill, ft⟩ := r
 simp only [ruleCells] at hr hn hY ⊢
 obtain ⟨w0, hw0⟩ : ∃ w0, w0 = (((W.alloc (Obj.cells #[strV ty, .int .i64 td, strV tt, .int .i64 od, strV ot, .slice a kids.length c, .int .i64 fill, strV ft] 27)).alloc (Obj.cells #[.bool lf, .slice ap ps.length cp, .slice at_ t.length ct, .slice ak ks.length ck] 35)).alloc (Obj.cells #[.int .i64 0, strV []] 24)) := ⟨_, rfl⟩
 have hb0 : Below W.heap.size W w0 := by rw [hw0]; exact three_below _ _ _ _
 have hA : At w0 W.heap.size [strV ty, .int .i64 td, strV tt, .int .i64 od, strV ot, .slice a kids.length c, .int .i64 fill, strV ft] 27 := by rw [hw0]; exact ((At.fresh W _ _).alloc _).alloc _
 have hK : At w0 (W.heap.size + 1) [.bool lf, .slice ap ps.length cp, .slice at_ t.length ct, .slice ak ks.length ck] 35 := by rw [hw0]; exact (At.second W _ _ _).alloc _
 have hX : At w0 (W.heap.size + 1 + 1) [.int .i64 0, strV []] 24 := by rw [hw0]; exact At.third W _ _ _ _
 have HT := Lib.hid (type_c n _ w0.drew hw (hv.keep (hb0.drew) hb0.size))
 have HY := Lib.hid (fun (w1 : World) (hb : Below w0.heap.size w0 w1) => hY w1 (hr.keep (hb0.trans (hb.mono hb0.size)) (Nat.le_trans hb0.size hb.size)))
 have hcl : W.heap.size <= W.heap.size + 1 + 1 := by omega
 have Hw0 := Lib.hid hw0; have Hb0 := Lib.hid hb0; have HA := Lib.hid hA; have HK := Lib.hid hK; have HX := Lib.hid hX
 obtain ⟨⟨x0, x1, x2, x3, x4, x5, x6, x7⟩, -, xl⟩ := hA.f8
 obtain ⟨⟨y0, y1, y2, y3⟩, -, yl⟩ := hK.f4
 obtain ⟨⟨z0, z1⟩, zf, zl⟩ := hX.f2
 clear hw0 hb0 hA hK hX hv hv0 hr hY hR hR2 hl
 cases lf with
 | true =>
   clear HT HY
   go_enter Tryz.func65, Tryz.ntmps65
   go_upto_region 1 with fail
   rw [<- Hw0.out]
   clear Hw0
   go_wp2_with fail
   refine bodyPost_ret (v := .agg #[.int .i64 td, strV tt]) (by simp [results, Tryz.results65, go_sem, z0, z1]) rfl ?_
   exact ⟨rfl, below_s2 Hb0.out hcl _ _⟩
 | false =>
   go_enter Tryz.func65, Tryz.ntmps65
   go_upto_region 1 with fail
   rw [<- Hw0.out]
   clear Hw0
   go_wp2_with fail
   go_region_law (first
    | (refine step_call rfl 57 _ _ rfl type_ent [.agg #[.bool false, .slice ap ps.length cp, .slice at_ t.length ct, .slice ak ks.length ck]] ?_ _ HT.out ?_
       . go_simp
       rintro e w1 ⟨rfl, hbel⟩
       refine ⟨_, rfl, ?_⟩
       have hb1 : Below w0.heap.size w0 w1 := ((Below.refl w0.heap.size w0).drew).trans hbel
       have Hb1 := Lib.hid hb1
       have HY1 := Lib.hid (HY.out w1 hb1)
       obtain ⟨⟨p0, p1, p2, p3, p4, p5, p6, p7⟩, -, pl⟩ := (HA.out.kept hb1).f8
       obtain ⟨⟨q0, q1, q2, q3⟩, -, ql⟩ := (HK.out.kept hb1).f4
       clear hbel hb1)
    | (refine step_call rfl 104 _ _ rfl typed_ent [.agg #[strV ty, .int .i64 td, strV tt, .int .i64 od, strV ot, .slice a kids.length c, .int .i64 fill, strV ft], strV (typeN n)] ?_ _ HY1.out ?_
       . go_simp
       rintro e w2 ⟨rfl, hbel⟩
       refine ⟨_, rfl, ?_⟩
       have hb2 : Below w0.heap.size w0 w2 := Hb1.out.trans (hbel.mono Hb1.out.size)
       have Hb2 := Lib.hid (Hb0.out.trans (hb2.mono Hb0.out.size))
       obtain ⟨⟨r0, r1⟩, rf, rl⟩ := (HX.out.kept hb2).f2
       clear hbel hb2))
   all_goals
    go_wp2_with fail
    refine bodyPost_ret (v := .agg #[.int .i64 R.1, strV R.2]) (by simp [results, Tryz.results65, go_sem, r0, r1]) rfl ?_
    exact ⟨rfl, below_s2 Hb2.out hcl _ _⟩
end Go.Proofs.YtbommcakcmhalaaGreatDoor
/- Walks: tree's changed: a copy of a tree in which one node is changed in place. -/
namespace Go.Proofs.YtbommcakcmhalaaGreatDoor
open Go.RowKit Go.Redl
/-- Where a node lies, its block is plain. -/
theorem plainI {w : World} : ∀ (p : List Int) (n m : NodeD) (lo hi b off : Nat) (cs : List Value), NodeI w n lo hi cs -> Cells4 w b off cs -> (∃ cur e, w.heap[b]? = some (.cells cur e (0, 0))) -> atN n p = some m ->
 ∃ cur e, w.heap[(addrW w p b off).1]? = some (.cells cur e (0, 0))
 | [], n, m, lo, hi, b, off, cs, h, hc, hb, hat => hb
 | i :: p, .mk l ps t ks, m, lo, hi, b, off, cs, h, hc, hb, hat => by
   unfold NodeI at h
   obtain ⟨mid, ap, cp, at_, ct, ak, ck, css, h1, rfl, h3, h4, h5, h6, h7, h8⟩ := h
   simp only [atN, kidsOf] at hat
   split at hat
   . obtain ⟨j, rfl⟩ : ∃ j : Nat, i = j := ⟨i.toNat, by omega⟩
     rw [Int.toNat_natCast] at hat
     by_cases hj : j < ks.length
     . rw [List.getElem?_eq_getElem hj] at hat
       simp only at hat
       obtain ⟨m1, m2, c, g1, g2, g3, g4, g5⟩ := KidsI.at_ h8 j hj
       have hcl := h6.1
       obtain ⟨K, rfl, hK⟩ := own_some h6 (by intro e; rw [e] at hcl; simp at hcl; omega)
       have hcK : Cells4 w K (j * 4) c := by
        refine ⟨g3.four, fun q u hq => ?_⟩
        have hq4 : q < 4 := by
         rcases Nat.lt_or_ge q c.length with h | h
         . rw [g3.four] at h; exact h
         . rw [List.getElem?_eq_none h] at hq; cases hq
        exact own_at h6 _ _ (by rw [g4 q hq4]; exact hq)
       rw [addrW_step (hc.2 3 _ rfl), Int.toNat_natCast, Nat.zero_add]
       refine plainI p ks[j] m m1 m2 K (j * 4) c g3 hcK ?_ hat
       rcases h6.2 with ⟨hn, -⟩ | ⟨g, cap, cur, hv, -, hg, -⟩
       . cases hn
       . injection hv with e1
         injection e1 with e2
         injection e2 with e3
         subst e3
         exact ⟨cur, _, hg⟩
     . rw [List.getElem?_eq_none (by omega)] at hat
       cases hat
   . cases hat
/-- What a change leaves as it was. -/
structure Keeps (w w' : World) (B b off lo hi : Nat) : Prop where
 below : Below B w w'
 block : ∀ x, x < w.heap.size -> x ≠ b -> ¬ (lo <= x /\ x < hi) -> w'.heap[x]? = w.heap[x]?
 cell : ∀ o, ¬ (off <= o /\ o < off + 4) -> w'.cell? ⟨b, o, none⟩ = w.cell? ⟨b, o, none⟩
/-- What a change of a node answers. -/
def HowP (B : Nat) (w : World) (b off lo hi : Nat) (R : NodeD × Int) (e : Ending) (w' : World) : Prop :=
 e = .returned (.int .i64 R.2) /\ Keeps w w' B b off lo hi /\ (R.2 = 0 -> ∃ cm', Cells4 w' b off cm' /\ NodeQ w' (fun x => lo <= x /\ x < hi ∨ w.heap.size <= x) R.1 cm')
/-- A function that changes a node in place. -/
def HowC (g : Nat) (lb : Array Value) (W : World) (m : NodeD) (R : NodeD × Int) : Prop :=
 ∀ (w : World) (b off lo hi : Nat) (cm : List Value), Below W.heap.size W w -> W.heap.size <= b -> W.heap.size <= lo -> hi <= w.heap.size -> NodeI w m lo hi cm -> Cells4 w b off cm -> ¬ (lo <= b /\ b < hi) -> (∀ j, w.frozen? ⟨b, j, none⟩ = false) ->
   Calls Tryz.prog g (#[.pointer (some ⟨b, off, none⟩)] ++ lb) w (HowP W.heap.size w b off lo hi R)
/-- What changed answers. -/
def ChangedP (W : World) (n : NodeD) (p : List Int) (R : NodeD -> NodeD × Int) (e : Ending) (w' : World) : Prop :=
 Below W.heap.size W w' /\ match atN n p with
 | none => e = .returned (.tuple #[.agg #[.bool false, .slice none 0 0, .slice none 0 0, .slice none 0 0], .int .i64 5])
 | some m => if (R m).2 = 0 then ∃ cs, e = .returned (.tuple #[.agg cs.toArray, .int .i64 0]) /\ NodeQ w' (fun b => W.heap.size <= b) (putN n p (R m).1) cs
   else e = .returned (.tuple #[.agg #[.bool false, .slice none 0 0, .slice none 0 0, .slice none 0 0], .int .i64 (R m).2])
theorem changed_c (g : Nat) (lb : Array Value) (hgc : ∀ args w, (callFunc g args).run Tryz.prog w = .ok (.enter g args) w) (n : NodeD) (p : List Int) (v : Value) (pa : Option Addr) (pc : Nat) (R : NodeD -> NodeD × Int) (W : World) (hbig : n.wt <= 100000000) (hv : NodeV W W.heap.size n v) (hp : RowA W W.heap.size 1 pa p.length pc (p.map (Value.int .i64)))
 (hR : ∀ m, atN n p = some m -> HowC g lb W m (R m)) :
 Calls Tryz.prog 185 #[v, .slice pa p.length pc, .func (.func g) #[] lb] W (ChangedP W n p R) := by
 obtain ⟨csn, rfl, hc⟩ := hv
 obtain ⟨l, a1, n1, c1, a2, n2, c2, a3, n3, c3, rfl⟩ := hc.form
 obtain ⟨w0, hw0⟩ : ∃ w0, w0 = (W.alloc (Obj.cells #[.bool l, .slice a1 n1 c1, .slice a2 n2 c2, .slice a3 n3 c3] 35)).alloc (Obj.cells #[.bool false, .slice none 0 0, .slice none 0 0, .slice none 0 0] 35) := ⟨_, rfl⟩
 have hA : NodeAt w0 W.heap.size (.bool l) (.slice a1 n1 c1) (.slice a2 n2 c2) (.slice a3 n3 c3) := by rw [hw0]; exact (NodeAt.fresh W (.bool l) (.slice a1 n1 c1) (.slice a2 n2 c2) (.slice a3 n3 c3)).alloc _
 have hB : NodeAt w0 (W.heap.size + 1) (.bool false) (.slice none 0 0) (.slice none 0 0) (.slice none 0 0) := by rw [hw0]; exact node_second W _ (.bool false) (.slice none 0 0) (.slice none 0 0) (.slice none 0 0)
 have hb0 : Below W.heap.size W w0 := by rw [hw0]; exact two_below _ _ _
 have hs0 : w0.heap.size = W.heap.size + 2 := by rw [hw0]; simp
 obtain ⟨y0, y1, y2, y3, -, -⟩ := hA.facts
 have HC := Lib.hid (copyI_c n.wt n (.agg #[.bool l, .slice a1 n1 c1, .slice a2 n2 c2, .slice a3 n3 c3]) w0 (Nat.le_refl _) hbig ⟨_, rfl, NodeC.keep hb0 hb0.size _ _ hc⟩)
 have HB := Lib.hid hB; have Hb0 := Lib.hid hb0; have Hs0 := Lib.hid hs0; have Hw0 := Lib.hid hw0; have HR := Lib.hid hR; have Hp := Lib.hid hp
 clear hc hA hB hb0 hs0 hw0 hR hp
 go_enter Tryz.func185, Tryz.ntmps185
 go_upto_region 1 with fail
 rw [<- Hw0.out]
 clear Hw0
 go_wp2_with fail
 refine HC.out.mono ?_
 rintro e w1 ⟨cs, rfl, hI, hbel⟩
 obtain ⟨m1, p1, q1, r1, p2, q2, r2, p3, q3, r3, rfl⟩ := hI.form
 have Hb1 := Lib.hid (Hb0.out.trans (hbel.mono Hb0.out.size)); have HB1 := Lib.hid (HB.out.keep (hbel.mono (by rw [Hs0.out]; omega)))
 have HI := Lib.hid hI; have Hbel := Lib.hid hbel
 clear HC hI hbel y0 y1 y2 y3
 go_upto_region 2 with fail
 obtain ⟨w2, hw2⟩ : ∃ w2, w2 = w1.alloc (Obj.cells #[.bool m1, .slice p1 q1 r1, .slice p2 q2 r2, .slice p3 q3 r3] 35) := ⟨_, rfl⟩
 rw [<- hw2]
 have hA2 : NodeAt w2 w1.heap.size (.bool m1) (.slice p1 q1 r1) (.slice p2 q2 r2) (.slice p3 q3 r3) := by rw [hw2]; exact NodeAt.fresh w1 _ _ _ _
 have hB2 : Below w1.heap.size w1 w2 := by rw [hw2]; exact one_below _ _
 have hI2 : NodeI w2 n w0.heap.size w1.heap.size [.bool m1, .slice p1 q1 r1, .slice p2 q2 r2, .slice p3 q3 r3] := NodeI.keep hB2.size (fun b _ _ hlt => hB2.block b hlt) HI.out
 obtain ⟨x0, x1, x2, x3, ⟨k0, k1, k2, k3⟩, hA4⟩ := hA2.facts
 have hc4 : Cells4 w2 w1.heap.size 0 [.bool m1, .slice p1 q1 r1, .slice p2 q2 r2, .slice p3 q3 r3] := by
  refine ⟨rfl, fun j u hj => ?_⟩
  match j with
  | 0 => simp at hj; subst hj; exact x0
  | 1 => simp at hj; subst hj; exact x1
  | 2 => simp at hj; subst hj; exact x2
  | 3 => simp at hj; subst hj; exact x3
  | j + 4 => simp at hj
 have hnp : NodeP w2 w2.heap.size w1.heap.size 0 n := ⟨m1, p1, q1, r1, p2, q2, r2, p3, q3, r3, NodeQ.node _ _ (NodeI.q (ok := fun _ => True) (fun _ _ _ => trivial) hI2), x0, x1, x2, x3⟩
 have Hb2 := Lib.hid (Hb1.out.trans (hB2.mono Hb1.out.size))
 have HBB := Lib.hid (HB1.out.keep (hB2.mono (by have := Hb1.out.size; have := Hs0.out; have := Hbel.out.size; omega)))
 have Hp2 := Lib.hid (Hp.out.keep Hb2.out Hb2.out.size)
 have HAt := Lib.hid (at_c n p pa pc w1.heap.size 0 w2.heap.size w2 hnp Hp2.out)
 have Hsz := Lib.hid (show W.heap.size + 2 <= w1.heap.size by have := Hbel.out.size; have := Hs0.out; omega)
 have HA2 := Lib.hid hA2; have HI2 := Lib.hid hI2; have Hc4 := Lib.hid hc4; have Hnp := Lib.hid hnp
 clear hw2 hA2 hB2 hI2 hc4 hnp HI HB HB1 x0 x1 x2 x3 k0 k1 k2 k3 hA4
 cases hat : atN n p with
 | none =>
   rw [hat] at HAt
   have Hat := Lib.hid hat
   clear hat
   go_wp2_with fail
   refine HAt.out.mono ?_
   rintro e w3 ⟨rfl, rfl⟩
   obtain ⟨g0, g1, g2, g3, ⟨j0, j1, j2, j3⟩, hB4⟩ := HBB.out.facts
   clear HAt
   go_wp2_with fail
   refine bodyPost_ret (v := .tuple #[.agg #[.bool false, .slice none 0 0, .slice none 0 0, .slice none 0 0], .int .i64 5]) (by simp [results, Tryz.results185, go_sem, g0, g1, g2, g3, j0, j1, j2, j3]) rfl ?_
   refine ⟨by with_reducible exact below_all Hb2.out (Nat.le_succ _) _ _ _ _, ?_⟩
   rw [Hat.out]
 | some m =>
   have HA3 := Lib.hid (at2_c n m p pa pc w1.heap.size 0 w2.heap.size w2 Hnp.out Hp2.out hat)
   have hno : ¬ (w0.heap.size <= w1.heap.size /\ w1.heap.size < w1.heap.size) := fun h => by omega
   have hpl := placeI p n m w0.heap.size w1.heap.size w1.heap.size 0 _ HI2.out Hc4.out hno hat
   have hfz := plainI p n m w0.heap.size w1.heap.size w1.heap.size 0 _ HI2.out Hc4.out ⟨_, _, HA2.out⟩ hat
   generalize addrW w2 p w1.heap.size 0 = A at hpl hfz HA3
   obtain ⟨A1, A2⟩ := A
   simp only at hpl hfz HA3
   obtain ⟨lo', hi', cm, k1, k2, k3, k4, k5, k6, k7⟩ := hpl
   have hA1 : W.heap.size + 2 <= A1 := by
    have := Hsz.out; have := Hs0.out
    rcases k6 with e | e
    . injection e with e1 e2; omega
    . omega
   have hlo : W.heap.size + 2 <= lo' := by have := Hs0.out; omega
   have hsz := Hsz.out
   have hz2 : w1.heap.size + 1 <= w2.heap.size := (Array.getElem?_eq_some_iff.1 HA2.out).1
   obtain ⟨cur, e0, hcur⟩ := hfz
   have HHow := Lib.hid (HR.out m hat w2 A1 A2 lo' hi' cm Hb2.out (by omega) (by omega) (by omega) k3 k4 k5 (fun j => Lib.frozen_of_heap hcur _))
   have Hat := Lib.hid hat
   have K7 := Lib.hid k7
   generalize hr : R m = r at HHow
   have Hr := Lib.hid hr
   obtain ⟨r1', r2'⟩ := r
   clear hat hcur k1 k2 k3 k4 k5 k6 k7 HAt HR hr
   go_wp2_with fail
   refine HA3.out.mono ?_
   rintro e w3 ⟨rfl, rfl⟩
   clear HA3
   go_wp2_with fail
   refine HHow.out.mono ?_
   rintro e w4 ⟨rfl, hkeep, hres⟩
   have Hkeep := Lib.hid hkeep; have Hres := Lib.hid hres
   have hB4 : NodeAt w4 (W.heap.size + 1) (.bool false) (.slice none 0 0) (.slice none 0 0) (.slice none 0 0) := by
    unfold NodeAt
    rw [hkeep.block (W.heap.size + 1) (by omega) (by omega) (by omega)]
    exact HBB.out
   obtain ⟨g0, g1, g2, g3, ⟨j0, j1, j2, j3⟩, hB5⟩ := hB4.facts
   have Hb4 := Lib.hid (Hb2.out.trans hkeep.below)
   clear HHow hkeep hres hB4
   by_cases hz : r2' = 0
   . subst hz
     obtain ⟨cm', hc', hq'⟩ := Hres.out rfl
     obtain ⟨cs', hcs', hqs⟩ := K7.out w4 (fun x => W.heap.size + 2 <= x) r1' cm' Hkeep.out.below.size (fun x hx hx2 => by have := Hs0.out; omega) (fun x o hx hin hno2 hno3 => by
      by_cases hxa : x = A1
      . subst hxa
        exact Hkeep.out.cell o (fun h => hno2 ⟨rfl, h.1, h.2⟩)
      . exact World.cell?_of_block (a := ⟨x, o, none⟩) (Hkeep.out.block x hx hxa hno3)) (NodeQ.keep (Nat.le_refl _) (fun _ _ _ => rfl) (fun x hx _ => by omega) _ _ hq') hc'
     have Hqs := Lib.hid hqs
     obtain ⟨l', b1, o1, d1, b2, o2, d2, b3, o3, d3, rfl⟩ := hqs.form
     have x0 := hcs'.2 0 _ rfl; have x1 := hcs'.2 1 _ rfl; have x2 := hcs'.2 2 _ rfl; have x3 := hcs'.2 3 _ rfl
     simp only [Nat.zero_add] at x0 x1 x2 x3
     clear hqs hcs' hc' hq'
     go_wp2_with fail
     refine bodyPost_ret (v := .tuple #[.agg #[.bool l', .slice b1 o1 d1, .slice b2 o2 d2, .slice b3 o3 d3], .int .i64 0]) (by simp [results, Tryz.results185, go_sem, g0, g1, g2, g3, j0, j1, j2, j3]) rfl ?_
     refine ⟨by with_reducible exact below_all Hb4.out (Nat.le_succ _) _ _ _ _, ?_⟩
     rw [Hat.out]
     simp only
     rw [Hr.out, if_pos rfl]
     have hne : ¬ (W.heap.size + 2 <= W.heap.size + 1) := by omega
     have hq := nodeq_set (N := W.heap.size + 1) (o := 3) (u := .slice b3 o3 d3) (nodeq_set (N := W.heap.size + 1) (o := 2) (u := .slice b2 o2 d2) (nodeq_set (N := W.heap.size + 1) (o := 1) (u := .slice b1 o1 d1) (nodeq_set (N := W.heap.size + 1) (o := 0) (u := .bool l') Hqs.out hne) hne) hne) hne
     exact ⟨_, rfl, NodeQ.keep (Nat.le_refl _) (fun _ _ _ => rfl) (fun b hb _ => by omega) _ _ hq⟩
   . have hne : (r2' != 0) = true := by simpa using hz
     have hne2 : (r2' == 0) = false := by simpa using hz
     have Hz := Lib.hid hz
     clear hz
     go_wp2_with fail
     refine bodyPost_ret (v := .tuple #[.agg #[.bool false, .slice none 0 0, .slice none 0 0, .slice none 0 0], .int .i64 r2']) (by simp [results, Tryz.results185, go_sem, g0, g1, g2, g3, j0, j1, j2, j3]) rfl ?_
     refine ⟨by with_reducible exact below_all Hb4.out (Nat.le_succ _) _ _ _ _, ?_⟩
     rw [Hat.out]
     simp only
     rw [Hr.out, if_neg Hz.out]
end Go.Proofs.YtbommcakcmhalaaGreatDoor
/- slices.SortFunc at [][]int: its bodies at this program, laid by the kit, in plain words. -/
namespace Go.Proofs
open Go.Shelf
end Go.Proofs
/- Walks: node.Same. -/
namespace Go.Proofs.YtbommcakcmhalaaGreatDoor
open Go.RowKit Go.Redl
mutual
/-- Are two trees the same. -/
def sameN : NodeD -> NodeD -> Bool
 | .mk l ps t ks, .mk l' ps' t' ks' => l == l' && (decide (ps = ps') && (decide (t = t') && (decide (ks.length = ks'.length) && sameK ks ks')))
def sameK : List NodeD -> List NodeD -> Bool
 | [], _ => true
 | _ :: _, [] => true
 | k :: ks, k' :: ks' => sameN k k' && sameK ks ks'
end
mutual
theorem sameN_self : ∀ n : NodeD, sameN n n = true
 | .mk l ps t ks => by unfold sameN; simp [sameK_self ks]
theorem sameK_self : ∀ ks : List NodeD, sameK ks ks = true
 | [] => by unfold sameK; rfl
 | k :: ks => by unfold sameK; simp [sameN_self k, sameK_self ks]
end
theorem sameK_step {ks ks' : List NodeD} {k : Nat} (h : k < ks.length) (h' : k < ks'.length) : sameK (ks.drop k) (ks'.drop k) = (sameN ks[k] ks'[k] && sameK (ks.drop (k + 1)) (ks'.drop (k + 1))) := by
 conv => lhs; rw [List.drop_eq_getElem_cons h, List.drop_eq_getElem_cons h']
 simp only [sameK]
theorem sameK_end {ks ks' : List NodeD} {k : Nat} (h : ks.length <= k) : sameK (ks.drop k) (ks'.drop k) = true := by
 rw [List.drop_eq_nil_of_le h]; unfold sameK; rfl
theorem equalKids_c (ks ks' : List NodeD) (a a' : Option Addr) (c c' : Nat) (css css' : List Value) (W : World) (hr : RowA W W.heap.size 4 a ks.length c css) (hk : KidsC W W.heap.size ks css) (hr' : RowA W W.heap.size 4 a' ks'.length c' css') (hk' : KidsC W W.heap.size ks' css')
 (hC : ∀ (i : Nat) (h : i < ks.length) (h' : i < ks'.length) (v v' : Value) (W' : World), NodeV W' W'.heap.size ks[i] v -> NodeV W' W'.heap.size ks'[i] v' -> Calls Tryz.prog 29 #[v, v'] W' fun e w' => e = .returned (.bool (sameN ks[i] ks'[i])) /\ Below W'.heap.size W' w') :
 Calls Tryz.prog 87 #[.slice a ks.length c, .slice a' ks'.length c', .func (.func 29) #[] #[]] W fun e w' => e = .returned (.bool (decide (ks.length = ks'.length) && sameK ks ks')) /\ Below W.heap.size W w' := by
 have hm : ks.length <= 9223372036854775807 := by have h1 := hr.le; have h2 := hr.max; unfold maxLen at h2; omega
 have hm' : ks'.length <= 9223372036854775807 := by have h1 := hr'.le; have h2 := hr'.max; unfold maxLen at h2; omega
 by_cases hl : ks.length = ks'.length
 . have hne : (((ks.length : Nat) : Int) != (ks'.length : Int)) = false := by simp [hl]
   have Hl := Lib.hid hl
   have HC := Lib.hid hC
   have Hk := Lib.hid hk; have Hk' := Lib.hid hk'
   obtain ⟨R, hR⟩ : ∃ R, R = (decide (ks.length = ks'.length) && sameK ks ks') := ⟨_, rfl⟩
   rw [<- hR]
   have HR : Hid (R = sameK (ks.drop 0) (ks'.drop 0)) := by show R = _; rw [hR]; simp [hl]
   clear hl hC hk hk' hR
   have hle : ks'.length <= ks.length := by have := Hl.out; omega
   go_enter Tryz.func87, Tryz.ntmps87
   go_wp2_with fail
   go_loopw [17] (fun i wr => ∃ k : Nat, k <= ks.length /\ i = .int .i64 k /\ R = sameK (ks.drop k) (ks'.drop k) /\ Below W.heap.size W wr) (fun i _ => ks.length - (intOf i).toNat)
   case atStart => exact ⟨0, Nat.zero_le _, rfl, HR.out, Below.refl _ _⟩
   case round =>
    obtain ⟨k, hkk, rfl, hp, hbel⟩ := hrel
    clear HR
    by_cases hlt : k < ks.length
    . have hlt' : k < ks'.length := by have := Hl.out; omega
      have hW := hbel.size
      obtain ⟨b, off, l, a1, n1, c1, a2, n2, c2, a3, n3, c3, rfl, hb, hn, g0, g1, g2, g3⟩ := (hr.keep hbel (Nat.le_refl _)).kid_at (KidsC.keep hbel (Nat.le_refl _) _ _ Hk.out) k hlt
      obtain ⟨b', off', l', a1', n1', c1', a2', n2', c2', a3', n3', c3', rfl, hb', hn', g0', g1', g2', g3'⟩ := (hr'.keep hbel (Nat.le_refl _)).kid_at (KidsC.keep hbel (Nat.le_refl _) _ _ Hk'.out) k hlt'
      have hbw : b < wr.heap.size := by omega
      have hbw' : b' < wr.heap.size := by omega
      have hb0 : Below wr.heap.size wr ((wr.alloc (Obj.cells #[.bool l, .slice a1 n1 c1, .slice a2 n2 c2, .slice a3 n3 c3] 35)).alloc (Obj.cells #[.bool l', .slice a1' n1' c1', .slice a2' n2' c2', .slice a3' n3' c3'] 35)) := ((Below.refl _ _).alloc (Nat.le_refl _) _).alloc (by simp) _
      have HC1 := Lib.hid (HC.out k hlt hlt' (.agg #[.bool l, .slice a1 n1 c1, .slice a2 n2 c2, .slice a3 n3 c3]) (.agg #[.bool l', .slice a1' n1' c1', .slice a2' n2' c2', .slice a3' n3' c3']) _ ⟨_, rfl, NodeC.keep (hb0.mono hW) (Nat.le_trans hW hb0.size) _ _ hn⟩ ⟨_, rfl, NodeC.keep (hb0.mono hW) (Nat.le_trans hW hb0.size) _ _ hn'⟩)
      have Hst := Lib.hid (sameK_step hlt hlt')
      have Hb0 := Lib.hid (hbel.trans (hb0.mono hW))
      have Hp := Lib.hid hp
      generalize sameN ks[k] ks'[k] = q at HC1 Hst
      clear hn hn' hp hbel
      go_wp2_with fail
      refine HC1.out.mono ?_
      rintro e w1 ⟨rfl, hbel⟩
      have Hb1 := Lib.hid (below_then Hb0.out hbel (Nat.le_refl _))
      clear HC1 hbel g0 g1 g2 g3 g0' g1' g2' g3'
      cases q with
      | true =>
        have Hst : Hid (sameK (ks.drop k) (ks'.drop k) = sameK (ks.drop (k + 1)) (ks'.drop (k + 1))) := by show _ = _; rw [Hst.out]; simp
        go_wp2_with fail
        go_roundw
        case rel => exact ⟨k + 1, by omega, by go_num, by rw [Hp.out, Hst.out], Hb1.out⟩
        case measure => simp [intOf]; omega
      | false =>
        have Hst : Hid (R = false) := by show _ = _; rw [Hp.out, Hst.out]; simp
        go_wp2_with fail
        go_ret
        exact ⟨ret_bool Hst.out.symm, Hb1.out⟩
    . have Hp := Lib.hid hp; have Hb := Lib.hid hbel
      clear hp hbel
      go_wp2_with fail
      go_ret
      exact ⟨ret_bool (by rw [Hp.out, sameK_end (by omega)]), Hb.out⟩
 . have hne : (((ks.length : Nat) : Int) != (ks'.length : Int)) = true := by simp; omega
   have Hl := Lib.hid hl; clear hl hC hk hk'
   go_enter Tryz.func87, Tryz.ntmps87
   go_wp2_with fail
   go_ret
   exact ⟨ret_bool (by simp [Hl.out]), Below.refl _ _⟩
theorem psame_c (a a' : Option Addr) (cap cap' B : Nat) (xs ys : List PropD) (w : World) (hr : RowA w B 2 a xs.length cap (propCells xs)) (hr' : RowA w B 2 a' ys.length cap' (propCells ys)) :
 Calls Tryz.prog 85 #[.slice a xs.length cap, .slice a' ys.length cap'] w fun e w' => e = .returned (.bool (decide (xs = ys))) /\ Drawn w w' := by
 have H := Lib.hid (equal_prop a a' cap cap' B xs ys w hr hr')
 clear hr hr'
 go_enter Tryz.func85, Tryz.ntmps85
 go_wp2_with fail
 refine H.out.mono ?_
 rintro e w1 ⟨rfl, hd⟩
 have Hd := Lib.hid hd
 clear hd H
 go_wp2_with fail
 go_ret
 exact ⟨rfl, Hd.out⟩
theorem gsame_c (v1 v2 : Value) (B : Nat) (xs ys : List Int) (w : World) (h1 : Ints .i32 w B v1 xs) (h2 : Ints .i32 w B v2 ys) :
 Calls Tryz.prog 86 #[v1, v2] w fun e w' => e = .returned (.bool (decide (xs = ys))) /\ Drawn w w' := by
 have H := Lib.hid (equal_rune v1 v2 B xs ys w h1 h2)
 clear h1 h2
 go_enter Tryz.func86, Tryz.ntmps86
 go_wp2_with fail
 refine H.out.mono ?_
 rintro e w1 ⟨rfl, hd⟩
 have Hd := Lib.hid hd
 clear hd H
 go_wp2_with fail
 go_ret
 exact ⟨rfl, Hd.out⟩
theorem sameN_open (l l' : Bool) (ps ps' : List PropD) (t t' : List Int) (ks ks' : List NodeD) : sameN (.mk l ps t ks) (.mk l' ps' t' ks') = (l == l' && (decide (ps = ps') && (decide (t = t') && (decide (ks.length = ks'.length) && sameK ks ks')))) := by
 rw [sameN]
theorem same_c (m : Nat) : ∀ (n1 n2 : NodeD) (v1 v2 : Value) (W : World), n1.wt <= m -> NodeV W W.heap.size n1 v1 -> NodeV W W.heap.size n2 v2 ->
 Calls Tryz.prog 29 #[v1, v2] W fun e w' => e = .returned (.bool (sameN n1 n2)) /\ Below W.heap.size W w' := by
 induction m with
 | zero => intro n1 n2 v1 v2 W hm; have := wt_pos n1; omega
 | succ m IH =>
   intro n1 n2 v1 v2 W hm hv1 hv2
   obtain ⟨l, ps, t, ks⟩ := n1
   obtain ⟨l', ps', t', ks'⟩ := n2
   obtain ⟨ap, cp, at_, ct, ak, ck, css, rfl, hp, ht, hk, hkk⟩ := hv1.open
   obtain ⟨ap', cp', at_', ct', ak', ck', css', rfl, hp', ht', hk', hkk'⟩ := hv2.open
   have hwt : wtAll ks <= m := by simp only [NodeD.wt] at hm; omega
   have Hs := Lib.hid (sameN_open l l' ps ps' t t' ks ks')
   generalize sameN (.mk l ps t ks) (.mk l' ps' t' ks') = R at Hs ⊢
   have hb0 : Below W.heap.size W ((W.alloc (Obj.cells #[.bool l, .slice ap ps.length cp, .slice at_ t.length ct, .slice ak ks.length ck] 35)).alloc (Obj.cells #[.bool l', .slice ap' ps'.length cp', .slice at_' t'.length ct', .slice ak' ks'.length ck'] 35)) := ((Below.refl _ _).alloc (Nat.le_refl _) _).alloc (by simp) _
   have HP := Lib.hid (psame_c ap ap' cp cp' _ ps ps' _ (hp.keep hb0 (Nat.le_refl _)) (hp'.keep hb0 (Nat.le_refl _)))
   have HT := fun q => Lib.hid (gsame_c _ _ _ t t' _ (ht.keep (below_drewN hb0 q) (Nat.le_refl _)) (ht'.keep (below_drewN hb0 q) (Nat.le_refl _)))
   have HK := fun (W' : World) (hb : Below W.heap.size W W') => Lib.hid (equalKids_c ks ks' ak ak' ck ck' css css' W' (hk.keep hb hb.size) (KidsC.keep hb hb.size _ _ hkk) (hk'.keep hb hb.size) (KidsC.keep hb hb.size _ _ hkk')
    (fun i h h' v v' W2 q1 q2 => IH ks[i] ks'[i] v v' W2 (Nat.le_trans (wtAll_mem (List.getElem_mem h)) hwt) q1 q2))
   have Hb0 := Lib.hid hb0
   clear IH hv1 hv2 hp ht hk hkk hp' ht' hk' hkk' hm hwt hb0
   by_cases hl : l = l'
   . subst hl
     by_cases hps : ps = ps'
     . have HP : Hid _ := HP
       have e1 : decide (ps = ps') = true := decide_eq_true hps
       rw [e1] at HP Hs
       clear e1 hps
       by_cases ht : t = t'
       . have e1 : decide (t = t') = true := decide_eq_true ht
         rw [e1] at HT Hs
         clear e1 ht
         have Hs2 : Hid (R = (decide (ks.length = ks'.length) && sameK ks ks')) := by show _ = _; rw [Hs.out]; simp
         clear Hs
         generalize (decide (ks.length = ks'.length) && sameK ks ks') = x at Hs2 HK
         cases l <;>
         . go_enter Tryz.func29, Tryz.ntmps29
           go_wp2_with fail
           refine HP.out.mono ?_
           rintro e w1 ⟨rfl, q, rfl⟩
           have HT1 := HT q
           clear HP HT
           go_wp2_with fail
           refine HT1.out.mono ?_
           rintro e w1 ⟨rfl, q2, rfl⟩
           have hb2 := below_drewN Hb0.out (q + q2)
           have HK1 := HK _ hb2
           have Hb2 := Lib.hid hb2
           clear HT1 hb2 HK Hb0
           go_wp2_with fail
           refine HK1.out.mono ?_
           rintro e w1 ⟨rfl, hbel⟩
           have Hb3 := Lib.hid (below_then Hb2.out hbel (Nat.le_refl _))
           clear hbel HK1 Hb2
           go_wp2_with fail
           go_ret
           exact ⟨ret_bool (by rw [Hs2.out]), Hb3.out⟩
       . have e1 : decide (t = t') = false := decide_eq_false ht
         rw [e1] at HT Hs
         clear e1 ht HK
         have Hs2 : Hid (R = false) := by show _ = _; rw [Hs.out]; simp
         cases l <;>
         . go_enter Tryz.func29, Tryz.ntmps29
           go_wp2_with fail
           refine HP.out.mono ?_
           rintro e w1 ⟨rfl, q, rfl⟩
           have HT1 := HT q
           clear HP HT
           go_wp2_with fail
           refine HT1.out.mono ?_
           rintro e w1 ⟨rfl, q2, rfl⟩
           have hb2 := Lib.hid (below_drewN Hb0.out (q + q2))
           clear HT1 Hb0
           go_wp2_with fail
           go_ret
           exact ⟨ret_bool (by rw [Hs2.out]), hb2.out⟩
     . have e1 : decide (ps = ps') = false := decide_eq_false hps
       rw [e1] at HP Hs
       clear e1 hps HK HT
       have Hs2 : Hid (R = false) := by show _ = _; rw [Hs.out]; simp
       cases l <;>
       . go_enter Tryz.func29, Tryz.ntmps29
         go_wp2_with fail
         refine HP.out.mono ?_
         rintro e w1 ⟨rfl, q, rfl⟩
         have hb2 := Lib.hid (below_drewN Hb0.out q)
         clear HP Hb0
         go_wp2_with fail
         go_ret
         exact ⟨ret_bool (by rw [Hs2.out]), hb2.out⟩
   . have Hs2 : Hid (R = false) := by show _ = _; rw [Hs.out]; simp [hl]
     clear HP HT HK
     have hne : (l == l') = false := by simpa using hl
     clear hl
     go_enter Tryz.func29, Tryz.ntmps29
     go_wp2_with fail
     go_ret
     exact ⟨ret_bool (by rw [Hs2.out]), Hb0.out⟩
end Go.Proofs.YtbommcakcmhalaaGreatDoor
/- Walks: the reference's Same at trees. -/
namespace Go.Proofs.YtbommcakcmhalaaGreatDoor
open Go.RowKit Go.Redl
end Go.Proofs.YtbommcakcmhalaaGreatDoor
/- Walks: the reference's Same at operations that are the same. -/
namespace Go.Proofs.YtbommcakcmhalaaGreatDoor
open Go.RowKit Go.Redl
theorem rpath_c (a a' : Option Addr) (cap cap' B : Nat) (xs ys : List Int) (w : World) (hr : RowA w B 1 a xs.length cap (xs.map (Value.int .i64))) (hr' : RowA w B 1 a' ys.length cap' (ys.map (Value.int .i64))) :
 Calls Tryz.prog 37 #[.slice a xs.length cap, .slice a' ys.length cap'] w fun e w' => e = .returned (.bool (decide (xs = ys))) /\ Drawn w w' := by
 have hm : xs.length <= 9223372036854775807 := by have h1 := hr.le; have h2 := hr.max; unfold maxLen at h2; omega
 have hm' : ys.length <= 9223372036854775807 := by have h1 := hr'.le; have h2 := hr'.max; unfold maxLen at h2; omega
 by_cases hl : xs.length = ys.length
 . go_enter Tryz.func37, Tryz.ntmps37
   have hle : ys.length <= xs.length := by omega
   have hle' : xs.length <= ys.length := by omega
   have hne : (((xs.length : Nat) : Int) != (ys.length : Int)) = false := by simp [hl]
   have Hl := Lib.hid hl; clear hl
   go_wp2_with fail
   go_loopw [13] (fun i wr => ∃ k : Nat, k <= xs.length /\ i = .int .i64 k /\ SameTo xs ys k /\ Drawn w wr) (fun i _ => xs.length - (intOf i).toNat)
   case atStart => exact ⟨0, Nat.zero_le _, rfl, sameTo_zero _ _, ⟨0, rfl⟩⟩
   case round =>
    obtain ⟨k, hk, rfl, hp, q, rfl⟩ := hrel
    have Hp := Lib.hid hp; clear hp
    by_cases hlt : k < xs.length
    . obtain ⟨b, off, rfl, hb, hcell⟩ := hr.int_at k hlt
      obtain ⟨b', off', rfl, hb', hcell'⟩ := hr'.int_at k (by omega)
      have hcell := hcell k hlt
      have hcell' := hcell' k (by omega)
      have hlt' : k < ys.length := by omega
      rw [getD_of_lt hlt] at hcell
      rw [getD_of_lt hlt'] at hcell'
      go_wp2_with fail
      by_cases he : xs[k] = ys[k]
      . have hne : (xs[k] != ys[k]) = false := by simp [he]
        have He := Lib.hid he; clear he
        go_quiet (fail)
        go_wp2_with fail
        go_roundw
        case rel => exact ⟨k + 1, by omega, by go_num, sameTo_succ Hp.out hlt hlt' He.out, by first | exact drawn_one _ _ | exact drawn_two _ _ _⟩
        case measure => simp [intOf]; omega
      . have hne : (xs[k] != ys[k]) = true := by simp [he]
        have He := Lib.hid he; clear he
        go_quiet (fail)
        go_wp2_with fail
        go_ret
        exact ⟨ret_bool (by simp [same_not hlt hlt' He.out]), drawn_two _ _ _⟩
    . go_wp2_with fail
      go_ret
      obtain rfl : k = xs.length := by omega
      exact ⟨ret_bool (by simp [sameTo_all Hp.out Hl.out]), drawn_one _ _⟩
 . have hne : (((xs.length : Nat) : Int) != (ys.length : Int)) = true := by simp; omega
   have Hl := Lib.hid hl; clear hl
   go_enter Tryz.func37, Tryz.ntmps37
   go_wp2_with fail
   go_ret
   exact ⟨ret_bool (by simp [show xs ≠ ys from fun h => Hl.out (by rw [h])]), drawn_zero _⟩
theorem At.f21 {w : World} {N : Nat} {c0 c1 c2 c3 c4 c5 c6 c7 c8 c9 c10 c11 c12 c13 c14 c15 c16 c17 c18 c19 c20 : Value} {T : TypeId} (h : At w N [c0, c1, c2, c3, c4, c5, c6, c7, c8, c9, c10, c11, c12, c13, c14, c15, c16, c17, c18, c19, c20] T) : (w.cell? ⟨N, 0, none⟩ = some c0 /\ w.cell? ⟨N, 1, none⟩ = some c1 /\ w.cell? ⟨N, 2, none⟩ = some c2 /\ w.cell? ⟨N, 3, none⟩ = some c3 /\ w.cell? ⟨N, 4, none⟩ = some c4 /\ w.cell? ⟨N, 5, none⟩ = some c5 /\ w.cell? ⟨N, 6, none⟩ = some c6 /\ w.cell? ⟨N, 7, none⟩ = some c7 /\ w.cell? ⟨N, 8, none⟩ = some c8 /\ w.cell? ⟨N, 9, none⟩ = some c9 /\ w.cell? ⟨N, 10, none⟩ = some c10 /\ w.cell? ⟨N, 11, none⟩ = some c11 /\ w.cell? ⟨N, 12, none⟩ = some c12 /\ w.cell? ⟨N, 13, none⟩ = some c13 /\ w.cell? ⟨N, 14, none⟩ = some c14 /\ w.cell? ⟨N, 15, none⟩ = some c15 /\ w.cell? ⟨N, 16, none⟩ = some c16 /\ w.cell? ⟨N, 17, none⟩ = some c17 /\ w.cell? ⟨N, 18, none⟩ = some c18 /\ w.cell? ⟨N, 19, none⟩ = some c19 /\ w.cell? ⟨N, 20, none⟩ = some c20) /\ (∀ j, w.frozen? ⟨N, j, none⟩ = false) /\ N < w.heap.size :=
 ⟨⟨h.cell 0 rfl, h.cell 1 rfl, h.cell 2 rfl, h.cell 3 rfl, h.cell 4 rfl, h.cell 5 rfl, h.cell 6 rfl, h.cell 7 rfl, h.cell 8 rfl, h.cell 9 rfl, h.cell 10 rfl, h.cell 11 rfl, h.cell 12 rfl, h.cell 13 rfl, h.cell 14 rfl, h.cell 15 rfl, h.cell 16 rfl, h.cell 17 rfl, h.cell 18 rfl, h.cell 19 rfl, h.cell 20 rfl⟩, fun j => Lib.frozen_of_heap h _, h.lt⟩
/-- Yes. -/
abbrev YesP (W : World) (e : Ending) (w' : World) : Prop := e = .returned (.bool true) /\ Below W.heap.size W w'
theorem rpath_yes (p : List Int) (a a' : Option Addr) (c c' : Nat) (w : World) (h : RowA w w.heap.size 1 a p.length c (p.map (Value.int .i64))) (h' : RowA w w.heap.size 1 a' p.length c' (p.map (Value.int .i64))) :
 Calls Tryz.prog 37 #[.slice a p.length c, .slice a' p.length c'] w (YesP w) :=
 (rpath_c a a' c c' _ p p w h h').mono fun e w' hh => by obtain ⟨rfl, hd⟩ := hh; exact ⟨ret_bool (by simp), hd.below _⟩
end Go.Proofs.YtbommcakcmhalaaGreatDoor
