/- Walks: fix's small parts: under, at, kid, typed. -/
import Derived.Test.YtiinmgccjlmoaaaRHM
import Derived.Test.YtiinmgccjlmoaaaRHN
import Derived.Test.YtiinmgccjlmoaaaRCP
namespace Go.Proofs.Ytiinmgccjlmoaaa
open Go.RowKit Go.Redl
set_option linter.unusedVariables false
set_option linter.unusedSimpArgs false

/-- A path made. -/
abbrev PathP (W : World) (zs : List Int) (e : Ending) (w' : World) : Prop := ∃ a c, e = .returned (.slice a zs.length c) ∧ PathQ w' (fun b => W.heap.size ≤ b) a c zs ∧ Below W.heap.size W w'
/-- A box's cells as a row. -/
theorem rowq_at {w : World} {N : Nat} {cs : List Value} {T : TypeId} {ok : Nat → Prop} (h : At w N cs T) (n sz : Nat) (hl : cs.length = n * sz) (hn : n ≤ 100000000) (h1 : ∀ u ∈ cs, u.oneCell' = true) (hok : ok N) : RowQ w ok sz (some ⟨N, 0, none⟩) n n cs :=
  ⟨hl, Nat.le_refl _, by unfold maxLen; omega, h1, (fun e => by cases e), fun _ => ⟨N, 0, rfl, hok, h.lt, fun j u hj => by rw [Nat.zero_add]; exact h.cell j hj⟩⟩
theorem ints_one (zs : List Int) : ∀ u ∈ zs.map (Value.int .i64), u.oneCell' = true := by
  intro u hu; obtain ⟨z, -, rfl⟩ := List.mem_map.1 hu; rfl
theorem row_two (w : World) (v0 v1 : Value) (E B : Nat) (h0 : v0.oneCell' = true) (h1 : v1.oneCell' = true) (hB : w.heap.size < B) : RowA (w.alloc (.cells #[v0, v1] E)) B 1 (some ⟨w.heap.size, 0, none⟩) 2 2 [v0, v1] := by
  refine ⟨rfl, Nat.le_refl _, by unfold maxLen; omega, by simp [h0, h1], (fun e => by cases e), fun _ => ⟨w.heap.size, 0, rfl, hB, fun j u hj => ?_⟩⟩
  have h := At.fresh w [v0, v1] E
  rw [Nat.zero_add]; exact h.cell j hj

set_option maxRecDepth 100000 in
theorem under_c (p l : List Int) (pa : Option Addr) (pc : Nat) (la : Option Addr) (lc : Nat) (W : World) (hp : RowA W W.heap.size 1 pa p.length pc (p.map (Value.int .i64))) (hl : RowA W W.heap.size 1 la l.length lc (l.map (Value.int .i64))) (hn : p.length + l.length ≤ 1000000) :
    Calls Try.prog 59 #[.slice pa p.length pc, .slice la l.length lc] W (PathP W (p ++ l)) := by
  have hb0 := one_below W (Obj.cells #[.slice pa p.length pc, .slice la l.length lc] 36)
  have hC := concat_int (some ⟨W.heap.size, 0, none⟩) 2 (W.heap.size + 1) [.slice pa p.length pc, .slice la l.length lc] [p.map (Value.int .i64), l.map (Value.int .i64)] _
    (row_two W (.slice pa p.length pc) (.slice la l.length lc) 36 _ rfl rfl (by omega))
    (Parts.cons (hp.keep hb0 (by omega)) (Parts.cons (hl.keep hb0 (by omega)) (Parts.nil _ _))) (by simp) (by simpa using hn)
  have HC := Lib.hid (show Calls Try.prog 92 #[.slice (some ⟨W.heap.size, 0, none⟩) 2 2] _ (MadeRow _ 3 1 (p ++ l).length ((p ++ l).map (Value.int .i64))) by
    have h := hC
    rw [show ([p.map (Value.int .i64), l.map (Value.int .i64)].flatten) = (p ++ l).map (Value.int .i64) by simp, List.length_map] at h
    exact h)
  have Hb0 := Lib.hid hb0
  clear hC hb0 hp hl
  generalize p ++ l = zs at HC ⊢
  go_enter Try.func59, Try.ntmps59
  go_wp2_with fail
  refine HC.out.mono ?_
  rintro e w1 ⟨v, rfl, hown, hbel⟩
  obtain ⟨a, c, rfl, hq⟩ := rowq_own hown (ints_one _)
  have Hq := Lib.hid hq; have Hb1 := Lib.hid (Hb0.out.trans (hbel.mono Hb0.out.size))
  clear hown hq hbel HC
  go_wp2_with fail
  go_ret
  exact ⟨_, _, rfl, Hq.out.keep (Nat.le_refl _) (fun _ _ _ => rfl) (fun b hb _ => Nat.le_trans Hb0.out.size hb), Hb1.out⟩
theorem under_ent : ∀ args w, (callFunc 59 args).run Try.prog w = .ok (.enter 59 args) w := by intro args w; kernel_rfl
theorem jat_ent : ∀ args w, (callFunc 57 args).run Try.prog w = .ok (.enter 57 args) w := by intro args w; kernel_rfl
theorem jkid_ent : ∀ args w, (callFunc 58 args).run Try.prog w = .ok (.enter 58 args) w := by intro args w; kernel_rfl
theorem ftyped_ent : ∀ args w, (callFunc 60 args).run Try.prog w = .ok (.enter 60 args) w := by intro args w; kernel_rfl

set_option maxRecDepth 100000 in
set_option maxHeartbeats 1000000 in
theorem jat_c (p : List Int) (pa : Option Addr) (pc : Nat) (v1 v2 v3 v4 v5 v6 v7 v8 v9 v10 v11 v12 v13 v15 : Value) (j : Nat) (d : Int) (W : World) (hp : RowA W W.heap.size 1 pa p.length pc (p.map (Value.int .i64))) (hn : p.length ≤ 100000) (hj : j ≤ 100000000) (h0 : 0 ≤ d) (h1 : d ≤ 100000000) :
    Calls Try.prog 57 #[.agg #[.slice pa p.length pc, v1, v2, v3, v4, v5, v6, v7, v8, v9, v10, v11, v12, v13, .int .i64 j, v15], .int .i64 d] W (PathP W (p ++ [(j : Int) + d])) := by
  have hb0 := two_below W (Obj.cells #[.slice pa p.length pc, v1, v2, v3, v4, v5, v6, v7, v8, v9, v10, v11, v12, v13, .int .i64 j, v15] 72) (Obj.cells #[.int .i64 ((j : Int) + d)] 3)
  have HU := Lib.hid (under_c p [(j : Int) + d] pa pc (some ⟨W.heap.size + 1, 0, none⟩) 1 ((W.alloc (Obj.cells #[.slice pa p.length pc, v1, v2, v3, v4, v5, v6, v7, v8, v9, v10, v11, v12, v13, .int .i64 j, v15] 72)).alloc (Obj.cells #[.int .i64 ((j : Int) + d)] 3)) (hp.keep hb0 hb0.size) (by
    have h := row_one (W.alloc (Obj.cells #[.slice pa p.length pc, v1, v2, v3, v4, v5, v6, v7, v8, v9, v10, v11, v12, v13, .int .i64 j, v15] 72)) (.int .i64 ((j : Int) + d)) 3 ((W.alloc (Obj.cells #[.slice pa p.length pc, v1, v2, v3, v4, v5, v6, v7, v8, v9, v10, v11, v12, v13, .int .i64 j, v15] 72)).alloc (Obj.cells #[.int .i64 ((j : Int) + d)] 3)).heap.size rfl (by simp)
    simpa using h) (by simp; omega))
  have hwr : IntKind.i64.wrap ((j : Int) + d) = (j : Int) + d := IntWalk.i64_in _ (by omega)
  have Hb0 := Lib.hid hb0
  clear hb0 hp
  generalize p ++ [(j : Int) + d] = zs at HU ⊢
  go_enter Try.func57, Try.ntmps57
  go_wp2_with fail
  refine HU.out.mono ?_
  rintro e w1 ⟨a, c, rfl, hq, hbel⟩
  have Hq := Lib.hid hq; have Hb1 := Lib.hid (Hb0.out.trans (hbel.mono Hb0.out.size))
  clear hq hbel HU
  go_wp2_with fail
  go_ret
  exact ⟨_, _, rfl, Hq.out.keep (Nat.le_refl _) (fun _ _ _ => rfl) (fun b hb _ => Nat.le_trans Hb0.out.size hb), Hb1.out⟩

/-- A node handed back, where it lies. -/
abbrev KidP (W : World) (q : NodeD) (e : Ending) (w' : World) : Prop := ∃ v, e = .returned v ∧ NodeV w' w'.heap.size q v ∧ Below W.heap.size W w'
set_option maxRecDepth 100000 in
set_option maxHeartbeats 1000000 in
theorem jkid_c (ks : List NodeD) (ak : Option Addr) (ck : Nat) (css : List Value) (v0 v1 v2 v3 v5 v6 v7 v8 v9 v10 v11 v12 v13 v15 : Value) (j : Nat) (W : World) (hk : RowA W W.heap.size 4 ak ks.length ck css) (hkk : KidsC W W.heap.size ks css) (hj : j < ks.length) (hn : ks.length ≤ 100000000) :
    Calls Try.prog 58 #[.agg #[v0, v1, v2, v3, .slice ak ks.length ck, v5, v6, v7, v8, v9, v10, v11, v12, v13, .int .i64 j, v15]] W (KidP W (kidAt ks j)) := by
  rw [kid_get hj]
  have hjI : (j : Int) < ks.length := by omega
  have hb0 := one_below W (Obj.cells #[v0, v1, v2, v3, .slice ak ks.length ck, v5, v6, v7, v8, v9, v10, v11, v12, v13, .int .i64 j, v15] 72)
  have hb1 := two_below W (Obj.cells #[v0, v1, v2, v3, .slice ak ks.length ck, v5, v6, v7, v8, v9, v10, v11, v12, v13, .int .i64 j, v15] 72) (Obj.cells #[.bool false, .slice none 0 0, .slice none 0 0, .slice none 0 0] 35)
  obtain ⟨kb, ko, a1, c1, a2, c2, a3, c3, rfl, hkb, hnv, -, g0, g1, g2, g3⟩ := kidO hk hkk j hj
  generalize ks[j] = q at hnv g0 g1 g2 g3 ⊢
  have hX := At.second W (Obj.cells #[v0, v1, v2, v3, .slice (some ⟨kb, ko, none⟩) ks.length ck, v5, v6, v7, v8, v9, v10, v11, v12, v13, .int .i64 j, v15] 72) [.bool false, .slice none 0 0, .slice none 0 0, .slice none 0 0] 35
  obtain ⟨w1, hw1⟩ : ∃ w1, w1 = ((W.alloc (Obj.cells #[v0, v1, v2, v3, .slice (some ⟨kb, ko, none⟩) ks.length ck, v5, v6, v7, v8, v9, v10, v11, v12, v13, .int .i64 j, v15] 72)).alloc (Obj.cells #[.bool false, .slice none 0 0, .slice none 0 0, .slice none 0 0] 35)) := ⟨_, rfl⟩
  have hA : At w1 W.heap.size [v0, v1, v2, v3, .slice (some ⟨kb, ko, none⟩) ks.length ck, v5, v6, v7, v8, v9, v10, v11, v12, v13, .int .i64 j, v15] 72 := by rw [hw1]; exact (At.fresh W _ _).alloc _
  rw [← hw1] at hX hb1
  have f0 := (hb1.cell (p := ⟨kb, ko + j * 4, none⟩) hkb).trans g0
  have f1 := (hb1.cell (p := ⟨kb, ko + j * 4 + 1, none⟩) hkb).trans g1
  have f2 := (hb1.cell (p := ⟨kb, ko + j * 4 + 2, none⟩) hkb).trans g2
  have f3 := (hb1.cell (p := ⟨kb, ko + j * 4 + 3, none⟩) hkb).trans g3
  obtain ⟨⟨x0, x1, x2, x3, x4, x5, x6, x7, x8, x9, x10, x11, x12, x13, x14, x15⟩, -, xl⟩ := hA.f16
  obtain ⟨⟨y0, y1, y2, y3⟩, yf, yl⟩ := hX.f4
  have Hw1 := Lib.hid hw1; have Hb1 := Lib.hid hb1; have Hnv := Lib.hid hnv
  have hcl : W.heap.size ≤ W.heap.size + 1 := by omega
  clear hw1 hb1 hb0 hnv hk hkk hA hX g0 g1 g2 g3 hj
  go_enter Try.func58, Try.ntmps58
  go_upto_region 1 with fail
  rw [← Hw1.out]
  clear Hw1
  go_wp2_with fail
  refine bodyPost_ret (v := .agg #[.bool (leafOf q), .slice a1 (propsOf q).length c1, .slice a2 (textOf q).length c2, .slice a3 (kidsOf q).length c3]) (by simp [results, Try.results58, go_sem, y0, y1, y2, y3]) rfl ?_
  have hb := below_all (N := W.heap.size + 1) Hb1.out hcl (.bool (leafOf q)) (.slice a1 (propsOf q).length c1) (.slice a2 (textOf q).length c2) (.slice a3 (kidsOf q).length c3)
  exact ⟨_, rfl, Hnv.out.keep hb hb.size, hb⟩

set_option maxRecDepth 100000 in
set_option maxHeartbeats 1000000 in
theorem ftyped_c (kind : List UInt8) (W : World) : Calls Try.prog 60 #[strV kind] W (CopyP W (elemN kind)) := by
  cases kind with
  | nil =>
    have HE : Hid (elemN [] = .mk false [] [] []) := rfl
    go_enter Try.func60, Try.ntmps60
    go_wp2_with fail
    refine bodyPost_ret (v := .agg #[.bool false, .slice none 0 0, .slice none 0 0, .slice none 0 0]) (by simp [results, Try.results60, go_sem]) rfl ?_
    rw [HE.out]
    exact ⟨_, rfl, zero_q _ _, two_below W _ _⟩
  | cons x r =>
    have HE : Hid (elemN (x :: r) = .mk false [(typeB, x :: r)] [] []) := by show elemN _ = _; unfold elemN; rw [if_neg (by simp)]
    have hne : ((⟨(x :: r).toArray⟩ : ByteArray).toList.isEmpty) = false := by rw [ByteArray.toList_mk]; rfl
    have hne2 : (!(⟨(x :: r).toArray⟩ : ByteArray).toList.isEmpty) = true := by rw [ByteArray.toList_mk]; rfl
    have Hpc : Hid (propCells [(typeB, x :: r)] = [.string ⟨#[116, 121, 112, 101]⟩, .string ⟨(x :: r).toArray⟩]) := rfl
    obtain ⟨S, hS⟩ : ∃ S, S = (⟨(x :: r).toArray⟩ : ByteArray) := ⟨_, rfl⟩
    rw [show strV (x :: r) = .string S by rw [hS]]
    rw [← hS] at hne hne2 Hpc
    clear hS
    go_enter Try.func60, Try.ntmps60
    go_wp2_with fail
    have hb1 := fun (o1 o2 : Obj) => Lib.hid (three_below W o1 o2 (Obj.cells #[.string ⟨#[116, 121, 112, 101]⟩, .string S] 89))
    refine bodyPost_ret (v := .agg #[.bool false, .slice (some ⟨W.heap.size + 1 + 1, 0, none⟩) 1 1, .slice none 0 0, .slice none 0 0]) (by simp [results, Try.results60, go_sem]) rfl ?_
    refine ⟨_, rfl, ?_, (hb1 _ _).out⟩
    rw [HE.out]
    unfold NodeQ
    refine ⟨some ⟨W.heap.size + 1 + 1, 0, none⟩, 1, none, 0, none, 0, [], rfl, ?_, RowQ.empty _ _ _, by simp, RowQ.empty _ _ _, by unfold KidsQ; rfl⟩
    rw [Hpc.out]
    exact rowq_at (At.third W _ _ [.string ⟨#[116, 121, 112, 101]⟩, .string S] 89) 1 2 rfl (by omega) (by intro u hu; simp at hu; rcases hu with rfl | rfl <;> rfl) (by omega)

end Go.Proofs.Ytiinmgccjlmoaaa
