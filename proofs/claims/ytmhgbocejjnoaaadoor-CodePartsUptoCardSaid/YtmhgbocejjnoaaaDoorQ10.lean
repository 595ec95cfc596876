/- Parts of the proof, one behind the other: RDE, RDF, RDH. -/
import Derived.Test.YtmhgbocejjnoaaaDoorQ8
import Derived.Test.YtmhgbocejjnoaaaDoorQ2
import Derived.Deep.DeepCutAuto
import Derived.Test.YtmhgbocejjnoaaaDoorQ9
/- Walks: code's read. -/
namespace Go.Proofs.YtmhgbocejjnoaaaDoor
open Go.RowKit Go.Redl
set_option linter.unusedVariables false

/-- The boxes of read's results. -/
structure BoxAt (w : World) (N : Nat) (c0 c1 c2 c3 x y : Value) : Prop where
  node : w.heap[N]? = some (.cells #[c0, c1, c2, c3] 26 (0, 0))
  bad : w.heap[N + 1]? = some (.cells #[x, y] 71 (0, 0))
theorem BoxAt.facts {w : World} {N : Nat} {c0 c1 c2 c3 x y : Value} (h : BoxAt w N c0 c1 c2 c3 x y) :
    w.cell? ⟨N, 0, none⟩ = some c0 ∧ w.cell? ⟨N, 1, none⟩ = some c1 ∧ w.cell? ⟨N, 2, none⟩ = some c2 ∧ w.cell? ⟨N, 3, none⟩ = some c3 ∧ w.cell? ⟨N + 1, 0, none⟩ = some x ∧ w.cell? ⟨N + 1, 1, none⟩ = some y ∧
      (w.frozen? ⟨N, 0, none⟩ = false ∧ w.frozen? ⟨N, 1, none⟩ = false ∧ w.frozen? ⟨N, 2, none⟩ = false ∧ w.frozen? ⟨N, 3, none⟩ = false ∧ w.frozen? ⟨N + 1, 0, none⟩ = false ∧ w.frozen? ⟨N + 1, 1, none⟩ = false) ∧ N + 1 < w.heap.size := by
  obtain ⟨h1, h2⟩ := h
  refine ⟨?_, ?_, ?_, ?_, ?_, ?_, ⟨?_, ?_, ?_, ?_, ?_, ?_⟩, (Array.getElem?_eq_some_iff.1 h2).1⟩
  all_goals first
    | exact Lib.frozen_of_heap h1 _
    | exact Lib.frozen_of_heap h2 _
    | (rw [Lib.cell_of_heap h1]; rfl)
    | (rw [Lib.cell_of_heap h2]; rfl)
theorem BoxAt.keep {w w' : World} {N : Nat} {c0 c1 c2 c3 x y : Value} (h : BoxAt w N c0 c1 c2 c3 x y) (hb : Below (N + 2) w w') : BoxAt w' N c0 c1 c2 c3 x y :=
  ⟨by rw [hb.block N (by omega)]; exact h.node, by rw [hb.block (N + 1) (by omega)]; exact h.bad⟩
theorem BoxAt.fresh (W : World) (c0 c1 c2 c3 x y : Value) : BoxAt ((W.alloc (.cells #[c0, c1, c2, c3] 26)).alloc (.cells #[x, y] 71)) W.heap.size c0 c1 c2 c3 x y := by
  refine ⟨?_, ?_⟩
  · rw [Lib.alloc_old _ _ _ (by simp)]
    exact heap_alloc_new W _
  · have := heap_alloc_new (W.alloc (.cells #[c0, c1, c2, c3] 26)) (.cells #[x, y] 71)
    simpa using this
theorem BoxAt.set {w : World} {N : Nat} {c0 c1 c2 c3 x y : Value} (h : BoxAt w N c0 c1 c2 c3 x y) (u : Value) :
    BoxAt (w.setCell ⟨N, 0, none⟩ u) N u c1 c2 c3 x y ∧ BoxAt (w.setCell ⟨N, 1, none⟩ u) N c0 u c2 c3 x y ∧ BoxAt (w.setCell ⟨N, 2, none⟩ u) N c0 c1 u c3 x y ∧ BoxAt (w.setCell ⟨N, 3, none⟩ u) N c0 c1 c2 u x y ∧
      BoxAt (w.setCell ⟨N + 1, 0, none⟩ u) N c0 c1 c2 c3 u y ∧ BoxAt (w.setCell ⟨N + 1, 1, none⟩ u) N c0 c1 c2 c3 x u := by
  obtain ⟨h1, h2⟩ := h
  refine ⟨⟨?_, ?_⟩, ⟨?_, ?_⟩, ⟨?_, ?_⟩, ⟨?_, ?_⟩, ⟨?_, ?_⟩, ⟨?_, ?_⟩⟩
  all_goals first
    | (rw [Below.heap_setCell _ _ _ _ (by simp)]; assumption)
    | (rw [Lib.heap_setCell_same h1]; rfl)
    | (rw [Lib.heap_setCell_same h2]; rfl)

theorem BoxAt.alloc {w : World} {N : Nat} {c0 c1 c2 c3 x y : Value} (h : BoxAt w N c0 c1 c2 c3 x y) (o : Obj) : BoxAt (w.alloc o) N c0 c1 c2 c3 x y :=
  ⟨by rw [Lib.alloc_old _ _ _ (Array.getElem?_eq_some_iff.1 h.node).1]; exact h.node, by rw [Lib.alloc_old _ _ _ (Array.getElem?_eq_some_iff.1 h.bad).1]; exact h.bad⟩
theorem BoxAt.grown {w w' : World} {N : Nat} {c0 c1 c2 c3 x y : Value} {row : Option Nat} (h : BoxAt w N c0 c1 c2 c3 x y) (hg : w.grownBy w' row) (hne : ∀ k, row = some k → N + 2 ≤ k) : BoxAt w' N c0 c1 c2 c3 x y :=
  ⟨by rw [hg.block N (Array.getElem?_eq_some_iff.1 h.node).1 (fun e => by have := hne N e.symm; omega)]; exact h.node, by rw [hg.block (N + 1) (Array.getElem?_eq_some_iff.1 h.bad).1 (fun e => by have := hne (N + 1) e.symm; omega)]; exact h.bad⟩

/-- What read answers. -/
def ReadR (W : World) (R : Rd NodeD) (e : Ending) (w' : World) : Prop :=
  match R with
  | .ok n at_ => ∃ cs, e = .returned (.tuple #[.agg cs.toArray, .int .i64 at_, .agg #[.int .i64 0, .int .i64 0]]) ∧ NodeQ w' (fun b => W.heap.size ≤ b) n cs ∧ Below W.heap.size W w'
  | .bad a er => ∃ l a1 n1 k1 a2 n2 k2 a3 n3 k3 z, e = .returned (.tuple #[.agg #[.bool l, .slice a1 n1 k1, .slice a2 n2 k2, .slice a3 n3 k3], .int .i64 z, .agg #[.int .i64 a, .int .i64 er]]) ∧ er ≠ 0 ∧ Below W.heap.size W w'

theorem rdP_err : ∀ (f : Nat) (s : List UInt8) (a : Nat) (out : List PropD) (last : List UInt8) (p : Nat) (er : Int), rdP f s a out last = .bad p er → er = 11 ∨ er = 2 ∨ er = 3 ∨ er = 1
  | 0, s, a, out, last, p, er, h => by unfold rdP at h; injection h with h1 h2; omega
  | f + 1, s, a, out, last, p, er, h => by
    unfold rdP at h
    generalize keyAt s (a + 1) = key at h
    generalize valAt s (a + 1 + key.length + 1) = val at h
    by_cases c1 : key = [] ∨ standsB s (a + 1 + key.length) 58 = false
    · rw [if_pos c1] at h; injection h with h1 h2; omega
    rw [if_neg c1] at h
    by_cases c2 : out.length = 16
    · rw [if_pos c2] at h; injection h with h1 h2; omega
    rw [if_neg c2] at h
    by_cases c3 : 16 < key.length ∨ 32 < val.length
    · rw [if_pos c3] at h; injection h with h1 h2; omega
    rw [if_neg c3] at h
    by_cases c4 : leB key last = true
    · rw [if_pos c4] at h; injection h with h1 h2; omega
    rw [if_neg c4] at h
    by_cases c5 : standsB s (a + 1 + key.length + 1 + val.length) 125 = true
    · rw [if_pos c5] at h; cases h
    rw [if_neg c5] at h
    by_cases c6 : standsB s (a + 1 + key.length + 1 + val.length) 44 = false
    · rw [if_pos c6] at h; injection h with h1 h2; omega
    rw [if_neg c6] at h
    exact rdP_err f s _ _ _ p er h

theorem BoxAt.drew {w : World} {N : Nat} {c0 c1 c2 c3 x y : Value} (h : BoxAt w N c0 c1 c2 c3 x y) : BoxAt w.drew N c0 c1 c2 c3 x y := ⟨h.node, h.bad⟩
theorem BoxAt.s0 {w : World} {N : Nat} {c0 c1 c2 c3 x y : Value} (h : BoxAt w N c0 c1 c2 c3 x y) (u : Value) : BoxAt (w.setCell ⟨N, 0, none⟩ u) N u c1 c2 c3 x y := (h.set u).1
theorem BoxAt.s1 {w : World} {N : Nat} {c0 c1 c2 c3 x y : Value} (h : BoxAt w N c0 c1 c2 c3 x y) (u : Value) : BoxAt (w.setCell ⟨N, 1, none⟩ u) N c0 u c2 c3 x y := (h.set u).2.1
theorem BoxAt.s2 {w : World} {N : Nat} {c0 c1 c2 c3 x y : Value} (h : BoxAt w N c0 c1 c2 c3 x y) (u : Value) : BoxAt (w.setCell ⟨N, 2, none⟩ u) N c0 c1 u c3 x y := (h.set u).2.2.1
theorem BoxAt.s3 {w : World} {N : Nat} {c0 c1 c2 c3 x y : Value} (h : BoxAt w N c0 c1 c2 c3 x y) (u : Value) : BoxAt (w.setCell ⟨N, 3, none⟩ u) N c0 c1 c2 u x y := (h.set u).2.2.2.1
theorem BoxAt.t0 {w : World} {N : Nat} {c0 c1 c2 c3 x y : Value} (h : BoxAt w N c0 c1 c2 c3 x y) (u : Value) : BoxAt (w.setCell ⟨N + 1, 0, none⟩ u) N c0 c1 c2 c3 u y := (h.set u).2.2.2.2.1
theorem BoxAt.t1 {w : World} {N : Nat} {c0 c1 c2 c3 x y : Value} (h : BoxAt w N c0 c1 c2 c3 x y) (u : Value) : BoxAt (w.setCell ⟨N + 1, 1, none⟩ u) N c0 c1 c2 c3 x u := (h.set u).2.2.2.2.2
/-- The boxes written again, all cells. -/
theorem BoxAt.all {w : World} {N : Nat} {c0 c1 c2 c3 x y : Value} (h : BoxAt w N c0 c1 c2 c3 x y) (d0 d1 d2 d3 : Value) : BoxAt ((((w.setCell ⟨N, 0, none⟩ d0).setCell ⟨N, 1, none⟩ d1).setCell ⟨N, 2, none⟩ d2).setCell ⟨N, 3, none⟩ d3) N d0 d1 d2 d3 x y := (((h.s0 _).s1 _).s2 _).s3 _
theorem BoxAt.both {w : World} {N : Nat} {c0 c1 c2 c3 x y : Value} (h : BoxAt w N c0 c1 c2 c3 x y) (u v : Value) : BoxAt ((w.setCell ⟨N + 1, 0, none⟩ u).setCell ⟨N + 1, 1, none⟩ v) N c0 c1 c2 c3 u v := (h.t0 _).t1 _

set_option maxRecDepth 100000 in
set_option maxHeartbeats 2000000 in
theorem read_bad (s : List UInt8) (a f p : Nat) (er : Int) (W : World) (hn : s.length ≤ 1000000) (ha : a ≤ s.length) (hh : rdH s a = .bad p er) :
    Calls Tryd.prog 33 #[.string ⟨s.toArray⟩, .int .i64 a] W (ReadR W (.bad p er)) := by
  have h123 : standsB s a 123 = true := by
    cases h : standsB s a 123 with
    | true => rfl
    | false => unfold rdH at hh; rw [h] at hh; cases hh
  have hh' : rdP (s.length + 1) s a [] [] = .bad p er := by unfold rdH at hh; rw [if_pos h123] at hh; exact hh
  have her := rdP_err _ _ _ _ _ _ _ hh'
  have HS1 := fun W => Lib.hid (stands_z s a a rfl 123 123 rfl true h123 W (by omega))
  have HP := fun W => Lib.hid (props_c s a W hn (stands_lt h123))
  rw [hh'] at HP
  have her0 : ((er == 0) = false) := by simp; omega
  obtain ⟨S, hS⟩ : ∃ S, S = (⟨s.toArray⟩ : ByteArray) := ⟨_, rfl⟩
  rw [← hS] at HS1 HP ⊢
  have Her := Lib.hid her
  clear hh hh' h123 hS her
  go_enter Tryd.func33, Tryd.ntmps33
  go_wp2_with fail
  refine (HS1 _).out.mono ?_
  rintro e w1 ⟨rfl, rfl⟩
  clear HS1
  go_wp2_with fail
  refine (HP _).out.mono ?_
  rintro e w1 ⟨rfl, hbel⟩
  have hb := (BoxAt.fresh W (.bool false) (.slice none 0 0) (.slice none 0 0) (.slice none 0 0) (.int .i64 0) (.int .i64 0)).keep (by simpa using hbel)
  have hW : W.heap.size + 1 < w1.heap.size := hb.facts.2.2.2.2.2.2.2
  obtain ⟨x0, x1, x2, x3, y0, y1, ⟨f0, f1, f2, f3, g0, g1⟩, -⟩ := hb.facts
  have hbel' := (((Below.refl W.heap.size W).alloc (Nat.le_refl _) (.cells #[.bool false, .slice none 0 0, .slice none 0 0, .slice none 0 0] 26)).alloc (by simp) (.cells #[.int .i64 0, .int .i64 0] 71)).trans (hbel.mono (by simp; omega))
  have Hbel := Lib.hid hbel'; have Hb := Lib.hid hb
  clear hbel hb hbel' HP
  go_upto_region 4 with fail
  go_cut [5] (fun s5 wx => s5 = .int .i64 0 ∧ BoxAt wx W.heap.size (.bool false) (.slice none 0 0) (.slice none 0 0) (.slice none 0 0) (.int .i64 p) (.int .i64 er) ∧ Below W.heap.size W wx)
  case first =>
    go_region
    all_goals
      go_wp2_with fail
      go_meet
      case rel =>
        refine ⟨rfl, ?_, ?_⟩
        · with_reducible exact ((((Hb.out.s1 _).both _ _).all _ _ _ _).both _ _).drew
        · with_reducible exact (below_both (below_all (below_both (Hbel.out.setCell (p := ⟨_, _, none⟩) (Nat.le_refl _) _) (Nat.le_succ _) _ _) (Nat.le_refl _) _ _ _ _) (Nat.le_succ _) _ _).drew
  case rest =>
    obtain ⟨rfl, hb, hbel⟩ := hcut
    have hW : W.heap.size + 1 < wc.heap.size := hb.facts.2.2.2.2.2.2.2
    obtain ⟨x0, x1, x2, x3, y0, y1, -⟩ := hb.facts
    have Hbel := Lib.hid hbel
    clear hb hbel
    go_wp2_with fail
    refine bodyPost_ret (v := .tuple #[.agg #[.bool false, .slice none 0 0, .slice none 0 0, .slice none 0 0], .int .i64 0, .agg #[.int .i64 p, .int .i64 er]]) (by simp [results, Tryd.results33, go_sem, x0, x1, x2, x3, y0, y1]) rfl ?_
    exact ⟨_, _, _, _, _, _, _, _, _, _, _, rfl, by have := Her.out; omega, Hbel.out⟩

theorem valid_wf {zs : List Int} (h : ∀ c ∈ zs, validB c = true) : ∀ z ∈ zs, (Lit.int .i32 z).wf = true := by
  intro z hz
  have := h z hz
  unfold validB at this
  simp at this
  have h1 : IntKind.i32.min = -2147483648 := by decide
  have h2 : IntKind.i32.max = 2147483647 := by decide
  simp only [Lit.wf, Bool.and_eq_true, decide_eq_true_eq, h1, h2]
  omega

theorem rdL_err {s : List UInt8} {a p : Nat} {er : Int} (h : rdL s a = .bad p er) : er ≠ 0 := by
  unfold rdL at h
  split at h
  · cases h
  · rename_i hne
    injection h with h1 h2
    rw [← h2]; exact hne

theorem rdK_step (f : Nat) (s : List UInt8) (a : Nat) (out : List NodeD) : rdK (f + 1) s a out = if standsB s a 93 = true then .ok out (a + 1) else (match rdN f s a with
      | .bad p er => .bad p er
      | .ok k e => rdK f s e (out ++ [k])) := by
  conv => lhs; unfold rdK
  all_goals rfl
def kidsR (ps : List PropD) : Rd (List NodeD) → Rd NodeD
  | .bad p er => .bad p er
  | .ok ks e => .ok (.mk false ps [] ks) e
theorem info_node : (Tryd.prog.info? 26).map (fun i => (i.zero, i.size, i.bytes)) = some (some (.agg #[.bool false, .slice none 0 0, .slice none 0 0, .slice none 0 0]), 4, 80) := by kernel_rfl

set_option maxRecDepth 100000 in
set_option maxHeartbeats 4000000 in
theorem read_ok (s : List UInt8) (a f a1 : Nat) (ps : List PropD) (W : World) (hn : s.length ≤ 1000000) (ha : a ≤ s.length) (hf : 2 * (s.length - a) + 1 ≤ f + 1) (hE : ErrsAt W) (hT : TabAt W) (hg : 3 < W.heap.size) (hh : rdH s a = .ok ps a1)
    (IH : ∀ (f' b : Nat) (W' : World), f' < f + 1 → b ≤ s.length → 2 * (s.length - b) + 1 ≤ f' → ErrsAt W' → TabAt W' → 3 < W'.heap.size → Calls Tryd.prog 33 #[.string ⟨s.toArray⟩, .int .i64 b] W' (ReadR W' (rdN f' s b))) :
    Calls Tryd.prog 33 #[.string ⟨s.toArray⟩, .int .i64 a] W (ReadR W (rdN (f + 1) s a)) := by
  have hpos := rdH_pos ha hh
  obtain ⟨R, hR⟩ : ∃ R, R = rdN (f + 1) s a := ⟨_, rfl⟩
  have Hstep : Hid (R = if standsB s a1 34 = true then (match rdL s a1 with
        | .bad p er => .bad p er
        | .ok t e => .ok (.mk true ps t []) e)
      else if standsB s a1 91 = false then .bad a1 11
      else (match rdK f s (a1 + 1) [] with
        | .bad p er => .bad p er
        | .ok ks e => .ok (.mk false ps [] ks) e)) := by
    show R = _
    rw [hR]; unfold rdN; rw [hh]; all_goals rfl
  rw [← hR]
  have HS := fun (k : Nat) (z : Int) (hz : z = k) (c : UInt8) (n : Int) (hc : (c.toNat : Int) = n) (b : Bool) (hb : standsB s k c = b) (W : World) => stands_z s k z hz c n hc b hb W (by omega)
  have HP := fun (h123 : standsB s a 123 = true) W => Lib.hid (props_c s a W hn (stands_lt h123))
  have HL := fun (h34 : standsB s a1 34 = true) W => leaf_q s a1 W hn (stands_lt h34)
  obtain ⟨S, hS⟩ : ∃ S, S = (⟨s.toArray⟩ : ByteArray) := ⟨_, rfl⟩
  rw [← hS] at HS HP HL IH ⊢
  have HS := Lib.hid HS; have HL := Lib.hid HL; have HP := Lib.hid HP; have IH := Lib.hid IH; have Hh := Lib.hid hh; have HE := Lib.hid hE; have HT := Lib.hid hT; have Hg := Lib.hid hg
  have HS1 := fun W => Lib.hid (HS.out a a rfl 123 123 rfl _ rfl W)
  obtain ⟨b, hb⟩ : ∃ b, b = standsB s a 123 := ⟨_, rfl⟩
  rw [← hb] at HS1
  have Hb := Lib.hid hb
  clear hh hS hR hE hT hg hb
  go_enter Tryd.func33, Tryd.ntmps33
  go_upto_if 12 with (go_at_call 55; refine (HS1 _).out.mono ?_; rintro e w1 ⟨rfl, rfl⟩)
  go_cut [1] (fun s1 wx => s1 = .int .i64 a1 ∧ ∃ pa pc, BoxAt wx W.heap.size (.bool false) (.slice pa ps.length pc) (.slice none 0 0) (.slice none 0 0) (.int .i64 0) (.int .i64 0) ∧ RowQ wx (fun b => W.heap.size + 2 ≤ b) 2 pa ps.length pc (propCells ps) ∧ Below W.heap.size W wx)
  case first =>
    clear HS1
    have hb0 := BoxAt.fresh W (.bool false) (.slice none 0 0) (.slice none 0 0) (.slice none 0 0) (.int .i64 0) (.int .i64 0)
    have hbel0 := (((Below.refl W.heap.size W).alloc (Nat.le_refl _) (.cells #[.bool false, .slice none 0 0, .slice none 0 0, .slice none 0 0] 26)).alloc (by simp) (.cells #[.int .i64 0, .int .i64 0] 71))
    cases b with
    | false =>
      have hps : ps = [] ∧ a1 = a := by
        have := Hh.out
        unfold rdH at this
        rw [← Hb.out] at this
        simp at this
        exact ⟨this.1.symm ▸ rfl, this.2.symm ▸ rfl⟩
      obtain ⟨rfl, rfl⟩ := hps
      have Hb0 := Lib.hid hb0; have Hbel0 := Lib.hid hbel0
      clear hb0 hbel0
      go_wp2_with fail
      go_meet
      case rel => exact ⟨rfl, none, 0, Hb0.out, RowQ.empty _ _ _, Hbel0.out⟩
    | true =>
      have hp := HP.out Hb.out.symm
      have h3 : rdP (s.length + 1) s a [] [] = .ok ps a1 := by
        have := Hh.out
        unfold rdH at this
        rw [← Hb.out, if_pos rfl] at this
        exact this
      rw [h3] at hp
      clear h3
      have Hb0 := Lib.hid hb0; have Hbel0 := Lib.hid hbel0
      clear hb0 hbel0
      go_wp2_with fail
      refine (hp _).out.mono ?_
      rintro e w1 ⟨v, rfl, hown, hbel⟩
      obtain ⟨pa, pc, rfl, hrow⟩ := rowq_own hown (propCells_one _)
      have hbx := Hb0.out.keep (by simpa using hbel)
      have hW : W.heap.size + 1 < w1.heap.size := hbx.facts.2.2.2.2.2.2.2
      obtain ⟨x0, x1, x2, x3, y0, y1, ⟨f0, f1, f2, f3, g0, g1⟩, -⟩ := hbx.facts
      have Hbel := Lib.hid (Hbel0.out.trans (hbel.mono (by simp; omega)))
      have Hbx := Lib.hid hbx; have Hrow := Lib.hid hrow
      clear hbx hrow hown hbel hp Hb0 Hbel0
      go_wp2_with fail
      go_meet
      case rel =>
        refine ⟨rfl, pa, pc, ?_, ?_, ?_⟩
        · with_reducible exact ((Hbx.out.s1 _).both _ _)
        · exact (rowq_set (rowq_set (rowq_set (by simpa using Hrow.out) (by omega)) (by omega)) (by omega))
        · with_reducible exact (below_both (Hbel.out.setCell (p := ⟨_, _, none⟩) (Nat.le_refl _) _) (Nat.le_succ _) _ _)
  case rest =>
    obtain ⟨rfl, pa, pc, hbx, hrow, hbel⟩ := hcut
    have Hbx := Lib.hid hbx; have Hrow := Lib.hid hrow; have Hbel := Lib.hid hbel
    have hW : W.heap.size + 1 < wc.heap.size := hbx.facts.2.2.2.2.2.2.2
    clear hbx hrow hbel HS1 HP Hb b
    cases h34 : standsB s a1 34 with
    | true =>
      have HS2 := fun W => Lib.hid (HS.out a1 a1 rfl 34 34 rfl true h34 W)
      have hb' : Below W.heap.size W (wc.setCell ⟨W.heap.size, 0, none⟩ (.bool true)) := Hbel.out.setCell (p := ⟨_, _, none⟩) (Nat.le_refl _) _
      have HLq := Lib.hid (HL.out h34 _ (HE.out.keep hb') (TabAt.keep HT.out hb' Hg.out) (Nat.lt_of_lt_of_le Hg.out hb'.size))
      have Hb' := Lib.hid hb'
      have Hs2 : Hid (R = (match rdL s a1 with
        | .bad p er => .bad p er
        | .ok t e => .ok (.mk true ps t []) e)) := by
        show R = _
        rw [Hstep.out, if_pos h34]
      clear h34 hb' Hstep IH HS HL
      obtain ⟨x0, x1, x2, x3, y0, y1, ⟨f0, f1, f2, f3, g0, g1⟩, -⟩ := Hbx.out.facts
      cases hl : rdL s a1 with
      | ok t e =>
        have Hwf := Lib.hid (valid_wf (rdL_wf hl))
        rw [hl] at HLq
        have HR : Hid (R = .ok (.mk true ps t []) e) := by show R = _; rw [Hs2.out, hl]
        clear hl Hs2
        go_wp2_with fail
        refine (HS2 _).out.mono ?_
        rintro e' w1 ⟨rfl, rfl⟩
        clear HS2
        go_wp2_with fail
        refine HLq.out.mono ?_
        rintro e' w2 ⟨v, rfl, hown, hbel2⟩
        clear x0 x1 x2 x3 y0 y1 f0 f1 f2 f3 g0 g1
        obtain ⟨ta, tc, rfl, hrow2⟩ := rowq_own hown (ints_one .i32 t)
        have hsz : (wc.setCell ⟨W.heap.size, 0, none⟩ (.bool true)).heap.size = wc.heap.size := by simp [World.setCell]
        have hbx2 := (Hbx.out.s0 (.bool true)).keep (hbel2.mono (by rw [hsz]; omega))
        have hW2 : W.heap.size + 1 < w2.heap.size := hbx2.facts.2.2.2.2.2.2.2
        obtain ⟨x0, x1, x2, x3, y0, y1, ⟨f0, f1, f2, f3, g0, g1⟩, -⟩ := hbx2.facts
        have Hbx2 := Lib.hid hbx2
        have Hbel2 := Lib.hid (Hb'.out.trans (hbel2.mono (by rw [hsz]; omega)))
        have Hrow1 := Lib.hid (rowq_below (rowq_set (o := 0) (u := .bool true) Hrow.out (by omega)) hbel2)
        have Hrow2 := Lib.hid (hrow2.keep (ok' := fun b => W.heap.size + 2 ≤ b) (Nat.le_refl _) (fun _ _ _ => rfl) (fun b hb _ => by rw [hsz] at hb; omega))
        clear hbx2 hrow2 hown hbel2 HLq Hrow Hbx Hb' hsz
        have hA : ¬ (W.heap.size + 2 ≤ W.heap.size) := by omega
        have hB : ¬ (W.heap.size + 2 ≤ W.heap.size + 1) := by omega
        go_upto_region 8 with fail
        go_cut [5] (fun s5 wx => s5 = .int .i64 e ∧ BoxAt wx W.heap.size (.bool true) (.slice pa ps.length pc) (.slice ta t.length tc) (.slice none 0 0) (.int .i64 0) (.int .i64 0) ∧ RowQ wx (fun b => W.heap.size + 2 ≤ b) 2 pa ps.length pc (propCells ps) ∧ RowQ wx (fun b => W.heap.size + 2 ≤ b) 1 ta t.length tc (t.map (Value.int .i32)) ∧ Below W.heap.size W wx)
        case first =>
          go_region
          all_goals
            go_wp2_with fail
            go_meet
            case rel =>
              refine ⟨rfl, ?_, ?_, ?_, ?_⟩
              · with_reducible exact ((((Hbx2.out.s2 _).both _ _).all _ _ _ _).both _ _).drew
              · with_reducible exact rowq_drew (rowq_both (rowq_all (rowq_both (rowq_set Hrow1.out hA) hB _ _) hA _ _ _ _) hB _ _)
              · with_reducible exact rowq_drew (rowq_both (rowq_all (rowq_both (rowq_set Hrow2.out hA) hB _ _) hA _ _ _ _) hB _ _)
              · with_reducible exact (below_both (below_all (below_both (Hbel2.out.setCell (p := ⟨_, _, none⟩) (Nat.le_refl _) _) (Nat.le_succ _) _ _) (Nat.le_refl _) _ _ _ _) (Nat.le_succ _) _ _).drew
        case rest =>
          obtain ⟨rfl, hbx3, hrow3, hrow4, hbel3⟩ := hcut
          clear x0 x1 x2 x3 y0 y1 f0 f1 f2 f3 g0 g1
          obtain ⟨x0, x1, x2, x3, y0, y1, -⟩ := hbx3.facts
          have Hbel3 := Lib.hid hbel3; have Hrow3 := Lib.hid hrow3; have Hrow4 := Lib.hid hrow4
          clear hbx3 hrow3 hrow4 hbel3 Hrow1 Hrow2 Hbx2 Hbel2
          go_wp2_with fail
          refine bodyPost_ret (v := .tuple #[.agg #[.bool true, .slice pa ps.length pc, .slice ta t.length tc, .slice none 0 0], .int .i64 e, .agg #[.int .i64 0, .int .i64 0]]) (by simp [results, Tryd.results33, go_sem, x0, x1, x2, x3, y0, y1]) rfl ?_
          rw [HR.out]
          refine ⟨_, rfl, ?_, Hbel3.out⟩
          unfold NodeQ
          refine ⟨pa, pc, ta, tc, none, 0, [], rfl, ?_, ?_, Hwf.out, RowQ.empty _ _ _, by unfold KidsQ; rfl⟩
          · exact Hrow3.out.keep (Nat.le_refl _) (fun _ _ _ => rfl) (fun b hb _ => by omega)
          · exact Hrow4.out.keep (Nat.le_refl _) (fun _ _ _ => rfl) (fun b hb _ => by omega)
      | bad p er =>
        have Her := Lib.hid (rdL_err hl)
        rw [hl] at HLq
        have HR : Hid (R = .bad p er) := by show R = _; rw [Hs2.out, hl]
        clear hl Hs2
        go_wp2_with fail
        refine (HS2 _).out.mono ?_
        rintro e' w1 ⟨rfl, rfl⟩
        clear HS2
        go_wp2_with fail
        refine HLq.out.mono ?_
        rintro e' w2 ⟨rfl, hbel2⟩
        clear x0 x1 x2 x3 y0 y1 f0 f1 f2 f3 g0 g1
        have hsz : (wc.setCell ⟨W.heap.size, 0, none⟩ (.bool true)).heap.size = wc.heap.size := by simp [World.setCell]
        have hbx2 := (Hbx.out.s0 (.bool true)).keep (hbel2.mono (by rw [hsz]; omega))
        have hW2 : W.heap.size + 1 < w2.heap.size := hbx2.facts.2.2.2.2.2.2.2
        obtain ⟨x0, x1, x2, x3, y0, y1, ⟨f0, f1, f2, f3, g0, g1⟩, -⟩ := hbx2.facts
        have Hbx2 := Lib.hid hbx2
        have Hbel2 := Lib.hid (Hb'.out.trans (hbel2.mono (by rw [hsz]; omega)))
        clear hbx2 hbel2 HLq Hrow Hbx Hb' hsz
        go_upto_region 8 with fail
        go_cut [5] (fun s5 wx => s5 = .int .i64 0 ∧ BoxAt wx W.heap.size (.bool true) (.slice pa ps.length pc) (.slice none 0 0) (.slice none 0 0) (.int .i64 p) (.int .i64 er) ∧ Below W.heap.size W wx)
        case first =>
          go_region
          all_goals
            go_wp2_with fail
            go_meet
            case rel =>
              refine ⟨rfl, ?_, ?_⟩
              · with_reducible exact ((((Hbx2.out.s2 _).both _ _).all _ _ _ _).both _ _).drew
              · with_reducible exact (below_both (below_all (below_both (Hbel2.out.setCell (p := ⟨_, _, none⟩) (Nat.le_refl _) _) (Nat.le_succ _) _ _) (Nat.le_refl _) _ _ _ _) (Nat.le_succ _) _ _).drew
        case rest =>
          obtain ⟨rfl, hbx3, hbel3⟩ := hcut
          clear x0 x1 x2 x3 y0 y1 f0 f1 f2 f3 g0 g1
          obtain ⟨x0, x1, x2, x3, y0, y1, -⟩ := hbx3.facts
          have Hbel3 := Lib.hid hbel3
          clear hbx3 hbel3 Hbx2 Hbel2
          go_wp2_with fail
          refine bodyPost_ret (v := .tuple #[.agg #[.bool true, .slice pa ps.length pc, .slice none 0 0, .slice none 0 0], .int .i64 0, .agg #[.int .i64 p, .int .i64 er]]) (by simp [results, Tryd.results33, go_sem, x0, x1, x2, x3, y0, y1]) rfl ?_
          rw [HR.out]
          exact ⟨_, _, _, _, _, _, _, _, _, _, _, rfl, Her.out, Hbel3.out⟩
    | false =>
      have HS2 := fun W => Lib.hid (HS.out a1 a1 rfl 34 34 rfl false h34 W)
      obtain ⟨x0, x1, x2, x3, y0, y1, ⟨f0, f1, f2, f3, g0, g1⟩, -⟩ := Hbx.out.facts
      have Hs2 : Hid (R = if standsB s a1 91 = false then .bad a1 11
          else (match rdK f s (a1 + 1) [] with
            | .bad p er => .bad p er
            | .ok ks e => .ok (.mk false ps [] ks) e)) := by
        show R = _
        rw [Hstep.out, if_neg (by rw [h34]; decide)]
      clear h34 Hstep HL
      cases h91 : standsB s a1 91 with
      | false =>
        have HS3 := fun W => Lib.hid (HS.out a1 a1 rfl 91 91 rfl false h91 W)
        have HR : Hid (R = .bad a1 11) := by show R = _; rw [Hs2.out, if_pos h91]
        have HWr := fun W => Lib.hid (wrong_c (a1 : Int) W)
        clear h91 Hs2 HS IH Hrow
        go_wp2_with fail
        refine (HS2 _).out.mono ?_
        rintro e' w1 ⟨rfl, rfl⟩
        clear HS2
        go_wp2_with fail
        refine (HS3 _).out.mono ?_
        rintro e' w1 ⟨rfl, rfl⟩
        clear HS3
        go_wp2_with fail
        refine (HWr _).out.mono ?_
        rintro e' w2 ⟨rfl, hbel2⟩
        clear HWr x0 x1 x2 x3 y0 y1 f0 f1 f2 f3 g0 g1
        have hbx2 := Hbx.out.keep (hbel2.mono (by omega))
        have hW2 : W.heap.size + 1 < w2.heap.size := hbx2.facts.2.2.2.2.2.2.2
        obtain ⟨x0, x1, x2, x3, y0, y1, ⟨f0, f1, f2, f3, g0, g1⟩, -⟩ := hbx2.facts
        have Hbel2 := Lib.hid (Hbel.out.trans (hbel2.mono (by omega)))
        clear hbx2 hbel2 Hbx
        go_wp2_with fail
        refine bodyPost_ret (v := .tuple #[.agg #[.bool false, .slice none 0 0, .slice none 0 0, .slice none 0 0], .int .i64 0, .agg #[.int .i64 a1, .int .i64 11]]) (by simp [results, Tryd.results33, go_sem, x0, x1, x2, x3, y0, y1]) rfl ?_
        rw [HR.out]
        refine ⟨_, _, _, _, _, _, _, _, _, _, _, rfl, by decide, ?_⟩
        with_reducible exact (below_both (below_all Hbel2.out (Nat.le_refl _) _ _ _ _) (Nat.le_succ _) _ _)
      | true =>
        have h91' := stands_lt h91
        have HS3 := fun W => Lib.hid (HS.out a1 a1 rfl 91 91 rfl true h91 W)
        obtain ⟨Rk, hRk⟩ : ∃ Rk, Rk = rdK f s (a1 + 1) [] := ⟨_, rfl⟩
        have HR : Hid (R = kidsR ps Rk) := by show R = _; rw [Hs2.out, if_neg (by rw [h91]; decide), hRk]; rfl
        have HRk := Lib.hid hRk
        have HW := Lib.hid hW
        have hbw := Hbel.out.size
        clear h91 Hs2 hRk
        go_wp2_with fail
        refine (HS2 _).out.mono ?_
        rintro e' w1 ⟨rfl, rfl⟩
        clear HS2
        go_wp2_with fail
        refine (HS3 _).out.mono ?_
        rintro e' w1 ⟨rfl, rfl⟩
        clear HS3
        go_wp2_with fail
        clear x0 x1 x2 x3 y0 y1 f0 f1 f2 f3 g0 g1
        go_loopw [1] (fun i wr => ∃ (q f' : Nat) (out : List NodeD) (ka : Option Addr) (kc : Nat) (css : List Value), i = .int .i64 q ∧ q ≤ s.length ∧ 2 * (s.length - q) + 2 ≤ f' ∧ f' ≤ f ∧ rdK f' s q out = Rk ∧ out.length ≤ q ∧ BoxAt wr W.heap.size (.bool false) (.slice pa ps.length pc) (.slice none 0 0) (.slice ka out.length kc) (.int .i64 0) (.int .i64 0) ∧ wr.ownsRow (W.heap.size + 2) 26 4 (.slice ka out.length kc) out.length css ∧ KidsQ wr (fun b => W.heap.size + 2 ≤ b ∧ (Value.slice ka out.length kc).ownBlock ≠ some b) out css ∧ RowQ wr (fun b => W.heap.size + 2 ≤ b ∧ (Value.slice ka out.length kc).ownBlock ≠ some b) 2 pa ps.length pc (propCells ps) ∧ Below W.heap.size W wr) (fun i _ => s.length - (intOf i).toNat)
        case atStart => exact ⟨a1 + 1, f, [], none, 0, [], rfl, by omega, by omega, by omega, HRk.out.symm, by simp, Hbx.out, World.ownsRow_nil _ _ _ _, by unfold KidsQ; rfl, Hrow.out.keep (Nat.le_refl _) (fun _ _ _ => rfl) (fun b hb _ => ⟨hb, by simp [Value.ownBlock]⟩), Hbel.out⟩
        case round =>
          obtain ⟨q, f', out, ka, kc, css, rfl, hq, hf1, hf2, hr, hoq, hbx, hown, hkids, hrow, hbel⟩ := hrel
          obtain ⟨f', rfl⟩ : ∃ g, f' = g + 1 := ⟨f' - 1, by omega⟩
          have hstep := rdK_step f' s q out
          rw [hr] at hstep
          have Hst := Lib.hid hstep
          have hlen := hown.1
          have HW2 := Lib.hid hbx.facts.2.2.2.2.2.2.2
          have hW2 : W.heap.size + 1 < wr.heap.size := hbx.facts.2.2.2.2.2.2.2
          obtain ⟨x0, x1, x2, x3, y0, y1, ⟨f0, f1, f2, f3, g0, g1⟩, -⟩ := hbx.facts
          have Hbx2 := Lib.hid hbx; have Hown := Lib.hid hown; have Hkids := Lib.hid hkids; have Hrow2 := Lib.hid hrow; have Hbel2 := Lib.hid hbel; have Hlen := Lib.hid hlen
          clear hstep hr hbx hown hkids hrow hbel hlen Hbx Hrow Hbel HRk
          cases h93 : standsB s q 93 with
          | true =>
            have HS4 := Lib.hid (HS.out q q rfl 93 93 rfl true h93 wr)
            have hlt := stands_lt h93
            have HR2 : Hid (R = .ok (.mk false ps [] out) (q + 1)) := by show R = _; rw [HR.out, Hst.out, if_pos h93]; rfl
            clear h93 Hst HR HS IH
            go_wp2_with fail
            refine HS4.out.mono ?_
            rintro e' w1 ⟨rfl, rfl⟩
            clear HS4
            go_wp2_with fail
            refine bodyPost_ret (v := .tuple #[.agg #[.bool false, .slice pa ps.length pc, .slice none 0 0, .slice ka out.length kc], .int .i64 ((q : Int) + 1), .agg #[.int .i64 0, .int .i64 0]]) (by simp [results, Tryd.results33, go_sem, x0, x1, x2, x3, y0, y1]) rfl ?_
            rw [HR2.out]
            have hA : ¬ (W.heap.size + 2 ≤ W.heap.size) := by omega
            have hB : ¬ (W.heap.size + 2 ≤ W.heap.size + 1) := by omega
            refine ⟨_, rfl, ?_, ?_⟩
            · unfold NodeQ
              obtain ⟨ka', kc', hka, hrk⟩ := rowq_own Hown.out Hkids.out.onec
              injection hka with e1 e2 e3
              subst e1; subst e3
              refine ⟨pa, pc, none, 0, ka, kc, css, rfl, ?_, RowQ.empty _ _ _, by simp, ?_, ?_⟩
              · exact RowQ.keep (ok := fun b => W.heap.size + 2 ≤ b) (rowq_both (rowq_all (Hrow2.out.keep (ok' := fun b => W.heap.size + 2 ≤ b) (Nat.le_refl _) (fun _ _ _ => rfl) (fun b hb _ => hb.1)) hA _ _ _ _) hB _ _) (Nat.le_refl _) (fun _ _ _ => rfl) (fun b hb _ => by omega)
              · exact RowQ.keep (ok := fun b => W.heap.size + 2 ≤ b) (rowq_both (rowq_all hrk hA _ _ _ _) hB _ _) (Nat.le_refl _) (fun _ _ _ => rfl) (fun b hb _ => by omega)
              · exact KidsQ.keep (ok := fun b => W.heap.size + 2 ≤ b) (Nat.le_refl _) (fun _ _ _ => rfl) (fun b hb _ => by omega) _ _ (kidsq_both (kidsq_all (KidsQ.keep (ok' := fun b => W.heap.size + 2 ≤ b) (Nat.le_refl _) (fun _ _ _ => rfl) (fun b hb _ => hb.1) _ _ Hkids.out) hA _ _ _ _) hB _ _)
            · with_reducible exact below_both (below_all Hbel2.out (Nat.le_refl _) _ _ _ _) (Nat.le_succ _) _ _
          | false =>
            have HS4 := Lib.hid (HS.out q q rfl 93 93 rfl false h93 wr)
            have HI := Lib.hid (IH.out f' q wr (by omega) hq (by omega) (HE.out.keep Hbel2.out) (TabAt.keep HT.out Hbel2.out Hg.out) (Nat.lt_of_lt_of_le Hg.out Hbel2.out.size))
            cases hn' : rdN f' s q with
            | bad p er =>
              have HR2 : Hid (R = .bad p er) := by show R = _; rw [HR.out, Hst.out, if_neg (by rw [h93]; decide), hn']; rfl
              rw [hn'] at HI
              clear h93 hn' Hst HR HS IH Hown Hkids Hrow2
              go_wp2_with fail
              refine HS4.out.mono ?_
              rintro e' w1 ⟨rfl, rfl⟩
              clear HS4
              go_wp2_with fail
              refine HI.out.mono ?_
              rintro e' w2 ⟨l, a2, n2, k2, a3, n3, k3, a4, n4, k4, z, rfl, her, hbel3⟩
              clear x0 x1 x2 x3 y0 y1 f0 f1 f2 f3 g0 g1
              have hbx3 := Hbx2.out.keep (hbel3.mono (by omega))
              obtain ⟨x0, x1, x2, x3, y0, y1, ⟨f0, f1, f2, f3, g0, g1⟩, hW3⟩ := hbx3.facts
              have hWb : W.heap.size < w2.heap.size := by omega
              have Hbx3 := Lib.hid hbx3
              have Hbel3 := Lib.hid (Hbel2.out.trans (hbel3.mono (by omega)))
              have her0 : (er == 0) = false := by simpa using her
              have Her := Lib.hid her
              clear hbx3 hbel3 Hbx2 Hbel2 HI her
              have hz := box2f (w := w2.alloc (Obj.cells #[.bool l, .slice a2 n2 k2, .slice a3 n3 k3, .slice a4 n4 k4] 26)) (c0 := .int .i64 p) (c1 := .int .i64 er) (T := 71) (Below.refl _ _)
              have hsz2 : (w2.alloc (Obj.cells #[.bool l, .slice a2 n2 k2, .slice a3 n3 k3, .slice a4 n4 k4] 26)).heap.size = w2.heap.size + 1 := by simp
              rw [hsz2] at hz
              have Hbx4 := Lib.hid ((Hbx3.out.alloc (Obj.cells #[.bool l, .slice a2 n2 k2, .slice a3 n3 k3, .slice a4 n4 k4] 26)).alloc (Obj.cells #[.int .i64 p, .int .i64 er] 71))
              have Hbel4 := Lib.hid ((Hbel3.out.alloc (by omega) (Obj.cells #[.bool l, .slice a2 n2 k2, .slice a3 n3 k3, .slice a4 n4 k4] 26)).alloc (by rw [hsz2]; omega) (Obj.cells #[.int .i64 p, .int .i64 er] 71))
              have hz := Lib.hid hz
              clear hsz2
              go_upto_region 15 with fail
              clear x0 x1 x2 x3 y0 y1 f0 f1 f2 f3 g0 g1
              obtain ⟨w4, hw4⟩ : ∃ w4, w4 = (w2.alloc (Obj.cells #[.bool l, .slice a2 n2 k2, .slice a3 n3 k3, .slice a4 n4 k4] 26)).alloc (Obj.cells #[.int .i64 p, .int .i64 er] 71) := ⟨_, rfl⟩
              rw [← hw4] at hz Hbx4 Hbel4 ⊢
              obtain ⟨z0, z1, -, -⟩ := hz.out
              obtain ⟨x0, x1, x2, x3, y0, y1, ⟨f0, f1, f2, f3, g0, g1⟩, hW4⟩ := Hbx4.out.facts
              clear hw4 hz
              go_cut [5] (fun s5 wx => s5 = .int .i64 0 ∧ BoxAt wx W.heap.size (.bool false) (.slice none 0 0) (.slice none 0 0) (.slice none 0 0) (.int .i64 p) (.int .i64 er) ∧ Below W.heap.size W wx)
              case first =>
                go_region
                all_goals
                  go_wp2_with fail
                  go_meet
                  case rel =>
                    refine ⟨rfl, ?_, ?_⟩
                    · with_reducible exact ((Hbx4.out.all _ _ _ _).both _ _).drew
                    · with_reducible exact (below_both (below_all Hbel4.out (Nat.le_refl _) _ _ _ _) (Nat.le_succ _) _ _).drew
              case rest =>
                obtain ⟨rfl, hbx5, hbel5⟩ := hcut
                clear x0 x1 x2 x3 y0 y1 f0 f1 f2 f3 g0 g1
                obtain ⟨x0, x1, x2, x3, y0, y1, -⟩ := hbx5.facts
                have Hbel5 := Lib.hid hbel5
                clear hbx5 hbel5 Hbx3 Hbel3 Hbx4 Hbel4
                go_wp2_with fail
                refine bodyPost_ret (v := .tuple #[.agg #[.bool false, .slice none 0 0, .slice none 0 0, .slice none 0 0], .int .i64 0, .agg #[.int .i64 p, .int .i64 er]]) (by simp [results, Tryd.results33, go_sem, x0, x1, x2, x3, y0, y1]) rfl ?_
                rw [HR2.out]
                exact ⟨_, _, _, _, _, _, _, _, _, _, _, rfl, Her.out, Hbel5.out⟩
            | ok k e2 =>
              have hpos2 := rdN_pos f' s q k e2 hq hn'
              have HRn : Hid (rdK f' s e2 (out ++ [k]) = Rk) := by show _ = Rk; rw [Hst.out, if_neg (by rw [h93]; decide), hn']
              rw [hn'] at HI
              clear h93 hn' Hst HS IH
              go_wp2_with fail
              refine HS4.out.mono ?_
              rintro e' w1 ⟨rfl, rfl⟩
              clear HS4
              go_wp2_with fail
              refine HI.out.mono ?_
              rintro e' w2 ⟨cs, rfl, hnode, hbel3⟩
              obtain ⟨l, a2, n2, k2, a3, n3, k3, a4, n4, k4, rfl⟩ := hnode.form
              clear x0 x1 x2 x3 y0 y1 f0 f1 f2 f3 g0 g1
              have hbx3 := Hbx2.out.keep (hbel3.mono (by omega))
              obtain ⟨x0, x1, x2, x3, y0, y1, ⟨f0, f1, f2, f3, g0, g1⟩, hW3⟩ := hbx3.facts
              have hWb : W.heap.size < w2.heap.size := by omega
              have Hbx3 := Lib.hid hbx3
              have Hb3 := Lib.hid hbel3
              have Hbel3 := Lib.hid (Hbel2.out.trans (hbel3.mono (by omega)))
              have Hnode := Lib.hid hnode
              clear hbx3 hbel3 Hbx2 HI hnode
              go_wp2_with (at_builtin; refine wpList_app2 rfl _ _ 24 rfl (W.heap.size + 2) 26 (.agg #[.bool false, .slice none 0 0, .slice none 0 0, .slice none 0 0]) 4 80 Tryd.underlying24 info_node rfl (by decide) _ _ _ rfl (((own_keep Hown.out Hb3.out).alloc _).alloc _ |>.alloc _) _ 1 1 (w2.heap.size + 3) [.bool l, .slice a2 n2 k2, .slice a3 n3 k3, .slice a4 n4 k4] rfl ?hr ?h63 ?hb ?hbase ?_)
              case hr =>
                have := row_four ((w2.alloc (Obj.cells #[.bool l, .slice a2 n2 k2, .slice a3 n3 k3, .slice a4 n4 k4] 26)).alloc (Obj.cells #[.int .i64 0, .int .i64 0] 71)) (.bool l) (.slice a2 n2 k2) (.slice a3 n3 k3) (.slice a4 n4 k4) 26 (w2.heap.size + 3) rfl rfl rfl rfl (by simp)
                simpa using this
              case h63 => unfold maxLen; omega
              case hb => omega
              case hbase => simp; omega
              intro v' w3 hown' hgrow hwhere
              have h2 : Below w2.heap.size w2 (((w2.alloc (Obj.cells #[.bool l, .slice a2 n2 k2, .slice a3 n3 k3, .slice a4 n4 k4] 26)).alloc (Obj.cells #[.int .i64 0, .int .i64 0] 71)).alloc (Obj.cells #[.bool l, .slice a2 n2 k2, .slice a3 n3 k3, .slice a4 n4 k4] 26)) :=
                (((Below.refl _ _).alloc (Nat.le_refl _) _).alloc (by simp) _).alloc (by simp; omega) _
              have hwh : v'.ownBlock = (Value.slice ka out.length kc).ownBlock ∨ ∀ k, v'.ownBlock = some k → (((w2.alloc (Obj.cells #[.bool l, .slice a2 n2 k2, .slice a3 n3 k3, .slice a4 n4 k4] 26)).alloc (Obj.cells #[.int .i64 0, .int .i64 0] 71)).alloc (Obj.cells #[.bool l, .slice a2 n2 k2, .slice a3 n3 k3, .slice a4 n4 k4] 26)).heap.size ≤ k := by
                rcases hwhere with h | h
                · exact .inl h
                · exact .inr fun k hk => by have := h k hk; simp; omega
              have hst1 := stay_kids Hown.out Hb3.out h2 hgrow hwh
              have hst2 := stay_kid Hown.out (by omega) h2 hgrow hwh
              have hk' := (Hkids.out.stay hst1).append (KidsQ.one (Hnode.out.stay hst2))
              have hr' := Hrow2.out.stay hst1
              have hbx4 := (((Hbx3.out.alloc _).alloc _).alloc _).grown hgrow (fun k hk => (Hown.out.lt k hk).1)
              have hbel4 := (Hbel3.out.trans (h2.mono (by omega))).grown hgrow (by simp; omega) (fun k hk => Nat.le_trans (by omega) (Hown.out.lt k hk).1)
              have hown2 : w3.ownsRow (W.heap.size + 2) 26 4 v' (out ++ [k]).length (css ++ [.bool l, .slice a2 n2 k2, .slice a3 n3 k3, .slice a4 n4 k4]) := by rw [List.length_append]; exact hown'
              obtain ⟨va, vc, rfl, -⟩ := row_of_own hown2 hk'.onec
              have hW4 : W.heap.size < w3.heap.size := by have := hbx4.facts.2.2.2.2.2.2.2; omega
              clear x0 x1 x2 x3 y0 y1 f0 f1 f2 f3 g0 g1
              obtain ⟨x0, x1, x2, x3, y0, y1, ⟨f0, f1, f2, f3, g0, g1⟩, -⟩ := hbx4.facts
              have Hk := Lib.hid hk'; have Hr := Lib.hid hr'; have Hbx4 := Lib.hid hbx4; have Hbel4 := Lib.hid hbel4; have Hown2 := Lib.hid hown2
              clear hown' hgrow hwhere h2 hwh hst1 hst2 hk' hr' hbx4 hbel4 hown2 Hbx3 Hb3 Hbel3 Hnode Hown Hkids Hrow2 Hbel2
              go_wp2_with fail
              go_roundw
              case rel => exact ⟨e2, f', out ++ [k], va, vc, css ++ [.bool l, .slice a2 n2 k2, .slice a3 n3 k3, .slice a4 n4 k4], rfl, hpos2.2, by omega, by omega, HRn.out, by simp; omega, by simpa using Hbx4.out.s3 (.slice va (out ++ [k]).length vc), by simpa using own_set (b := W.heap.size) (off := 3) (u := .slice va (out ++ [k]).length vc) Hown2.out (by omega), by simpa using kidsq_set (N := W.heap.size) (o := 3) (u := .slice va (out ++ [k]).length vc) Hk.out (by omega), by simpa using rowq_set (N := W.heap.size) (o := 3) (u := .slice va (out ++ [k]).length vc) Hr.out (by omega), Hbel4.out.setCell (p := ⟨W.heap.size, 3, none⟩) (Nat.le_refl _) _⟩
              case measure => simp [intOf]; omega

/-- code.read: what it answers. -/
theorem read_c (s : List UInt8) (hn : s.length ≤ 1000000) (f : Nat) : ∀ (a : Nat) (W : World), a ≤ s.length → 2 * (s.length - a) + 1 ≤ f → ErrsAt W → TabAt W → 3 < W.heap.size →
    Calls Tryd.prog 33 #[.string ⟨s.toArray⟩, .int .i64 a] W (ReadR W (rdN f s a)) := by
  induction f using Nat.strongRecOn with
  | ind f ih =>
    intro a W ha hf hE hT hg
    obtain ⟨f, rfl⟩ : ∃ g, f = g + 1 := ⟨f - 1, by omega⟩
    cases hh : rdH s a with
    | bad p er =>
      have : rdN (f + 1) s a = .bad p er := by unfold rdN; rw [hh]
      rw [this]
      exact read_bad s a f p er W hn ha hh
    | ok ps a1 => exact read_ok s a f a1 ps W hn ha hf hE hT hg hh (fun f' b W' h1 h2 h3 h4 h5 h6 => ih f' h1 b W' h2 h3 h4 h5 h6)

end Go.Proofs.YtmhgbocejjnoaaaDoor
/- Walks: code's Parse. -/
namespace Go.Proofs.YtmhgbocejjnoaaaDoor
open Go.RowKit Go.Redl
set_option linter.unusedVariables false

/-- What Parse answers. -/
def parseL (s : List UInt8) : Rd NodeD :=
  match rdN (2 * s.length + 1) s 0 with
  | .bad p er => .bad p er
  | .ok n e => if e < s.length then .bad e 11 else .ok n e
def ParseR (W : World) (R : Rd NodeD) (e : Ending) (w' : World) : Prop :=
  match R with
  | .ok n _ => ∃ cs, e = .returned (.tuple #[.agg cs.toArray, .int .i64 0, .int .i64 0]) ∧ NodeQ w' (fun b => W.heap.size ≤ b) n cs ∧ Below W.heap.size W w'
  | .bad a er => e = .returned (.tuple #[.agg #[.bool false, .slice none 0 0, .slice none 0 0, .slice none 0 0], .int .i64 a, .int .i64 er]) ∧ er ≠ 0 ∧ Below W.heap.size W w'

/-- An error's box. -/
def PairAt (w : World) (N : Nat) (x y : Value) : Prop := w.heap[N]? = some (.cells #[x, y] 71 (0, 0))
theorem PairAt.facts {w : World} {N : Nat} {x y : Value} (h : PairAt w N x y) : w.cell? ⟨N, 0, none⟩ = some x ∧ w.cell? ⟨N, 1, none⟩ = some y ∧ w.frozen? ⟨N, 0, none⟩ = false ∧ w.frozen? ⟨N, 1, none⟩ = false ∧ N < w.heap.size := by
  refine ⟨?_, ?_, Lib.frozen_of_heap h _, Lib.frozen_of_heap h _, (Array.getElem?_eq_some_iff.1 h).1⟩
  all_goals (rw [Lib.cell_of_heap h]; rfl)
theorem PairAt.both {w : World} {N : Nat} {x y : Value} (h : PairAt w N x y) (u v : Value) : PairAt ((w.setCell ⟨N, 0, none⟩ u).setCell ⟨N, 1, none⟩ v) N u v := by
  have h0 := Lib.heap_setCell_same (i := 0) h u
  exact Lib.heap_setCell_same (i := 1) h0 v

set_option maxRecDepth 100000 in
set_option maxHeartbeats 4000000 in
theorem parseT_c (s : List UInt8) (W : World) (hn : s.length ≤ 1000000) (hE : ErrsAt W) (hT : TabAt W) (hg : 3 < W.heap.size) :
    Calls Tryd.prog 13 #[.string ⟨s.toArray⟩] W (ParseR W (parseL s)) := by
  have hsz : (⟨s.toArray⟩ : ByteArray).size = s.length := rfl
  have hb0 : Below W.heap.size W (W.alloc (Obj.cells #[.bool false, .slice none 0 0, .slice none 0 0, .slice none 0 0] 26)) := (Below.refl _ _).alloc (Nat.le_refl _) _
  have HI := Lib.hid (read_c s hn (2 * s.length + 1) 0 _ (by omega) (by omega) (hE.keep hb0) (TabAt.keep hT hb0 hg) (Nat.lt_of_lt_of_le hg hb0.size))
  obtain ⟨R, hR⟩ : ∃ R, R = parseL s := ⟨_, rfl⟩
  have HR : Hid (R = match rdN (2 * s.length + 1) s 0 with
      | .bad p er => .bad p er
      | .ok n e => if e < s.length then .bad e 11 else .ok n e) := hR
  rw [← hR]
  obtain ⟨S, hS⟩ : ∃ S, S = (⟨s.toArray⟩ : ByteArray) := ⟨_, rfl⟩
  rw [← hS] at HI hsz ⊢
  clear hS hR hE hT hg hb0
  cases hrd : rdN (2 * s.length + 1) s 0 with
  | bad p er =>
    have HRb : Hid (R = .bad p er) := by show R = _; rw [HR.out, hrd]
    rw [hrd] at HI
    clear hrd HR
    go_enter Tryd.func13, Tryd.ntmps13
    go_wp2_with fail
    refine HI.out.mono ?_
    rintro e' w1 ⟨l, a1, n1, k1, a2, n2, k2, a3, n3, k3, z, rfl, her, hbel⟩
    have her0 : (er == 0) = false := by simpa using her
    have Her := Lib.hid her
    have hW := hbel.size
    have Hbel := Lib.hid (below_unbox (below_box hbel))
    have hnb := (NodeAt.fresh W (.bool false) (.slice none 0 0) (.slice none 0 0) (.slice none 0 0)).keep (below_box hbel)
    obtain ⟨x0, x1, x2, x3, ⟨f0, f1, f2, f3⟩, hW1⟩ := hnb.facts
    have hz := box2f (w := w1.alloc (Obj.cells #[.bool l, .slice a1 n1 k1, .slice a2 n2 k2, .slice a3 n3 k3] 26)) (c0 := .int .i64 p) (c1 := .int .i64 er) (T := 71) (Below.refl _ _)
    have hsz2 : (w1.alloc (Obj.cells #[.bool l, .slice a1 n1 k1, .slice a2 n2 k2, .slice a3 n3 k3] 26)).heap.size = w1.heap.size + 1 := by simp
    rw [hsz2] at hz
    have Hnb := Lib.hid ((hnb.alloc (Obj.cells #[.bool l, .slice a1 n1 k1, .slice a2 n2 k2, .slice a3 n3 k3] 26)).alloc (Obj.cells #[.int .i64 p, .int .i64 er] 71))
    have Hbel4 := Lib.hid ((Hbel.out.alloc (by omega) (Obj.cells #[.bool l, .slice a1 n1 k1, .slice a2 n2 k2, .slice a3 n3 k3] 26)).alloc (by rw [hsz2]; omega) (Obj.cells #[.int .i64 p, .int .i64 er] 71))
    have hz := Lib.hid hz
    clear hbel HI her hsz2 hnb
    go_upto_region 5 with fail
    clear x0 x1 x2 x3 f0 f1 f2 f3
    obtain ⟨w4, hw4⟩ : ∃ w4, w4 = (w1.alloc (Obj.cells #[.bool l, .slice a1 n1 k1, .slice a2 n2 k2, .slice a3 n3 k3] 26)).alloc (Obj.cells #[.int .i64 p, .int .i64 er] 71) := ⟨_, rfl⟩
    rw [← hw4] at hz Hnb Hbel4 ⊢
    obtain ⟨z0, z1, -, -⟩ := hz.out
    obtain ⟨x0, x1, x2, x3, ⟨f0, f1, f2, f3⟩, hW4⟩ := Hnb.out.facts
    clear hw4 hz
    go_cut [3, 4] (fun s3 s4 wx => s3 = .int .i64 p ∧ s4 = .int .i64 er ∧ NodeAt wx W.heap.size (.bool false) (.slice none 0 0) (.slice none 0 0) (.slice none 0 0) ∧ Below W.heap.size W wx)
    case first =>
      go_region
      all_goals
        go_wp2_with fail
        go_meet
        case rel =>
          refine ⟨rfl, rfl, ?_, ?_⟩
          · with_reducible exact (Hnb.out.all _ _ _ _).drew
          · with_reducible exact (below_all Hbel4.out (Nat.le_refl _) _ _ _ _).drew
    case rest =>
      obtain ⟨rfl, rfl, hnb, hbel⟩ := hcut
      clear x0 x1 x2 x3 f0 f1 f2 f3
      obtain ⟨x0, x1, x2, x3, -⟩ := hnb.facts
      have Hbel5 := Lib.hid hbel
      clear hbel hnb Hnb Hbel4 Hbel
      go_wp2_with fail
      refine bodyPost_ret (v := .tuple #[.agg #[.bool false, .slice none 0 0, .slice none 0 0, .slice none 0 0], .int .i64 p, .int .i64 er]) (by simp [results, Tryd.results13, go_sem, x0, x1, x2, x3]) rfl ?_
      rw [HRb.out]
      exact ⟨rfl, by have := Her.out; simpa using this, Hbel5.out⟩
  | ok n e =>
    have hpos := rdN_pos _ s 0 n e (by omega) hrd
    rw [hrd] at HI
    by_cases hlt : e < s.length
    · have HRb : Hid (R = .bad e 11) := by show R = _; rw [HR.out, hrd]; exact if_pos hlt
      have hlti : (e : Int) < s.length := by omega
      have HWr := fun W => Lib.hid (wrong_c (e : Int) W)
      clear hrd HR
      go_enter Tryd.func13, Tryd.ntmps13
      go_wp2_with fail
      refine HI.out.mono ?_
      rintro e' w1 ⟨cs, rfl, hnode, hbel⟩
      obtain ⟨l, a1, n1, k1, a2, n2, k2, a3, n3, k3, rfl⟩ := hnode.form
      have hW := hbel.size
      have Hbel := Lib.hid (below_unbox (below_box hbel))
      have hnb := (NodeAt.fresh W (.bool false) (.slice none 0 0) (.slice none 0 0) (.slice none 0 0)).keep (below_box hbel)
      have Hnb := Lib.hid ((hnb.alloc (Obj.cells #[.bool l, .slice a1 n1 k1, .slice a2 n2 k2, .slice a3 n3 k3] 26)).alloc (Obj.cells #[.int .i64 0, .int .i64 0] 71))
      obtain ⟨x0, x1, x2, x3, ⟨f0, f1, f2, f3⟩, hW1⟩ := hnb.facts
      clear hbel HI hnode hnb
      go_wp2_with fail
      refine (HWr _).out.mono ?_
      rintro e' w2 ⟨rfl, hbel2⟩
      clear x0 x1 x2 x3 f0 f1 f2 f3 HWr
      have hsz2 : (w1.alloc (Obj.cells #[.bool l, .slice a1 n1 k1, .slice a2 n2 k2, .slice a3 n3 k3] 26)).heap.size = w1.heap.size + 1 := by simp
      have hsz3 : ((w1.alloc (Obj.cells #[.bool l, .slice a1 n1 k1, .slice a2 n2 k2, .slice a3 n3 k3] 26)).alloc (Obj.cells #[.int .i64 0, .int .i64 0] 71)).heap.size = w1.heap.size + 2 := by simp
      rw [hsz3] at hbel2
      have hp : PairAt w2 (w1.heap.size + 1) (.int .i64 0) (.int .i64 0) := by
        unfold PairAt
        rw [hbel2.block _ (by omega), ← hsz2]
        exact heap_alloc_new _ _
      have hn2 := Hnb.out.keep (hbel2.mono (by omega))
      have Hbel3 := Lib.hid (((Hbel.out.alloc (by omega) (Obj.cells #[.bool l, .slice a1 n1 k1, .slice a2 n2 k2, .slice a3 n3 k3] 26)).alloc (by rw [hsz2]; omega) (Obj.cells #[.int .i64 0, .int .i64 0] 71)).trans (hbel2.mono (by omega)))
      have hs2 := hbel2.size
      rw [hsz3] at hs2
      obtain ⟨y0, y1, g0, g1, -⟩ := hp.facts
      have Hp := Lib.hid (hp.both (.int .i64 e) (.int .i64 11))
      have Hn := Lib.hid (NodeAt.set (b := w1.heap.size + 1) (o := 1) (u := .int .i64 11) (NodeAt.set (b := w1.heap.size + 1) (o := 0) (u := .int .i64 e) hn2 (by omega)) (by omega))
      clear hbel2 hsz2 hsz3 hp hn2 Hnb Hbel
      go_upto_region 5 with fail
      clear y0 y1 g0 g1
      obtain ⟨w4, hw4⟩ : ∃ w4, w4 = (w2.setCell ⟨w1.heap.size + 1, 0, none⟩ (.int .i64 e)).setCell ⟨w1.heap.size + 1, 1, none⟩ (.int .i64 11) := ⟨_, rfl⟩
      have Hbel4 := Lib.hid (below_both (N := w1.heap.size + 1) Hbel3.out (by omega) (.int .i64 e) (.int .i64 11))
      rw [← hw4] at Hp Hn Hbel4 ⊢
      obtain ⟨y0, y1, g0, g1, -⟩ := Hp.out.facts
      obtain ⟨x0, x1, x2, x3, ⟨f0, f1, f2, f3⟩, hW4⟩ := Hn.out.facts
      clear hw4
      go_cut [3, 4] (fun s3 s4 wx => s3 = .int .i64 e ∧ s4 = .int .i64 11 ∧ NodeAt wx W.heap.size (.bool false) (.slice none 0 0) (.slice none 0 0) (.slice none 0 0) ∧ Below W.heap.size W wx)
      case first =>
        go_region
        all_goals
          go_wp2_with fail
          go_meet
          case rel =>
            refine ⟨rfl, rfl, ?_, ?_⟩
            · with_reducible exact (Hn.out.all _ _ _ _).drew
            · with_reducible exact (below_all Hbel4.out (Nat.le_refl _) _ _ _ _).drew
      case rest =>
        obtain ⟨rfl, rfl, hnb, hbel⟩ := hcut
        clear x0 x1 x2 x3 f0 f1 f2 f3 y0 y1 g0 g1
        obtain ⟨x0, x1, x2, x3, -⟩ := hnb.facts
        have Hbel5 := Lib.hid hbel
        clear hbel hnb Hn Hp Hbel4 Hbel3
        go_wp2_with fail
        refine bodyPost_ret (v := .tuple #[.agg #[.bool false, .slice none 0 0, .slice none 0 0, .slice none 0 0], .int .i64 e, .int .i64 11]) (by simp [results, Tryd.results13, go_sem, x0, x1, x2, x3]) rfl ?_
        rw [HRb.out]
        exact ⟨rfl, by decide, Hbel5.out⟩
    · have HRb : Hid (R = .ok n e) := by show R = _; rw [HR.out, hrd]; exact if_neg hlt
      have hlti : decide ((e : Int) < s.length) = false := by simp; omega
      clear hrd HR
      go_enter Tryd.func13, Tryd.ntmps13
      go_wp2_with fail
      refine HI.out.mono ?_
      rintro e' w1 ⟨cs, rfl, hnode, hbel⟩
      obtain ⟨l, a1, n1, k1, a2, n2, k2, a3, n3, k3, rfl⟩ := hnode.form
      have hW := hbel.size
      have Hbel := Lib.hid (below_unbox (below_box hbel))
      have hnb := (NodeAt.fresh W (.bool false) (.slice none 0 0) (.slice none 0 0) (.slice none 0 0)).keep (below_box hbel)
      obtain ⟨x0, x1, x2, x3, ⟨f0, f1, f2, f3⟩, hW1⟩ := hnb.facts
      have Hnode := Lib.hid hnode
      clear hbel HI hnode hnb
      go_wp2_with fail
      refine bodyPost_ret (v := .tuple #[.agg #[.bool l, .slice a1 n1 k1, .slice a2 n2 k2, .slice a3 n3 k3], .int .i64 0, .int .i64 0]) (by simp [results, Tryd.results13, go_sem, x0, x1, x2, x3, hW1]) rfl ?_
      rw [HRb.out]
      have hne : ¬ ((W.alloc (Obj.cells #[.bool false, .slice none 0 0, .slice none 0 0, .slice none 0 0] 26)).heap.size ≤ W.heap.size) := by simp
      have hs4 := (below_all Hbel.out (Nat.le_refl W.heap.size) (.bool l) (.slice a1 n1 k1) (.slice a2 n2 k2) (.slice a3 n3 k3))
      have hq := nodeq_set (N := W.heap.size) (o := 3) (u := .slice a3 n3 k3) (nodeq_set (N := W.heap.size) (o := 2) (u := .slice a2 n2 k2) (nodeq_set (N := W.heap.size) (o := 1) (u := .slice a1 n1 k1) (nodeq_set (N := W.heap.size) (o := 0) (u := .bool l) Hnode.out hne) hne) hne) hne
      obtain ⟨w5, hw5⟩ : ∃ w5, w5 = (((w1.setCell ⟨W.heap.size, 0, none⟩ (.bool l)).setCell ⟨W.heap.size, 1, none⟩ (.slice a1 n1 k1)).setCell ⟨W.heap.size, 2, none⟩ (.slice a2 n2 k2)).setCell ⟨W.heap.size, 3, none⟩ (.slice a3 n3 k3) := ⟨_, rfl⟩
      rw [← hw5] at hs4 hq ⊢
      refine ⟨_, rfl, ?_, ?_⟩
      · have hb5 : Below w5.heap.size w5 ((w5.alloc (Obj.cells #[.bool l, .slice a1 n1 k1, .slice a2 n2 k2, .slice a3 n3 k3] 26)).alloc (Obj.cells #[.int .i64 0, .int .i64 0] 71)) := ((Below.refl _ _).alloc (Nat.le_refl _) _).alloc (by simp) _
        exact NodeQ.keep hb5.size (fun b _ hlt => hb5.block b hlt) (fun b hb _ => by simp at hb; omega) _ _ hq
      · have := hs4.size
        exact (hs4.alloc (by omega) _).alloc (by simp; omega) _

end Go.Proofs.YtmhgbocejjnoaaaDoor
/- Plain laws: what Parse makes of a printed tree, of one cut short, of one made longer. -/
namespace Go.Proofs.YtmhgbocejjnoaaaDoor
open Go.RowKit Go.Redl
set_option linter.unusedVariables false

theorem parse_whole {n : NodeD} (h : nodeE n = 0) : parseL (printL n) = .ok n (printL n).length := by
  have := rdN_print n [] [] (2 * (printL n).length + 1) h (by simp)
  simp only [List.nil_append, List.append_nil, List.length_nil, Nat.zero_add] at this
  unfold parseL
  rw [this]
  simp
theorem parse_less {n : NodeD} (h : nodeE n = 0) : parseL (printL n).dropLast = .bad ((printL n).length - 1) 11 := by
  have := rdN_less n (2 * (printL n).dropLast.length + 1) h (by simp)
  unfold parseL
  rw [this]
theorem parse_more {n : NodeD} (h : nodeE n = 0) (b : UInt8) : parseL (printL n ++ [b]) = .bad (printL n).length 11 := by
  have := rdN_print n [] [b] (2 * (printL n ++ [b]).length + 1) h (by simp)
  simp only [List.nil_append, List.length_nil, Nat.zero_add] at this
  unfold parseL
  rw [this]
  simp

end Go.Proofs.YtmhgbocejjnoaaaDoor
