/- Parts of the proof, one behind the other: RTG, RSort, RSB, RSE, RHP, RKD, RKE, RKB, RCU, RKC. -/
import Derived.Test.YtaopoincbigjhaaGreatDoorFC6
import Derived.Shelf.SlGeneric
import Derived.Ground.SlsfProg
import Derived.Shelf.SlSortCmp.Whole1
import Derived.Test.YtaopoincbigjhaaGreatDoorProg
import Derived.Test.YtaopoincbigjhaaGreatDoorFC5
import Derived.Test.YtaopoincbigjhaaGreatDoorFC2
import Derived.Deep.LoopGhost
import Derived.Deep.DeepCutAuto
import Derived.Deep.RegionLaw
import Derived.Test.YtaopoincbigjhaaGreatDoorFC4
import Derived.Lib.SliceRun
import Derived.Deep.RegionHeld3
/- Walks: tree's changed: a copy of a tree in which one node is changed in place. -/
namespace Go.Proofs.YtaopoincbigjhaaGreatDoor
open Go.RowKit Go.Redl
set_option linter.unusedVariables false
set_option linter.unusedSimpArgs false

/-- Where a node lies, its block is plain. -/
theorem plainI {w : World} : ∀ (p : List Int) (n m : NodeD) (lo hi b off : Nat) (cs : List Value), NodeI w n lo hi cs → Cells4 w b off cs → (∃ cur e, w.heap[b]? = some (.cells cur e (0, 0))) → atN n p = some m →
    ∃ cur e, w.heap[(addrW w p b off).1]? = some (.cells cur e (0, 0))
  | [], n, m, lo, hi, b, off, cs, h, hc, hb, hat => hb
  | i :: p, .mk l ps t ks, m, lo, hi, b, off, cs, h, hc, hb, hat => by
    unfold NodeI at h
    obtain ⟨mid, ap, cp, at_, ct, ak, ck, css, h1, rfl, h3, h4, h5, h6, h7, h8⟩ := h
    simp only [atN, kidsOf] at hat
    split at hat
    · obtain ⟨j, rfl⟩ : ∃ j : Nat, i = j := ⟨i.toNat, by omega⟩
      rw [Int.toNat_natCast] at hat
      by_cases hj : j < ks.length
      · rw [List.getElem?_eq_getElem hj] at hat
        simp only at hat
        obtain ⟨m1, m2, c, g1, g2, g3, g4, g5⟩ := KidsI.at_ h8 j hj
        have hcl := h6.1
        obtain ⟨K, rfl, hK⟩ := own_some h6 (by intro e; rw [e] at hcl; simp at hcl; omega)
        have hcK : Cells4 w K (j * 4) c := by
          refine ⟨g3.four, fun q u hq => ?_⟩
          have hq4 : q < 4 := by
            rcases Nat.lt_or_ge q c.length with h | h
            · rw [g3.four] at h; exact h
            · rw [List.getElem?_eq_none h] at hq; cases hq
          exact own_at h6 _ _ (by rw [g4 q hq4]; exact hq)
        rw [addrW_step (hc.2 3 _ rfl), Int.toNat_natCast, Nat.zero_add]
        refine plainI p ks[j] m m1 m2 K (j * 4) c g3 hcK ?_ hat
        rcases h6.2 with ⟨hn, -⟩ | ⟨g, cap, cur, hv, -, hg, -⟩
        · cases hn
        · injection hv with e1
          injection e1 with e2
          injection e2 with e3
          subst e3
          exact ⟨cur, _, hg⟩
      · rw [List.getElem?_eq_none (by omega)] at hat
        cases hat
    · cases hat
/-- What a change leaves as it was. -/
structure Keeps (w w' : World) (B b off lo hi : Nat) : Prop where
  below : Below B w w'
  block : ∀ x, x < w.heap.size → x ≠ b → ¬ (lo ≤ x ∧ x < hi) → w'.heap[x]? = w.heap[x]?
  cell : ∀ o, ¬ (off ≤ o ∧ o < off + 4) → w'.cell? ⟨b, o, none⟩ = w.cell? ⟨b, o, none⟩
/-- What a change of a node answers. -/
def HowP (B : Nat) (w : World) (b off lo hi : Nat) (R : NodeD × Int) (e : Ending) (w' : World) : Prop :=
  e = .returned (.int .i64 R.2) ∧ Keeps w w' B b off lo hi ∧ (R.2 = 0 → ∃ cm', Cells4 w' b off cm' ∧ NodeQ w' (fun x => lo ≤ x ∧ x < hi ∨ w.heap.size ≤ x) R.1 cm')
/-- A function that changes a node in place. -/
def HowC (g : Nat) (lb : Array Value) (W : World) (m : NodeD) (R : NodeD × Int) : Prop :=
  ∀ (w : World) (b off lo hi : Nat) (cm : List Value), Below W.heap.size W w → W.heap.size ≤ b → W.heap.size ≤ lo → hi ≤ w.heap.size → NodeI w m lo hi cm → Cells4 w b off cm → ¬ (lo ≤ b ∧ b < hi) → (∀ j, w.frozen? ⟨b, j, none⟩ = false) →
    Calls Tryz.prog g (#[.pointer (some ⟨b, off, none⟩)] ++ lb) w (HowP W.heap.size w b off lo hi R)
/-- What changed answers. -/
def ChangedP (W : World) (n : NodeD) (p : List Int) (R : NodeD → NodeD × Int) (e : Ending) (w' : World) : Prop :=
  Below W.heap.size W w' ∧ match atN n p with
  | none => e = .returned (.tuple #[.agg #[.bool false, .slice none 0 0, .slice none 0 0, .slice none 0 0], .int .i64 5])
  | some m => if (R m).2 = 0 then ∃ cs, e = .returned (.tuple #[.agg cs.toArray, .int .i64 0]) ∧ NodeQ w' (fun b => W.heap.size ≤ b) (putN n p (R m).1) cs
    else e = .returned (.tuple #[.agg #[.bool false, .slice none 0 0, .slice none 0 0, .slice none 0 0], .int .i64 (R m).2])
set_option maxRecDepth 100000 in
set_option maxHeartbeats 4000000 in
theorem changed_c (g : Nat) (lb : Array Value) (hgc : ∀ args w, (callFunc g args).run Tryz.prog w = .ok (.enter g args) w) (n : NodeD) (p : List Int) (v : Value) (pa : Option Addr) (pc : Nat) (R : NodeD → NodeD × Int) (W : World) (hbig : n.wt ≤ 100000000) (hv : NodeV W W.heap.size n v) (hp : RowA W W.heap.size 1 pa p.length pc (p.map (Value.int .i64)))
    (hR : ∀ m, atN n p = some m → HowC g lb W m (R m)) :
    Calls Tryz.prog 166 #[v, .slice pa p.length pc, .func (.func g) #[] lb] W (ChangedP W n p R) := by
  obtain ⟨csn, rfl, hc⟩ := hv
  obtain ⟨l, a1, n1, c1, a2, n2, c2, a3, n3, c3, rfl⟩ := hc.form
  obtain ⟨w0, hw0⟩ : ∃ w0, w0 = (W.alloc (Obj.cells #[.bool l, .slice a1 n1 c1, .slice a2 n2 c2, .slice a3 n3 c3] 35)).alloc (Obj.cells #[.bool false, .slice none 0 0, .slice none 0 0, .slice none 0 0] 35) := ⟨_, rfl⟩
  have hA : NodeAt w0 W.heap.size (.bool l) (.slice a1 n1 c1) (.slice a2 n2 c2) (.slice a3 n3 c3) := by rw [hw0]; exact (NodeAt.fresh W (.bool l) (.slice a1 n1 c1) (.slice a2 n2 c2) (.slice a3 n3 c3)).alloc _
  have hB : NodeAt w0 (W.heap.size + 1) (.bool false) (.slice none 0 0) (.slice none 0 0) (.slice none 0 0) := by rw [hw0]; exact node_second W _ (.bool false) (.slice none 0 0) (.slice none 0 0) (.slice none 0 0)
  have hb0 : Below W.heap.size W w0 := by rw [hw0]; exact two_below _ _ _
  have hs0 : w0.heap.size = W.heap.size + 2 := by rw [hw0]; simp
  obtain ⟨y0, y1, y2, y3, -, -⟩ := hA.facts
  have HC := Lib.hid (copyI_c n.wt n (.agg #[.bool l, .slice a1 n1 c1, .slice a2 n2 c2, .slice a3 n3 c3]) w0 (Nat.le_refl _) hbig ⟨_, rfl, NodeC.keep hb0 hb0.size _ _ hc⟩)
  have HB := Lib.hid hB; have Hb0 := Lib.hid hb0; have Hs0 := Lib.hid hs0; have Hw0 := Lib.hid hw0; have HR := Lib.hid hR; have Hp := Lib.hid hp
  clear hc hA hB hb0 hs0 hw0 hR hp
  go_enter Tryz.func166, Tryz.ntmps166
  go_upto_region 1 with fail
  rw [← Hw0.out]
  clear Hw0
  go_wp2_with fail
  refine HC.out.mono ?_
  rintro e w1 ⟨cs, rfl, hI, hbel⟩
  obtain ⟨m1, p1, q1, r1, p2, q2, r2, p3, q3, r3, rfl⟩ := hI.form
  have Hb1 := Lib.hid (Hb0.out.trans (hbel.mono Hb0.out.size)); have HB1 := Lib.hid (HB.out.keep (hbel.mono (by rw [Hs0.out]; omega)))
  have HI := Lib.hid hI; have Hbel := Lib.hid hbel
  clear HC hI hbel y0 y1 y2 y3
  go_upto_region 2 with fail
  obtain ⟨w2, hw2⟩ : ∃ w2, w2 = w1.alloc (Obj.cells #[.bool m1, .slice p1 q1 r1, .slice p2 q2 r2, .slice p3 q3 r3] 35) := ⟨_, rfl⟩
  rw [← hw2]
  have hA2 : NodeAt w2 w1.heap.size (.bool m1) (.slice p1 q1 r1) (.slice p2 q2 r2) (.slice p3 q3 r3) := by rw [hw2]; exact NodeAt.fresh w1 _ _ _ _
  have hB2 : Below w1.heap.size w1 w2 := by rw [hw2]; exact one_below _ _
  have hI2 : NodeI w2 n w0.heap.size w1.heap.size [.bool m1, .slice p1 q1 r1, .slice p2 q2 r2, .slice p3 q3 r3] := NodeI.keep hB2.size (fun b _ _ hlt => hB2.block b hlt) HI.out
  obtain ⟨x0, x1, x2, x3, ⟨k0, k1, k2, k3⟩, hA4⟩ := hA2.facts
  have hc4 : Cells4 w2 w1.heap.size 0 [.bool m1, .slice p1 q1 r1, .slice p2 q2 r2, .slice p3 q3 r3] := by
    refine ⟨rfl, fun j u hj => ?_⟩
    match j with
    | 0 => simp at hj; subst hj; exact x0
    | 1 => simp at hj; subst hj; exact x1
    | 2 => simp at hj; subst hj; exact x2
    | 3 => simp at hj; subst hj; exact x3
    | j + 4 => simp at hj
  have hnp : NodeP w2 w2.heap.size w1.heap.size 0 n := ⟨m1, p1, q1, r1, p2, q2, r2, p3, q3, r3, NodeQ.node _ _ (NodeI.q (ok := fun _ => True) (fun _ _ _ => trivial) hI2), x0, x1, x2, x3⟩
  have Hb2 := Lib.hid (Hb1.out.trans (hB2.mono Hb1.out.size))
  have HBB := Lib.hid (HB1.out.keep (hB2.mono (by have := Hb1.out.size; have := Hs0.out; have := Hbel.out.size; omega)))
  have Hp2 := Lib.hid (Hp.out.keep Hb2.out Hb2.out.size)
  have HAt := Lib.hid (at_c n p pa pc w1.heap.size 0 w2.heap.size w2 hnp Hp2.out)
  have Hsz := Lib.hid (show W.heap.size + 2 ≤ w1.heap.size by have := Hbel.out.size; have := Hs0.out; omega)
  have HA2 := Lib.hid hA2; have HI2 := Lib.hid hI2; have Hc4 := Lib.hid hc4; have Hnp := Lib.hid hnp
  clear hw2 hA2 hB2 hI2 hc4 hnp HI HB HB1 x0 x1 x2 x3 k0 k1 k2 k3 hA4
  cases hat : atN n p with
  | none =>
    rw [hat] at HAt
    have Hat := Lib.hid hat
    clear hat
    go_wp2_with fail
    refine HAt.out.mono ?_
    rintro e w3 ⟨rfl, rfl⟩
    obtain ⟨g0, g1, g2, g3, ⟨j0, j1, j2, j3⟩, hB4⟩ := HBB.out.facts
    clear HAt
    go_wp2_with fail
    refine bodyPost_ret (v := .tuple #[.agg #[.bool false, .slice none 0 0, .slice none 0 0, .slice none 0 0], .int .i64 5]) (by simp [results, Tryz.results166, go_sem, g0, g1, g2, g3, j0, j1, j2, j3]) rfl ?_
    refine ⟨by with_reducible exact below_all Hb2.out (Nat.le_succ _) _ _ _ _, ?_⟩
    rw [Hat.out]
  | some m =>
    have HA3 := Lib.hid (at2_c n m p pa pc w1.heap.size 0 w2.heap.size w2 Hnp.out Hp2.out hat)
    have hno : ¬ (w0.heap.size ≤ w1.heap.size ∧ w1.heap.size < w1.heap.size) := fun h => by omega
    have hpl := placeI p n m w0.heap.size w1.heap.size w1.heap.size 0 _ HI2.out Hc4.out hno hat
    have hfz := plainI p n m w0.heap.size w1.heap.size w1.heap.size 0 _ HI2.out Hc4.out ⟨_, _, HA2.out⟩ hat
    generalize addrW w2 p w1.heap.size 0 = A at hpl hfz HA3
    obtain ⟨A1, A2⟩ := A
    simp only at hpl hfz HA3
    obtain ⟨lo', hi', cm, k1, k2, k3, k4, k5, k6, k7⟩ := hpl
    have hA1 : W.heap.size + 2 ≤ A1 := by
      have := Hsz.out; have := Hs0.out
      rcases k6 with e | e
      · injection e with e1 e2; omega
      · omega
    have hlo : W.heap.size + 2 ≤ lo' := by have := Hs0.out; omega
    have hsz := Hsz.out
    have hz2 : w1.heap.size + 1 ≤ w2.heap.size := (Array.getElem?_eq_some_iff.1 HA2.out).1
    obtain ⟨cur, e0, hcur⟩ := hfz
    have HHow := Lib.hid (HR.out m hat w2 A1 A2 lo' hi' cm Hb2.out (by omega) (by omega) (by omega) k3 k4 k5 (fun j => Lib.frozen_of_heap hcur _))
    have Hat := Lib.hid hat
    have K7 := Lib.hid k7
    generalize hr : R m = r at HHow
    have Hr := Lib.hid hr
    obtain ⟨r1', r2'⟩ := r
    clear hat hcur k1 k2 k3 k4 k5 k6 k7 HAt HR hr
    go_wp2_with fail
    refine HA3.out.mono ?_
    rintro e w3 ⟨rfl, rfl⟩
    clear HA3
    go_wp2_with fail
    refine HHow.out.mono ?_
    rintro e w4 ⟨rfl, hkeep, hres⟩
    have Hkeep := Lib.hid hkeep; have Hres := Lib.hid hres
    have hB4 : NodeAt w4 (W.heap.size + 1) (.bool false) (.slice none 0 0) (.slice none 0 0) (.slice none 0 0) := by
      unfold NodeAt
      rw [hkeep.block (W.heap.size + 1) (by omega) (by omega) (by omega)]
      exact HBB.out
    obtain ⟨g0, g1, g2, g3, ⟨j0, j1, j2, j3⟩, hB5⟩ := hB4.facts
    have Hb4 := Lib.hid (Hb2.out.trans hkeep.below)
    clear HHow hkeep hres hB4
    by_cases hz : r2' = 0
    · subst hz
      obtain ⟨cm', hc', hq'⟩ := Hres.out rfl
      obtain ⟨cs', hcs', hqs⟩ := K7.out w4 (fun x => W.heap.size + 2 ≤ x) r1' cm' Hkeep.out.below.size (fun x hx hx2 => by have := Hs0.out; omega) (fun x o hx hin hno2 hno3 => by
        by_cases hxa : x = A1
        · subst hxa
          exact Hkeep.out.cell o (fun h => hno2 ⟨rfl, h.1, h.2⟩)
        · exact World.cell?_of_block (a := ⟨x, o, none⟩) (Hkeep.out.block x hx hxa hno3)) (NodeQ.keep (Nat.le_refl _) (fun _ _ _ => rfl) (fun x hx _ => by omega) _ _ hq') hc'
      have Hqs := Lib.hid hqs
      obtain ⟨l', b1, o1, d1, b2, o2, d2, b3, o3, d3, rfl⟩ := hqs.form
      have x0 := hcs'.2 0 _ rfl; have x1 := hcs'.2 1 _ rfl; have x2 := hcs'.2 2 _ rfl; have x3 := hcs'.2 3 _ rfl
      simp only [Nat.zero_add] at x0 x1 x2 x3
      clear hqs hcs' hc' hq'
      go_wp2_with fail
      refine bodyPost_ret (v := .tuple #[.agg #[.bool l', .slice b1 o1 d1, .slice b2 o2 d2, .slice b3 o3 d3], .int .i64 0]) (by simp [results, Tryz.results166, go_sem, g0, g1, g2, g3, j0, j1, j2, j3]) rfl ?_
      refine ⟨by with_reducible exact below_all Hb4.out (Nat.le_succ _) _ _ _ _, ?_⟩
      rw [Hat.out]
      simp only
      rw [Hr.out, if_pos rfl]
      have hne : ¬ (W.heap.size + 2 ≤ W.heap.size + 1) := by omega
      have hq := nodeq_set (N := W.heap.size + 1) (o := 3) (u := .slice b3 o3 d3) (nodeq_set (N := W.heap.size + 1) (o := 2) (u := .slice b2 o2 d2) (nodeq_set (N := W.heap.size + 1) (o := 1) (u := .slice b1 o1 d1) (nodeq_set (N := W.heap.size + 1) (o := 0) (u := .bool l') Hqs.out hne) hne) hne) hne
      exact ⟨_, rfl, NodeQ.keep (Nat.le_refl _) (fun _ _ _ => rfl) (fun b hb _ => by omega) _ _ hq⟩
    · have hne : (r2' != 0) = true := by simpa using hz
      have hne2 : (r2' == 0) = false := by simpa using hz
      have Hz := Lib.hid hz
      clear hz
      go_wp2_with fail
      refine bodyPost_ret (v := .tuple #[.agg #[.bool false, .slice none 0 0, .slice none 0 0, .slice none 0 0], .int .i64 r2']) (by simp [results, Tryz.results166, go_sem, g0, g1, g2, g3, j0, j1, j2, j3]) rfl ?_
      refine ⟨by with_reducible exact below_all Hb4.out (Nat.le_succ _) _ _ _ _, ?_⟩
      rw [Hat.out]
      simp only
      rw [Hr.out, if_neg Hz.out]
end Go.Proofs.YtaopoincbigjhaaGreatDoor
/- slices.SortFunc at [][]int: its bodies at this program, laid by the kit, in plain words. -/
namespace Go.Proofs
open Go.Shelf
end Go.Proofs
/- Walks: node.Same. -/
namespace Go.Proofs.YtaopoincbigjhaaGreatDoor
open Go.RowKit Go.Redl
set_option linter.unusedVariables false

mutual
/-- Are two trees the same. -/
def sameN : NodeD → NodeD → Bool
  | .mk l ps t ks, .mk l' ps' t' ks' => l == l' && (decide (ps = ps') && (decide (t = t') && (decide (ks.length = ks'.length) && sameK ks ks')))
def sameK : List NodeD → List NodeD → Bool
  | [], _ => true
  | _ :: _, [] => true
  | k :: ks, k' :: ks' => sameN k k' && sameK ks ks'
end
mutual
theorem sameN_self : ∀ n : NodeD, sameN n n = true
  | .mk l ps t ks => by unfold sameN; simp [sameK_self ks]
theorem sameK_self : ∀ ks : List NodeD, sameK ks ks = true
  | [] => by unfold sameK; rfl
  | k :: ks => by unfold sameK; simp [sameN_self k, sameK_self ks]
end
mutual
theorem sameN_eq : ∀ n m : NodeD, sameN n m = true → n = m
  | .mk l ps t ks, .mk l' ps' t' ks', h => by
    unfold sameN at h
    simp only [Bool.and_eq_true, decide_eq_true_eq, beq_iff_eq] at h
    obtain ⟨h1, h2, h3, h4, h5⟩ := h
    subst h1; subst h2; subst h3
    rw [sameK_eq ks ks' h4 h5]
theorem sameK_eq : ∀ ks ks' : List NodeD, ks.length = ks'.length → sameK ks ks' = true → ks = ks'
  | [], [], _, _ => rfl
  | [], _ :: _, h, _ => by simp at h
  | _ :: _, [], h, _ => by simp at h
  | k :: ks, k' :: ks', h, h2 => by
    unfold sameK at h2
    simp only [Bool.and_eq_true] at h2
    rw [sameN_eq k k' h2.1, sameK_eq ks ks' (by simpa using h) h2.2]
end
theorem sameK_step {ks ks' : List NodeD} {k : Nat} (h : k < ks.length) (h' : k < ks'.length) : sameK (ks.drop k) (ks'.drop k) = (sameN ks[k] ks'[k] && sameK (ks.drop (k + 1)) (ks'.drop (k + 1))) := by
  conv => lhs; rw [List.drop_eq_getElem_cons h, List.drop_eq_getElem_cons h']
  simp only [sameK]
theorem sameK_end {ks ks' : List NodeD} {k : Nat} (h : ks.length ≤ k) : sameK (ks.drop k) (ks'.drop k) = true := by
  rw [List.drop_eq_nil_of_le h]; unfold sameK; rfl
set_option maxRecDepth 100000 in
set_option maxHeartbeats 1000000 in
theorem equalKids_c (ks ks' : List NodeD) (a a' : Option Addr) (c c' : Nat) (css css' : List Value) (W : World) (hr : RowA W W.heap.size 4 a ks.length c css) (hk : KidsC W W.heap.size ks css) (hr' : RowA W W.heap.size 4 a' ks'.length c' css') (hk' : KidsC W W.heap.size ks' css')
    (hC : ∀ (i : Nat) (h : i < ks.length) (h' : i < ks'.length) (v v' : Value) (W' : World), NodeV W' W'.heap.size ks[i] v → NodeV W' W'.heap.size ks'[i] v' → Calls Tryz.prog 14 #[v, v'] W' fun e w' => e = .returned (.bool (sameN ks[i] ks'[i])) ∧ Below W'.heap.size W' w') :
    Calls Tryz.prog 57 #[.slice a ks.length c, .slice a' ks'.length c', .func (.func 14) #[] #[]] W fun e w' => e = .returned (.bool (decide (ks.length = ks'.length) && sameK ks ks')) ∧ Below W.heap.size W w' := by
  have hm : ks.length ≤ 9223372036854775807 := by have h1 := hr.le; have h2 := hr.max; unfold maxLen at h2; omega
  have hm' : ks'.length ≤ 9223372036854775807 := by have h1 := hr'.le; have h2 := hr'.max; unfold maxLen at h2; omega
  by_cases hl : ks.length = ks'.length
  · have hne : (((ks.length : Nat) : Int) != (ks'.length : Int)) = false := by simp [hl]
    have Hl := Lib.hid hl
    have HC := Lib.hid hC
    have Hk := Lib.hid hk; have Hk' := Lib.hid hk'
    obtain ⟨R, hR⟩ : ∃ R, R = (decide (ks.length = ks'.length) && sameK ks ks') := ⟨_, rfl⟩
    rw [← hR]
    have HR : Hid (R = sameK (ks.drop 0) (ks'.drop 0)) := by show R = _; rw [hR]; simp [hl]
    clear hl hC hk hk' hR
    have hle : ks'.length ≤ ks.length := by have := Hl.out; omega
    go_enter Tryz.func57, Tryz.ntmps57
    go_wp2_with fail
    go_loopw [17] (fun i wr => ∃ k : Nat, k ≤ ks.length ∧ i = .int .i64 k ∧ R = sameK (ks.drop k) (ks'.drop k) ∧ Below W.heap.size W wr) (fun i _ => ks.length - (intOf i).toNat)
    case atStart => exact ⟨0, Nat.zero_le _, rfl, HR.out, Below.refl _ _⟩
    case round =>
      obtain ⟨k, hkk, rfl, hp, hbel⟩ := hrel
      clear HR
      by_cases hlt : k < ks.length
      · have hlt' : k < ks'.length := by have := Hl.out; omega
        have hW := hbel.size
        obtain ⟨b, off, l, a1, n1, c1, a2, n2, c2, a3, n3, c3, rfl, hb, hn, g0, g1, g2, g3⟩ := (hr.keep hbel (Nat.le_refl _)).kid_at (KidsC.keep hbel (Nat.le_refl _) _ _ Hk.out) k hlt
        obtain ⟨b', off', l', a1', n1', c1', a2', n2', c2', a3', n3', c3', rfl, hb', hn', g0', g1', g2', g3'⟩ := (hr'.keep hbel (Nat.le_refl _)).kid_at (KidsC.keep hbel (Nat.le_refl _) _ _ Hk'.out) k hlt'
        have hbw : b < wr.heap.size := by omega
        have hbw' : b' < wr.heap.size := by omega
        have hb0 : Below wr.heap.size wr ((wr.alloc (Obj.cells #[.bool l, .slice a1 n1 c1, .slice a2 n2 c2, .slice a3 n3 c3] 35)).alloc (Obj.cells #[.bool l', .slice a1' n1' c1', .slice a2' n2' c2', .slice a3' n3' c3'] 35)) := ((Below.refl _ _).alloc (Nat.le_refl _) _).alloc (by simp) _
        have HC1 := Lib.hid (HC.out k hlt hlt' (.agg #[.bool l, .slice a1 n1 c1, .slice a2 n2 c2, .slice a3 n3 c3]) (.agg #[.bool l', .slice a1' n1' c1', .slice a2' n2' c2', .slice a3' n3' c3']) _ ⟨_, rfl, NodeC.keep (hb0.mono hW) (Nat.le_trans hW hb0.size) _ _ hn⟩ ⟨_, rfl, NodeC.keep (hb0.mono hW) (Nat.le_trans hW hb0.size) _ _ hn'⟩)
        have Hst := Lib.hid (sameK_step hlt hlt')
        have Hb0 := Lib.hid (hbel.trans (hb0.mono hW))
        have Hp := Lib.hid hp
        generalize sameN ks[k] ks'[k] = q at HC1 Hst
        clear hn hn' hp hbel
        go_wp2_with fail
        refine HC1.out.mono ?_
        rintro e w1 ⟨rfl, hbel⟩
        have Hb1 := Lib.hid (below_then Hb0.out hbel (Nat.le_refl _))
        clear HC1 hbel g0 g1 g2 g3 g0' g1' g2' g3'
        cases q with
        | true =>
          have Hst : Hid (sameK (ks.drop k) (ks'.drop k) = sameK (ks.drop (k + 1)) (ks'.drop (k + 1))) := by show _ = _; rw [Hst.out]; simp
          go_wp2_with fail
          go_roundw
          case rel => exact ⟨k + 1, by omega, by go_num, by rw [Hp.out, Hst.out], Hb1.out⟩
          case measure => simp [intOf]; omega
        | false =>
          have Hst : Hid (R = false) := by show _ = _; rw [Hp.out, Hst.out]; simp
          go_wp2_with fail
          go_ret
          exact ⟨ret_bool Hst.out.symm, Hb1.out⟩
      · have Hp := Lib.hid hp; have Hb := Lib.hid hbel
        clear hp hbel
        go_wp2_with fail
        go_ret
        exact ⟨ret_bool (by rw [Hp.out, sameK_end (by omega)]), Hb.out⟩
  · have hne : (((ks.length : Nat) : Int) != (ks'.length : Int)) = true := by simp; omega
    have Hl := Lib.hid hl; clear hl hC hk hk'
    go_enter Tryz.func57, Tryz.ntmps57
    go_wp2_with fail
    go_ret
    exact ⟨ret_bool (by simp [Hl.out]), Below.refl _ _⟩
set_option maxRecDepth 100000 in
set_option maxHeartbeats 400000 in
theorem psame_c (a a' : Option Addr) (cap cap' B : Nat) (xs ys : List PropD) (w : World) (hr : RowA w B 2 a xs.length cap (propCells xs)) (hr' : RowA w B 2 a' ys.length cap' (propCells ys)) :
    Calls Tryz.prog 55 #[.slice a xs.length cap, .slice a' ys.length cap'] w fun e w' => e = .returned (.bool (decide (xs = ys))) ∧ Drawn w w' := by
  have H := Lib.hid (equal_prop a a' cap cap' B xs ys w hr hr')
  clear hr hr'
  go_enter Tryz.func55, Tryz.ntmps55
  go_wp2_with fail
  refine H.out.mono ?_
  rintro e w1 ⟨rfl, hd⟩
  have Hd := Lib.hid hd
  clear hd H
  go_wp2_with fail
  go_ret
  exact ⟨rfl, Hd.out⟩
set_option maxRecDepth 100000 in
set_option maxHeartbeats 400000 in
theorem gsame_c (v1 v2 : Value) (B : Nat) (xs ys : List Int) (w : World) (h1 : Ints .i32 w B v1 xs) (h2 : Ints .i32 w B v2 ys) :
    Calls Tryz.prog 56 #[v1, v2] w fun e w' => e = .returned (.bool (decide (xs = ys))) ∧ Drawn w w' := by
  have H := Lib.hid (equal_rune v1 v2 B xs ys w h1 h2)
  clear h1 h2
  go_enter Tryz.func56, Tryz.ntmps56
  go_wp2_with fail
  refine H.out.mono ?_
  rintro e w1 ⟨rfl, hd⟩
  have Hd := Lib.hid hd
  clear hd H
  go_wp2_with fail
  go_ret
  exact ⟨rfl, Hd.out⟩
theorem sameN_open (l l' : Bool) (ps ps' : List PropD) (t t' : List Int) (ks ks' : List NodeD) : sameN (.mk l ps t ks) (.mk l' ps' t' ks') = (l == l' && (decide (ps = ps') && (decide (t = t') && (decide (ks.length = ks'.length) && sameK ks ks')))) := by
  rw [sameN]
set_option maxRecDepth 100000 in
set_option maxHeartbeats 2000000 in
theorem same_c (m : Nat) : ∀ (n1 n2 : NodeD) (v1 v2 : Value) (W : World), n1.wt ≤ m → NodeV W W.heap.size n1 v1 → NodeV W W.heap.size n2 v2 →
    Calls Tryz.prog 14 #[v1, v2] W fun e w' => e = .returned (.bool (sameN n1 n2)) ∧ Below W.heap.size W w' := by
  induction m with
  | zero => intro n1 n2 v1 v2 W hm; have := wt_pos n1; omega
  | succ m IH =>
    intro n1 n2 v1 v2 W hm hv1 hv2
    obtain ⟨l, ps, t, ks⟩ := n1
    obtain ⟨l', ps', t', ks'⟩ := n2
    obtain ⟨ap, cp, at_, ct, ak, ck, css, rfl, hp, ht, hk, hkk⟩ := hv1.open
    obtain ⟨ap', cp', at_', ct', ak', ck', css', rfl, hp', ht', hk', hkk'⟩ := hv2.open
    have hwt : wtAll ks ≤ m := by simp only [NodeD.wt] at hm; omega
    have Hs := Lib.hid (sameN_open l l' ps ps' t t' ks ks')
    generalize sameN (.mk l ps t ks) (.mk l' ps' t' ks') = R at Hs ⊢
    have hb0 : Below W.heap.size W ((W.alloc (Obj.cells #[.bool l, .slice ap ps.length cp, .slice at_ t.length ct, .slice ak ks.length ck] 35)).alloc (Obj.cells #[.bool l', .slice ap' ps'.length cp', .slice at_' t'.length ct', .slice ak' ks'.length ck'] 35)) := ((Below.refl _ _).alloc (Nat.le_refl _) _).alloc (by simp) _
    have HP := Lib.hid (psame_c ap ap' cp cp' _ ps ps' _ (hp.keep hb0 (Nat.le_refl _)) (hp'.keep hb0 (Nat.le_refl _)))
    have HT := fun q => Lib.hid (gsame_c _ _ _ t t' _ (ht.keep (below_drewN hb0 q) (Nat.le_refl _)) (ht'.keep (below_drewN hb0 q) (Nat.le_refl _)))
    have HK := fun (W' : World) (hb : Below W.heap.size W W') => Lib.hid (equalKids_c ks ks' ak ak' ck ck' css css' W' (hk.keep hb hb.size) (KidsC.keep hb hb.size _ _ hkk) (hk'.keep hb hb.size) (KidsC.keep hb hb.size _ _ hkk')
      (fun i h h' v v' W2 q1 q2 => IH ks[i] ks'[i] v v' W2 (Nat.le_trans (wtAll_mem (List.getElem_mem h)) hwt) q1 q2))
    have Hb0 := Lib.hid hb0
    clear IH hv1 hv2 hp ht hk hkk hp' ht' hk' hkk' hm hwt hb0
    by_cases hl : l = l'
    · subst hl
      by_cases hps : ps = ps'
      · have HP : Hid _ := HP
        have e1 : decide (ps = ps') = true := decide_eq_true hps
        rw [e1] at HP Hs
        clear e1 hps
        by_cases ht : t = t'
        · have e1 : decide (t = t') = true := decide_eq_true ht
          rw [e1] at HT Hs
          clear e1 ht
          have Hs2 : Hid (R = (decide (ks.length = ks'.length) && sameK ks ks')) := by show _ = _; rw [Hs.out]; simp
          clear Hs
          generalize (decide (ks.length = ks'.length) && sameK ks ks') = x at Hs2 HK
          cases l <;>
          · go_enter Tryz.func14, Tryz.ntmps14
            go_wp2_with fail
            refine HP.out.mono ?_
            rintro e w1 ⟨rfl, q, rfl⟩
            have HT1 := HT q
            clear HP HT
            go_wp2_with fail
            refine HT1.out.mono ?_
            rintro e w1 ⟨rfl, q2, rfl⟩
            have hb2 := below_drewN Hb0.out (q + q2)
            have HK1 := HK _ hb2
            have Hb2 := Lib.hid hb2
            clear HT1 hb2 HK Hb0
            go_wp2_with fail
            refine HK1.out.mono ?_
            rintro e w1 ⟨rfl, hbel⟩
            have Hb3 := Lib.hid (below_then Hb2.out hbel (Nat.le_refl _))
            clear hbel HK1 Hb2
            go_wp2_with fail
            go_ret
            exact ⟨ret_bool (by rw [Hs2.out]), Hb3.out⟩
        · have e1 : decide (t = t') = false := decide_eq_false ht
          rw [e1] at HT Hs
          clear e1 ht HK
          have Hs2 : Hid (R = false) := by show _ = _; rw [Hs.out]; simp
          cases l <;>
          · go_enter Tryz.func14, Tryz.ntmps14
            go_wp2_with fail
            refine HP.out.mono ?_
            rintro e w1 ⟨rfl, q, rfl⟩
            have HT1 := HT q
            clear HP HT
            go_wp2_with fail
            refine HT1.out.mono ?_
            rintro e w1 ⟨rfl, q2, rfl⟩
            have hb2 := Lib.hid (below_drewN Hb0.out (q + q2))
            clear HT1 Hb0
            go_wp2_with fail
            go_ret
            exact ⟨ret_bool (by rw [Hs2.out]), hb2.out⟩
      · have e1 : decide (ps = ps') = false := decide_eq_false hps
        rw [e1] at HP Hs
        clear e1 hps HK HT
        have Hs2 : Hid (R = false) := by show _ = _; rw [Hs.out]; simp
        cases l <;>
        · go_enter Tryz.func14, Tryz.ntmps14
          go_wp2_with fail
          refine HP.out.mono ?_
          rintro e w1 ⟨rfl, q, rfl⟩
          have hb2 := Lib.hid (below_drewN Hb0.out q)
          clear HP Hb0
          go_wp2_with fail
          go_ret
          exact ⟨ret_bool (by rw [Hs2.out]), hb2.out⟩
    · have Hs2 : Hid (R = false) := by show _ = _; rw [Hs.out]; simp [hl]
      clear HP HT HK
      have hne : (l == l') = false := by simpa using hl
      clear hl
      go_enter Tryz.func14, Tryz.ntmps14
      go_wp2_with fail
      go_ret
      exact ⟨ret_bool (by rw [Hs2.out]), Hb0.out⟩
end Go.Proofs.YtaopoincbigjhaaGreatDoor
/- Walks: the reference's Same at trees. -/
namespace Go.Proofs.YtaopoincbigjhaaGreatDoor
open Go.RowKit Go.Redl
set_option linter.unusedVariables false

end Go.Proofs.YtaopoincbigjhaaGreatDoor
/- Walks: the reference's Same at operations that are the same. -/
namespace Go.Proofs.YtaopoincbigjhaaGreatDoor
open Go.RowKit Go.Redl
set_option linter.unusedVariables false

set_option maxHeartbeats 400000 in
theorem rpath_c (a a' : Option Addr) (cap cap' B : Nat) (xs ys : List Int) (w : World) (hr : RowA w B 1 a xs.length cap (xs.map (Value.int .i64))) (hr' : RowA w B 1 a' ys.length cap' (ys.map (Value.int .i64))) :
    Calls Tryz.prog 29 #[.slice a xs.length cap, .slice a' ys.length cap'] w fun e w' => e = .returned (.bool (decide (xs = ys))) ∧ Drawn w w' := by
  have hm : xs.length ≤ 9223372036854775807 := by have h1 := hr.le; have h2 := hr.max; unfold maxLen at h2; omega
  have hm' : ys.length ≤ 9223372036854775807 := by have h1 := hr'.le; have h2 := hr'.max; unfold maxLen at h2; omega
  by_cases hl : xs.length = ys.length
  · go_enter Tryz.func29, Tryz.ntmps29
    have hle : ys.length ≤ xs.length := by omega
    have hle' : xs.length ≤ ys.length := by omega
    have hne : (((xs.length : Nat) : Int) != (ys.length : Int)) = false := by simp [hl]
    have Hl := Lib.hid hl; clear hl
    go_wp2_with fail
    go_loopw [13] (fun i wr => ∃ k : Nat, k ≤ xs.length ∧ i = .int .i64 k ∧ SameTo xs ys k ∧ Drawn w wr) (fun i _ => xs.length - (intOf i).toNat)
    case atStart => exact ⟨0, Nat.zero_le _, rfl, sameTo_zero _ _, ⟨0, rfl⟩⟩
    case round =>
      obtain ⟨k, hk, rfl, hp, q, rfl⟩ := hrel
      have Hp := Lib.hid hp; clear hp
      by_cases hlt : k < xs.length
      · obtain ⟨b, off, rfl, hb, hcell⟩ := hr.int_at k hlt
        obtain ⟨b', off', rfl, hb', hcell'⟩ := hr'.int_at k (by omega)
        have hcell := hcell k hlt
        have hcell' := hcell' k (by omega)
        have hlt' : k < ys.length := by omega
        rw [getD_of_lt hlt] at hcell
        rw [getD_of_lt hlt'] at hcell'
        go_wp2_with fail
        by_cases he : xs[k] = ys[k]
        · have hne : (xs[k] != ys[k]) = false := by simp [he]
          have He := Lib.hid he; clear he
          go_quiet (fail)
          go_wp2_with fail
          go_roundw
          case rel => exact ⟨k + 1, by omega, by go_num, sameTo_succ Hp.out hlt hlt' He.out, by first | exact drawn_one _ _ | exact drawn_two _ _ _⟩
          case measure => simp [intOf]; omega
        · have hne : (xs[k] != ys[k]) = true := by simp [he]
          have He := Lib.hid he; clear he
          go_quiet (fail)
          go_wp2_with fail
          go_ret
          exact ⟨ret_bool (by simp [same_not hlt hlt' He.out]), drawn_two _ _ _⟩
      · go_wp2_with fail
        go_ret
        obtain rfl : k = xs.length := by omega
        exact ⟨ret_bool (by simp [sameTo_all Hp.out Hl.out]), drawn_one _ _⟩
  · have hne : (((xs.length : Nat) : Int) != (ys.length : Int)) = true := by simp; omega
    have Hl := Lib.hid hl; clear hl
    go_enter Tryz.func29, Tryz.ntmps29
    go_wp2_with fail
    go_ret
    exact ⟨ret_bool (by simp [show xs ≠ ys from fun h => Hl.out (by rw [h])]), drawn_zero _⟩
theorem At.f21 {w : World} {N : Nat} {c0 c1 c2 c3 c4 c5 c6 c7 c8 c9 c10 c11 c12 c13 c14 c15 c16 c17 c18 c19 c20 : Value} {T : TypeId} (h : At w N [c0, c1, c2, c3, c4, c5, c6, c7, c8, c9, c10, c11, c12, c13, c14, c15, c16, c17, c18, c19, c20] T) : (w.cell? ⟨N, 0, none⟩ = some c0 ∧ w.cell? ⟨N, 1, none⟩ = some c1 ∧ w.cell? ⟨N, 2, none⟩ = some c2 ∧ w.cell? ⟨N, 3, none⟩ = some c3 ∧ w.cell? ⟨N, 4, none⟩ = some c4 ∧ w.cell? ⟨N, 5, none⟩ = some c5 ∧ w.cell? ⟨N, 6, none⟩ = some c6 ∧ w.cell? ⟨N, 7, none⟩ = some c7 ∧ w.cell? ⟨N, 8, none⟩ = some c8 ∧ w.cell? ⟨N, 9, none⟩ = some c9 ∧ w.cell? ⟨N, 10, none⟩ = some c10 ∧ w.cell? ⟨N, 11, none⟩ = some c11 ∧ w.cell? ⟨N, 12, none⟩ = some c12 ∧ w.cell? ⟨N, 13, none⟩ = some c13 ∧ w.cell? ⟨N, 14, none⟩ = some c14 ∧ w.cell? ⟨N, 15, none⟩ = some c15 ∧ w.cell? ⟨N, 16, none⟩ = some c16 ∧ w.cell? ⟨N, 17, none⟩ = some c17 ∧ w.cell? ⟨N, 18, none⟩ = some c18 ∧ w.cell? ⟨N, 19, none⟩ = some c19 ∧ w.cell? ⟨N, 20, none⟩ = some c20) ∧ (∀ j, w.frozen? ⟨N, j, none⟩ = false) ∧ N < w.heap.size :=
  ⟨⟨h.cell 0 rfl, h.cell 1 rfl, h.cell 2 rfl, h.cell 3 rfl, h.cell 4 rfl, h.cell 5 rfl, h.cell 6 rfl, h.cell 7 rfl, h.cell 8 rfl, h.cell 9 rfl, h.cell 10 rfl, h.cell 11 rfl, h.cell 12 rfl, h.cell 13 rfl, h.cell 14 rfl, h.cell 15 rfl, h.cell 16 rfl, h.cell 17 rfl, h.cell 18 rfl, h.cell 19 rfl, h.cell 20 rfl⟩, fun j => Lib.frozen_of_heap h _, h.lt⟩
/-- Yes. -/
abbrev YesP (W : World) (e : Ending) (w' : World) : Prop := e = .returned (.bool true) ∧ Below W.heap.size W w'
theorem rpath_yes (p : List Int) (a a' : Option Addr) (c c' : Nat) (w : World) (h : RowA w w.heap.size 1 a p.length c (p.map (Value.int .i64))) (h' : RowA w w.heap.size 1 a' p.length c' (p.map (Value.int .i64))) :
    Calls Tryz.prog 29 #[.slice a p.length c, .slice a' p.length c'] w (YesP w) :=
  (rpath_c a a' c c' _ p p w h h').mono fun e w' hh => by obtain ⟨rfl, hd⟩ := hh; exact ⟨ret_bool (by simp), hd.below _⟩
end Go.Proofs.YtaopoincbigjhaaGreatDoor
/- Walks: paths compared; whether one is the same as, or above, another one. -/
namespace Go.Proofs.YtaopoincbigjhaaGreatDoor
open Go.RowKit Go.Redl
set_option linter.unusedVariables false

def cmpI (a b : Int) : Int := if a < b then -1 else if b < a then 1 else 0
/-- Two paths, number by number. -/
def cmpL : List Int → List Int → Int
  | [], [] => 0
  | [], _ :: _ => -1
  | _ :: _, [] => 1
  | x :: a, y :: b => if cmpI x y = 0 then cmpL a b else cmpI x y
theorem cmpI_zero {x y : Int} : cmpI x y = 0 ↔ x = y := by unfold cmpI; split <;> (try split) <;> omega
theorem cmpL_self : ∀ a : List Int, cmpL a a = 0
  | [] => rfl
  | x :: a => by unfold cmpL; rw [if_pos (by simp [cmpI]), cmpL_self a]
theorem cmpL_eq : ∀ {a b : List Int}, cmpL a b = 0 → a = b
  | [], [], _ => rfl
  | [], _ :: _, h => by simp [cmpL] at h
  | _ :: _, [], h => by simp [cmpL] at h
  | x :: a, y :: b, h => by
    unfold cmpL at h
    split at h
    · rename_i h0
      rw [cmpL_eq h, cmpI_zero.1 h0]
    · exact absurd h ‹_›
set_option maxRecDepth 100000 in
theorem nan_c (x : Int) (w : World) : Calls Tryz.prog 238 #[.int .i64 x] w fun e w' => e = .returned (.bool false) ∧ w' = w := by
  have hne : (x != x) = false := by simp
  go_enter Tryz.func238, Tryz.ntmps238
  go_wp2_with fail
  go_ret
  exact ⟨rfl, rfl⟩
set_option maxRecDepth 100000 in
theorem cmpi_c (x y : Int) (w : World) : Calls Tryz.prog 219 #[.int .i64 x, .int .i64 y] w fun e w' => e = .returned (.int .i64 (cmpI x y)) ∧ w' = w := by
  have HX := Lib.hid (nan_c x w); have HY := Lib.hid (nan_c y w)
  obtain ⟨z, hz⟩ : ∃ z, z = cmpI x y := ⟨_, rfl⟩
  rw [← hz]
  have Hz := Lib.hid (show (x < y → z = -1) ∧ (¬ x < y → y < x → z = 1) ∧ (¬ x < y → ¬ y < x → z = 0) from ⟨fun h => by rw [hz, cmpI, if_pos h], fun h h' => by rw [hz, cmpI, if_neg h, if_pos h'], fun h h' => by rw [hz, cmpI, if_neg h, if_neg h']⟩)
  clear hz
  go_enter Tryz.func219, Tryz.ntmps219
  go_wp2_with fail
  refine HX.out.mono ?_
  rintro e w1 ⟨rfl, rfl⟩
  go_wp2_with fail
  refine HY.out.mono ?_
  rintro e w1 ⟨rfl, rfl⟩
  by_cases h1 : x < y
  · have Hr := Lib.hid (Hz.out.1 (by omega))
    go_wp2_with fail
    go_ret
    exact ⟨ret_int Hr.out.symm, rfl⟩
  · by_cases h2 : y < x
    · have Hr := Lib.hid (Hz.out.2.1 (by omega) (by omega))
      have h3 : decide (x < y) = false := decide_eq_false (by omega)
      go_wp2_with fail
      go_ret
      exact ⟨ret_int Hr.out.symm, rfl⟩
    · have Hr := Lib.hid (Hz.out.2.2 (by omega) (by omega))
      have h3 : decide (x < y) = false := decide_eq_false (by omega)
      have h4 : decide (y < x) = false := decide_eq_false (by omega)
      go_wp2_with fail
      go_ret
      exact ⟨ret_int Hr.out.symm, rfl⟩
theorem cmpL_step {xs ys : List Int} {k : Nat} (h1 : k < xs.length) (h2 : k < ys.length) : cmpL (xs.drop k) (ys.drop k) = if cmpI xs[k] ys[k] = 0 then cmpL (xs.drop (k + 1)) (ys.drop (k + 1)) else cmpI xs[k] ys[k] := by
  rw [List.drop_eq_getElem_cons h1, List.drop_eq_getElem_cons h2]; rfl
set_option maxRecDepth 100000 in
set_option maxHeartbeats 2000000 in
theorem scmp_c (xs ys : List Int) (a a' : Option Addr) (cap cap' B : Nat) (w : World) (hr : RowA w B 1 a xs.length cap (xs.map (Value.int .i64))) (hr' : RowA w B 1 a' ys.length cap' (ys.map (Value.int .i64))) :
    Calls Tryz.prog 232 #[.slice a xs.length cap, .slice a' ys.length cap'] w fun e w' => e = .returned (.int .i64 (cmpL xs ys)) ∧ w' = w := by
  obtain ⟨z, hz⟩ : ∃ z, z = cmpL xs ys := ⟨_, rfl⟩
  rw [← hz]
  have Hz := Lib.hid hz
  clear hz
  have H63 := Lib.hid (show xs.length ≤ 9223372036854775807 from Nat.le_trans hr.le (by have := hr.max; unfold maxLen at this; omega))
  go_enter Tryz.func232, Tryz.ntmps232
  go_wp2_with fail
  go_loopg [11, 5, 6, 7, 8] xs.length (fun g i _ _ _ _ wr => ∃ k : Nat, i = .int .i64 k ∧ k + g = xs.length ∧ k ≤ ys.length ∧ Hid (cmpL (xs.drop k) (ys.drop k) = z) ∧ wr = w)
  case atStart => exact ⟨0, rfl, by omega, by omega, Hz.out.symm, rfl⟩
  case round =>
    obtain ⟨k, rfl, hg, hky, hst, rfl⟩ := hrel
    by_cases hlt : k < xs.length
    · have hlti : (k : Int) < xs.length := by omega
      obtain ⟨b, off, rfl, hb, hcell0⟩ := hr.int_at k hlt
      have hcell := hcell0 k hlt
      rw [getD_of_lt hlt] at hcell
      clear hcell0
      by_cases hly : k < ys.length
      ·
        have hlyi : (k : Int) < ys.length := by omega
        have hge : decide ((ys.length : Int) ≤ k) = false := decide_eq_false (by omega)
        have hw1 : IntKind.i64.wrap ((k : Int) + 1) = (k : Int) + 1 := IntWalk.i64_in _ (by have := H63.out; omega)
        obtain ⟨b', off', rfl, hb', hcell0⟩ := hr'.int_at k hly
        have hcell' := hcell0 k hly
        rw [getD_of_lt hly] at hcell'
        clear hcell0
        have Hs := Lib.hid ((cmpL_step hlt hly).symm.trans hst.out)
        have HC := Lib.hid (cmpi_c xs[k] ys[k] wr)
        generalize xs[k] = x at hcell Hs HC
        generalize ys[k] = y at hcell' Hs HC
        clear hst
        by_cases h0 : cmpI x y = 0
        ·
          have Hs2 := Lib.hid (show cmpL (xs.drop (k + 1)) (ys.drop (k + 1)) = z by have h := Hs.out; rwa [if_pos h0] at h)
          rw [h0] at HC
          clear Hs h0
          go_wp2_with fail
          refine HC.out.mono ?_
          rintro e w1 ⟨rfl, rfl⟩
          clear HC
          go_wp2_with fail
          go_roundg (xs.length - (k + 1))
          case measure => omega
          case rel => exact ⟨k + 1, by go_num, by omega, by omega, Hs2, rfl⟩
        ·
          have Hs2 := Lib.hid (show cmpI x y = z by have h := Hs.out; rwa [if_neg h0] at h)
          have hne : (cmpI x y != 0) = true := by simpa using h0
          clear Hs h0
          generalize cmpI x y = c at HC Hs2 hne
          go_wp2_with fail
          refine HC.out.mono ?_
          rintro e w1 ⟨rfl, rfl⟩
          clear HC
          go_wp2_with fail
          go_ret
          exact ⟨ret_int Hs2.out, rfl⟩
      ·
        obtain rfl : k = ys.length := by omega
        have hge : decide ((ys.length : Int) ≤ ys.length) = true := decide_eq_true (by omega)
        have Hs := Lib.hid (show (1 : Int) = z by
          have h := hst.out
          rw [List.drop_length, List.drop_eq_getElem_cons hlt] at h
          exact h)
        clear hst
        go_wp2_with fail
        go_ret
        exact ⟨ret_int Hs.out, rfl⟩
    ·
      obtain rfl : k = xs.length := by omega
      by_cases hly : xs.length < ys.length
      · have hlyi : (xs.length : Int) < ys.length := by omega
        have Hs := Lib.hid (show (-1 : Int) = z by
          have h := hst.out
          rw [List.drop_length, List.drop_eq_getElem_cons hly] at h
          exact h)
        clear hst
        go_wp2_with fail
        go_ret
        exact ⟨ret_int Hs.out, rfl⟩
      · have hlyi : decide ((xs.length : Int) < ys.length) = false := decide_eq_false (by omega)
        have Hs := Lib.hid (show (0 : Int) = z by
          have h := hst.out
          rw [List.drop_length, List.drop_of_length_le (show ys.length ≤ xs.length by omega)] at h
          exact h)
        clear hst
        go_wp2_with fail
        go_ret
        exact ⟨ret_int Hs.out, rfl⟩
set_option maxRecDepth 100000 in
theorem tcmp_c (xs ys : List Int) (a a' : Option Addr) (cap cap' B : Nat) (w : World) (hr : RowA w B 1 a xs.length cap (xs.map (Value.int .i64))) (hr' : RowA w B 1 a' ys.length cap' (ys.map (Value.int .i64))) :
    Calls Tryz.prog 187 #[.slice a xs.length cap, .slice a' ys.length cap'] w fun e w' => e = .returned (.int .i64 (cmpL xs ys)) ∧ w' = w := by
  have HC := Lib.hid (scmp_c xs ys a a' cap cap' B w hr hr')
  clear hr hr'
  go_enter Tryz.func187, Tryz.ntmps187
  go_wp2_with fail
  refine HC.out.mono ?_
  rintro e w1 ⟨rfl, rfl⟩
  go_wp2_with fail
  go_ret
  exact ⟨rfl, rfl⟩
set_option maxHeartbeats 400000 in
theorem spath_c (a a' : Option Addr) (cap cap' B : Nat) (xs ys : List Int) (w : World) (hr : RowA w B 1 a xs.length cap (xs.map (Value.int .i64))) (hr' : RowA w B 1 a' ys.length cap' (ys.map (Value.int .i64))) :
    Calls Tryz.prog 34 #[.slice a xs.length cap, .slice a' ys.length cap'] w fun e w' => e = .returned (.bool (decide (xs = ys))) ∧ Drawn w w' := by
  have hm : xs.length ≤ 9223372036854775807 := by have h1 := hr.le; have h2 := hr.max; unfold maxLen at h2; omega
  have hm' : ys.length ≤ 9223372036854775807 := by have h1 := hr'.le; have h2 := hr'.max; unfold maxLen at h2; omega
  by_cases hl : xs.length = ys.length
  · go_enter Tryz.func34, Tryz.ntmps34
    have hle : ys.length ≤ xs.length := by omega
    have hle' : xs.length ≤ ys.length := by omega
    have hne : (((xs.length : Nat) : Int) != (ys.length : Int)) = false := by simp [hl]
    have Hl := Lib.hid hl; clear hl
    go_wp2_with fail
    go_loopw [13] (fun i wr => ∃ k : Nat, k ≤ xs.length ∧ i = .int .i64 k ∧ SameTo xs ys k ∧ Drawn w wr) (fun i _ => xs.length - (intOf i).toNat)
    case atStart => exact ⟨0, Nat.zero_le _, rfl, sameTo_zero _ _, ⟨0, rfl⟩⟩
    case round =>
      obtain ⟨k, hk, rfl, hp, q, rfl⟩ := hrel
      have Hp := Lib.hid hp; clear hp
      by_cases hlt : k < xs.length
      · obtain ⟨b, off, rfl, hb, hcell⟩ := hr.int_at k hlt
        obtain ⟨b', off', rfl, hb', hcell'⟩ := hr'.int_at k (by omega)
        have hcell := hcell k hlt
        have hcell' := hcell' k (by omega)
        have hlt' : k < ys.length := by omega
        rw [getD_of_lt hlt] at hcell
        rw [getD_of_lt hlt'] at hcell'
        go_wp2_with fail
        by_cases he : xs[k] = ys[k]
        · have hne : (xs[k] != ys[k]) = false := by simp [he]
          have He := Lib.hid he; clear he
          go_quiet (fail)
          go_wp2_with fail
          go_roundw
          case rel => exact ⟨k + 1, by omega, by go_num, sameTo_succ Hp.out hlt hlt' He.out, by first | exact drawn_one _ _ | exact drawn_two _ _ _⟩
          case measure => simp [intOf]; omega
        · have hne : (xs[k] != ys[k]) = true := by simp [he]
          have He := Lib.hid he; clear he
          go_quiet (fail)
          go_wp2_with fail
          go_ret
          exact ⟨ret_bool (by simp [same_not hlt hlt' He.out]), drawn_two _ _ _⟩
      · go_wp2_with fail
        go_ret
        obtain rfl : k = xs.length := by omega
        exact ⟨ret_bool (by simp [sameTo_all Hp.out Hl.out]), drawn_one _ _⟩
  · have hne : (((xs.length : Nat) : Int) != (ys.length : Int)) = true := by simp; omega
    have Hl := Lib.hid hl; clear hl
    go_enter Tryz.func34, Tryz.ntmps34
    go_wp2_with fail
    go_ret
    exact ⟨ret_bool (by simp [show xs ≠ ys from fun h => Hl.out (by rw [h])]), drawn_zero _⟩
set_option maxRecDepth 100000 in
theorem tsame_c (xs ys : List Int) (a a' : Option Addr) (cap cap' B : Nat) (w : World) (hr : RowA w B 1 a xs.length cap (xs.map (Value.int .i64))) (hr' : RowA w B 1 a' ys.length cap' (ys.map (Value.int .i64))) :
    Calls Tryz.prog 18 #[.slice a xs.length cap, .slice a' ys.length cap'] w fun e w' => e = .returned (.bool (decide (xs = ys))) ∧ Drawn w w' := by
  have HC := Lib.hid (spath_c a a' cap cap' B xs ys w hr hr')
  clear hr hr'
  go_enter Tryz.func18, Tryz.ntmps18
  go_wp2_with fail
  refine HC.out.mono ?_
  rintro e w1 ⟨rfl, hd⟩
  have Hd := Lib.hid hd
  clear hd
  go_wp2_with fail
  go_ret
  exact ⟨ret_bool (by simp), Hd.out⟩
end Go.Proofs.YtaopoincbigjhaaGreatDoor
/- Walks: whether a path is above another one. -/
namespace Go.Proofs.YtaopoincbigjhaaGreatDoor
open Go.RowKit Go.Redl
set_option linter.unusedVariables false

/-- How many numbers both begin with. -/
def alikeN : List Int → List Int → Nat
  | x :: a, y :: b => if x = y then 1 + alikeN a b else 0
  | [], _ => 0
  | _ :: _, [] => 0
theorem alikeN_le : ∀ a b : List Int, alikeN a b ≤ a.length ∧ alikeN a b ≤ b.length
  | [], b => by simp [alikeN]
  | _ :: _, [] => by simp [alikeN]
  | x :: a, y :: b => by
    have := alikeN_le a b
    unfold alikeN
    split <;> simp <;> omega
theorem alikeN_step {xs ys : List Int} {k : Nat} (h1 : k < xs.length) (h2 : k < ys.length) : alikeN (xs.drop k) (ys.drop k) = if xs[k] = ys[k] then 1 + alikeN (xs.drop (k + 1)) (ys.drop (k + 1)) else 0 := by
  rw [List.drop_eq_getElem_cons h1, List.drop_eq_getElem_cons h2]; rfl
/-- One path is above another one. -/
def aboveB (a b : List Int) : Bool := decide (a.length < b.length) && decide (alikeN a b = a.length)
set_option maxRecDepth 100000 in
set_option maxHeartbeats 2000000 in
theorem alike_c (xs ys : List Int) (a a' : Option Addr) (cap cap' B : Nat) (w : World) (hr : RowA w B 1 a xs.length cap (xs.map (Value.int .i64))) (hr' : RowA w B 1 a' ys.length cap' (ys.map (Value.int .i64))) :
    Calls Tryz.prog 62 #[.slice a xs.length cap, .slice a' ys.length cap'] w fun e w' => e = .returned (.int .i64 (alikeN xs ys : Nat)) ∧ Drawn w w' := by
  obtain ⟨z, hz⟩ : ∃ z, z = alikeN xs ys := ⟨_, rfl⟩
  rw [← hz]
  have Hz := Lib.hid hz
  have H63 := Lib.hid (show xs.length ≤ 9223372036854775807 from Nat.le_trans hr.le (by have := hr.max; unfold maxLen at this; omega))
  have Hle := Lib.hid (alikeN_le xs ys)
  by_cases hle : xs.length ≤ ys.length
  · have hlei : (xs.length : Int) ≤ ys.length := by omega
    have Hor := Lib.hid hle
    clear hz
    go_enter Tryz.func62, Tryz.ntmps62
    go_wp2_with fail
    go_loopg [11, 5] xs.length (fun g i _ wr => ∃ k : Nat, i = .int .i64 k ∧ k + g = xs.length ∧ Hid (k + alikeN (xs.drop k) (ys.drop k) = z) ∧ Drawn w wr)
    case atStart => exact ⟨0, rfl, by omega, (show 0 + alikeN xs ys = z by rw [Hz.out]; omega), ⟨0, rfl⟩⟩
    case round =>
      obtain ⟨k, rfl, hg, hst, q, rfl⟩ := hrel
      by_cases hlt : k < xs.length
      · have hlti : (k : Int) < xs.length := by omega
        have hlx : k < xs.length := by have := Hor.out; omega
        have hly : k < ys.length := by have := Hor.out; omega
        have hlxi : (k : Int) < xs.length := by omega
        have hlyi : (k : Int) < ys.length := by omega
        obtain ⟨b, off, rfl, hb, hcell0⟩ := hr.int_at k hlx
        have hcell := hcell0 k hlx
        obtain ⟨b', off', rfl, hb', hcell1⟩ := hr'.int_at k hly
        have hcell' := hcell1 k hly
        rw [getD_of_lt hlx] at hcell
        rw [getD_of_lt hly] at hcell'
        have Hs := Lib.hid (show k + (if xs[k] = ys[k] then 1 + alikeN (xs.drop (k + 1)) (ys.drop (k + 1)) else 0) = z by rw [← alikeN_step hlx hly]; exact hst.out)
        have hw1 : IntKind.i64.wrap ((k : Int) + 1) = (k : Int) + 1 := IntWalk.i64_in _ (by have := H63.out; omega)
        generalize xs[k] = x at hcell Hs
        generalize ys[k] = y at hcell' Hs
        clear hcell0 hcell1 hst
        by_cases he : x = y
        · have hne : (x != y) = false := by simp [he]
          have Hs2 := Lib.hid (show (k + 1) + alikeN (xs.drop (k + 1)) (ys.drop (k + 1)) = z by have h := Hs.out; rw [if_pos he] at h; omega)
          have He := Lib.hid he
          clear he Hs
          go_wp2_with fail
          go_quiet (fail)
          go_wp2_with fail
          go_roundg (xs.length - (k + 1))
          case measure => omega
          case rel => exact ⟨k + 1, by go_num, by omega, Hs2, by first | exact drawn_one _ _ | exact drawn_two _ _ _⟩
        · have hne : (x != y) = true := by simp [he]
          have Hs2 := Lib.hid (show k = z by have h := Hs.out; rw [if_neg he] at h; omega)
          clear he Hs
          go_wp2_with fail
          go_quiet (fail)
          go_wp2_with fail
          go_ret
          exact ⟨ret_int (by first | (rw [← Hs2.out]; done) | (rw [← Hs2.out]; omega)), by first | exact drawn_one _ _ | exact drawn_two _ _ _⟩
      · obtain rfl : k = xs.length := by omega
        have Hs2 := Lib.hid (show xs.length = z by
          have h := hst.out
          have h2 := alikeN_le (xs.drop xs.length) (ys.drop xs.length)
          rw [List.length_drop, List.length_drop] at h2
          omega)
        clear hst
        go_wp2_with fail
        go_ret
        exact ⟨ret_int (by first | (rw [← Hs2.out]; done) | (rw [← Hs2.out]; omega)), by first | exact drawn_one _ _ | exact drawn_two _ _ _⟩
  · have hlei : ¬ (xs.length : Int) ≤ ys.length := by omega
    have Hor := Lib.hid hle
    clear hz
    go_enter Tryz.func62, Tryz.ntmps62
    go_wp2_with fail
    go_loopg [11, 5] ys.length (fun g i _ wr => ∃ k : Nat, i = .int .i64 k ∧ k + g = ys.length ∧ Hid (k + alikeN (xs.drop k) (ys.drop k) = z) ∧ Drawn w wr)
    case atStart => exact ⟨0, rfl, by omega, (show 0 + alikeN xs ys = z by rw [Hz.out]; omega), ⟨0, rfl⟩⟩
    case round =>
      obtain ⟨k, rfl, hg, hst, q, rfl⟩ := hrel
      by_cases hlt : k < ys.length
      · have hlti : (k : Int) < ys.length := by omega
        have hlx : k < xs.length := by have := Hor.out; omega
        have hly : k < ys.length := by have := Hor.out; omega
        have hlxi : (k : Int) < xs.length := by omega
        have hlyi : (k : Int) < ys.length := by omega
        obtain ⟨b, off, rfl, hb, hcell0⟩ := hr.int_at k hlx
        have hcell := hcell0 k hlx
        obtain ⟨b', off', rfl, hb', hcell1⟩ := hr'.int_at k hly
        have hcell' := hcell1 k hly
        rw [getD_of_lt hlx] at hcell
        rw [getD_of_lt hly] at hcell'
        have Hs := Lib.hid (show k + (if xs[k] = ys[k] then 1 + alikeN (xs.drop (k + 1)) (ys.drop (k + 1)) else 0) = z by rw [← alikeN_step hlx hly]; exact hst.out)
        have hw1 : IntKind.i64.wrap ((k : Int) + 1) = (k : Int) + 1 := IntWalk.i64_in _ (by have := H63.out; omega)
        generalize xs[k] = x at hcell Hs
        generalize ys[k] = y at hcell' Hs
        clear hcell0 hcell1 hst
        by_cases he : x = y
        · have hne : (x != y) = false := by simp [he]
          have Hs2 := Lib.hid (show (k + 1) + alikeN (xs.drop (k + 1)) (ys.drop (k + 1)) = z by have h := Hs.out; rw [if_pos he] at h; omega)
          have He := Lib.hid he
          clear he Hs
          go_wp2_with fail
          go_quiet (fail)
          go_wp2_with fail
          go_roundg (ys.length - (k + 1))
          case measure => omega
          case rel => exact ⟨k + 1, by go_num, by omega, Hs2, by first | exact drawn_one _ _ | exact drawn_two _ _ _⟩
        · have hne : (x != y) = true := by simp [he]
          have Hs2 := Lib.hid (show k = z by have h := Hs.out; rw [if_neg he] at h; omega)
          clear he Hs
          go_wp2_with fail
          go_quiet (fail)
          go_wp2_with fail
          go_ret
          exact ⟨ret_int (by first | (rw [← Hs2.out]; done) | (rw [← Hs2.out]; omega)), by first | exact drawn_one _ _ | exact drawn_two _ _ _⟩
      · obtain rfl : k = ys.length := by omega
        have Hs2 := Lib.hid (show ys.length = z by
          have h := hst.out
          have h2 := alikeN_le (xs.drop ys.length) (ys.drop ys.length)
          rw [List.length_drop, List.length_drop] at h2
          omega)
        clear hst
        go_wp2_with fail
        go_ret
        exact ⟨ret_int (by first | (rw [← Hs2.out]; done) | (rw [← Hs2.out]; omega)), by first | exact drawn_one _ _ | exact drawn_two _ _ _⟩
set_option maxRecDepth 100000 in
theorem above_c (xs ys : List Int) (a a' : Option Addr) (cap cap' B : Nat) (w : World) (hr : RowA w B 1 a xs.length cap (xs.map (Value.int .i64))) (hr' : RowA w B 1 a' ys.length cap' (ys.map (Value.int .i64))) :
    Calls Tryz.prog 17 #[.slice a xs.length cap, .slice a' ys.length cap'] w fun e w' => e = .returned (.bool (aboveB xs ys)) ∧ Drawn w w' := by
  have HC := Lib.hid (alike_c xs ys a a' cap cap' B w hr hr')
  clear hr hr'
  unfold aboveB
  by_cases hlt : xs.length < ys.length
  · have hlti : (xs.length : Int) < ys.length := by omega
    obtain ⟨z, hz⟩ : ∃ z, z = alikeN xs ys := ⟨_, rfl⟩
    rw [← hz] at HC ⊢
    have Hlt := Lib.hid (decide_eq_true hlt)
    have hbe : ((z : Int) == (xs.length : Int)) = decide (z = xs.length) := by
      by_cases h : z = xs.length
      · subst h; simp
      · rw [decide_eq_false h]; simp; omega
    clear hz hlt
    go_enter Tryz.func17, Tryz.ntmps17
    go_wp2_with fail
    refine HC.out.mono ?_
    rintro e w1 ⟨rfl, hd⟩
    have Hd := Lib.hid hd
    clear hd
    go_wp2_with fail
    go_ret
    exact ⟨ret_bool (by rw [Hlt.out]; simp), Hd.out⟩
  · have hlti : ¬ (xs.length : Int) < ys.length := by omega
    have Hlt := Lib.hid (decide_eq_false hlt)
    clear hlt HC
    go_enter Tryz.func17, Tryz.ntmps17
    go_wp2_with fail
    go_ret
    exact ⟨ret_bool (by rw [Hlt.out]; simp), ⟨0, rfl⟩⟩
end Go.Proofs.YtaopoincbigjhaaGreatDoor
/- Walks: slices.DeleteFunc at rows of paths. -/
namespace Go.Proofs.YtaopoincbigjhaaGreatDoor
open Go.RowKit Go.Redl
set_option linter.unusedVariables false

theorem At.setCells {b : Nat} {T : TypeId} : ∀ (vs : List Value) (o : Nat) (w : World) (cs : List Value), At w b cs T → ∃ cs', cs'.length = cs.length ∧ cs'.take o = cs.take o ∧ At (w.setCells b o vs) b cs' T
  | [], o, w, cs, h => ⟨cs, rfl, rfl, h⟩
  | v :: vs, o, w, cs, h => by
    obtain ⟨cs', h1, h2, h3⟩ := At.setCells vs (o + 1) (w.setCell ⟨b, o, none⟩ v) (cs.set o v) (h.set o v)
    refine ⟨cs', by rw [h1, List.length_set], ?_, h3⟩
    have h4 := congrArg (List.take o) h2
    rw [List.take_take, List.take_take, Nat.min_eq_left (by omega)] at h4
    rw [h4, List.take_set_of_le (Nat.le_refl _)]
theorem _root_.Go.World.grownBy.setCells {w0 : World} {b : Nat} : ∀ (vs : List Value) (o : Nat) (w : World), w0.grownBy w (some b) → w0.grownBy (w.setCells b o vs) (some b)
  | [], o, w, h => h
  | v :: vs, o, w, h => World.grownBy.setCells vs (o + 1) _ (h.set o v)
end Go.Proofs.YtaopoincbigjhaaGreatDoor
/- Walks: tree's paths: the function asked at each node, the list that grows. -/
namespace Go.Proofs.YtaopoincbigjhaaGreatDoor
open Go.RowKit Go.Redl
set_option linter.unusedVariables false

/-- The three variables, and the list. -/
structure BoxesAt (W : World) (tb ob eb cb : Nat) (caps : Array Value) (M : Nat) (l : List (List Int)) (ov : Value) (cs : List Value) : Prop where
  t : W.heap[tb]? = some (Obj.cells #[.func (.func cb) #[] caps] 91 (0, 0))
  e : W.heap[eb]? = some (Obj.cells #[.func (.func 229) #[] #[.pointer (some ⟨tb, 0, none⟩), .pointer (some ⟨ob, 0, none⟩), .pointer (some ⟨eb, 0, none⟩)]] 266 (0, 0))
  o : W.heap[ob]? = some (Obj.cells #[ov] 59 (0, 0))
  own : W.ownsRow M 36 1 ov l.length cs
  rows : PathsQ W (fun b => M ≤ b ∧ ov.ownBlock ≠ some b) l cs
  lt : tb < M ∧ ob < M ∧ eb < M ∧ tb ≠ ob ∧ eb ≠ ob
theorem BoxesAt.below {W W' : World} {tb ob eb cb M : Nat} {caps : Array Value} {l : List (List Int)} {ov : Value} {cs : List Value} (h : BoxesAt W tb ob eb cb caps M l ov cs) (hb : Below W.heap.size W W') : BoxesAt W' tb ob eb cb caps M l ov cs :=
  ⟨by rw [hb.block _ (Array.getElem?_eq_some_iff.1 h.t).1]; exact h.t, by rw [hb.block _ (Array.getElem?_eq_some_iff.1 h.e).1]; exact h.e, by rw [hb.block _ (Array.getElem?_eq_some_iff.1 h.o).1]; exact h.o,
    own_keep h.own hb, h.rows.keep hb.size (fun b _ hlt => hb.block b hlt) (fun _ hb _ => hb), h.lt⟩
theorem BoxesAt.cells {W : World} {tb ob eb cb M : Nat} {caps : Array Value} {l : List (List Int)} {ov : Value} {cs : List Value} (h : BoxesAt W tb ob eb cb caps M l ov cs) :
    W.cell? ⟨tb, 0, none⟩ = some (.func (.func cb) #[] caps) ∧ W.cell? ⟨eb, 0, none⟩ = some (.func (.func 229) #[] #[.pointer (some ⟨tb, 0, none⟩), .pointer (some ⟨ob, 0, none⟩), .pointer (some ⟨eb, 0, none⟩)]) ∧
      W.cell? ⟨ob, 0, none⟩ = some ov ∧ W.frozen? ⟨ob, 0, none⟩ = false ∧ tb < W.heap.size ∧ ob < W.heap.size ∧ eb < W.heap.size :=
  ⟨by rw [cell_of_row _ _ _ _ _ _ h.t]; rfl, by rw [cell_of_row _ _ _ _ _ _ h.e]; rfl, by rw [cell_of_row _ _ _ _ _ _ h.o]; rfl, Lib.frozen_of_heap h.o _, (Array.getElem?_eq_some_iff.1 h.t).1, (Array.getElem?_eq_some_iff.1 h.o).1, (Array.getElem?_eq_some_iff.1 h.e).1⟩
theorem BoxesAt.notOwn {W : World} {tb ob eb cb M : Nat} {caps : Array Value} {l : List (List Int)} {ov : Value} {cs : List Value} (h : BoxesAt W tb ob eb cb caps M l ov cs) {b : Nat} (hb : b < M ∨ W.heap.size ≤ b) : ov.ownBlock ≠ some b := by
  intro e; have := h.own.lt b e; omega
/-- One more path put in. -/
theorem BoxesAt.push {w1 w2 w3 : World} {tb ob eb cb M : Nat} {caps : Array Value} {l : List (List Int)} {ov v' : Value} {cs : List Value} {zs : List Int} {pa : Option Addr} {pc : Nat} {o : Obj}
    (h : BoxesAt w1 tb ob eb cb caps M l ov cs) (hM : M ≤ w1.heap.size) (h1 : Below w1.heap.size w1 w2) (hr : RowQ w2 (fun b => w1.heap.size ≤ b) 1 pa zs.length pc (zs.map (Value.int .i64)))
    (hg : (w2.alloc o).grownBy w3 ov.ownBlock) (hown : w3.ownsRow M 36 1 v' (l.length + 1) (cs ++ [.slice pa zs.length pc])) (hw : v'.ownBlock = ov.ownBlock ∨ ∀ k, v'.ownBlock = some k → (w2.alloc o).heap.size ≤ k) :
    BoxesAt (w3.setCell ⟨ob, 0, none⟩ v') tb ob eb cb caps M (l ++ [zs]) v' (cs ++ [.slice pa zs.length pc]) ∧ Grew ob ov v' w1 (w3.setCell ⟨ob, 0, none⟩ v') := by
  have s1 := h1.size
  have hb2 := (Below.refl w2.heap.size w2).alloc (Nat.le_refl _) o
  have s2 := hb2.size; have s3 := hg.size
  obtain ⟨l1, l2, l3, n1, n2⟩ := h.lt
  have hblk : ∀ b, b < w1.heap.size → ov.ownBlock ≠ some b → w3.heap[b]? = w1.heap[b]? := fun b hb hne => by
    rw [hg.block b (by omega) (fun e => hne e.symm), hb2.block b (by omega), h1.block b hb]
  have hset : ∀ b, b ≠ ob → (w3.setCell ⟨ob, 0, none⟩ v').heap[b]? = w3.heap[b]? := fun b hb => Below.heap_setCell _ ⟨ob, 0, none⟩ _ b hb
  have ho3 : w3.heap[ob]? = some (Obj.cells #[ov] 59 (0, 0)) := by rw [hblk ob (by omega) (h.notOwn (.inl l2))]; exact h.o
  have hst1 := stay_kids h.own h1 hb2 hg hw
  have hst2 := stay_kid h.own hM hb2 hg hw
  have hne : ∀ b, M ≤ b → b ≠ ob := fun b hb => by omega
  refine ⟨⟨?_, ?_, ?_, ?_, ?_, h.lt⟩, ⟨?_, ?_, ?_, ?_, fun b hb hne hv => ?_, ?_⟩⟩
  · rw [hset tb n1, hblk tb (by omega) (h.notOwn (.inl l1))]; exact h.t
  · rw [hset eb n2, hblk eb (by omega) (h.notOwn (.inl l3))]; exact h.e
  · exact Lib.heap_setCell_same (i := 0) ho3 _
  · rw [List.length_append]
    exact ownsRow_setCell_below (a := ⟨ob, 0, none⟩) hown l2 _
  · have hq : PathsQ w3 (fun b => M ≤ b ∧ v'.ownBlock ≠ some b) (l ++ [zs]) (cs ++ [.slice pa zs.length pc]) := PathsQ.snoc (hr.stay hst2) (h.rows.stay hst1)
    exact hq.keep (by simp [World.setCell]) (fun b hb _ => hset b (hne b hb.1)) (fun b hb _ => hb)
  · show w3.os = _; rw [hg.os, hb2.os, h1.os]
  · show w3.tape = _; rw [hg.tape, hb2.tape, h1.tape]
  · show w3.output = _; rw [hg.output, hb2.output, h1.output]
  · simp [World.setCell]; omega
  · rw [hset b hne]; exact hblk b hb hv
  · rcases hw with e | e
    · exact .inl e
    · exact .inr fun k hk => by have := e k hk; omega
end Go.Proofs.YtaopoincbigjhaaGreatDoor
/- Walks: slices.CompactFunc at rows of paths. -/
namespace Go.Proofs.YtaopoincbigjhaaGreatDoor
open Go.RowKit Go.Redl
set_option linter.unusedVariables false

end Go.Proofs.YtaopoincbigjhaaGreatDoor
