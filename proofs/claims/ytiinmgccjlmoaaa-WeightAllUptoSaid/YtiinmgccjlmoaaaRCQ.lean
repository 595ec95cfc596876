/- Walks: tree's at, Get. -/
import Derived.Test.YtiinmgccjlmoaaaRCP
namespace Go.Proofs.Ytiinmgccjlmoaaa
open Go.RowKit Go.Redl
set_option linter.unusedVariables false

def kidsOf : NodeD → List NodeD
  | .mk _ _ _ ks => ks
/-- The node at a path. -/
def atN : NodeD → List Int → Option NodeD
  | n, [] => some n
  | n, i :: p => if 0 ≤ i then (match (kidsOf n)[i.toNat]? with | some k => atN k p | none => none) else none
/-- A node that lies at an address. -/
def NodeP (w : World) (B b off : Nat) (n : NodeD) : Prop := ∃ l a1 n1 c1 a2 n2 c2 a3 n3 c3, NodeC w B n [.bool l, .slice a1 n1 c1, .slice a2 n2 c2, .slice a3 n3 c3] ∧ w.cell? ⟨b, off, none⟩ = some (.bool l) ∧ w.cell? ⟨b, off + 1, none⟩ = some (.slice a1 n1 c1) ∧
  w.cell? ⟨b, off + 2, none⟩ = some (.slice a2 n2 c2) ∧ w.cell? ⟨b, off + 3, none⟩ = some (.slice a3 n3 c3)
def AtP (w : World) (B : Nat) (R : Option NodeD) (e : Ending) (w' : World) : Prop :=
  match R with
  | some m => (∃ b off, e = .returned (.tuple #[.pointer (some ⟨b, off, none⟩), .int .i64 0]) ∧ NodeP w B b off m) ∧ w = w'
  | none => e = .returned (.tuple #[.pointer none, .int .i64 5]) ∧ w = w'

set_option maxRecDepth 100000 in
set_option maxHeartbeats 2000000 in
theorem at_c (n : NodeD) (p : List Int) (a : Option Addr) (cap : Nat) (b off B : Nat) (w : World) (hn : NodeP w B b off n) (hr : RowA w B 1 a p.length cap (p.map (Value.int .i64))) :
    Calls Try.prog 39 #[.pointer (some ⟨b, off, none⟩), .slice a p.length cap] w (AtP w B (atN n p)) := by
  have hm : p.length ≤ 9223372036854775807 := by have h1 := hr.le; have h2 := hr.max; unfold maxLen at h2; omega
  obtain ⟨R, hR⟩ : ∃ R, R = atN n p := ⟨_, rfl⟩
  rw [← hR]
  have HR := Lib.hid hR; have Hn := Lib.hid hn
  clear hR hn
  go_enter Try.func39, Try.ntmps39
  go_wp2_with fail
  go_loopg [0, 10] p.length (fun g q i wr => ∃ (k b' off' : Nat) (n' : NodeD), q = .pointer (some ⟨b', off', none⟩) ∧ i = .int .i64 k ∧ k + g = p.length ∧ atN n' (p.drop k) = R ∧ NodeP w B b' off' n' ∧ wr = w)
  case atStart => exact ⟨0, b, off, n, rfl, rfl, by omega, HR.out.symm, Hn.out, rfl⟩
  case round =>
    obtain ⟨k, b', off', n', rfl, rfl, hg, hat, hn', rfl⟩ := hrel
    have Hat := Lib.hid hat; have Hn' := Lib.hid hn'
    obtain ⟨l, a1, n1, c1, a2, n2, c2, a3, n3, c3, hnc, x0, x1, x2, x3⟩ := hn'
    clear hat Hn HR
    by_cases hlt : k < p.length
    · have hd : p.drop k = p[k] :: p.drop (k + 1) := List.drop_eq_getElem_cons hlt
      have Hd := Lib.hid hd
      obtain ⟨pb, po, rfl, hpb, hcell0⟩ := hr.int_at k hlt
      have hcell := hcell0 k hlt
      rw [getD_of_lt hlt] at hcell
      clear hcell0
      generalize p[k] = i at hcell Hd
      have hlti : (k : Int) < p.length := by omega
      clear hd
      obtain ⟨l', ps', t', ks'⟩ := n'
      have hnc2 := hnc
      unfold NodeC at hnc2
      obtain ⟨ap, cp, at_, ct, ak, ck, css, hcs, -, -, -, hk, hkk⟩ := hnc2
      injection hcs with e0 e1; injection e1 with e1 e2; injection e2 with e2 e3; injection e3 with e3 e4
      injection e3 with f1 f2 f3
      subst f1; subst f2; subst f3
      clear e0 e1 e2 e4 hnc
      by_cases h0 : 0 ≤ i
      · obtain ⟨j, rfl⟩ : ∃ j : Nat, i = j := ⟨i.toNat, by omega⟩
        by_cases hj : j < ks'.length
        · obtain ⟨kb, ko, l1, b1, o1, d1, b2, o2, d2, b3, o3, d3, rfl, hkb, hkn, g0, g1, g2, g3⟩ := hk.kid_at hkk j hj
          have Hat2 : Hid (atN ks'[j] (p.drop (k + 1)) = R) := by
            show _ = R
            rw [← Hat.out, Hd.out]
            simp [atN, kidsOf, List.getElem?_eq_getElem hj]
          have Hkn := Lib.hid (show NodeP wr B kb (ko + j * 4) ks'[j] from ⟨l1, b1, o1, d1, b2, o2, d2, b3, o3, d3, hkn, g0, g1, g2, g3⟩)
          have hnl : decide ((j : Int) < 0) = false := by simp
          have hji : (j : Int) < ks'.length := by omega
          have hge : decide ((ks'.length : Int) ≤ j) = false := by simp; omega
          clear hkn hk hkk Hat
          go_wp2_with fail
          go_roundg (gk - 1)
          case measure => omega
          case rel => exact ⟨k + 1, kb, ko + j * 4, ks'[j], rfl, rfl, by omega, Hat2.out, Hkn.out, rfl⟩
        · have HR2 : Hid (R = none) := by
            show R = none
            rw [← Hat.out, Hd.out]
            simp [atN, kidsOf, List.getElem?_eq_none (Nat.le_of_not_lt hj)]
          have hnl : decide ((j : Int) < 0) = false := by simp
          have hge : decide ((ks'.length : Int) ≤ j) = true := by simp; omega
          clear hk hkk Hat
          go_wp2_with fail
          go_ret2
          rw [HR2.out]
          exact ⟨rfl, rfl⟩
      · have HR2 : Hid (R = none) := by
          show R = none
          rw [← Hat.out, Hd.out]
          simp only [atN]
          rw [if_neg h0]
        have hneg : i < 0 := by omega
        clear hk hkk Hat
        go_wp2_with fail
        go_ret2
        rw [HR2.out]
        exact ⟨rfl, rfl⟩
    · have hnl : decide ((k : Int) < p.length) = false := by simp; omega
      have HR2 : Hid (R = some n') := by
        show R = _
        rw [← Hat.out, List.drop_eq_nil_of_le (by omega)]
        rfl
      clear hnc
      go_wp2_with fail
      go_ret2
      rw [HR2.out]
      exact ⟨⟨b', off', rfl, Hn'.out⟩, rfl⟩

theorem atN_wt : ∀ (p : List Int) (n m : NodeD), atN n p = some m → m.wt ≤ n.wt
  | [], n, m, h => by unfold atN at h; injection h with h; subst h; exact Nat.le_refl _
  | i :: p, n, m, h => by
    unfold atN at h
    split at h
    · split at h
      · rename_i k hk
        have h1 := atN_wt p k m h
        obtain ⟨l, ps, t, ks⟩ := n
        have hm : k ∈ ks := List.mem_of_getElem? hk
        have := wtAll_mem hm
        simp only [NodeD.wt]
        omega
      · cases h
    · cases h
def GetP (W : World) (R : Option NodeD) (e : Ending) (w' : World) : Prop :=
  match R with
  | some m => ∃ cs, e = .returned (.tuple #[.agg cs.toArray, .int .i64 0]) ∧ NodeQ w' (fun b => W.heap.size ≤ b) m cs ∧ Below W.heap.size W w'
  | none => e = .returned (.tuple #[.agg #[.bool false, .slice none 0 0, .slice none 0 0, .slice none 0 0], .int .i64 5]) ∧ Below W.heap.size W w'

set_option maxRecDepth 100000 in
set_option maxHeartbeats 2000000 in
theorem get_c (n : NodeD) (p : List Int) (v : Value) (pa : Option Addr) (pc : Nat) (W : World) (hbig : n.wt ≤ 100000000) (hv : NodeV W W.heap.size n v) (hp : RowA W W.heap.size 1 pa p.length pc (p.map (Value.int .i64))) :
    Calls Try.prog 13 #[v, .slice pa p.length pc] W (GetP W (atN n p)) := by
  have hwt := atN_wt p n
  obtain ⟨csn, rfl, hc⟩ := hv
  obtain ⟨l, a1, n1, c1, a2, n2, c2, a3, n3, c3, rfl⟩ := hc.form
  have hA := (NodeAt.fresh W (.bool l) (.slice a1 n1 c1) (.slice a2 n2 c2) (.slice a3 n3 c3)).alloc (Obj.cells #[.bool false, .slice none 0 0, .slice none 0 0, .slice none 0 0] 35)
  have hB := node_second W (Obj.cells #[.bool l, .slice a1 n1 c1, .slice a2 n2 c2, .slice a3 n3 c3] 35) (.bool false) (.slice none 0 0) (.slice none 0 0) (.slice none 0 0)
  have hb0 : Below W.heap.size W ((W.alloc (Obj.cells #[.bool l, .slice a1 n1 c1, .slice a2 n2 c2, .slice a3 n3 c3] 35)).alloc (Obj.cells #[.bool false, .slice none 0 0, .slice none 0 0, .slice none 0 0] 35)) := ((Below.refl _ _).alloc (Nat.le_refl _) _).alloc (by simp) _
  have hs0 : ((W.alloc (Obj.cells #[.bool l, .slice a1 n1 c1, .slice a2 n2 c2, .slice a3 n3 c3] 35)).alloc (Obj.cells #[.bool false, .slice none 0 0, .slice none 0 0, .slice none 0 0] 35)).heap.size = W.heap.size + 2 := by simp
  obtain ⟨y0, y1, y2, y3, -, -⟩ := hA.facts
  have HAt := Lib.hid (at_c n p pa pc W.heap.size 0 W.heap.size _ ⟨l, a1, n1, c1, a2, n2, c2, a3, n3, c3, NodeC.keep hb0 (Nat.le_refl _) _ _ hc, y0, y1, y2, y3⟩ (hp.keep hb0 (Nat.le_refl _)))
  have Hb0 := Lib.hid hb0; have HB := Lib.hid hB; have Hs0 := Lib.hid hs0
  clear hc hA hB hb0 hs0 y0 y1 y2 y3 hp
  cases hat : atN n p with
  | none =>
    rw [hat] at HAt
    clear hat hwt
    go_enter Try.func13, Try.ntmps13
    go_wp2_with fail
    refine HAt.out.mono ?_
    rintro e w1 ⟨rfl, rfl⟩
    clear HAt
    go_wp2_with fail
    refine bodyPost_ret (v := .tuple #[.agg #[.bool false, .slice none 0 0, .slice none 0 0, .slice none 0 0], .int .i64 5]) (by simp [results, Try.results13, go_sem]) rfl ?_
    exact ⟨rfl, Hb0.out⟩
  | some m =>
    rw [hat] at HAt
    have hmw := hwt m hat
    clear hat hwt
    go_enter Try.func13, Try.ntmps13
    obtain ⟨w0, hw0⟩ : ∃ w0, w0 = (W.alloc (Obj.cells #[.bool l, .slice a1 n1 c1, .slice a2 n2 c2, .slice a3 n3 c3] 35)).alloc (Obj.cells #[.bool false, .slice none 0 0, .slice none 0 0, .slice none 0 0] 35) := ⟨_, rfl⟩
    go_wp2_with fail
    rw [← hw0] at HAt Hb0 HB Hs0 ⊢
    refine HAt.out.mono ?_
    rintro e w1 ⟨⟨b, off, rfl, l', b1, o1, d1, b2, o2, d2, b3, o3, d3, hmc, x0, x1, x2, x3⟩, rfl⟩
    have HC := Lib.hid (copy_c m.wt m (.agg #[.bool l', .slice b1 o1 d1, .slice b2 o2 d2, .slice b3 o3 d3]) w0 (Nat.le_refl _) (by omega) ⟨_, rfl, NodeC.keep (Below.refl _ _) (by rw [Hs0.out]; omega) _ _ hmc⟩)
    clear HAt hw0 hmc
    go_wp2_with fail
    refine HC.out.mono ?_
    rintro e w2 ⟨cs, rfl, hnode, hbel⟩
    obtain ⟨m1, p1, q1, r1, p2, q2, r2, p3, q3, r3, rfl⟩ := hnode.form
    have hB2 := HB.out.keep (hbel.mono (by rw [Hs0.out]; omega))
    obtain ⟨z0, z1, z2, z3, ⟨g0, g1, g2, g3⟩, hB5⟩ := hB2.facts
    have Hb2 := Lib.hid (Hb0.out.trans (hbel.mono (by rw [Hs0.out]; omega)))
    have Hnode := Lib.hid hnode
    clear HC hnode hbel x0 x1 x2 x3 hB2 HB
    go_wp2_with fail
    refine bodyPost_ret (v := .tuple #[.agg #[.bool m1, .slice p1 q1 r1, .slice p2 q2 r2, .slice p3 q3 r3], .int .i64 0]) (by simp [results, Try.results13, go_sem, z0, z1, z2, z3]) rfl ?_
    have hne : ¬ (w0.heap.size ≤ W.heap.size + 1) := by rw [Hs0.out]; omega
    refine ⟨_, rfl, ?_, ?_⟩
    · have hq := nodeq_set (N := W.heap.size + 1) (o := 3) (u := .slice p3 q3 r3) (nodeq_set (N := W.heap.size + 1) (o := 2) (u := .slice p2 q2 r2) (nodeq_set (N := W.heap.size + 1) (o := 1) (u := .slice p1 q1 r1) (nodeq_set (N := W.heap.size + 1) (o := 0) (u := .bool m1) Hnode.out hne) hne) hne) hne
      exact NodeQ.keep (Nat.le_refl _) (fun _ _ _ => rfl) (fun b hb _ => by rw [Hs0.out] at hb; omega) _ _ hq
    · with_reducible exact below_all Hb2.out (Nat.le_succ _) _ _ _ _

end Go.Proofs.Ytiinmgccjlmoaaa
