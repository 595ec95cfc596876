/- Walks: valid's ways to look: doing, merge, empty, fill. -/
import Derived.Test.YtiinmgccjlmoaaaRHG
import Derived.Deep.DeepCutAuto
import Derived.Deep.RegionHeld3
namespace Go.Proofs.Ytiinmgccjlmoaaa
open Go.RowKit Go.Redl
set_option linter.unusedVariables false

def actRow (l : List ActD) : List Value := l.flatMap actCells
theorem actRow_len (l : List ActD) : (actRow l).length = l.length * 2 := by
  induction l with
  | nil => rfl
  | cons p l ih => simp only [actRow, actCells, List.flatMap_cons, List.length_append, List.length_cons, List.length_nil] at *; omega
theorem actRow_at : ∀ (l : List ActD) (i : Nat) (hi : i < l.length), (actRow l)[i * 2]? = some (.int .i64 l[i].1) ∧ (actRow l)[i * 2 + 1]? = some (strV l[i].2)
  | [], i, hi => absurd hi (by simp)
  | p :: l, 0, hi => by simp [actRow, actCells]
  | p :: l, i + 1, hi => by
    have h := actRow_at l i (by simpa using hi)
    have e : actRow (p :: l) = .int .i64 p.1 :: strV p.2 :: actRow l := by simp [actRow, actCells]
    rw [e, show (i + 1) * 2 = i * 2 + 1 + 1 by omega]
    simpa using h
theorem act_at {w : World} {B n cap : Nat} {a : Option Addr} {l : List ActD} (h : RowA w B 2 a n cap (actRow l)) (k : Nat) (hk : k < l.length) :
    ∃ b off, a = some ⟨b, off, none⟩ ∧ b < B ∧ w.cell? ⟨b, off + k * 2, none⟩ = some (.int .i64 l[k].1) ∧ w.cell? ⟨b, off + k * 2 + 1, none⟩ = some (strV l[k].2) := by
  obtain ⟨h1, h2⟩ := actRow_at l k hk
  obtain ⟨b, off, ha, hb, hc⟩ := h.some_ (by intro e; rw [e] at h1; simp at h1)
  exact ⟨b, off, ha, hb, hc _ _ h1, by have := hc _ _ h2; rwa [← Nat.add_assoc] at this⟩

/-- The first place that is done so. -/
def doAt (l : List ActD) (d : Int) : Int := idxP (fun i => decide ((l.getD i (0, [])).1 = d)) l.length
/-- What a way to look tells. -/
def LookP (W : World) (at_ : Int) (m : Nat) (e : Ending) (w' : World) : Prop := ∃ k : Int, e = .returned (.tuple #[.int .i64 at_, .int .i64 k]) ∧ (0 ≤ at_ → k = m) ∧ Below W.heap.size W w'

set_option maxRecDepth 100000 in
theorem doing1_c (x : Int) (t : List UInt8) (d : Int) (N : Nat) (W : World) (hN : W.cell? ⟨N, 0, none⟩ = some (.int .i64 d)) :
    Calls Try.prog 118 #[.agg #[.int .i64 x, strV t], .pointer (some ⟨N, 0, none⟩)] W fun e w' => e = .returned (.bool (decide (x = d))) ∧ Below W.heap.size W w' := by
  have hlt := World.block_lt_of_cell? W _ hN
  have Hb := Lib.hid (one_below W (Obj.cells #[.int .i64 x, strV t] 24))
  go_enter Try.func118, Try.ntmps118
  go_wp2_with fail
  go_ret
  exact ⟨ret_bool (int_dec _ _), Hb.out⟩
theorem doing1_ent : ∀ args w, (callFunc 118 args).run Try.prog w = .ok (.enter 118 args) w := by intro args w; kernel_rfl

set_option maxRecDepth 100000 in
set_option maxHeartbeats 4000000 in
/-- An element's thirteen cells: e0..e11 whatever they are, then what is done with each of its Kids. -/
theorem doing_c (e0 e1 e2 e3 e4 e5 e6 e7 e8 e9 e10 e11 : Value) (aa : Option Addr) (ac : Nat) (l : List ActD) (d : Int) (W : World) (hr : RowA W W.heap.size 2 aa l.length ac (actRow l)) (hn : l.length ≤ 100000000) :
    Calls Try.prog 88 #[.agg #[e0, e1, e2, e3, e4, e5, e6, e7, e8, e9, e10, e11, .slice aa l.length ac], .int .i64 d] W (LookP W (doAt l d) (if d = 4 then runA l (doAt l d).toNat else 1)) := by
  obtain ⟨mz, hmz⟩ : ∃ mz, mz = (if d = 4 then runA l (doAt l d).toNat else 1) := ⟨_, rfl⟩
  rw [← hmz]
  obtain ⟨w0, hw0⟩ : ∃ w0, w0 = (W.alloc (Obj.cells #[e0, e1, e2, e3, e4, e5, e6, e7, e8, e9, e10, e11, .slice aa l.length ac] 101)).alloc (Obj.cells #[.int .i64 d] 3) := ⟨_, rfl⟩
  have hb0 : Below W.heap.size W w0 := by rw [hw0]; exact two_below _ _ _
  have hA : At w0 W.heap.size [e0, e1, e2, e3, e4, e5, e6, e7, e8, e9, e10, e11, .slice aa l.length ac] 101 := by rw [hw0]; exact (At.fresh W _ _).alloc _
  have hX : At w0 (W.heap.size + 1) [.int .i64 d] 3 := by rw [hw0]; exact At.second W _ _ _
  have hr0 := hr.keep hb0 hb0.size
  have hgd : ∀ j (hj : j < l.length), l.getD j (0, []) = l[j] := fun j hj => by simp [List.getD, List.getElem?_eq_getElem hj]
  have HI := Lib.hid (idx_act l.length aa ac 118 #[.pointer (some ⟨W.heap.size + 1, 0, none⟩)] (fun j => decide ((l.getD j (0, [])).1 = d)) w0 hn doing1_ent (fun j W' hj hb => by
    obtain ⟨b, off, ha, -, h0, h1⟩ := act_at (hr0.keep hb hb.size) j hj
    refine ⟨b, off, _, _, ha, h0, h1, ?_⟩
    rw [hgd j hj]
    exact doing1_c l[j].1 l[j].2 d _ W' ((hX.kept hb).cell 0 rfl)))
  have Hcs := Lib.hid (idxP_cases (fun j => decide ((l.getD j (0, [])).1 = d)) l.length)
  have hdo : doAt l d = idxP (fun j => decide ((l.getD j (0, [])).1 = d)) l.length := rfl
  rw [← hdo] at HI Hcs
  generalize doAt l d = z at HI Hcs hmz ⊢
  have Hmz := Lib.hid hmz
  clear hmz
  have Hr := Lib.hid hr0; have Hb0 := Lib.hid hb0; have HA := Lib.hid hA; have HX := Lib.hid hX; have Hw0 := Lib.hid hw0; have Hgd := Lib.hid hgd
  have x12 := hA.cell 12 rfl
  have xl := hA.lt
  clear hdo hw0 hb0 hA hX hr0 hr hgd
  go_enter Try.func88, Try.ntmps88
  go_upto_region 1 with fail
  rw [← Hw0.out]
  clear Hw0
  go_wp2_with fail
  refine HI.out.mono ?_
  rintro e w1 ⟨rfl, hbel⟩
  have Hb1 := Lib.hid (Hb0.out.trans (hbel.mono Hb0.out.size))
  have Hr1 := Lib.hid (Hr.out.keep hbel hbel.size)
  have y12 := (HA.out.kept hbel).cell 12 rfl
  have yl := (HA.out.kept hbel).lt
  have z0 := (HX.out.kept hbel).cell 0 rfl
  have zl := (HX.out.kept hbel).lt
  clear hbel HI x12 xl HA HX Hr Hb0
  rcases Hcs.out with ⟨j, hj, hp, -, he⟩ | ⟨-, he⟩
  · subst he
    have hnl : decide ((j : Int) < 0) = false := by simp
    clear hp Hcs
    by_cases h4 : d = 4
    · subst h4
      obtain ⟨b, off, rfl, hb, g0, g1⟩ := act_at Hr1.out j hj
      have hji : (j : Int) < l.length := by omega
      have Hg0 := Lib.hid g0; have Hg1 := Lib.hid g1
      clear g0 g1
      go_wp2_with fail
      go_loopg [5] (l.length - 1) (fun g m wr => ∃ mm : Nat, m = .int .i64 mm ∧ 1 ≤ mm ∧ j + mm ≤ l.length ∧ mm + g = l.length ∧ (∀ q (hq : q < mm) (hl : j + q < l.length), l[j + q] = l[j]) ∧ Below w1.heap.size w1 wr)
      case atStart =>
        refine ⟨1, rfl, by omega, by omega, by omega, fun q hq hl => ?_, Below.refl _ _⟩
        obtain rfl : q = 0 := by omega
        rfl
      case round =>
        obtain ⟨mm, rfl, h1, hjm, hg, hal, hbr⟩ := hrel
        have Hal := Lib.hid hal; have Hbr := Lib.hid hbr
        have y12' := (hbr.cell (by exact yl)).trans y12
        have g0 := (hbr.cell (by exact hb)).trans Hg0.out
        have g1 := (hbr.cell (by exact hb)).trans Hg1.out
        have yl' := Nat.lt_of_lt_of_le yl hbr.size
        have HbF := Lib.hid (Hb1.out.trans (hbr.mono Hb1.out.size))
        have hwr : IntKind.i64.wrap ((j : Int) + (mm : Int)) = ((j + mm : Nat) : Int) := by rw [show (j : Int) + (mm : Int) = ((j + mm : Nat) : Int) by omega]; exact IntWalk.i64_in _ (by omega)
        clear hal hbr y12 z0 zl yl
        by_cases hlt : j + mm < l.length
        · have h5I : ((j + mm : Nat) : Int) < (l.length : Int) := by omega
          have h4I : (j : Int) + (mm : Int) < (l.length : Int) := by omega
          obtain ⟨b', off', hbe, -, k0, k1⟩ := act_at (Hr1.out.keep Hbr.out Hbr.out.size) (j + mm) hlt
          injection hbe with hbe; injection hbe with e1 e2; subst e1; subst e2
          by_cases hx : l[j + mm].1 = l[j].1
          · by_cases hy : l[j + mm].2 = l[j].2
            · have hxy : l[j + mm] = l[j] := Prod.ext hx hy
              have Hal2 := Lib.hid (show ∀ q (hq : q < mm + 1) (hl : j + q < l.length), l[j + q] = l[j] from fun q hq hl => by
                rcases Nat.lt_or_ge q mm with h | h
                · exact Hal.out q h hl
                · obtain rfl : q = mm := by omega
                  exact hxy)
              rw [hxy] at k0 k1
              generalize l[j] = B at g0 g1 k0 k1
              clear hx hy hxy
              go_wp2_with fail
              go_quiet (fail)
              go_wp2_with fail
              go_roundg (l.length - (mm + 1))
              case measure => omega
              case rel => exact ⟨mm + 1, by go_num, by omega, by omega, by omega, Hal2.out, below_drewN Hbr.out _⟩
            · have Hm := Lib.hid (runA_eq hj h1 hjm (fun q hq => Hal.out q hq (by omega)) (fun h e => hy (congrArg Prod.snd e)))
              have hb2 := beq_no hy
              rw [hx] at k0
              generalize l[j + mm].2 = A2 at k1 hb2
              generalize l[j] = B at g0 g1 k0 hb2
              clear hx hy
              go_wp2_with fail
              go_quiet (fail)
              go_wp2_with fail
              go_ret2
              exact ⟨_, rfl, fun _ => by rw [Hmz.out]; simp [Hm.out], below_drewN HbF.out _⟩
          · have Hm := Lib.hid (runA_eq hj h1 hjm (fun q hq => Hal.out q hq (by omega)) (fun h e => hx (congrArg Prod.fst e)))
            have hb1 : (l[j + mm].1 == l[j].1) = false := by simpa using hx
            generalize l[j + mm] = A at k0 k1 hb1
            generalize l[j] = B at g0 g1 hb1
            clear hx
            go_wp2_with fail
            go_quiet (fail)
            go_wp2_with fail
            go_ret2
            exact ⟨_, rfl, fun _ => by rw [Hmz.out]; simp [Hm.out], below_drewN HbF.out _⟩
        · have h4I : decide ((j : Int) + (mm : Int) < (l.length : Int)) = false := by simp; omega
          have Hm := Lib.hid (runA_eq hj h1 hjm (fun q hq => Hal.out q hq (by omega)) (fun h e => hlt h))
          go_wp2_with fail
          go_quiet (fail)
          go_wp2_with fail
          go_ret2
          exact ⟨_, rfl, fun _ => by rw [Hmz.out]; simp [Hm.out], below_drewN HbF.out _⟩
    · have hd4 : (d != 4) = true := by simpa using h4
      go_wp2_with fail
      go_ret2
      exact ⟨_, rfl, fun _ => by rw [Hmz.out, if_neg h4]; rfl, Hb1.out⟩
  · subst he
    clear Hcs
    go_wp2_with fail
    go_ret2
    exact ⟨_, rfl, fun h => by omega, Hb1.out⟩

end Go.Proofs.Ytiinmgccjlmoaaa
