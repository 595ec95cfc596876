/- Walks: valid's ways to look: merge. -/
import Derived.Test.YtiinmgccjlmoaaaRHJ
namespace Go.Proofs.Ytiinmgccjlmoaaa
open Go.RowKit Go.Redl
set_option linter.unusedVariables false

theorem At.s4 {w : World} {N : Nat} {c0 c1 c2 c3 : Value} {T : TypeId} (h : At w N [c0, c1, c2, c3] T) (d0 d1 d2 d3 : Value) : At ((((w.setCell ⟨N, 0, none⟩ d0).setCell ⟨N, 1, none⟩ d1).setCell ⟨N, 2, none⟩ d2).setCell ⟨N, 3, none⟩ d3) N [d0, d1, d2, d3] T := by
  have h0 : At (w.setCell ⟨N, 0, none⟩ d0) N [d0, c1, c2, c3] T := h.set 0 d0
  have h1 : At ((w.setCell ⟨N, 0, none⟩ d0).setCell ⟨N, 1, none⟩ d1) N [d0, d1, c2, c3] T := h0.set 1 d1
  have h2 : At (((w.setCell ⟨N, 0, none⟩ d0).setCell ⟨N, 1, none⟩ d1).setCell ⟨N, 2, none⟩ d2) N [d0, d1, d2, c3] T := h1.set 2 d2
  exact h2.set 3 d3
theorem At.n4 {w : World} {N M : Nat} {cs : List Value} {T : TypeId} (h : At w M cs T) (hne : M ≠ N) (d0 d1 d2 d3 : Value) : At ((((w.setCell ⟨N, 0, none⟩ d0).setCell ⟨N, 1, none⟩ d1).setCell ⟨N, 2, none⟩ d2).setCell ⟨N, 3, none⟩ d3) M cs T :=
  (((h.set_ne hne _).set_ne hne _).set_ne hne _).set_ne hne _
theorem below_s4 {B : Nat} {W w : World} {N : Nat} (h : Below B W w) (hN : B ≤ N) (d0 d1 d2 d3 : Value) : Below B W ((((w.setCell ⟨N, 0, none⟩ d0).setCell ⟨N, 1, none⟩ d1).setCell ⟨N, 2, none⟩ d2).setCell ⟨N, 3, none⟩ d3) :=
  (((h.setCell (p := ⟨N, 0, none⟩) hN _).setCell (p := ⟨N, 1, none⟩) hN _).setCell (p := ⟨N, 2, none⟩) hN _).setCell (p := ⟨N, 3, none⟩) hN _
theorem rowq_s4 {w : World} {ok : Nat → Prop} {sz n cap N : Nat} {a : Option Addr} {cs : List Value} (h : RowQ w ok sz a n cap cs) (hne : ¬ ok N) (d0 d1 d2 d3 : Value) : RowQ ((((w.setCell ⟨N, 0, none⟩ d0).setCell ⟨N, 1, none⟩ d1).setCell ⟨N, 2, none⟩ d2).setCell ⟨N, 3, none⟩ d3) ok sz a n cap cs :=
  rowq_set (rowq_set (rowq_set (rowq_set h hne) hne) hne) hne


theorem kid_as {w : World} {B cap : Nat} {a : Option Addr} {ks : List NodeD} {css : List Value} {b off : Nat} (h : RowA w B 4 a ks.length cap css) (hk : KidsC w B ks css) (ha : a = some ⟨b, off, none⟩) (i : Nat) (hi : i < ks.length) :
    ∃ ap cp at_ ct ak ck, NodeV w B ks[i] (.agg #[.bool (leafOf ks[i]), .slice ap (propsOf ks[i]).length cp, .slice at_ (textOf ks[i]).length ct, .slice ak (kidsOf ks[i]).length ck]) ∧ RowA w B 2 ap (propsOf ks[i]).length cp (propCells (propsOf ks[i])) ∧
      w.cell? ⟨b, off + i * 4, none⟩ = some (.bool (leafOf ks[i])) ∧ w.cell? ⟨b, off + i * 4 + 1, none⟩ = some (.slice ap (propsOf ks[i]).length cp) ∧ w.cell? ⟨b, off + i * 4 + 2, none⟩ = some (.slice at_ (textOf ks[i]).length ct) ∧ w.cell? ⟨b, off + i * 4 + 3, none⟩ = some (.slice ak (kidsOf ks[i]).length ck) := by
  obtain ⟨b', off', ap, cp, at_, ct, ak, ck, ha', hb, h1, h2, h3, h4, h5, h6⟩ := kidO h hk i hi
  rw [ha] at ha'; injection ha' with e; injection e with e1 e2; subst e1; subst e2
  exact ⟨_, _, _, _, _, _, h1, h2, h3, h4, h5, h6⟩

set_option maxRecDepth 100000 in
set_option maxHeartbeats 4000000 in
theorem merge_c (e0 e1 e2 : Value) (ak : Option Addr) (ck : Nat) (ks : List NodeD) (css : List Value) (e4 e5 e6 e7 e8 e9 e10 e11 e12 : Value) (W : World) (hn : ks.length ≤ 100000000) (hk : RowA W W.heap.size 4 ak ks.length ck css) (hkk : KidsC W W.heap.size ks css) :
    Calls Try.prog 89 #[.agg #[e0, e1, e2, .slice ak ks.length ck, e4, e5, e6, e7, e8, e9, e10, e11, e12]] W (LookP W (idxP (mergeB ks) ks.length) 1) := by
  obtain ⟨z, hz⟩ : ∃ z, z = idxP (mergeB ks) ks.length := ⟨_, rfl⟩
  rw [← hz]
  have Hzs := Lib.hid (show ∀ k : Nat, k < ks.length → mergeB ks k = true → (∀ j, j < k → mergeB ks j = false) → z = (k : Int) from fun k h1 h2 h3 => by rw [hz]; exact idxP_some h1 h2 h3)
  have Hzn := Lib.hid (show (∀ j, j < ks.length → mergeB ks j = false) → z = -1 from fun h => by rw [hz]; exact idxP_none h)
  obtain ⟨w0, hw0⟩ : ∃ w0, w0 = W.alloc (Obj.cells #[e0, e1, e2, .slice ak ks.length ck, e4, e5, e6, e7, e8, e9, e10, e11, e12] 101) := ⟨_, rfl⟩
  have hb0 : Below W.heap.size W w0 := by rw [hw0]; exact one_below _ _
  have hA : At w0 W.heap.size [e0, e1, e2, .slice ak ks.length ck, e4, e5, e6, e7, e8, e9, e10, e11, e12] 101 := by rw [hw0]; exact At.fresh W _ _
  have Hk := Lib.hid (hk.keep hb0 hb0.size); have Hkk := Lib.hid (KidsC.keep hb0 hb0.size _ _ hkk)
  have Hb0 := Lib.hid hb0; have Hw0 := Lib.hid hw0; have HA := Lib.hid hA
  clear hz hb0 hA hw0 hk hkk
  go_enter Try.func89, Try.ntmps89
  go_upto_region 1 with fail
  rw [← Hw0.out]
  clear Hw0
  go_wp2_with fail
  go_loopg [4] ks.length (fun g i wr => ∃ k : Nat, i = .int .i64 k ∧ 1 ≤ k ∧ k + g = ks.length + 1 ∧ (∀ j, j < k → mergeB ks j = false) ∧ Below w0.heap.size w0 wr)
  case atStart =>
    refine ⟨1, rfl, by omega, by omega, fun j hj => ?_, Below.refl _ _⟩
    obtain rfl : j = 0 := by omega
    rfl
  case round =>
    obtain ⟨k, rfl, h1, hg, hbj, hbr⟩ := hrel
    have Hbj := Lib.hid hbj; have Hbr := Lib.hid hbr
    have HbW := Lib.hid (Hb0.out.trans (hbr.mono Hb0.out.size))
    have x3 := (HA.out.kept hbr).cell 3 rfl
    have xl := (HA.out.kept hbr).lt
    by_cases hlt : k < ks.length
    · have hltI : (k : Int) < ks.length := by omega
      have hsub : IntKind.i64.wrap ((k : Int) - 1) = ((k - 1 : Nat) : Int) := by rw [show ((k : Int) - 1) = ((k - 1 : Nat) : Int) by omega]; exact IntWalk.i64_in _ (by omega)
      have hi1 : ((k - 1 : Nat) : Int) < ks.length := by omega
      have hkr := Hk.out.keep hbr hbr.size; have hkkr := KidsC.keep hbr hbr.size _ _ Hkk.out
      obtain ⟨kb, ko, a1, c1, a2, c2, a3, c3, rfl, hkb, -, hpa, g0, g1, g2, g3⟩ := kidO hkr hkkr (k - 1) (by omega)
      obtain ⟨b1, d1, b2, d2, b3, d3, -, hpb, f0, f1, f2, f3⟩ := kid_as hkr hkkr rfl k hlt
      have hmb : mergeB ks k = (leafOf ks[k] && (leafOf ks[k - 1] && decide (propsOf ks[k] = propsOf ks[k - 1]))) := by
        unfold mergeB; rw [kid_get hlt, kid_get (show k - 1 < ks.length by omega), decide_eq_true (show 0 < k by omega)]; rfl
      generalize ks[k - 1] = qa at hpa g0 g1 g2 g3 hmb
      generalize ks[k] = qb at hpb f0 f1 f2 f3 hmb
      have Hmb := Lib.hid hmb
      have HS0 := Lib.hid (fun (w' : World) (hb : Below wr.heap.size wr w') => And.intro ((hb.cell (by exact xl)).trans x3) (And.intro
        (show w'.cell? ⟨kb, ko + (k - 1) * 4, none⟩ = some (.bool (leafOf qa)) ∧ w'.cell? ⟨kb, ko + (k - 1) * 4 + 1, none⟩ = some (.slice a1 (propsOf qa).length c1) ∧ w'.cell? ⟨kb, ko + (k - 1) * 4 + 2, none⟩ = some (.slice a2 (textOf qa).length c2) ∧ w'.cell? ⟨kb, ko + (k - 1) * 4 + 3, none⟩ = some (.slice a3 (kidsOf qa).length c3) from ⟨(hb.cell (by exact hkb)).trans g0, (hb.cell (by exact hkb)).trans g1, (hb.cell (by exact hkb)).trans g2, (hb.cell (by exact hkb)).trans g3⟩)
        (show w'.cell? ⟨kb, ko + k * 4, none⟩ = some (.bool (leafOf qb)) ∧ w'.cell? ⟨kb, ko + k * 4 + 1, none⟩ = some (.slice b1 (propsOf qb).length d1) ∧ w'.cell? ⟨kb, ko + k * 4 + 2, none⟩ = some (.slice b2 (textOf qb).length d2) ∧ w'.cell? ⟨kb, ko + k * 4 + 3, none⟩ = some (.slice b3 (kidsOf qb).length d3) from ⟨(hb.cell (by exact hkb)).trans f0, (hb.cell (by exact hkb)).trans f1, (hb.cell (by exact hkb)).trans f2, (hb.cell (by exact hkb)).trans f3⟩)))
      have Hpa := Lib.hid hpa; have Hpb := Lib.hid hpb
      clear hkr hkkr hpa hpb hmb hbj hbr
      go_upto_region 4 with fail
      go_cut [5, 6] (fun p q wx => ∃ M1 M2 : Nat, p = .pointer (some ⟨M1, 0, none⟩) ∧ q = .pointer (some ⟨M2, 0, none⟩) ∧ At wx M1 [.bool (leafOf qa), .slice a1 (propsOf qa).length c1, .slice a2 (textOf qa).length c2, .slice a3 (kidsOf qa).length c3] 35 ∧ At wx M2 [.bool (leafOf qb), .slice b1 (propsOf qb).length d1, .slice b2 (textOf qb).length d2, .slice b3 (kidsOf qb).length d3] 35 ∧ Below wr.heap.size wr wx)
      case first =>
        go_region_held3 (fun w' => w'.cell? ⟨W.heap.size, 3, none⟩ = some (.slice (some ⟨kb, ko, none⟩) ks.length ck) ∧ (w'.cell? ⟨kb, ko + (k - 1) * 4, none⟩ = some (.bool (leafOf qa)) ∧ w'.cell? ⟨kb, ko + (k - 1) * 4 + 1, none⟩ = some (.slice a1 (propsOf qa).length c1) ∧ w'.cell? ⟨kb, ko + (k - 1) * 4 + 2, none⟩ = some (.slice a2 (textOf qa).length c2) ∧ w'.cell? ⟨kb, ko + (k - 1) * 4 + 3, none⟩ = some (.slice a3 (kidsOf qa).length c3)) ∧ (w'.cell? ⟨kb, ko + k * 4, none⟩ = some (.bool (leafOf qb)) ∧ w'.cell? ⟨kb, ko + k * 4 + 1, none⟩ = some (.slice b1 (propsOf qb).length d1) ∧ w'.cell? ⟨kb, ko + k * 4 + 2, none⟩ = some (.slice b2 (textOf qb).length d2) ∧ w'.cell? ⟨kb, ko + k * 4 + 3, none⟩ = some (.slice b3 (kidsOf qb).length d3))) (refine HS0.out _ (by (repeat (first | with_reducible exact Below.refl _ _ | with_reducible refine Below.drew ?_ | with_reducible refine Below.alloc ?_ ?_ _ | with_reducible refine Below.setCell ?_ ?_ _)) <;> (first | exact Nat.le_refl _ | (simp; done) | (simp; omega))))
          (fail)
        all_goals
          go_wp2_with fail
          go_meet
          case rel =>
            first
              | exact ⟨_, _, rfl, rfl, (At.fresh wr [.bool (leafOf qa), .slice a1 (propsOf qa).length c1, .slice a2 (textOf qa).length c2, .slice a3 (kidsOf qa).length c3] 35).alloc _, At.second wr _ [.bool (leafOf qb), .slice b1 (propsOf qb).length d1, .slice b2 (textOf qb).length d2, .slice b3 (kidsOf qb).length d3] _, (two_below wr _ _).drew⟩
              | exact ⟨_, _, rfl, rfl, At.second wr _ [.bool (leafOf qa), .slice a1 (propsOf qa).length c1, .slice a2 (textOf qa).length c2, .slice a3 (kidsOf qa).length c3] _, (At.fresh wr [.bool (leafOf qb), .slice b1 (propsOf qb).length d1, .slice b2 (textOf qb).length d2, .slice b3 (kidsOf qb).length d3] 35).alloc _, (two_below wr _ _).drew⟩
      case rest =>
        obtain ⟨M1, M2, rfl, rfl, hm1, hm2, hb⟩ := hcut
        have hpa := Hpa.out.keep hb hb.size; have hpb := Hpb.out.keep hb hb.size
        obtain ⟨⟨m0, m1, m2, m3⟩, -, ml⟩ := hm1.f4
        obtain ⟨⟨n0, n1, n2, n3⟩, -, nl⟩ := hm2.f4
        have Hb2 := Lib.hid (Hbr.out.trans (hb.mono Hbr.out.size))
        have HbF := Lib.hid (HbW.out.trans (hb.mono HbW.out.size))
        generalize leafOf qa = la at Hmb m0
        generalize leafOf qb = lb at Hmb n0
        generalize propsOf qa = pa at Hmb m1 hpa
        generalize propsOf qb = pb at Hmb n1 hpb
        have Hno := Lib.hid (fun (h : mergeB ks k = false) => show ∀ j, j < k + 1 → mergeB ks j = false from fun j hj => by
          rcases Nat.lt_or_ge j k with h' | h'
          · exact Hbj.out j h'
          · obtain rfl : j = k := by omega
            exact h)
        clear hb hm1 hm2 HS0
        cases la with
        | false =>
          clear hpa hpb
          go_wp2_with fail
          go_roundg (ks.length + 1 - (k + 1))
          case measure => omega
          case rel => exact ⟨k + 1, by go_num, by omega, by omega, Hno.out (by rw [Hmb.out]; simp), Hb2.out⟩
        | true =>
          cases lb with
          | false =>
            clear hpa hpb
            go_wp2_with fail
            go_roundg (ks.length + 1 - (k + 1))
            case measure => omega
            case rel => exact ⟨k + 1, by go_num, by omega, by omega, Hno.out (by rw [Hmb.out]; simp), Hb2.out⟩
          | true =>
            have HP := Lib.hid (psame_c a1 b1 c1 d1 _ pa pb _ hpa hpb)
            clear hpa hpb
            by_cases he : pa = pb
            · rw [decide_eq_true he] at HP
              have Hz := Lib.hid (Hzs.out k hlt (by rw [Hmb.out, he]; simp) Hbj.out)
              clear he
              go_wp2_with fail
              refine HP.out.mono ?_
              rintro e w5 ⟨rfl, hd⟩
              have Hd := Lib.hid hd.below
              clear hd HP
              go_wp2_with fail
              go_ret2
              rw [Hz.out]
              exact ⟨_, rfl, fun _ => rfl, HbF.out.trans (Hd.out _)⟩
            · rw [decide_eq_false he] at HP
              have Hno2 := Lib.hid (Hno.out (by rw [Hmb.out, decide_eq_false (fun h => he h.symm)]; simp))
              clear he
              go_wp2_with fail
              refine HP.out.mono ?_
              rintro e w5 ⟨rfl, hd⟩
              have Hd := Lib.hid hd.below
              clear hd HP
              go_wp2_with fail
              go_roundg (ks.length + 1 - (k + 1))
              case measure => omega
              case rel => exact ⟨k + 1, by go_num, by omega, by omega, Hno2.out, Hb2.out.trans (Hd.out _)⟩
    · have hltI : decide ((k : Int) < ks.length) = false := by simp; omega
      have Hz := Lib.hid (Hzn.out (fun j hj => hbj j (by omega)))
      clear hbj hbr
      go_wp2_with fail
      go_ret2
      rw [Hz.out]
      exact ⟨_, rfl, fun h => by omega, HbW.out⟩

end Go.Proofs.Ytiinmgccjlmoaaa
