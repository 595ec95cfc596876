/- Parts of the proof, one behind the other: RQN, RQO, RM3, RQP, RFN, RKS, RF1, RFB. -/
import Derived.Test.YtajclfjedlkbcaaGreatDoorWD12
import Derived.Test.YtajclfjedlkbcaaGreatDoorWD19
import Derived.Test.YtajclfjedlkbcaaGreatDoorWD11
import Derived.Test.YtajclfjedlkbcaaGreatDoorWD15
import Derived.Test.YtajclfjedlkbcaaGreatDoorWD3
import Derived.Test.YtajclfjedlkbcaaGreatDoorRows
import Derived.WalkKit
import Derived.ProofKit
import Derived.LaidMore
import Derived.OpenShut
import Derived.ChangeOld
import Derived.Below
import Derived.Stop.Joined
import Derived.Deep.DeepHandedRow
import Derived.Deep.DeepWitnessRowRef
import Derived.JoinedCond
import Derived.Test.YtajclfjedlkbcaaGreatDoorWD7
import Derived.Test.YtajclfjedlkbcaaGreatDoorWD2
import Derived.Laws.BytesArg
import Derived.Deep.RegionWith
import Derived.Test.YtajclfjedlkbcaaGreatDoorCards
import Derived.Test.YtajclfjedlkbcaaGreatDoorTie
import Derived.ShutString
import Derived.Lib.LaidTab
import Derived.Stop.LaidErr
import Derived.Lay
import Derived.SevenTiedAt
/- Walks: the reference's Paths and Region. -/
namespace Go.Proofs.YtajclfjedlkbcaaGreatDoor
open Go.RowKit Go.Redl
set_option linter.unusedVariables false
set_option linter.unusedSimpArgs false

theorem rPaths_ent : ∀ args w, (callFunc 21 args).run Tryz.prog w = .ok (.enter 21 args) w := by intro args w; kernel_rfl
set_option maxRecDepth 100000 in
set_option maxHeartbeats 1000000 in
theorem rPaths_c (n : NodeD) (v : Value) (W : World) (hn : n.wt ≤ 1048576) (hv : NodeV W W.heap.size n v) :
    Calls Tryz.prog 21 #[v] W (ListL W 0 (allN n)) := by
  have hv0 := hv
  obtain ⟨lf, ps, t, ks⟩ := n
  obtain ⟨ap, cp, at_, ct, ak, ck, css, rfl, -, -, -, -⟩ := hv0.open
  generalize NodeD.mk lf ps t ks = n at hv hn ⊢
  obtain ⟨w0, hw0⟩ : ∃ w0, w0 = W.alloc (Obj.cells #[.bool lf, .slice ap ps.length cp, .slice at_ t.length ct, .slice ak ks.length ck] 35) := ⟨_, rfl⟩
  have hb0 : Below W.heap.size W w0 := by rw [hw0]; exact one_below _ _
  have hA : At w0 W.heap.size [.bool lf, .slice ap ps.length cp, .slice at_ t.length ct, .slice ak ks.length ck] 35 := by rw [hw0]; exact At.fresh W _ _
  have HP := Lib.hid (rpaths_c n.wt n [] none 0 0 _ w0 (Nat.le_refl _) (by simp; omega) (hv.keep hb0 hb0.size) (RowQ.empty _ _ _) (Nat.zero_le _))
  have Hb0 := Lib.hid hb0; have Hw0 := Lib.hid hw0
  obtain ⟨⟨x0, x1, x2, x3⟩, -, xl⟩ := hA.f4
  clear hv hv0 hn hb0 hw0 hA
  go_enter Tryz.func21, Tryz.ntmps21
  go_upto_region 1 with fail
  rw [← Hw0.out]
  clear Hw0
  go_wp2_with fail
  refine HP.out.mono ?_
  rintro e w1 ⟨u, ys, rfl, hy, hyp, hbel⟩
  obtain ⟨ya, yc, hyf⟩ := hy.form
  subst hyf
  have Hy := Lib.hid hy; have Hyp := Lib.hid hyp; have Hb1 := Lib.hid (Hb0.out.trans (hbel.mono Hb0.out.size))
  clear hy hyp hbel HP x0 x1 x2 x3 xl
  go_wp2_with fail
  go_ret
  exact ⟨_, ys, rfl, Hy.out.from Hb0.out.size (Nat.le_refl _), Hyp.out, Hb1.out⟩

theorem rget_e (n : NodeD) (p : List Int) (v : Value) (pa : Option Addr) (pc : Nat) (W : World) (hbig : n.wt ≤ 100000000) (hv : NodeV W W.heap.size n v) (hp : RowA W W.heap.size 1 pa p.length pc (p.map (Value.int .i64))) :
    Calls Tryz.prog 22 #[v, .slice pa p.length pc] W fun e w' => ∃ (l : Bool) (a1 : Option Addr) (n1 c1 : Nat) (a2 : Option Addr) (n2 c2 : Nat) (a3 : Option Addr) (n3 c3 : Nat) (er : Int), e = .returned (.tuple #[.agg #[.bool l, .slice a1 n1 c1, .slice a2 n2 c2, .slice a3 n3 c3], .int .i64 er]) ∧ (er = 0 ∧ l = false ↔ isElem n p = true) ∧ Below W.heap.size W w' := by
  refine (rget_c n p v pa pc W hbig hv hp).mono fun e w' h => ?_
  unfold isElem
  cases hat : atN n p with
  | none =>
    rw [hat] at h
    obtain ⟨rfl, hb⟩ := h
    exact ⟨_, _, _, _, _, _, _, _, _, _, _, rfl, by simp, hb⟩
  | some k =>
    rw [hat] at h
    obtain ⟨cs, rfl, hq, hb⟩ := h
    obtain ⟨l, ps, t, ks⟩ := k
    have hq' := NodeQ.node _ _ hq
    unfold NodeC at hq'
    obtain ⟨ap, cp, at_, ct, ak, ck, css, rfl, -⟩ := hq'
    exact ⟨_, _, _, _, _, _, _, _, _, _, _, rfl, by simp [leafOf], hb⟩

theorem any_filter_and {α : Type} (p f : α → Bool) : ∀ l : List α, (l.filter p).any f = l.any fun x => p x && f x
  | [] => rfl
  | x :: l => by
    rw [List.filter_cons]
    cases h : p x with
    | true => simp [h, any_filter_and p f l]
    | false => simp [h, any_filter_and p f l]
theorem countP_drop {F : List Int → Bool} {fs : List PX} {k : Nat} (h : k < fs.length) : (pxs (fs.drop k)).countP F = (if F fs[k].1 then 1 else 0) + (pxs (fs.drop (k + 1))).countP F := by
  rw [List.drop_eq_getElem_cons h]
  simp only [pxs, List.map_cons, List.countP_cons]
  omega
theorem any_drop {f : PX → Bool} {xs : List PX} {k : Nat} (h : k < xs.length) : (xs.drop k).any f = (f xs[k] || (xs.drop (k + 1)).any f) := by
  rw [List.drop_eq_getElem_cons h, List.any_cons]
theorem reg_rng {n : NodeD} (hw : n.wt ≤ 1048576) (xs : List PX) : regN n (pxs xs) = (allN n).countP (fun x => xs.any fun y => isElem n y.1 && y.1.isPrefixOf x) := by
  rw [regN_eq hw]
  congr 1
  funext x
  unfold covB
  rw [any_filter_and, List.any_map]
  rfl
theorem region19_ent : ∀ args w, (callFunc 10 args).run Tryz.prog w = .ok (.enter 10 args) w := by intro args w; kernel_rfl

set_option maxRecDepth 100000 in
set_option maxHeartbeats 4000000 in
theorem region19_c (n : NodeD) (v : Value) (vx : Value) (xs : List PX) (W : World) (hn : n.wt ≤ 1048576) (hxl : xs.length ≤ 1048576) (hv : NodeV W W.heap.size n v) (hx : ReadX W W.heap.size vx xs) :
    Calls Tryz.prog 10 #[v, vx] W fun e w' => e = .returned (.int .i64 (regN n (pxs xs))) ∧ Below W.heap.size W w' := by
  have hv0 := hv
  obtain ⟨lf, ps, t, ks⟩ := n
  obtain ⟨ap, cp, at_, ct, ak, ck, css, rfl, -, -, -, -⟩ := hv0.open
  generalize NodeD.mk lf ps t ks = n at hv hn ⊢
  obtain ⟨xa, xc, rfl, -⟩ := hx.row
  obtain ⟨w0, hw0⟩ : ∃ w0, w0 = W.alloc (Obj.cells #[.bool lf, .slice ap ps.length cp, .slice at_ t.length ct, .slice ak ks.length ck] 35) := ⟨_, rfl⟩
  have hb0 : Below W.heap.size W w0 := by rw [hw0]; exact one_below _ _
  have hA : At w0 W.heap.size [.bool lf, .slice ap ps.length cp, .slice at_ t.length ct, .slice ak ks.length ck] 35 := by rw [hw0]; exact At.fresh W _ _
  have HP := Lib.hid (rPaths_c n _ w0 hn (hv.keep hb0 hb0.size))
  have HG := Lib.hid (fun (w' : World) (hb : Below W.heap.size W w') (q : PX) (hq : q ∈ xs) => rget_e n q.1 _ q.2.1 q.2.2 w' (by omega) (hv.keep hb hb.size) ((hx.all q hq).keep hb hb.size))
  obtain ⟨F, hF⟩ : ∃ F : List Int → Bool, F = fun x => xs.any fun y => isElem n y.1 && y.1.isPrefixOf x := ⟨_, rfl⟩
  obtain ⟨T, hT⟩ : ∃ T, T = regN n (pxs xs) := ⟨_, rfl⟩
  have HT := Lib.hid (show (allN n).countP F = T by rw [hT, hF, reg_rng hn])
  have HTl := Lib.hid (show T ≤ 1048576 by rw [hT]; exact reg_wt hn _)
  have HF := Lib.hid hF; have HX := Lib.hid hx
  have Hal := Lib.hid (show (allN n).length ≤ 1048576 from Nat.le_trans (pathsW_len _ n []) hn)
  rw [← hT]
  have Hb0 := Lib.hid hb0; have Hw0 := Lib.hid hw0; have HA := Lib.hid hA
  have HS0 := Lib.hid (fun (w' : World) (hb : Below w0.heap.size w0 w') => And.intro (HA.out.kept hb).f4.1 (HA.out.kept hb).lt)
  obtain ⟨⟨x0, x1, x2, x3⟩, -, xl⟩ := hA.f4
  clear hv hv0 hn hb0 hw0 hA hx hF hT
  go_enter Tryz.func10, Tryz.ntmps10
  go_upto_region 1 with fail
  rw [← Hw0.out]
  clear Hw0
  go_wp2_with fail
  refine HP.out.mono ?_
  rintro e w1 ⟨u, fs, rfl, hy, hyp, hbel⟩
  obtain ⟨ya, yc, hyf⟩ := hy.form
  subst hyf
  have HY := Lib.hid hy.read; have Hb1 := Lib.hid hbel
  have HT1 := Lib.hid (show (pxs fs).countP F = T by rw [hyp]; exact HT.out)
  have hfl : fs.length ≤ 1048576 := by have h := congrArg List.length hyp; simp at h; have := Hal.out; omega
  clear hy hyp hbel HP HT Hal x0 x1 x2 x3 xl
  go_wp2_with fail
  go_loopg [16, 5] fs.length (fun g i m wr => ∃ k c : Nat, i = .int .i64 k ∧ m = .int .i64 c ∧ k + g = fs.length ∧ Hid (c + (pxs (fs.drop k)).countP F = T) ∧ Hid (Below w1.heap.size w1 wr))
  case atStart => exact ⟨0, 0, rfl, rfl, by omega, (show 0 + (pxs (fs.drop 0)).countP F = T by rw [List.drop_zero, Nat.zero_add]; exact HT1.out), (show Below _ _ _ from Below.refl _ _)⟩
  case round =>
    obtain ⟨k, c, rfl, rfl, hg, hst, hbr⟩ := hrel
    by_cases hlt : k < fs.length
    · have hlti : (k : Int) < fs.length := by omega
      have hYr := HY.out.keep hbr.out hbr.out.size
      obtain ⟨b, off, rfl, hb, hc⟩ := hYr.at_ k hlt
      have Hall := Lib.hid (hYr.all fs[k] (List.getElem_mem hlt))
      have Hst := Lib.hid (show c + ((if F fs[k].1 then 1 else 0) + (pxs (fs.drop (k + 1))).countP F) = T by
        have h := hst.out
        rw [countP_drop hlt] at h
        exact h)
      generalize fs[k] = x at hc Hall Hst
      obtain ⟨x0, pa, pc⟩ := x
      unfold pxV at hc
      simp only at hc Hall Hst
      obtain ⟨R, hR⟩ : ∃ R, R = F x0 := ⟨_, rfl⟩
      have HR := Lib.hid (show xs.any (fun y => isElem n y.1 && y.1.isPrefixOf x0) = R by rw [hR, HF.out])
      rw [← hR] at Hst
      clear hR hYr hst hb
      obtain ⟨wm, hwm⟩ : ∃ wm, wm = wr := ⟨_, rfl⟩
      subst hwm
      go_wp2_with fail
      go_loopg [22, 8] xs.length (fun g i m wx => ∃ (j : Nat) (b : Bool), i = .int .i64 j ∧ m = .bool b ∧ j + g = xs.length ∧ Hid ((b || (xs.drop j).any (fun y => isElem n y.1 && y.1.isPrefixOf x0)) = R) ∧ Hid (Below wm.heap.size wm wx))
      case atStart => exact ⟨0, false, rfl, rfl, by omega, (show (false || (xs.drop 0).any _) = R by simpa using HR.out), (show Below _ _ _ from Below.refl _ _)⟩
      case round =>
        obtain ⟨j, b, rfl, rfl, hgj, hstj, hbx⟩ := hrel
        by_cases hltj : j < xs.length
        · have hltji : (j : Int) < xs.length := by omega
          have HbX := Lib.hid (below_and Hb1.out (below_and hbr.out hbx.out))
          have HbW := Lib.hid (Hb0.out.trans (HbX.out.mono Hb0.out.size))
          have hXr := HX.out.keep HbW.out (Nat.le_refl _)
          obtain ⟨b2, off2, rfl, hb2, hc2⟩ := hXr.at_ j hltj
          have HG1 := Lib.hid (HG.out wr HbW.out xs[j] (List.getElem_mem hltj))
          have Hq := Lib.hid ((hXr.all xs[j] (List.getElem_mem hltj)).keep (Below.refl _ _) HbW.out.size)
          have Hst1 := Lib.hid (show (b || ((isElem n xs[j].1 && xs[j].1.isPrefixOf x0) || (xs.drop (j + 1)).any (fun y => isElem n y.1 && y.1.isPrefixOf x0))) = R by
            have h := hstj.out
            rw [any_drop hltj] at h
            exact h)
          generalize xs[j] = y at hc2 HG1 Hq Hst1
          obtain ⟨y0, qa, qc⟩ := y
          unfold pxV at hc2
          simp only at hc2 HG1 Hq Hst1
          have hS := HS0.out wr HbX.out
          obtain ⟨⟨z0, z1, z2, z3⟩, zl⟩ := hS
          have Hp := Lib.hid (Hall.out.keep hbx.out hbx.out.size)
          clear hXr hb2 hstj
          go_wp2_with fail
          refine HG1.out.mono ?_
          rintro e w5 ⟨l, a1, n1, c1, a2, n2, c2, a3, n3, c3, er, rfl, hE, hbel⟩
          obtain ⟨w6, hw6⟩ : ∃ w6, w6 = w5.alloc (Obj.cells #[.bool l, .slice a1 n1 c1, .slice a2 n2 c2, .slice a3 n3 c3] 35) := ⟨_, rfl⟩
          have hb6 : Below wr.heap.size wr w6 := by rw [hw6]; exact hbel.trans ((one_below _ _).mono hbel.size)
          have hA6 : At w6 w5.heap.size [.bool l, .slice a1 n1 c1, .slice a2 n2 c2, .slice a3 n3 c3] 35 := by rw [hw6]; exact At.fresh w5 _ _
          have Hb6 := Lib.hid (below_and hbx.out hb6)
          have HSm := Lib.hid (rpath_c qa pa qc pc w6.heap.size y0 x0 w6 (Hq.out.keep hb6 hb6.size) (Hp.out.keep hb6 hb6.size))
          have HAb := Lib.hid (fun (w' : World) (hb : Below w6.heap.size w6 w') => rabove_c y0 x0 qa pa qc pc w'.heap.size w' ((Hq.out.keep hb6 hb6.size).keep hb hb.size) ((Hp.out.keep hb6 hb6.size).keep hb hb.size))
          have Hpre := Lib.hid (prefix_same (xs := y0) (ys := x0))
          obtain ⟨⟨g0, g1, g2, g3⟩, -, gl⟩ := hA6.f4
          have HE := Lib.hid hE; have Hw6 := Lib.hid hw6
          clear hE hw6 hbel hb6 hA6 HG1 z0 z1 z2 z3 zl hc2
          cases b with
          | true =>
            go_upto_region 10 with fail
            rw [← Hw6.out]
            clear Hw6
            go_wp2_with fail
            go_roundg (xs.length - (j + 1))
            case measure => omega
            case rel => exact ⟨j + 1, true, by go_num, rfl, by omega, (show (true || _) = R by have h := Hst1.out; rw [Bool.true_or] at h ⊢; exact h), Hb6⟩
          | false =>
            by_cases her : er = 0
            · subst her
              cases l with
              | true =>
                have Hst2 := Lib.hid (show (false || (xs.drop (j + 1)).any (fun y => isElem n y.1 && y.1.isPrefixOf x0)) = R by
                  have h := Hst1.out
                  rw [show isElem n y0 = false from by rw [Bool.eq_false_iff]; intro h; have := HE.out.2 h; simp at this] at h
                  exact h)
                go_upto_region 10 with fail
                rw [← Hw6.out]
                clear Hw6
                go_wp2_with fail
                go_roundg (xs.length - (j + 1))
                case measure => omega
                case rel => exact ⟨j + 1, false, by go_num, rfl, by omega, Hst2, Hb6⟩
              | false =>
                have Hst2 := Lib.hid (show ((y0.isPrefixOf x0) || (xs.drop (j + 1)).any (fun y => isElem n y.1 && y.1.isPrefixOf x0)) = R by
                  have h := Hst1.out
                  rw [show isElem n y0 = true from HE.out.1 ⟨rfl, rfl⟩, Bool.false_or, Bool.true_and] at h
                  exact h)
                obtain ⟨S1, hS1⟩ : ∃ S1, S1 = decide (y0 = x0) := ⟨_, rfl⟩
                obtain ⟨S2, hS2⟩ : ∃ S2, S2 = raboveB y0 x0 := ⟨_, rfl⟩
                rw [← hS1] at HSm
                rw [← hS2] at HAb
                rw [← hS1, ← hS2] at Hpre
                clear hS1 hS2
                go_upto_region 10 with fail
                rw [← Hw6.out]
                clear Hw6
                cases S1 with
                | true =>
                  go_wp2_with fail
                  refine HSm.out.mono ?_
                  rintro e w7 ⟨rfl, hd⟩
                  have Hb7 := Lib.hid (below_and Hb6.out (hd.below _))
                  clear hd HSm
                  go_wp2_with fail
                  go_roundg (xs.length - (j + 1))
                  case measure => omega
                  case rel => exact ⟨j + 1, true, by go_num, rfl, by omega, (show (true || _) = R by have h := Hst2.out; rw [← Hpre.out] at h; simpa using h), Hb7⟩
                | false =>
                  go_wp2_with fail
                  refine HSm.out.mono ?_
                  rintro e w7 ⟨rfl, hd⟩
                  have Hb7 := Lib.hid (below_and Hb6.out (hd.below _))
                  have HAb7 := Lib.hid (HAb.out w7 (hd.below _))
                  clear hd HSm HAb
                  go_wp2_with fail
                  refine HAb7.out.mono ?_
                  rintro e w8 ⟨rfl, hd⟩
                  have Hb8 := Lib.hid (below_and Hb7.out (hd.below _))
                  clear hd HAb7
                  go_wp2_with fail
                  go_roundg (xs.length - (j + 1))
                  case measure => omega
                  case rel => exact ⟨j + 1, S2, by go_num, rfl, by omega, (show (S2 || _) = R by have h := Hst2.out; rw [← Hpre.out, Bool.false_or] at h; exact h), Hb8⟩
            · have Hst2 := Lib.hid (show (false || (xs.drop (j + 1)).any (fun y => isElem n y.1 && y.1.isPrefixOf x0)) = R by
                have h := Hst1.out
                rw [show isElem n y0 = false from by rw [Bool.eq_false_iff]; intro h; exact her (HE.out.2 h).1] at h
                exact h)
              have hebe : (er == 0) = false := beq_eq_false_iff_ne.2 her
              clear her
              go_upto_region 10 with fail
              rw [← Hw6.out]
              clear Hw6
              go_wp2_with fail
              go_roundg (xs.length - (j + 1))
              case measure => omega
              case rel => exact ⟨j + 1, false, by go_num, rfl, by omega, Hst2, Hb6⟩
        · obtain rfl : j = xs.length := by omega
          have Hz := Lib.hid (show b = R by have h := hstj.out; rw [List.drop_length] at h; simpa using h)
          have Hbm := Lib.hid (below_and hbr.out hbx.out)
          clear hstj
          cases b with
          | true =>
            have Hst3 := Lib.hid (show (c + 1) + (pxs (fs.drop (k + 1))).countP F = T by have h := Hst.out; rw [← Hz.out, if_pos rfl] at h; omega)
            have hc1 : c + 1 ≤ 1048576 := by have := Hst3.out; have := HTl.out; omega
            have hwc : IntKind.i64.wrap ((c : Int) + 1) = ((c + 1 : Nat) : Int) := (IntWalk.i64_in _ (by omega)).trans (by omega)
            go_wp2_with fail
            go_roundg (fs.length - (k + 1))
            case measure => omega
            case rel => exact ⟨k + 1, c + 1, by go_num, rfl, by omega, Hst3, Hbm⟩
          | false =>
            have Hst3 := Lib.hid (show c + (pxs (fs.drop (k + 1))).countP F = T by have h := Hst.out; rw [← Hz.out, if_neg (by simp)] at h; omega)
            go_wp2_with fail
            go_roundg (fs.length - (k + 1))
            case measure => omega
            case rel => exact ⟨k + 1, c, by go_num, rfl, by omega, Hst3, Hbm⟩
    · obtain rfl : k = fs.length := by omega
      have Hfin := Lib.hid (show c = T by have h := hst.out; rw [List.drop_length] at h; simpa using h)
      clear hst
      go_wp2_with fail
      go_ret
      exact ⟨ret_int (by rw [Hfin.out]), Hb0.out.trans ((below_and Hb1.out hbr.out).mono Hb0.out.size)⟩

end Go.Proofs.YtajclfjedlkbcaaGreatDoor
/- Walk: the reference's Bound. -/
namespace Go.Proofs.YtajclfjedlkbcaaGreatDoor
open Go.RowKit Go.Redl
set_option linter.unusedVariables false
set_option linter.unusedSimpArgs false

theorem bound19_ent : ∀ args w, (callFunc 8 args).run Tryz.prog w = .ok (.enter 8 args) w := by intro args w; kernel_rfl
set_option maxRecDepth 100000 in
set_option maxHeartbeats 4000000 in
theorem bound19_c (s : SchemaD) (n : NodeD) (u v : Value) (vx : Value) (xs : List PX) (W : World) (hs : s.wt ≤ 1048576) (hn : n.wt ≤ 1048576) (hxl : xs.length ≤ 1048576) (hxm : ∀ x ∈ xs, x.1.length ≤ 100000000) (hu : SchemaV W W.heap.size s u) (hv : NodeV W W.heap.size n v) (hx : ReadX W W.heap.size vx xs) :
    Calls Tryz.prog 8 #[u, v, vx] W fun e w' => e = .returned (.tuple #[.int .i64 (boundS s n (pxs xs)).1, .int .i64 (boundS s n (pxs xs)).2]) ∧ Below W.heap.size W w' := by
  have hu0 := hu; have hv0 := hv
  obtain ⟨l, ps, t, ks⟩ := n
  obtain ⟨a, c, css, ea, ec, o0, o1, o2, o3, o4, o5, rfl, -, -, -, -⟩ := hu0.open
  obtain ⟨ap, cp, at_, ct, ak, ck, cs4, rfl, -, -, -, -⟩ := hv0.open
  generalize NodeD.mk l ps t ks = n at hn hv ⊢
  obtain ⟨xa, xc, rfl, -⟩ := hx.row
  obtain ⟨w0, hw0⟩ : ∃ w0, w0 = (W.alloc (Obj.cells #[.slice a s.rules.length c, strV s.els.type, .int .i64 s.els.text.1, strV s.els.text.2, .int .i64 s.els.other.1, strV s.els.other.2, .slice ea s.els.kids.length ec, .int .i64 s.els.fill, strV s.els.fillT, .int .i64 o0, .int .i64 o1, .int .i64 o2, .int .i64 o3, .int .i64 o4, .int .i64 o5, .int .i64 s.cap] 30)).alloc (Obj.cells #[.bool l, .slice ap ps.length cp, .slice at_ t.length ct, .slice ak ks.length ck] 35) := ⟨_, rfl⟩
  have hb0 : Below W.heap.size W w0 := by rw [hw0]; exact two_below _ _ _
  have hA : At w0 W.heap.size [.slice a s.rules.length c, strV s.els.type, .int .i64 s.els.text.1, strV s.els.text.2, .int .i64 s.els.other.1, strV s.els.other.2, .slice ea s.els.kids.length ec, .int .i64 s.els.fill, strV s.els.fillT, .int .i64 o0, .int .i64 o1, .int .i64 o2, .int .i64 o3, .int .i64 o4, .int .i64 o5, .int .i64 s.cap] 30 := by rw [hw0]; exact (At.fresh W _ _).alloc _
  have hN : At w0 (W.heap.size + 1) [.bool l, .slice ap ps.length cp, .slice at_ t.length ct, .slice ak ks.length ck] 35 := by rw [hw0]; exact At.second W _ _ _
  have hld := load_at (P := Tryz.prog) hA Tryz.underlying30 rfl (by kernel_rfl)
  simp [go_sem] at hld
  have HF := Lib.hid (fills15_c s _ w0 (by omega) (hu.keep hb0 hb0.size))
  have HRg := Lib.hid (fun (w' : World) (hb : Below W.heap.size W w') => region19_c n _ _ xs w' hn hxl (hv.keep hb hb.size) (hx.keep hb hb.size))
  have Hreg := Lib.hid (reg_wt hn (pxs xs))
  have Hf0 := Lib.hid (fills_ge s); have Hf1 := Lib.hid (show (fillsS s).1 ≤ 1048580 by have h1 := fills_le s; have h2 := rulesWt_len s.rules; unfold SchemaD.wt at hs; omega)
  have Hw0 := Lib.hid hw0; have Hb0 := Lib.hid hb0; have HN := Lib.hid hN
  have HBd := Lib.hid (show boundS s n (pxs xs) = if (fillsS s).2 ≠ 0 then (0, (fillsS s).2) else ((regN n (pxs xs) : Int) * (4 + 2 * (fillsS s).1), 0) from rfl)
  obtain ⟨BD, hBD⟩ : ∃ BD, BD = boundS s n (pxs xs) := ⟨_, rfl⟩
  rw [← hBD] at HBd ⊢
  obtain ⟨RG, hRG⟩ : ∃ RG, RG = regN n (pxs xs) := ⟨_, rfl⟩
  rw [← hRG] at HRg Hreg HBd
  obtain ⟨⟨F1, F2⟩, hFF⟩ : ∃ z, fillsS s = z := ⟨_, rfl⟩
  rw [hFF] at HF Hf0 Hf1 HBd
  simp only at HF Hf0 Hf1 HBd
  have xl := hN.lt
  clear hu hv hu0 hv0 hs hn hb0 hw0 hA hN hx hxm hRG hBD hFF
  go_enter Tryz.func8, Tryz.ntmps8
  go_upto_region 1 with fail
  rw [← Hw0.out]
  clear Hw0
  go_wp2_with fail
  refine HF.out.mono ?_
  rintro e w1 ⟨rfl, hbel⟩
  have Hb1 := Lib.hid (Hb0.out.trans (hbel.mono Hb0.out.size))
  obtain ⟨⟨y0, y1, y2, y3⟩, -, yl⟩ := (HN.out.kept hbel).f4
  have HR1 := Lib.hid (HRg.out w1 Hb1.out)
  clear hbel HF HRg hld
  by_cases h0 : F2 = 0
  · subst h0
    have Hz := Lib.hid (show BD = ((RG : Int) * (4 + 2 * F1), 0) by rw [HBd.out, if_neg (by simp)])
    go_wp2_with fail
    refine HR1.out.mono ?_
    rintro e w2 ⟨rfl, hbel⟩
    have Hb2 := Lib.hid (Hb1.out.trans (hbel.mono Hb1.out.size))
    have hf0 := Hf0.out; have hf1 := Hf1.out; have hreg := Hreg.out
    have hr0 : (0 : Int) ≤ RG := by omega
    have hr1 : (RG : Int) ≤ 1048576 := by omega
    have hm := mul_small hr0 hr1 (show (0 : Int) ≤ 4 + 2 * F1 by omega) (by omega)
    have e1 : IntKind.i64.wrap (2 * F1) = 2 * F1 := IntWalk.i64_in _ (by omega)
    have e2 : IntKind.i64.wrap (4 + 2 * F1) = 4 + 2 * F1 := IntWalk.i64_in _ (by omega)
    have e3 : IntKind.i64.wrap ((RG : Int) * (4 + 2 * F1)) = (RG : Int) * (4 + 2 * F1) := IntWalk.i64_in _ (by omega)
    clear hbel HR1 y0 y1 y2 y3 hf0 hf1 hreg hr0 hr1 hm
    go_wp2_with fail
    go_ret2
    rw [Hz.out]
    exact ⟨rfl, Hb2.out⟩
  · have Hz := Lib.hid (show BD = (0, F2) by rw [HBd.out, if_pos h0])
    clear HR1 y0 y1 y2 y3
    go_wp2_with fail
    go_ret2
    rw [Hz.out]
    exact ⟨rfl, Hb1.out⟩

end Go.Proofs.YtajclfjedlkbcaaGreatDoor
/- Walk: WeightFills: for every schema, tree and list of paths the law returns true, where what is read is of bulk at most 1048576. -/
namespace Go.Proofs.YtajclfjedlkbcaaGreatDoor
open Go.RowKit Go.Redl
set_option linter.unusedVariables false
set_option linter.unusedSimpArgs false

theorem small19_len2 {s : SchemaD} {n : NodeD} {L : List (List Int)} {m : Nat} (h : small19 s n L m = true) : (∀ p ∈ L, p.length ≤ 40) ∧ L.length ≤ 30 := by
  unfold small19 at h
  simp only [Bool.and_eq_true, List.all_eq_true, decide_eq_true_eq] at h
  exact ⟨h.1, h.2.2.2.1⟩

set_option maxRecDepth 100000 in
set_option maxHeartbeats 4000000 in
theorem weightfills_walk (s : SchemaD) (n : NodeD) (u v : Value) (vx : Value) (xs : List PX) (W : World) (hs : s.wt ≤ 1048576) (hn : n.wt ≤ 1048576) (hxl : xs.length ≤ 1048576) (hu : SchemaV W W.heap.size s u) (hv : NodeV W W.heap.size n v) (hx : ReadX W W.heap.size vx xs) :
    Calls Tryz.prog 4 #[u, v, vx] W (fun e w' => e = .returned (.bool true) ∧ Below W.heap.size W w') := by
  have hu0 := hu; have hv0 := hv
  obtain ⟨l, ps, t, ks⟩ := n
  obtain ⟨a, c, css, ea, ec, o0, o1, o2, o3, o4, o5, rfl, -, -, -, -⟩ := hu0.open
  obtain ⟨ap, cp, at_, ct, ak, ck, cs4, rfl, -, -, -, -⟩ := hv0.open
  generalize hnn : NodeD.mk l ps t ks = n at hn hv ⊢
  obtain ⟨xa, xc, rfl, -⟩ := hx.row
  obtain ⟨w0, hw0⟩ : ∃ w0, w0 = (W.alloc (Obj.cells #[.slice a s.rules.length c, strV s.els.type, .int .i64 s.els.text.1, strV s.els.text.2, .int .i64 s.els.other.1, strV s.els.other.2, .slice ea s.els.kids.length ec, .int .i64 s.els.fill, strV s.els.fillT, .int .i64 o0, .int .i64 o1, .int .i64 o2, .int .i64 o3, .int .i64 o4, .int .i64 o5, .int .i64 s.cap] 30)).alloc (Obj.cells #[.bool l, .slice ap ps.length cp, .slice at_ t.length ct, .slice ak ks.length ck] 35) := ⟨_, rfl⟩
  have hb0 : Below W.heap.size W w0 := by rw [hw0]; exact (one_below _ _).trans ((one_below _ _).mono (one_below _ _).size)
  have hA : At w0 W.heap.size [.slice a s.rules.length c, strV s.els.type, .int .i64 s.els.text.1, strV s.els.text.2, .int .i64 s.els.other.1, strV s.els.other.2, .slice ea s.els.kids.length ec, .int .i64 s.els.fill, strV s.els.fillT, .int .i64 o0, .int .i64 o1, .int .i64 o2, .int .i64 o3, .int .i64 o4, .int .i64 o5, .int .i64 s.cap] 30 := by rw [hw0]; exact (At.fresh W _ _).alloc _
  have hN : At w0 (W.heap.size + 1) [.bool l, .slice ap ps.length cp, .slice at_ t.length ct, .slice ak ks.length ck] 35 := by rw [hw0]; exact At.second W _ _ _
  have HF := Lib.hid (fun (w' : World) (hb : Below w0.heap.size w0 w') => few19_c s n _ _ _ xs none 0 0 w' (by omega) (by omega) (by omega) (by simp) (hu.keep (hb0.trans (hb.mono hb0.size)) (hb0.trans (hb.mono hb0.size)).size) (hv.keep (hb0.trans (hb.mono hb0.size)) (hb0.trans (hb.mono hb0.size)).size) (hx.keep (hb0.trans (hb.mono hb0.size)) (hb0.trans (hb.mono hb0.size)).size))
  have HL := Lib.hid (live19_c w0)
  have HA := Lib.hid hA; have HN := Lib.hid hN
  have Hb0 := Lib.hid hb0; have Hw0 := Lib.hid hw0
  have hld := fun (w' : World) (h : At w' W.heap.size [.slice a s.rules.length c, strV s.els.type, .int .i64 s.els.text.1, strV s.els.text.2, .int .i64 s.els.other.1, strV s.els.other.2, .slice ea s.els.kids.length ec, .int .i64 s.els.fill, strV s.els.fillT, .int .i64 o0, .int .i64 o1, .int .i64 o2, .int .i64 o3, .int .i64 o4, .int .i64 o5, .int .i64 s.cap] 30) => load_at (P := Tryz.prog) h Tryz.underlying30 rfl (by kernel_rfl)
  simp [go_sem] at hld
  cases hsm : small19 s n (pxs xs) 0 with
  | false =>
    rw [hsm] at HF
    clear hu hv hu0 hv0 hs hn hb0 hw0 hA hN hx hsm hnn
    go_enter Tryz.func4, Tryz.ntmps4
    go_upto_region 1 with fail
    rw [← Hw0.out]
    clear Hw0
    go_wp2_with fail
    refine HL.out.mono ?_
    rintro e w1 ⟨rfl, hbel⟩
    have Hb1 := Lib.hid hbel
    have hS := hld w1 (HA.out.kept hbel)
    obtain ⟨⟨y0, y1, y2, y3⟩, -, yl⟩ := (HN.out.kept hbel).f4
    have HF1 := Lib.hid (HF.out w1 hbel)
    clear hbel HL HF hld
    go_wp2_with fail
    refine HF1.out.mono ?_
    rintro e w2 ⟨rfl, hbel⟩
    have Hb2 := Lib.hid (Hb0.out.trans ((below_and Hb1.out hbel).mono Hb0.out.size))
    clear hbel HF1 hS y0 y1 y2 y3 yl
    go_wp2_with fail
    go_ret
    exact ⟨rfl, Hb2.out⟩
  | true =>
    rw [hsm] at HF
    obtain ⟨hl40, hl30⟩ := small19_len2 hsm
    have hxm : ∀ x ∈ xs, x.1.length ≤ 100000000 := fun x hx => by have := hl40 x.1 (List.mem_map.2 ⟨x, hx, rfl⟩); omega
    have HFi := Lib.hid (fun (w' : World) (hb : Below W.heap.size W w') => fills_c s _ w' (by omega) (hu.keep hb hb.size))
    have HBo := Lib.hid (fun (w' : World) (hb : Below W.heap.size W w') => bound_c s n _ _ _ xs w' hs hn hxl hxm (hu.keep hb hb.size) (hv.keep hb hb.size) (hx.keep hb hb.size))
    have HRg := Lib.hid (fun (w' : World) (hb : Below W.heap.size W w') => region_c n _ W.heap.size _ xs w' (by omega) (hv.keep hb (Nat.le_refl _)) hb.size (hx.keep hb (Nat.le_refl _)) (by omega) hxm)
    have Hreg := Lib.hid (reg_wt hn (pxs xs))
    have Hf0 := Lib.hid (fills_ge s); have Hf1 := Lib.hid (show (fillsS s).1 ≤ 1048580 by have h1 := fills_le s; have h2 := rulesWt_len s.rules; unfold SchemaD.wt at hs; omega)
    have HBd := Lib.hid (show boundS s n (pxs xs) = if (fillsS s).2 ≠ 0 then (0, (fillsS s).2) else ((regN n (pxs xs) : Int) * (4 + 2 * (fillsS s).1), 0) from rfl)
    obtain ⟨BD, hBD⟩ : ∃ BD, BD = boundS s n (pxs xs) := ⟨_, rfl⟩
    rw [← hBD] at HBo HBd
    obtain ⟨RG, hRG⟩ : ∃ RG, RG = regN n (pxs xs) := ⟨_, rfl⟩
    rw [← hRG] at HRg Hreg HBd
    obtain ⟨⟨F1, F2⟩, hFF⟩ : ∃ z, fillsS s = z := ⟨_, rfl⟩
    rw [hFF] at HFi Hf0 Hf1 HBd
    simp only at HFi Hf0 Hf1 HBd
    have HLD := Lib.hid hld
    clear hu hv hu0 hv0 hs hn hb0 hw0 hA hN hx hsm hnn hl40 hl30 hxm hRG hBD hFF hld
    go_enter Tryz.func4, Tryz.ntmps4
    go_upto_region 1 with fail
    rw [← Hw0.out]
    clear Hw0
    go_wp2_with fail
    refine HL.out.mono ?_
    rintro e w1 ⟨rfl, hbel⟩
    have Hb1 := Lib.hid hbel
    have hS := HLD.out w1 (HA.out.kept hbel)
    obtain ⟨⟨y0, y1, y2, y3⟩, -, yl⟩ := (HN.out.kept hbel).f4
    have HF1 := Lib.hid (HF.out w1 hbel)
    clear hbel HL HF
    go_wp2_with fail
    refine HF1.out.mono ?_
    rintro e w2 ⟨rfl, hbel⟩
    have Hb2 := Lib.hid (below_and Hb1.out hbel)
    have hS2 := HLD.out w2 (HA.out.kept Hb2.out)
    have HFi2 := Lib.hid (HFi.out w2 (Hb0.out.trans (Hb2.out.mono Hb0.out.size)))
    have zl2 := (HA.out.kept Hb2.out).lt
    clear hbel HF1 hS y0 y1 y2 y3 yl HFi
    go_wp2_with fail
    refine HFi2.out.mono ?_
    rintro e w3 ⟨rfl, hbel⟩
    have Hb3 := Lib.hid (below_and Hb2.out hbel)
    have hS3 := HLD.out w3 (HA.out.kept Hb3.out)
    obtain ⟨⟨y0, y1, y2, y3⟩, -, yl⟩ := (HN.out.kept Hb3.out).f4
    have HBo3 := Lib.hid (HBo.out w3 (Hb0.out.trans (Hb3.out.mono Hb0.out.size)))
    clear hbel HFi2 hS2 zl2 HBo
    by_cases h0 : F2 = 0
    · subst h0
      have Hz := Lib.hid (show BD = ((RG : Int) * (4 + 2 * F1), 0) by rw [HBd.out, if_neg (by simp)])
      rw [Hz.out] at HBo3
      simp only at HBo3
      go_wp2_with fail
      refine HBo3.out.mono ?_
      rintro e w4 ⟨rfl, hbel⟩
      have Hb4 := Lib.hid (below_and Hb3.out hbel)
      clear hbel HBo3 hS3 y0 y1 y2 y3 yl
      obtain ⟨⟨y0, y1, y2, y3⟩, -, yl⟩ := (HN.out.kept Hb4.out).f4
      have HR4 := Lib.hid (HRg.out w4 (Hb0.out.trans (Hb4.out.mono Hb0.out.size)))
      go_wp2_with fail
      refine HR4.out.mono ?_
      rintro e w5 ⟨rfl, hbel⟩
      have Hb5 := Lib.hid (below_and Hb4.out hbel)
      have hf0 := Hf0.out; have hf1 := Hf1.out; have hreg := Hreg.out
      have hr0 : (0 : Int) ≤ RG := by omega
      have hr1 : (RG : Int) ≤ 1048576 := by omega
      have hm := mul_small hr0 hr1 (show (0 : Int) ≤ 2 * F1 + 4 by omega) (by omega)
      have e1 : IntKind.i64.wrap (2 * F1) = 2 * F1 := IntWalk.i64_in _ (by omega)
      have e2 : IntKind.i64.wrap (2 * F1 + 4) = 2 * F1 + 4 := IntWalk.i64_in _ (by omega)
      have e3 : IntKind.i64.wrap ((RG : Int) * (2 * F1 + 4)) = (RG : Int) * (2 * F1 + 4) := IntWalk.i64_in _ (by omega)
      have e4 : ((RG : Int) * (4 + 2 * F1) == (RG : Int) * (2 * F1 + 4)) = true := by rw [Int.add_comm 4]; simp
      have e5 : decide (0 ≤ F1) = true := decide_eq_true hf0
      clear hbel HR4 y0 y1 y2 y3 yl hf1 hreg hr0 hr1 hm
      go_wp2_with fail
      go_ret
      exact ⟨ret_bool (by simp [e4]), Hb0.out.trans (Hb5.out.mono Hb0.out.size)⟩
    · have Hz := Lib.hid (show BD = (0, F2) by rw [HBd.out, if_pos h0])
      rw [Hz.out] at HBo3
      simp only at HBo3
      go_wp2_with fail
      refine HBo3.out.mono ?_
      rintro e w4 ⟨rfl, hbel⟩
      have Hb4 := Lib.hid (below_and Hb3.out hbel)
      have hF2 : (F2 == F2) = true := by simp
      clear hbel HBo3 hS3 y0 y1 y2 y3 yl
      go_wp2_with fail
      go_ret
      exact ⟨ret_bool (by simp), Hb0.out.trans (Hb4.out.mono Hb0.out.size)⟩

end Go.Proofs.YtajclfjedlkbcaaGreatDoor
/- Walk: WeightDoes: for every schema, tree and list of paths the law returns true, where what is read is of bulk at most 1048576. -/
namespace Go.Proofs.YtajclfjedlkbcaaGreatDoor
open Go.RowKit Go.Redl
set_option linter.unusedVariables false
set_option linter.unusedSimpArgs false

set_option maxRecDepth 100000 in
set_option maxHeartbeats 4000000 in
theorem weightdoes_walk (s : SchemaD) (n : NodeD) (u v : Value) (vx : Value) (xs : List PX) (W : World) (hs : s.wt ≤ 1048576) (hn : n.wt ≤ 1048576) (hxl : xs.length ≤ 1048576) (hu : SchemaV W W.heap.size s u) (hv : NodeV W W.heap.size n v) (hx : ReadX W W.heap.size vx xs) :
    Calls Tryz.prog 3 #[u, v, vx] W (fun e w' => e = .returned (.bool true) ∧ Below W.heap.size W w') := by
  have hu0 := hu; have hv0 := hv
  obtain ⟨l, ps, t, ks⟩ := n
  obtain ⟨a, c, css, ea, ec, o0, o1, o2, o3, o4, o5, rfl, -, -, -, -⟩ := hu0.open
  obtain ⟨ap, cp, at_, ct, ak, ck, cs4, rfl, -, -, -, -⟩ := hv0.open
  generalize hnn : NodeD.mk l ps t ks = n at hn hv ⊢
  obtain ⟨xa, xc, rfl, -⟩ := hx.row
  obtain ⟨w0, hw0⟩ : ∃ w0, w0 = (W.alloc (Obj.cells #[.slice a s.rules.length c, strV s.els.type, .int .i64 s.els.text.1, strV s.els.text.2, .int .i64 s.els.other.1, strV s.els.other.2, .slice ea s.els.kids.length ec, .int .i64 s.els.fill, strV s.els.fillT, .int .i64 o0, .int .i64 o1, .int .i64 o2, .int .i64 o3, .int .i64 o4, .int .i64 o5, .int .i64 s.cap] 30)).alloc (Obj.cells #[.bool l, .slice ap ps.length cp, .slice at_ t.length ct, .slice ak ks.length ck] 35) := ⟨_, rfl⟩
  have hb0 : Below W.heap.size W w0 := by rw [hw0]; exact (one_below _ _).trans ((one_below _ _).mono (one_below _ _).size)
  have hA : At w0 W.heap.size [.slice a s.rules.length c, strV s.els.type, .int .i64 s.els.text.1, strV s.els.text.2, .int .i64 s.els.other.1, strV s.els.other.2, .slice ea s.els.kids.length ec, .int .i64 s.els.fill, strV s.els.fillT, .int .i64 o0, .int .i64 o1, .int .i64 o2, .int .i64 o3, .int .i64 o4, .int .i64 o5, .int .i64 s.cap] 30 := by rw [hw0]; exact (At.fresh W _ _).alloc _
  have hN : At w0 (W.heap.size + 1) [.bool l, .slice ap ps.length cp, .slice at_ t.length ct, .slice ak ks.length ck] 35 := by rw [hw0]; exact At.second W _ _ _
  have HF := Lib.hid (fun (w' : World) (hb : Below w0.heap.size w0 w') => few19_c s n _ _ _ xs none 0 0 w' (by omega) (by omega) (by omega) (by simp) (hu.keep (hb0.trans (hb.mono hb0.size)) (hb0.trans (hb.mono hb0.size)).size) (hv.keep (hb0.trans (hb.mono hb0.size)) (hb0.trans (hb.mono hb0.size)).size) (hx.keep (hb0.trans (hb.mono hb0.size)) (hb0.trans (hb.mono hb0.size)).size))
  have HL := Lib.hid (live19_c w0)
  have HA := Lib.hid hA; have HN := Lib.hid hN
  have Hb0 := Lib.hid hb0; have Hw0 := Lib.hid hw0
  have hld := fun (w' : World) (h : At w' W.heap.size [.slice a s.rules.length c, strV s.els.type, .int .i64 s.els.text.1, strV s.els.text.2, .int .i64 s.els.other.1, strV s.els.other.2, .slice ea s.els.kids.length ec, .int .i64 s.els.fill, strV s.els.fillT, .int .i64 o0, .int .i64 o1, .int .i64 o2, .int .i64 o3, .int .i64 o4, .int .i64 o5, .int .i64 s.cap] 30) => load_at (P := Tryz.prog) h Tryz.underlying30 rfl (by kernel_rfl)
  simp [go_sem] at hld
  cases hsm : small19 s n (pxs xs) 0 with
  | false =>
    rw [hsm] at HF
    clear hu hv hu0 hv0 hs hn hb0 hw0 hA hN hx hsm hnn
    go_enter Tryz.func3, Tryz.ntmps3
    go_upto_region 1 with fail
    rw [← Hw0.out]
    clear Hw0
    go_wp2_with fail
    refine HL.out.mono ?_
    rintro e w1 ⟨rfl, hbel⟩
    have Hb1 := Lib.hid hbel
    have hS := hld w1 (HA.out.kept hbel)
    obtain ⟨⟨y0, y1, y2, y3⟩, -, yl⟩ := (HN.out.kept hbel).f4
    have HF1 := Lib.hid (HF.out w1 hbel)
    clear hbel HL HF hld
    go_wp2_with fail
    refine HF1.out.mono ?_
    rintro e w2 ⟨rfl, hbel⟩
    have Hb2 := Lib.hid (Hb0.out.trans ((below_and Hb1.out hbel).mono Hb0.out.size))
    clear hbel HF1 hS y0 y1 y2 y3 yl
    go_wp2_with fail
    go_ret
    exact ⟨rfl, Hb2.out⟩
  | true =>
    rw [hsm] at HF
    obtain ⟨hl40, hl30⟩ := small19_len2 hsm
    have hxm : ∀ x ∈ xs, x.1.length ≤ 100000000 := fun x hx => by have := hl40 x.1 (List.mem_map.2 ⟨x, hx, rfl⟩); omega
    have HBo := Lib.hid (fun (w' : World) (hb : Below W.heap.size W w') => bound_c s n _ _ _ xs w' hs hn hxl hxm (hu.keep hb hb.size) (hv.keep hb hb.size) (hx.keep hb hb.size))
    have HBr := Lib.hid (fun (w' : World) (hb : Below W.heap.size W w') => bound19_c s n _ _ _ xs w' hs hn hxl hxm (hu.keep hb hb.size) (hv.keep hb hb.size) (hx.keep hb hb.size))
    have HRg := Lib.hid (fun (w' : World) (hb : Below W.heap.size W w') => region_c n _ W.heap.size _ xs w' (by omega) (hv.keep hb (Nat.le_refl _)) hb.size (hx.keep hb (Nat.le_refl _)) (by omega) hxm)
    have HRr := Lib.hid (fun (w' : World) (hb : Below W.heap.size W w') => region19_c n _ _ xs w' hn hxl (hv.keep hb hb.size) (hx.keep hb hb.size))
    obtain ⟨RG, hRG⟩ : ∃ RG, RG = regN n (pxs xs) := ⟨_, rfl⟩
    rw [← hRG] at HRg HRr
    obtain ⟨⟨B1, B2⟩, hBD⟩ : ∃ z, boundS s n (pxs xs) = z := ⟨_, rfl⟩
    rw [hBD] at HBo HBr
    simp only at HBo HBr
    have HLD := Lib.hid hld
    have e1 : (B1 == B1) = true := by simp
    have e2 : (B2 == B2) = true := by simp
    have e3 : ((RG : Int) == (RG : Int)) = true := by simp
    clear hu hv hu0 hv0 hs hn hb0 hw0 hA hN hx hsm hnn hl40 hl30 hxm hRG hBD hld
    go_enter Tryz.func3, Tryz.ntmps3
    go_upto_region 1 with fail
    rw [← Hw0.out]
    clear Hw0
    go_wp2_with fail
    refine HL.out.mono ?_
    rintro e w1 ⟨rfl, hbel⟩
    have Hb1 := Lib.hid hbel
    have hS := HLD.out w1 (HA.out.kept hbel)
    obtain ⟨⟨y0, y1, y2, y3⟩, -, yl⟩ := (HN.out.kept hbel).f4
    have HF1 := Lib.hid (HF.out w1 hbel)
    clear hbel HL HF
    go_wp2_with fail
    refine HF1.out.mono ?_
    rintro e w2 ⟨rfl, hbel⟩
    have Hb2 := Lib.hid (below_and Hb1.out hbel)
    have hS2 := HLD.out w2 (HA.out.kept Hb2.out)
    have HBo2 := Lib.hid (HBo.out w2 (Hb0.out.trans (Hb2.out.mono Hb0.out.size)))
    have zl2 := (HA.out.kept Hb2.out).lt
    clear hbel HF1 hS y0 y1 y2 y3 yl HBo
    obtain ⟨⟨y0, y1, y2, y3⟩, -, yl⟩ := (HN.out.kept Hb2.out).f4
    go_wp2_with fail
    refine HBo2.out.mono ?_
    rintro e w3 ⟨rfl, hbel⟩
    have Hb3 := Lib.hid (below_and Hb2.out hbel)
    have HBr3 := Lib.hid (HBr.out w3 (Hb0.out.trans (Hb3.out.mono Hb0.out.size)))
    clear hbel HBo2 hS2 zl2 y0 y1 y2 y3 yl HBr
    obtain ⟨⟨y0, y1, y2, y3⟩, -, yl⟩ := (HN.out.kept Hb3.out).f4
    have hS3 := HLD.out w3 (HA.out.kept Hb3.out)
    have zl3 := (HA.out.kept Hb3.out).lt
    go_wp2_with fail
    refine HBr3.out.mono ?_
    rintro e w4 ⟨rfl, hbel⟩
    have Hb4 := Lib.hid (below_and Hb3.out hbel)
    clear hbel HBr3 hS3 zl3 y0 y1 y2 y3 yl
    have HbW := Lib.hid (Hb0.out.trans (Hb4.out.mono Hb0.out.size))
    have HR1 := Lib.hid (fun (p : Beh w4) => HRg.out p.w (HbW.out.trans (p.h.mono HbW.out.size)))
    have HR2 := Lib.hid (fun (p : Beh w4) => HRr.out p.w (HbW.out.trans (p.h.mono HbW.out.size)))
    have X : ∀ p : Beh w4, (p.w.cell? ⟨W.heap.size + 1, 0, none⟩ = some (.bool l) ∧ p.w.cell? ⟨W.heap.size + 1, 1, none⟩ = some (.slice ap ps.length cp) ∧ p.w.cell? ⟨W.heap.size + 1, 2, none⟩ = some (.slice at_ t.length ct) ∧ p.w.cell? ⟨W.heap.size + 1, 3, none⟩ = some (.slice ak ks.length ck)) ∧ W.heap.size + 1 < p.w.heap.size := fun p => ⟨(HN.out.kept (below_and Hb4.out p.h)).f4.1, (HN.out.kept (below_and Hb4.out p.h)).lt⟩
    have X0 := fun p => (X p).1.1
    have X1 := fun p => (X p).1.2.1
    have X2 := fun p => (X p).1.2.2.1
    have X3 := fun p => (X p).1.2.2.2
    have X4 := fun p => (X p).2
    clear X HRg HRr
    go_upto_region 7 with fail
    refine wp_region_beh (by kernel_rfl) (by kernel_rfl) ?_
    repeat (go_big_quiet_step (first | exact calls_beh (HR1.out _) | exact calls_beh (HR2.out _)))
    refine wpQuiet_nil ?_
    rintro _ ⟨p, rfl⟩
    go_wp2_with fail
    go_ret
    exact ⟨ret_bool (by simp), HbW.out.trans (p.h.mono HbW.out.size)⟩

end Go.Proofs.YtajclfjedlkbcaaGreatDoor
/- The frame of the Upto laws whose rows list no table: how paths and schemas that came in are read. -/
namespace Go.Proofs.YtajclfjedlkbcaaGreatDoor
open Go.ChangeShapes Go.WideShapes Go.ChangeAt Go.WideMaps Go.WideElems Go.RowKit Go.Redl Go.Deep
set_option linter.unusedVariables false

theorem own : ownKnob Tryz.prog.godebug = none := by kernel_rfl
theorem laidOut : laidOutB Tryz.prog = true := by kernel_rfl

def IntΦ {H : Type} (z : Int) (cs : List Value) (d : DataW H) : Prop := cs = [.int .i64 z] ∧ 1 ≤ Rows.uptoBulk d
theorem elems_path {H : Type} : ∀ {l : List Int} {css : List Value} {ds : List (DataW H)}, Elems IntΦ l css ds → css = l.map (Value.int .i64) ∧ l.length ≤ Rows.uptoBulkAll ds
  | [], css, ds, h => by obtain ⟨rfl, rfl⟩ := h; exact ⟨rfl, by simp⟩
  | z :: l, css, ds, h => by
    obtain ⟨c, cs, d, ds', rfl, rfl, ⟨rfl, hb⟩, hr⟩ := h
    obtain ⟨rfl, h3⟩ := elems_path hr
    exact ⟨rfl, by simp only [List.length_cons, Rows.uptoBulkAll]; omega⟩
theorem path_of_trod {H : Type} {enc : TypeId × Value → H} {W : World} {fuel : Nat} {cs : List Value} {x : DataW H × List MemPlace} (h : DataW.trod enc Tryz.prog W 0 (fun _ => true) true fuel 47 cs = some x) :
    ∃ a cap zs, cs = [.slice a (List.length zs) cap] ∧ RowA W W.heap.size 1 a (List.length zs) cap (zs.map (Value.int .i64)) ∧ zs.length + 1 ≤ Rows.uptoBulk x.1 := by
  obtain ⟨a, cap, ys, css, ds, rfl, hr, hel, hs⟩ := row_of_trod IntΦ Tryz.underlying47 (show Tryz.prog.cellsOf 3 = 1 by kernel_rfl) (by decide)
    (fun m cs x _ hx => by
      obtain ⟨xv, xp⟩ := x
      obtain ⟨z, e0, e1, -⟩ := DataW.trod_int Tryz.underlying3 hx
      have e2 := (Prod.mk.inj e1).1
      subst e2
      exact ⟨z, e0, by simp [Rows.uptoBulk]⟩) (fun y c d hh => by obtain ⟨rfl, -⟩ := hh; intro u hu; simp at hu; subst hu; rfl) h
  obtain ⟨rfl, hlen⟩ := elems_path hel
  have m0 := slice_bulk (n := 0) (hs.imp (fun h => ⟨h.1, rfl, h.2.2⟩) id)
  exact ⟨a, cap, ys, rfl, hr, by omega⟩

end Go.Proofs.YtajclfjedlkbcaaGreatDoor
/- The frame: how a list of paths that came in is read. -/
namespace Go.Proofs.YtajclfjedlkbcaaGreatDoor
open Go.ChangeShapes Go.WideShapes Go.ChangeAt Go.WideMaps Go.WideElems Go.RowKit Go.Redl Go.Deep
set_option linter.unusedVariables false

def PathΦ {H : Type} (W : World) (x : PX) (cs : List Value) (d : DataW H) : Prop := cs = [pxV x] ∧ RowA W W.heap.size 1 x.2.1 x.1.length x.2.2 (x.1.map (Value.int .i64)) ∧ x.1.length + 1 ≤ Rows.uptoBulk d
theorem elems_px {H : Type} {W : World} : ∀ {l : List PX} {css : List Value} {ds : List (DataW H)}, Elems (PathΦ W) l css ds → css = l.map pxV ∧ (∀ x ∈ l, RowA W W.heap.size 1 x.2.1 x.1.length x.2.2 (x.1.map (Value.int .i64))) ∧ l.length ≤ Rows.uptoBulkAll ds
  | [], css, ds, h => by obtain ⟨rfl, rfl⟩ := h; exact ⟨rfl, by simp, by simp⟩
  | x :: l, css, ds, h => by
    obtain ⟨c, cs, d, ds', rfl, rfl, ⟨rfl, hr, hb⟩, ht⟩ := h
    obtain ⟨rfl, h2, h3⟩ := elems_px ht
    refine ⟨rfl, fun y hy => ?_, by simp only [List.length_cons, Rows.uptoBulkAll]; omega⟩
    rcases List.mem_cons.1 hy with rfl | hy
    · exact hr
    · exact h2 y hy
theorem pathrow_of_trod {H : Type} {enc : TypeId × Value → H} {W : World} {fuel : Nat} {cs : List Value} {x : DataW H × List MemPlace} (h : DataW.trod enc Tryz.prog W 0 (fun _ => true) true fuel 36 cs = some x) :
    ∃ a cap xs, cs = [.slice a (List.length xs) cap] ∧ ReadX W W.heap.size (.slice a (List.length xs) cap) xs ∧ xs.length + 1 ≤ Rows.uptoBulk x.1 := by
  obtain ⟨a, cap, ys, css, ds, rfl, hr, hel, hs⟩ := row_of_trod (PathΦ W) Tryz.underlying36 (show Tryz.prog.cellsOf 47 = 1 by kernel_rfl) (by decide)
    (fun m cs x _ hx => by
      obtain ⟨pa, pc, zs, rfl, h1, h2⟩ := path_of_trod hx
      exact ⟨(zs, pa, pc), rfl, h1, h2⟩) (fun y c d hh => by obtain ⟨rfl, -⟩ := hh; intro u hu; simp at hu; subst hu; rfl) h
  obtain ⟨rfl, hall, hlen⟩ := elems_px hel
  have m0 := slice_bulk (n := 0) (hs.imp (fun h => ⟨h.1, rfl, h.2.2⟩) id)
  exact ⟨a, cap, ys, rfl, ⟨⟨a, cap, rfl, hr⟩, hall⟩, by omega⟩

end Go.Proofs.YtajclfjedlkbcaaGreatDoor
/- Walks: strconv.FormatInt at base 16; glyph.plain, glyph.escaped. -/
namespace Go.Proofs.YtajclfjedlkbcaaGreatDoor
open Go.RowKit Go.Redl
set_option linter.unusedVariables false

end Go.Proofs.YtajclfjedlkbcaaGreatDoor
/- The frame of the Upto laws at this seat. -/
namespace Go.Proofs.YtajclfjedlkbcaaGreatDoor
open Go.ChangeShapes Go.WideShapes Go.ChangeAt Go.WideMaps Go.WideElems Go.RowKit Go.Redl
set_option linter.unusedVariables false


def dB64 : List Int := [0, 1, 56, 2, 57, 49, 28, 3, 61, 58, 42, 50, 38, 29, 17, 4, 62, 47, 59, 36, 45, 43, 51, 22, 53, 39, 33, 30, 24, 18, 12, 5, 63, 55, 48, 27, 60, 41, 37, 16, 46, 35, 44, 21, 52, 32, 23, 11, 54, 26, 40, 15, 34, 20, 31, 10, 25, 14, 19, 9, 13, 8, 7, 6]

end Go.Proofs.YtajclfjedlkbcaaGreatDoor
