/- Walks: dirty's Ready, All. -/
import Derived.Test.YtiinmgccjlmoaaaRKK
namespace Go.Proofs.Ytiinmgccjlmoaaa
open Go.RowKit Go.Redl
set_option linter.unusedVariables false
set_option linter.unusedSimpArgs false

/-- Which can be looked at first: those that are not below the last one that is kept. -/
def readyF : Option (List Int) → List (List Int) → List (List Int)
  | _, [] => []
  | none, p :: l => p :: readyF (some p) l
  | some q, p :: l => if aboveB q p then readyF (some q) l else p :: readyF (some p) l
def readyL (l : List (List Int)) : List (List Int) := readyF none l
theorem ready_ent : ∀ args w, (callFunc 15 args).run Try.prog w = .ok (.enter 15 args) w := by intro args w; kernel_rfl
theorem setL_len (l : List (List Int)) : (setL l).length ≤ l.length := by
  induction l with
  | nil => simp [setL]
  | cons p l ih =>
    have h : ∀ (p : List Int) (l : List (List Int)), (insL p l).length ≤ l.length + 1 := by
      intro p l
      induction l with
      | nil => simp [insL]
      | cons q l ih => unfold insL; split; · simp
                       split; · simp
                       · simp; exact ih
    have := h p (setL l)
    show (insL p (setL l)).length ≤ _
    simp; omega
set_option maxRecDepth 100000 in
set_option maxHeartbeats 2000000 in
theorem ready_c (B : Nat) (vx : Value) (xs : List PX) (W : World) (hB : B ≤ W.heap.size) (hx : ReadX W B vx xs) (hn : xs.length ≤ 100000000) (hnp : ∀ x ∈ xs, x.1.length ≤ 100000000) :
    Calls Try.prog 15 #[vx] W (ListX W (readyL (setL (pxs xs)))) := by
  obtain ⟨a, c, rfl, hrow⟩ := hx.row
  have HC := Lib.hid (clone_path B xs.length a c (xs.map pxV) W hrow hB hn)
  have HS := Lib.hid (fun (w1 : World) (v : Value) (ho : w1.ownsRow W.heap.size 36 1 v xs.length (xs.map pxV)) (hb : Below W.heap.size W w1) => set_c W.heap.size 0 v xs w1 ⟨ho, fun x hx' => by
    refine RowQ.keep ((hx.all x hx').q hB) hb.size (fun b _ hlt => hb.block b hlt) fun b hb' _ => ⟨Nat.zero_le _, fun e => ?_⟩
    have := (ho.lt b e).1
    omega⟩ hn)
  have HP := Lib.hid hnp
  obtain ⟨T, hT⟩ : ∃ T, T = setL (pxs xs) := ⟨_, rfl⟩
  rw [← hT] at HS ⊢
  have HTl := Lib.hid (show T.length ≤ 100000000 from by rw [hT]; exact Nat.le_trans (setL_len _) (by simpa using hn))
  obtain ⟨R, hR⟩ : ∃ R, R = readyL T := ⟨_, rfl⟩
  have HR := Lib.hid (show readyF none T = R from hR.symm)
  rw [← hR]
  clear hx hrow hnp hT hR hB
  go_enter Try.func15, Try.ntmps15
  go_wp2_with fail
  refine HC.out.mono ?_
  rintro e w1 ⟨v, rfl, hown, hbel⟩
  have HS1 := Lib.hid (HS.out w1 v hown hbel)
  have Hge := Lib.hid (show ∀ k, v.ownBlock = some k → W.heap.size ≤ k from fun k hk => (hown.lt k hk).1)
  obtain ⟨va, vc, hv, -⟩ := rowq_own hown (pxV_ones xs)
  subst hv
  have Hb1 := Lib.hid hbel
  clear hown hbel HC HS
  go_wp2_with fail
  refine HS1.out.mono ?_
  rintro e w2 ⟨v2, ys, rfl, hy, hp, hm, -, hgr⟩
  obtain ⟨ya, yc, hy2⟩ := hy.form
  subst hy2
  have Hb2 := Lib.hid (Hb1.out.trans (hgr.old Hb1.out.size Hge.out))
  have HY := Lib.hid hy.read
  have hyl : ys.length ≤ 100000000 := by have h := congrArg List.length hp; simp at h; have := HTl.out; omega
  have HYP := Lib.hid (show ∀ y ∈ ys, y.1.length ≤ 100000000 from fun y hy' => HP.out y (hm y hy'))
  rw [← hp] at HR
  have Hbw := Lib.hid Hb2.out.size
  clear hy hp hm hgr HS1 HP HTl Hb1 Hge
  go_wp2_with fail
  go_loopg [10, 3] ys.length (fun g i o wr => ∃ (k : Nat) (os : List PX), i = .int .i64 k ∧ k + g = ys.length ∧ os.length ≤ k ∧ Hid (pxs os ++ readyF ((os.getLast?).map (·.1)) (pxs (ys.drop k)) = R) ∧ Hid (RowX wr w2.heap.size w2.heap.size o os) ∧ Hid (Below w2.heap.size w2 wr))
  case atStart => exact ⟨0, [], rfl, by omega, by simp, (show pxs [] ++ readyF none (pxs (ys.drop 0)) = R by simpa using HR.out), RowX.nil _ _ _, Below.refl _ _⟩
  case round =>
    obtain ⟨k, os, rfl, hg, hok, hos, ho, hbr⟩ := hrel
    obtain ⟨oa, oc, hof⟩ := ho.out.form
    subst hof
    by_cases hlt : k < ys.length
    · have hlti : (k : Int) < ys.length := by omega
      have hYr := HY.out.keep hbr.out hbr.out.size
      obtain ⟨b, off, rfl, hb, hc⟩ := hYr.at_ k hlt
      have Hall := Lib.hid (hYr.all ys[k] (List.getElem_mem hlt))
      have Hlen := Lib.hid (HYP.out ys[k] (List.getElem_mem hlt))
      have Hst := Lib.hid (show pxs (ys.drop k) = ys[k].1 :: pxs (ys.drop (k + 1)) by rw [List.drop_eq_getElem_cons hlt]; rfl)
      generalize ys[k] = x at hc Hall Hlen Hst
      obtain ⟨x0, xa, xc⟩ := x
      unfold pxV at hc
      simp only at hc Hall Hlen Hst
      have Hb := Lib.hid hb
      clear hYr hb
      by_cases he : os = []
      · have Hnew := Lib.hid (show pxs os ++ ([x0] ++ readyF (some x0) (pxs (ys.drop (k + 1)))) = R by
          have h := hos.out
          rw [he, Hst.out] at h
          rw [he]; exact h)
        have hl0 : os.length = 0 := by rw [he]; rfl
        have hlz : ((os.length : Int) == 0) = true := by simp [hl0]
        have Hl0 := Lib.hid hl0
        clear he hos hl0
        go_wp2_with fail

        refine (clone_int wr.heap.size x0.length xa xc _ wr Hall.out ?_ Hlen.out).mono ?_
        · exact Nat.le_refl _
        rintro e w4 ⟨cv, rfl, hown, hbel⟩
        obtain ⟨ca, cc, rfl, hq⟩ := rowq_own hown (ints_one .i64 x0)
        have Hb4 := Lib.hid (below_and hbr.out hbel)
        have Ho4 := Lib.hid (ho.out.below hbel)
        have Hq := Lib.hid (show PxQ w4 (fun b => w2.heap.size ≤ b ∧ (Value.slice oa os.length oc).ownBlock ≠ some b) (x0, ca, cc) from rowq_imp hq fun b hb => ⟨Nat.le_trans hbr.out.size hb, fun e => by have := (ho.out.own.lt b e).2; omega⟩)
        clear hbel hown hq
        go_wp2_with (at_builtin; refine wpList_pushx rfl _ _ rfl Try.underlying44 info_slc w2.heap.size w2.heap.size (Value.slice oa os.length oc) os rfl ?hO (x0, ca, cc) rfl rfl ?hq ?hn ?hM ?_)
        case hO => exact Ho4.out
        case hq => exact Hq.out
        case hn => omega
        case hM => exact Hb4.out.size
        intro v' w5 hy5 hb5
        have Hy5 := Lib.hid hy5; have Hb5 := Lib.hid (Hb4.out.trans hb5)
        clear hy5 hb5 Hq
        go_wp2_with fail
        go_roundg (ys.length - (k + 1))
        case measure => omega
        case rel =>
          refine ⟨k + 1, os ++ [(x0, ca, cc)], by go_num, by omega, by simp; omega, ?_, Hy5, Hb5⟩
          show pxs (os ++ [(x0, ca, cc)]) ++ readyF (((os ++ [(x0, ca, cc)]).getLast?).map (·.1)) (pxs (ys.drop (k + 1))) = R
          rw [List.getLast?_append, pxs_append, pxs_one, List.append_assoc]
          exact Hnew.out
      · obtain ⟨m, hm⟩ : ∃ m, os.length = m + 1 := ⟨os.length - 1, by have : os.length ≠ 0 := fun h => he (List.eq_nil_of_length_eq_zero h); omega⟩
        have hml : m < os.length := by omega
        have hlz : ((os.length : Int) == 0) = false := beq_eq_false_iff_ne.2 (by omega)
        have hsub : IntKind.i64.wrap ((os.length : Int) - 1) = (m : Int) := by rw [show ((os.length : Int) - 1) = (m : Int) by omega]; exact IntWalk.i64_in _ (by omega)
        have hmi : (m : Int) < os.length := by omega
        obtain ⟨b2, off2, rfl, hb2, hc2⟩ := ho.out.read.at_ m hml
        have Hall2 := Lib.hid (ho.out.read.all os[m] (List.getElem_mem hml))
        have Hlast := Lib.hid (show os.getLast? = some os[m] by rw [List.getLast?_eq_getElem?, show os.length - 1 = m by omega, List.getElem?_eq_getElem hml])
        have Hb2 := Lib.hid hb2
        generalize os[m] = q at hc2 Hall2 Hlast
        obtain ⟨q0, qa, qc⟩ := q
        unfold pxV at hc2
        simp only at hc2 Hall2 Hlast
        have HAB := Lib.hid (above_c q0 x0 qa xa qc xc wr.heap.size wr Hall2.out Hall.out)
        have Hos := Lib.hid (show pxs os ++ readyF (some q0) (x0 :: pxs (ys.drop (k + 1))) = R by
          have h := hos.out
          rw [Hlast.out, Hst.out] at h
          exact h)
        have Hm := Lib.hid hm
        clear he hos hb2 hm
        cases hab : aboveB q0 x0 with
        | true =>
          rw [hab] at HAB
          have Hnew := Lib.hid (show pxs os ++ readyF (some q0) (pxs (ys.drop (k + 1))) = R by
            have h := Hos.out
            unfold readyF at h
            rw [if_pos hab] at h
            exact h)
          clear hab Hos
          go_wp2_with fail
          refine HAB.out.mono ?_
          rintro e w3 ⟨rfl, hd⟩
          have hbel := hd.below (w' := w3) wr.heap.size
          have Hb3 := Lib.hid (below_and hbr.out hbel)
          have Ho3 := Lib.hid (ho.out.below hbel)
          clear hd hbel HAB hc hc2
          go_wp2_with fail
          go_roundg (ys.length - (k + 1))
          case measure => omega
          case rel =>
            refine ⟨k + 1, os, by go_num, by omega, by omega, ?_, Ho3, Hb3⟩
            show pxs os ++ readyF (os.getLast?.map (·.1)) (pxs (ys.drop (k + 1))) = R
            rw [Hlast.out]
            exact Hnew.out
        | false =>
          rw [hab] at HAB
          have Hnew := Lib.hid (show pxs os ++ ([x0] ++ readyF (some x0) (pxs (ys.drop (k + 1)))) = R by
            have h := Hos.out
            unfold readyF at h
            rw [if_neg (by simp [hab])] at h
            exact h)
          clear hab Hos
          go_wp2_with fail
          refine HAB.out.mono ?_
          rintro e w3 ⟨rfl, hd⟩
          have hbel3 := hd.below (w' := w3) wr.heap.size
          have Hb3 := Lib.hid (below_and hbr.out hbel3)
          have Ho3 := Lib.hid (ho.out.below hbel3)
          have Hall3 := Lib.hid (Hall.out.keep hbel3 (Nat.le_refl _))
          have Hs3 := Lib.hid hbel3.size
          clear hd hbel3 HAB hc hc2
          go_wp2_with fail

          refine (clone_int wr.heap.size x0.length xa xc _ w3 Hall3.out ?_ Hlen.out).mono ?_
          · exact Hs3.out
          rintro e w4 ⟨cv, rfl, hown, hbel⟩
          obtain ⟨ca, cc, rfl, hq⟩ := rowq_own hown (ints_one .i64 x0)
          have Hb4 := Lib.hid (below_and Hb3.out hbel)
          have Ho4 := Lib.hid (Ho3.out.below hbel)
          have Hq := Lib.hid (show PxQ w4 (fun b => w2.heap.size ≤ b ∧ (Value.slice (some ⟨b2, off2, none⟩) os.length oc).ownBlock ≠ some b) (x0, ca, cc) from rowq_imp hq fun b hb => ⟨Nat.le_trans Hb3.out.size hb, fun e => by have := (Ho3.out.own.lt b e).2; omega⟩)
          clear hbel hown hq
          go_wp2_with (at_builtin; refine wpList_pushx rfl _ _ rfl Try.underlying44 info_slc w2.heap.size w2.heap.size (Value.slice (some ⟨b2, off2, none⟩) os.length oc) os rfl ?hO (x0, ca, cc) rfl rfl ?hq ?hn ?hM ?_)
          case hO => exact Ho4.out
          case hq => exact Hq.out
          case hn => omega
          case hM => exact Hb4.out.size
          intro v' w5 hy5 hb5
          have Hy5 := Lib.hid hy5; have Hb5 := Lib.hid (Hb4.out.trans hb5)
          clear hy5 hb5 Hq
          go_wp2_with fail
          go_roundg (ys.length - (k + 1))
          case measure => omega
          case rel =>
            refine ⟨k + 1, os ++ [(x0, ca, cc)], by go_num, by omega, by simp; omega, ?_, Hy5, Hb5⟩
            show pxs (os ++ [(x0, ca, cc)]) ++ readyF (((os ++ [(x0, ca, cc)]).getLast?).map (·.1)) (pxs (ys.drop (k + 1))) = R
            rw [List.getLast?_append, pxs_append, pxs_one, List.append_assoc]
            exact Hnew.out
    · obtain rfl : k = ys.length := by omega
      have Hfin := Lib.hid (show pxs os = R by have := hos.out; rw [List.drop_length] at this; simpa [readyF] using this)
      clear hos
      go_wp2_with fail
      go_ret
      exact ⟨_, os, rfl, ho.out.from Hbw.out Hbw.out, Hfin.out, Hb2.out.trans (hbr.out.mono Hbw.out)⟩

/-- All nodes' paths. -/
abbrev allN (n : NodeD) : List (List Int) := pathsW (fun _ => true) n []
theorem paths_ent : ∀ args w, (callFunc 17 args).run Try.prog w = .ok (.enter 17 args) w := by intro args w; kernel_rfl
theorem dall_ent : ∀ args w, (callFunc 16 args).run Try.prog w = .ok (.enter 16 args) w := by intro args w; kernel_rfl
/-- All paths, as a row of their own. -/
theorem allX_c (n : NodeD) (v : Value) (W : World) (hw : n.wt ≤ 100000000) (hv : NodeV W W.heap.size n v) : Calls Try.prog 17 #[v] W (ListX W (allN n)) := by
  refine (allO_c n v W hw hv).mono fun e w' h => ?_
  obtain ⟨u, cs, rfl, h1, h2, h3⟩ := h
  obtain ⟨xs, hx, rfl, h4⟩ := pathsQ_px h2
  refine ⟨u, xs, rfl, ⟨?_, h4⟩, hx.symm, h3⟩
  have hl : (allN n).length = xs.length := by rw [show allN n = pxs xs from hx]; simp
  rw [← hl]; exact h1
set_option maxRecDepth 100000 in
set_option maxHeartbeats 1000000 in
theorem dall_c (n : NodeD) (v : Value) (B : Nat) (W : World) (hw : n.wt ≤ 100000000) (hv : NodeV W B n v) (hB : B ≤ W.heap.size) : Calls Try.prog 16 #[v] W (ListX W (setL ((allN n).filter (isElem n)))) := by
  have hv0 := hv
  have hpl := pathsW_len (fun _ => true) n []
  obtain ⟨lf, ps, t, ks⟩ := n
  obtain ⟨ap, cp, at_, ct, ak, ck, css, rfl, -, -, -, -⟩ := hv0.open
  generalize NodeD.mk lf ps t ks = n at hv hw hpl ⊢
  obtain ⟨w0, hw0⟩ : ∃ w0, w0 = W.alloc (Obj.cells #[.bool lf, .slice ap ps.length cp, .slice at_ t.length ct, .slice ak ks.length ck] 35) := ⟨_, rfl⟩
  have hb0 : Below W.heap.size W w0 := by rw [hw0]; exact one_below _ _
  have hA : At w0 W.heap.size [.bool lf, .slice ap ps.length cp, .slice at_ t.length ct, .slice ak ks.length ck] 35 := by rw [hw0]; exact At.fresh W _ _
  have HP := Lib.hid (fun (w1 : World) (hb : Below w0.heap.size w0 w1) => allX_c n _ w1 hw (hv.keep ((hb0.trans (hb.mono hb0.size)).mono hB) (Nat.le_trans hB (hb0.trans (hb.mono hb0.size)).size)))
  obtain ⟨R, hR⟩ : ∃ R, R = allN n := ⟨_, rfl⟩
  have HE := Lib.hid (fun (w1 : World) (hb : Below W.heap.size W w1) (u : Value) (ys : List PX) (hy : RowX w1 w0.heap.size w0.heap.size u ys) (hl : ys.length ≤ 100000000) => elements_c n _ B w0.heap.size w0.heap.size u ys w1 hw (hv.keep (hb.mono hB) (Nat.le_refl _)) (Nat.le_trans hB hb.size) (Nat.le_trans hB hb0.size) hy hl)
  have HR := Lib.hid (show R.length ≤ 100000000 by rw [hR]; exact Nat.le_trans hpl hw)
  simp only [← hR] at HP ⊢
  have Hb0 := Lib.hid hb0; have Hw0 := Lib.hid hw0; have HA := Lib.hid hA
  have HS0 := Lib.hid (fun (w' : World) (hb : Below w0.heap.size w0 w') => (HA.out.kept hb).f4.1)
  clear hv hv0 hw hb0 hw0 hA hB hpl hR
  go_enter Try.func16, Try.ntmps16
  go_upto_region 1 with fail
  rw [← Hw0.out]
  clear Hw0
  go_region_held3 (fun w' => w'.cell? ⟨W.heap.size, 0, none⟩ = some (.bool lf) ∧ w'.cell? ⟨W.heap.size, 1, none⟩ = some (.slice ap ps.length cp) ∧ w'.cell? ⟨W.heap.size, 2, none⟩ = some (.slice at_ t.length ct) ∧ w'.cell? ⟨W.heap.size, 3, none⟩ = some (.slice ak ks.length ck)) (refine HS0.out _ (by ((repeat (first | with_reducible exact Hb2.out | with_reducible exact Hb1.out | with_reducible exact Below.refl _ _ | with_reducible refine Below.drew ?_ | with_reducible refine Below.alloc ?_ ?_ _ | with_reducible refine Below.setCell ?_ ?_ _)) <;> (first | with_reducible exact Nat.le_refl _ | with_reducible exact Hb2.out.size | with_reducible exact Hb1.out.size | (have hsz := Hb2.out.size; simp [World.setCell]; omega) | (have hsz := Hb1.out.size; simp [World.setCell]; omega) | (simp; done) | (simp; omega) | omega))))
    (first
    | (refine step_call rfl 17 _ _ rfl paths_ent [.agg #[.bool lf, .slice ap ps.length cp, .slice at_ t.length ct, .slice ak ks.length ck]] ?_ _ (HP.out _ (by ((repeat (first | with_reducible exact Below.refl _ _ | with_reducible refine Below.drew ?_ | with_reducible refine Below.alloc ?_ ?_ _ | with_reducible refine Below.setCell ?_ ?_ _)) <;> (first | with_reducible exact Nat.le_refl _ | (simp; done) | (simp; omega) | omega)))) ?_
       · go_simp
       rintro e w1 ⟨u, ys, rfl, hy, hp, hbel⟩
       obtain ⟨ua, uc, hu⟩ := hy.form
       subst hu
       refine ⟨_, rfl, ?_⟩
       have Hb1 := Lib.hid (below_and (w0 := w0) (by ((repeat (first | with_reducible exact Below.refl _ _ | with_reducible refine Below.drew ?_ | with_reducible refine Below.alloc ?_ ?_ _ | with_reducible refine Below.setCell ?_ ?_ _)) <;> (first | with_reducible exact Nat.le_refl _ | (simp; done) | (simp; omega) | omega))) hbel)
       have HbW := Lib.hid (Hb0.out.trans (Hb1.out.mono Hb0.out.size))
       have Hy := Lib.hid (hy.from (M' := w0.heap.size) (L' := w0.heap.size) (by exact Nat.le_refl _) (by exact Nat.le_refl _))
       have Hp := Lib.hid hp
       have Hyl := Lib.hid (show ys.length ≤ 100000000 by have := HR.out; have h := congrArg List.length hp; simp at h; omega)
       clear hy hp hbel)
    | (refine step_call rfl 46 _ _ rfl elements_ent [.agg #[.bool lf, .slice ap ps.length cp, .slice at_ t.length ct, .slice ak ks.length ck], .slice ua ys.length uc] ?_ _ (HE.out _ HbW.out _ ys Hy.out Hyl.out) ?_
       · go_simp
       rintro e w2 ⟨v', zs, rfl, hz, hp, -, -, hgr⟩
       obtain ⟨va, vc, hv'⟩ := hz.form
       subst hv'
       refine ⟨_, rfl, ?_⟩
       have Hz := Lib.hid hz; have Hpz := Lib.hid hp
       have Hb2 := Lib.hid (Hb1.out.grown hgr Hb1.out.size (fun k hk => Hy.out.ge k hk))
       clear hz hp hgr))
  all_goals
    go_wp2_with fail
    go_ret
    exact ⟨_, zs, rfl, Hz.out.from Hb0.out.size Hb0.out.size, by rw [Hpz.out, Hp.out], Hb0.out.trans (Hb2.out.mono Hb0.out.size)⟩

end Go.Proofs.Ytiinmgccjlmoaaa
