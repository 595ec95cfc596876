/- Parts of the proof, one behind the other: RKL, RKM, RKN, RVJ, RHE. -/
import Derived.Test.YtajclfjedlkbcaaGreatDoorWD7
import Derived.Test.YtajclfjedlkbcaaGreatDoorWD4
import Derived.Laws.IdiomStrings
import Derived.Test.YtajclfjedlkbcaaGreatDoorWD5
/- Walks: dirty's Ready, All. -/
namespace Go.Proofs.YtajclfjedlkbcaaGreatDoor
open Go.RowKit Go.Redl
set_option linter.unusedVariables false
set_option linter.unusedSimpArgs false

/-- Which can be looked at first: those that are not below the last one that is kept. -/
def readyF : Option (List Int) → List (List Int) → List (List Int)
  | _, [] => []
  | none, p :: l => p :: readyF (some p) l
  | some q, p :: l => if aboveB q p then readyF (some q) l else p :: readyF (some p) l
def readyL (l : List (List Int)) : List (List Int) := readyF none l
theorem ready_ent : ∀ args w, (callFunc 17 args).run Tryz.prog w = .ok (.enter 17 args) w := by intro args w; kernel_rfl
theorem setL_len (l : List (List Int)) : (setL l).length ≤ l.length := by
  induction l with
  | nil => simp [setL]
  | cons p l ih =>
    have h : ∀ (p : List Int) (l : List (List Int)), (insL p l).length ≤ l.length + 1 := by
      intro p l
      induction l with
      | nil => simp [insL]
      | cons q l ih => unfold insL; split; · simp
                       split; · simp
                       · simp; exact ih
    have := h p (setL l)
    show (insL p (setL l)).length ≤ _
    simp; omega
set_option maxRecDepth 100000 in
set_option maxHeartbeats 2000000 in
theorem ready_c (B : Nat) (vx : Value) (xs : List PX) (W : World) (hB : B ≤ W.heap.size) (hx : ReadX W B vx xs) (hn : xs.length ≤ 100000000) (hnp : ∀ x ∈ xs, x.1.length ≤ 100000000) :
    Calls Tryz.prog 17 #[vx] W (ListX W (readyL (setL (pxs xs)))) := by
  obtain ⟨a, c, rfl, hrow⟩ := hx.row
  have HC := Lib.hid (clone_path B xs.length a c (xs.map pxV) W hrow hB hn)
  have HS := Lib.hid (fun (w1 : World) (v : Value) (ho : w1.ownsRow W.heap.size 47 1 v xs.length (xs.map pxV)) (hb : Below W.heap.size W w1) => set_c W.heap.size 0 v xs w1 ⟨ho, fun x hx' => by
    refine RowQ.keep ((hx.all x hx').q hB) hb.size (fun b _ hlt => hb.block b hlt) fun b hb' _ => ⟨Nat.zero_le _, fun e => ?_⟩
    have := (ho.lt b e).1
    omega⟩ hn)
  have HP := Lib.hid hnp
  obtain ⟨T, hT⟩ : ∃ T, T = setL (pxs xs) := ⟨_, rfl⟩
  rw [← hT] at HS ⊢
  have HTl := Lib.hid (show T.length ≤ 100000000 from by rw [hT]; exact Nat.le_trans (setL_len _) (by simpa using hn))
  obtain ⟨R, hR⟩ : ∃ R, R = readyL T := ⟨_, rfl⟩
  have HR := Lib.hid (show readyF none T = R from hR.symm)
  rw [← hR]
  clear hx hrow hnp hT hR hB
  go_enter Tryz.func17, Tryz.ntmps17
  go_wp2_with fail
  refine HC.out.mono ?_
  rintro e w1 ⟨v, rfl, hown, hbel⟩
  have HS1 := Lib.hid (HS.out w1 v hown hbel)
  have Hge := Lib.hid (show ∀ k, v.ownBlock = some k → W.heap.size ≤ k from fun k hk => (hown.lt k hk).1)
  obtain ⟨va, vc, hv, -⟩ := rowq_own hown (pxV_ones xs)
  subst hv
  have Hb1 := Lib.hid hbel
  clear hown hbel HC HS
  go_wp2_with fail
  refine HS1.out.mono ?_
  rintro e w2 ⟨v2, ys, rfl, hy, hp, hm, -, hgr⟩
  obtain ⟨ya, yc, hy2⟩ := hy.form
  subst hy2
  have Hb2 := Lib.hid (Hb1.out.trans (hgr.old Hb1.out.size Hge.out))
  have HY := Lib.hid hy.read
  have hyl : ys.length ≤ 100000000 := by have h := congrArg List.length hp; simp at h; have := HTl.out; omega
  have HYP := Lib.hid (show ∀ y ∈ ys, y.1.length ≤ 100000000 from fun y hy' => HP.out y (hm y hy'))
  rw [← hp] at HR
  have Hbw := Lib.hid Hb2.out.size
  clear hy hp hm hgr HS1 HP HTl Hb1 Hge
  go_wp2_with fail
  go_loopg [10, 3] ys.length (fun g i o wr => ∃ (k : Nat) (os : List PX), i = .int .i64 k ∧ k + g = ys.length ∧ os.length ≤ k ∧ Hid (pxs os ++ readyF ((os.getLast?).map (·.1)) (pxs (ys.drop k)) = R) ∧ Hid (RowX wr w2.heap.size w2.heap.size o os) ∧ Hid (Below w2.heap.size w2 wr))
  case atStart => exact ⟨0, [], rfl, by omega, by simp, (show pxs [] ++ readyF none (pxs (ys.drop 0)) = R by simpa using HR.out), RowX.nil _ _ _, Below.refl _ _⟩
  case round =>
    obtain ⟨k, os, rfl, hg, hok, hos, ho, hbr⟩ := hrel
    obtain ⟨oa, oc, hof⟩ := ho.out.form
    subst hof
    by_cases hlt : k < ys.length
    · have hlti : (k : Int) < ys.length := by omega
      have hYr := HY.out.keep hbr.out hbr.out.size
      obtain ⟨b, off, rfl, hb, hc⟩ := hYr.at_ k hlt
      have Hall := Lib.hid (hYr.all ys[k] (List.getElem_mem hlt))
      have Hlen := Lib.hid (HYP.out ys[k] (List.getElem_mem hlt))
      have Hst := Lib.hid (show pxs (ys.drop k) = ys[k].1 :: pxs (ys.drop (k + 1)) by rw [List.drop_eq_getElem_cons hlt]; rfl)
      generalize ys[k] = x at hc Hall Hlen Hst
      obtain ⟨x0, xa, xc⟩ := x
      unfold pxV at hc
      simp only at hc Hall Hlen Hst
      have Hb := Lib.hid hb
      clear hYr hb
      by_cases he : os = []
      · have Hnew := Lib.hid (show pxs os ++ ([x0] ++ readyF (some x0) (pxs (ys.drop (k + 1)))) = R by
          have h := hos.out
          rw [he, Hst.out] at h
          rw [he]; exact h)
        have hl0 : os.length = 0 := by rw [he]; rfl
        have hlz : ((os.length : Int) == 0) = true := by simp [hl0]
        have Hl0 := Lib.hid hl0
        clear he hos hl0
        go_wp2_with fail

        refine (clone_int wr.heap.size x0.length xa xc _ wr Hall.out ?_ Hlen.out).mono ?_
        · exact Nat.le_refl _
        rintro e w4 ⟨cv, rfl, hown, hbel⟩
        obtain ⟨ca, cc, rfl, hq⟩ := rowq_own hown (ints_one .i64 x0)
        have Hb4 := Lib.hid (below_and hbr.out hbel)
        have Ho4 := Lib.hid (ho.out.below hbel)
        have Hq := Lib.hid (show PxQ w4 (fun b => w2.heap.size ≤ b ∧ (Value.slice oa os.length oc).ownBlock ≠ some b) (x0, ca, cc) from rowq_imp hq fun b hb => ⟨Nat.le_trans hbr.out.size hb, fun e => by have := (ho.out.own.lt b e).2; omega⟩)
        clear hbel hown hq
        go_wp2_with (at_builtin; refine wpList_pushx rfl _ _ rfl Tryz.underlying36 info_slc w2.heap.size w2.heap.size (Value.slice oa os.length oc) os rfl ?hO (x0, ca, cc) rfl rfl ?hq ?hn ?hM ?_)
        case hO => exact Ho4.out
        case hq => exact Hq.out
        case hn => omega
        case hM => exact Hb4.out.size
        intro v' w5 hy5 hb5
        have Hy5 := Lib.hid hy5; have Hb5 := Lib.hid (Hb4.out.trans hb5)
        clear hy5 hb5 Hq
        go_wp2_with fail
        go_roundg (ys.length - (k + 1))
        case measure => omega
        case rel =>
          refine ⟨k + 1, os ++ [(x0, ca, cc)], by go_num, by omega, by simp; omega, ?_, Hy5, Hb5⟩
          show pxs (os ++ [(x0, ca, cc)]) ++ readyF (((os ++ [(x0, ca, cc)]).getLast?).map (·.1)) (pxs (ys.drop (k + 1))) = R
          rw [List.getLast?_append, pxs_append, pxs_one, List.append_assoc]
          exact Hnew.out
      · obtain ⟨m, hm⟩ : ∃ m, os.length = m + 1 := ⟨os.length - 1, by have : os.length ≠ 0 := fun h => he (List.eq_nil_of_length_eq_zero h); omega⟩
        have hml : m < os.length := by omega
        have hlz : ((os.length : Int) == 0) = false := beq_eq_false_iff_ne.2 (by omega)
        have hsub : IntKind.i64.wrap ((os.length : Int) - 1) = (m : Int) := by rw [show ((os.length : Int) - 1) = (m : Int) by omega]; exact IntWalk.i64_in _ (by omega)
        have hmi : (m : Int) < os.length := by omega
        obtain ⟨b2, off2, rfl, hb2, hc2⟩ := ho.out.read.at_ m hml
        have Hall2 := Lib.hid (ho.out.read.all os[m] (List.getElem_mem hml))
        have Hlast := Lib.hid (show os.getLast? = some os[m] by rw [List.getLast?_eq_getElem?, show os.length - 1 = m by omega, List.getElem?_eq_getElem hml])
        have Hb2 := Lib.hid hb2
        generalize os[m] = q at hc2 Hall2 Hlast
        obtain ⟨q0, qa, qc⟩ := q
        unfold pxV at hc2
        simp only at hc2 Hall2 Hlast
        have HAB := Lib.hid (above_c q0 x0 qa xa qc xc wr.heap.size wr Hall2.out Hall.out)
        have Hos := Lib.hid (show pxs os ++ readyF (some q0) (x0 :: pxs (ys.drop (k + 1))) = R by
          have h := hos.out
          rw [Hlast.out, Hst.out] at h
          exact h)
        have Hm := Lib.hid hm
        clear he hos hb2 hm
        cases hab : aboveB q0 x0 with
        | true =>
          rw [hab] at HAB
          have Hnew := Lib.hid (show pxs os ++ readyF (some q0) (pxs (ys.drop (k + 1))) = R by
            have h := Hos.out
            unfold readyF at h
            rw [if_pos hab] at h
            exact h)
          clear hab Hos
          go_wp2_with fail
          refine HAB.out.mono ?_
          rintro e w3 ⟨rfl, hd⟩
          have hbel := hd.below (w' := w3) wr.heap.size
          have Hb3 := Lib.hid (below_and hbr.out hbel)
          have Ho3 := Lib.hid (ho.out.below hbel)
          clear hd hbel HAB hc hc2
          go_wp2_with fail
          go_roundg (ys.length - (k + 1))
          case measure => omega
          case rel =>
            refine ⟨k + 1, os, by go_num, by omega, by omega, ?_, Ho3, Hb3⟩
            show pxs os ++ readyF (os.getLast?.map (·.1)) (pxs (ys.drop (k + 1))) = R
            rw [Hlast.out]
            exact Hnew.out
        | false =>
          rw [hab] at HAB
          have Hnew := Lib.hid (show pxs os ++ ([x0] ++ readyF (some x0) (pxs (ys.drop (k + 1)))) = R by
            have h := Hos.out
            unfold readyF at h
            rw [if_neg (by simp [hab])] at h
            exact h)
          clear hab Hos
          go_wp2_with fail
          refine HAB.out.mono ?_
          rintro e w3 ⟨rfl, hd⟩
          have hbel3 := hd.below (w' := w3) wr.heap.size
          have Hb3 := Lib.hid (below_and hbr.out hbel3)
          have Ho3 := Lib.hid (ho.out.below hbel3)
          have Hall3 := Lib.hid (Hall.out.keep hbel3 (Nat.le_refl _))
          have Hs3 := Lib.hid hbel3.size
          clear hd hbel3 HAB hc hc2
          go_wp2_with fail

          refine (clone_int wr.heap.size x0.length xa xc _ w3 Hall3.out ?_ Hlen.out).mono ?_
          · exact Hs3.out
          rintro e w4 ⟨cv, rfl, hown, hbel⟩
          obtain ⟨ca, cc, rfl, hq⟩ := rowq_own hown (ints_one .i64 x0)
          have Hb4 := Lib.hid (below_and Hb3.out hbel)
          have Ho4 := Lib.hid (Ho3.out.below hbel)
          have Hq := Lib.hid (show PxQ w4 (fun b => w2.heap.size ≤ b ∧ (Value.slice (some ⟨b2, off2, none⟩) os.length oc).ownBlock ≠ some b) (x0, ca, cc) from rowq_imp hq fun b hb => ⟨Nat.le_trans Hb3.out.size hb, fun e => by have := (Ho3.out.own.lt b e).2; omega⟩)
          clear hbel hown hq
          go_wp2_with (at_builtin; refine wpList_pushx rfl _ _ rfl Tryz.underlying36 info_slc w2.heap.size w2.heap.size (Value.slice (some ⟨b2, off2, none⟩) os.length oc) os rfl ?hO (x0, ca, cc) rfl rfl ?hq ?hn ?hM ?_)
          case hO => exact Ho4.out
          case hq => exact Hq.out
          case hn => omega
          case hM => exact Hb4.out.size
          intro v' w5 hy5 hb5
          have Hy5 := Lib.hid hy5; have Hb5 := Lib.hid (Hb4.out.trans hb5)
          clear hy5 hb5 Hq
          go_wp2_with fail
          go_roundg (ys.length - (k + 1))
          case measure => omega
          case rel =>
            refine ⟨k + 1, os ++ [(x0, ca, cc)], by go_num, by omega, by simp; omega, ?_, Hy5, Hb5⟩
            show pxs (os ++ [(x0, ca, cc)]) ++ readyF (((os ++ [(x0, ca, cc)]).getLast?).map (·.1)) (pxs (ys.drop (k + 1))) = R
            rw [List.getLast?_append, pxs_append, pxs_one, List.append_assoc]
            exact Hnew.out
    · obtain rfl : k = ys.length := by omega
      have Hfin := Lib.hid (show pxs os = R by have := hos.out; rw [List.drop_length] at this; simpa [readyF] using this)
      clear hos
      go_wp2_with fail
      go_ret
      exact ⟨_, os, rfl, ho.out.from Hbw.out Hbw.out, Hfin.out, Hb2.out.trans (hbr.out.mono Hbw.out)⟩

/-- All nodes' paths. -/
abbrev allN (n : NodeD) : List (List Int) := pathsW (fun _ => true) n []
theorem paths_ent : ∀ args w, (callFunc 20 args).run Tryz.prog w = .ok (.enter 20 args) w := by intro args w; kernel_rfl
/-- All paths, as a row of their own. -/
theorem allX_c (n : NodeD) (v : Value) (W : World) (hw : n.wt ≤ 100000000) (hv : NodeV W W.heap.size n v) : Calls Tryz.prog 20 #[v] W (ListX W (allN n)) := by
  refine (allO_c n v W hw hv).mono fun e w' h => ?_
  obtain ⟨u, cs, rfl, h1, h2, h3⟩ := h
  obtain ⟨xs, hx, rfl, h4⟩ := pathsQ_px h2
  refine ⟨u, xs, rfl, ⟨?_, h4⟩, hx.symm, h3⟩
  have hl : (allN n).length = xs.length := by rw [show allN n = pxs xs from hx]; simp
  rw [← hl]; exact h1
end Go.Proofs.YtajclfjedlkbcaaGreatDoor
/- Walk: weight.Region. -/
namespace Go.Proofs.YtajclfjedlkbcaaGreatDoor
open Go.RowKit Go.Redl
set_option linter.unusedVariables false
set_option linter.unusedSimpArgs false

/-- How many nodes the one at a path has, itself counted. -/
def sizeAt (n : NodeD) (p : List Int) : Nat := match atN n p with
  | some k => (allN k).length
  | none => 0
def sumN (n : NodeD) (L : List (List Int)) : Nat := (L.map (sizeAt n)).sum
/-- The elements of some paths, in order. -/
abbrev elemL (n : NodeD) (L : List (List Int)) : List (List Int) := setL ((L.filter smallB1).filter (isElem n))
/-- How many nodes a repair can meet. -/
def regN (n : NodeD) (L : List (List Int)) : Nat := sumN n (readyL (setL (elemL n L)))
theorem sizeAt_le (n : NodeD) (p : List Int) : sizeAt n p ≤ n.wt := by
  have h := atN_wt p n
  unfold sizeAt
  cases hat : atN n p with
  | none => simp
  | some k => exact Nat.le_trans (pathsW_len _ k []) (h k hat)
theorem region_ent : ∀ args w, (callFunc 9 args).run Tryz.prog w = .ok (.enter 9 args) w := by intro args w; kernel_rfl
set_option maxRecDepth 100000 in
set_option maxHeartbeats 2000000 in
theorem region_c (n : NodeD) (v : Value) (B : Nat) (vx : Value) (xs : List PX) (W : World) (hbig : n.wt ≤ 100000000) (hv : NodeV W B n v) (hB : B ≤ W.heap.size) (hx : ReadX W B vx xs) (hn : xs.length ≤ 100000000) (hnp : ∀ x ∈ xs, x.1.length ≤ 100000000) :
    Calls Tryz.prog 9 #[v, vx] W fun e w' => e = .returned (.int .i64 (regN n (pxs xs) : Nat)) ∧ Below W.heap.size W w' := by
  have hv0 := hv
  obtain ⟨lf, ps, t, ks⟩ := n
  obtain ⟨ap, cp, at_, ct, ak, ck, css, rfl, -, -, -, -⟩ := hv0.open
  generalize NodeD.mk lf ps t ks = n at hv hbig ⊢
  obtain ⟨a, c, rfl, -⟩ := hx.row
  obtain ⟨w0, hw0⟩ : ∃ w0, w0 = W.alloc (Obj.cells #[.bool lf, .slice ap ps.length cp, .slice at_ t.length ct, .slice ak ks.length ck] 35) := ⟨_, rfl⟩
  have hb0 : Below W.heap.size W w0 := by rw [hw0]; exact one_below _ _
  have hA : At w0 W.heap.size [.bool lf, .slice ap ps.length cp, .slice at_ t.length ct, .slice ak ks.length ck] 35 := by rw [hw0]; exact At.fresh W _ _
  have HS := Lib.hid (step0_c n _ B _ xs w0 hbig (hv.keep (hb0.mono hB) (Nat.le_refl _)) (Nat.le_trans hB hb0.size) (hx.keep (hb0.mono hB) (Nat.le_refl _)) hn hnp)
  have HM := Lib.hid (show ∀ p ∈ setL (((pxs xs).filter smallB1).filter (isElem n)), p.length ≤ 100000000 from fun p hp => by
    have h := (List.mem_filter.1 (List.mem_filter.1 (mem_setL.1 hp)).1).1
    obtain ⟨x, hx', rfl⟩ := List.mem_map.1 h
    exact hnp x hx')
  have HL := Lib.hid (show (setL (((pxs xs).filter smallB1).filter (isElem n))).length ≤ 100000000 from Nat.le_trans (setL_len _) (Nat.le_trans (List.length_filter_le _ _) (Nat.le_trans (List.length_filter_le _ _) (by simpa using hn))))
  have HG := Lib.hid (fun (w1 : World) (hb : Below W.heap.size W w1) (p : List Int) (pa : Option Addr) (pc : Nat) (hp : RowA w1 w1.heap.size 1 pa p.length pc (p.map (Value.int .i64))) => get_c n p _ pa pc w1 hbig (hv.keep (hb.mono hB) (Nat.le_trans hB hb.size)) hp)
  have HW := Lib.hid hbig
  have HR := Lib.hid (show regN n (pxs xs) = sumN n (readyL (setL (setL (((pxs xs).filter smallB1).filter (isElem n))))) from rfl)
  generalize regN n (pxs xs) = T at HR ⊢
  generalize setL (((pxs xs).filter smallB1).filter (isElem n)) = E at HS HM HL HR
  have HA := Lib.hid hA; have Hb0 := Lib.hid hb0; have Hw0 := Lib.hid hw0
  obtain ⟨⟨x0, x1, x2, x3⟩, -, xl⟩ := hA.f4
  clear hv hv0 hbig hb0 hA hw0 hx hnp hB hn
  go_enter Tryz.func9, Tryz.ntmps9
  go_upto_region 1 with fail
  rw [← Hw0.out]
  clear Hw0
  go_wp2_with fail
  refine HS.out.mono ?_
  rintro e w1 ⟨u, ys, rfl, hy, hp, hbel⟩
  obtain ⟨ua, uc, hu⟩ := hy.form
  subst hu
  have hyl : ys.length = E.length := by rw [← hp]; simp
  have HRD := Lib.hid (ready_c w1.heap.size _ ys w1 (Nat.le_refl _) hy.read (by rw [hyl]; exact HL.out) fun y hy' => HM.out y.1 (by rw [← hp]; exact List.mem_map.2 ⟨y, hy', rfl⟩))
  rw [hp] at HRD
  have HA1 := Lib.hid (HA.out.kept hbel)
  have Hb1 := Lib.hid (Hb0.out.trans (hbel.mono Hb0.out.size))
  have Hs1 := Lib.hid hbel.size
  have HQ := Lib.hid (show (readyL (setL E)).length ≤ 100000000 by
    have h : ∀ (q : Option (List Int)) (l : List (List Int)), (readyF q l).length ≤ l.length := by
      intro q l
      induction l generalizing q with
      | nil => cases q <;> simp [readyF]
      | cons p l ih =>
        cases q with
        | none => simp only [readyF, List.length_cons]; have := ih (some p); omega
        | some q =>
          simp only [readyF]
          split
          · have := ih (some q); simp; omega
          · have := ih (some p); simp; omega
    exact Nat.le_trans (h none (setL E)) (Nat.le_trans (setL_len _) HL.out))
  clear hy hp hyl hbel HS x0 x1 x2 x3 xl HA HM HL
  go_wp2_with fail
  refine HRD.out.mono ?_
  rintro e w2 ⟨u2, zs, rfl, hz, hp, hbel⟩
  obtain ⟨za, zc, hu⟩ := hz.form
  subst hu
  have HZ := Lib.hid hz.read
  have HA2 := Lib.hid (HA1.out.kept hbel)
  have Hb2 := Lib.hid (Hb1.out.trans (hbel.mono (Nat.le_trans Hb0.out.size Hs1.out)))
  have hzl : zs.length ≤ 100000000 := by have := HQ.out; rw [← hp] at this; simpa using this
  have HT := Lib.hid (show sumN n (pxs zs) = T by rw [hp]; exact HR.out.symm)
  clear hz hp hbel HRD HA1 HR HQ
  go_wp2_with fail
  go_loopg [16, 5] zs.length (fun g i s wr => ∃ k m : Nat, i = .int .i64 k ∧ s = .int .i64 m ∧ k + g = zs.length ∧ m ≤ k * 100000000 ∧ Hid (m + sumN n (pxs (zs.drop k)) = T) ∧ Hid (Below w2.heap.size w2 wr))
  case atStart => exact ⟨0, 0, rfl, rfl, by omega, by omega, (show 0 + sumN n (pxs (zs.drop 0)) = T by simpa using HT.out), Below.refl _ _⟩
  case round =>
    obtain ⟨k, m, rfl, rfl, hg, hmk, hst, hbr⟩ := hrel
    have Hbw := Lib.hid (Hb2.out.trans (hbr.out.mono Hb2.out.size))
    by_cases hlt : k < zs.length
    · have hlti : (k : Int) < zs.length := by omega
      have hZr := HZ.out.keep hbr.out hbr.out.size
      obtain ⟨b, off, rfl, hb, hc⟩ := hZr.at_ k hlt
      have hall := hZr.all zs[k] (List.getElem_mem hlt)
      have Hst := Lib.hid (show m + (sizeAt n zs[k].1 + sumN n (pxs (zs.drop (k + 1)))) = T by
        have h := hst.out
        rw [List.drop_eq_getElem_cons hlt] at h
        exact h)
      have hsz := sizeAt_le n zs[k].1
      generalize zs[k] = x at hc hall Hst hsz
      obtain ⟨q0, qa, qc⟩ := x
      unfold pxV at hc
      simp only at hc hall Hst hsz
      have HG1 := Lib.hid (HG.out wr Hbw.out q0 qa qc hall)
      obtain ⟨⟨x0, x1, x2, x3⟩, -, xl⟩ := (HA2.out.kept hbr.out).f4
      have hwt := HW.out
      cases hat : atN n q0 with
      | none =>
        rw [hat] at HG1
        have Hs := Lib.hid (show sizeAt n q0 = 0 by unfold sizeAt; rw [hat])
        clear hat hZr hall hb hsz
        go_wp2_with fail
        refine HG1.out.mono ?_
        rintro e w3 ⟨rfl, hbel⟩
        have Hb3 := Lib.hid ((below_and hbr.out hbel).trans ((one_below w3 (Obj.cells #[.bool false, .slice none 0 0, .slice none 0 0, .slice none 0 0] 35)).mono (below_and hbr.out hbel).size))
        clear hbel HG1 hc x0 x1 x2 x3 xl
        go_wp2_with fail
        go_roundg (zs.length - (k + 1))
        case measure => omega
        case rel => exact ⟨k + 1, m, by go_num, rfl, by omega, Nat.le_trans hmk (Nat.mul_le_mul_right _ (Nat.le_succ k)), (show m + sumN n (pxs (zs.drop (k + 1))) = T by have h := Hst.out; rw [Hs.out, Nat.zero_add] at h; exact h), Hb3.out⟩
      | some q =>
        rw [hat] at HG1
        have Hs := Lib.hid (show sizeAt n q0 = (allN q).length by unfold sizeAt; rw [hat])
        have hql : (allN q).length ≤ 100000000 := by rw [← Hs.out]; omega
        have Hqw := Lib.hid (show q.wt ≤ 100000000 from Nat.le_trans (atN_wt q0 n q hat) hwt)
        clear hat hZr hall hb hsz
        go_wp2_with fail
        refine HG1.out.mono ?_
        rintro e w3 ⟨cs, rfl, hq, hbel⟩
        have hqn := NodeQ.node _ _ hq
        obtain ⟨l, a1, n1, c1, a2, n2, c2, a3, n3, c3, rfl⟩ := hqn.form
        have hb4 := one_below w3 (Obj.cells #[.bool l, .slice a1 n1 c1, .slice a2 n2 c2, .slice a3 n3 c3] 35)
        have Hb4 := Lib.hid ((below_and hbr.out hbel).trans (hb4.mono (below_and hbr.out hbel).size))
        have HP := Lib.hid (allX_c q (.agg #[.bool l, .slice a1 n1 c1, .slice a2 n2 c2, .slice a3 n3 c3]) _ Hqw.out ⟨_, rfl, NodeC.keep hb4 hb4.size _ _ hqn⟩)
        clear hbel HG1 hc x0 x1 x2 x3 xl hq hqn hb4
        go_wp2_with fail
        refine HP.out.mono ?_
        rintro e w5 ⟨u5, fs, rfl, hf, hfp, hbel⟩
        obtain ⟨fa, fc, hu⟩ := hf.form
        subst hu
        have hfl : fs.length = (allN q).length := by rw [← hfp]; simp
        have Hb5 := Lib.hid (below_and Hb4.out hbel)
        have hwr : IntKind.i64.wrap ((m : Int) + (fs.length : Int)) = ((m + fs.length : Nat) : Int) := (IntWalk.i64_in _ (by omega)).trans (by omega)
        have Hfl := Lib.hid hfl
        clear hf hfp hbel HP hfl
        go_wp2_with fail
        go_roundg (zs.length - (k + 1))
        case measure => omega
        case rel => exact ⟨k + 1, m + fs.length, by go_num, rfl, by omega, by have := Hfl.out; omega, (show (m + fs.length) + sumN n (pxs (zs.drop (k + 1))) = T by have h := Hst.out; rw [Hs.out, ← Hfl.out, ← Nat.add_assoc] at h; exact h), Hb5.out⟩
    · obtain rfl : k = zs.length := by omega
      have Hfin := Lib.hid (show m = T by have := hst.out; rw [List.drop_length] at this; simpa [sumN] using this)
      clear hst
      go_wp2_with fail
      go_ret
      exact ⟨ret_int (by rw [Hfin.out]), Hbw.out⟩

end Go.Proofs.YtajclfjedlkbcaaGreatDoor
/- Plain laws: what the region of some paths is: how many nodes lie at or below an element of them. -/
namespace Go.Proofs.YtajclfjedlkbcaaGreatDoor
open Go.RowKit Go.Redl
set_option linter.unusedVariables false
set_option linter.unusedSimpArgs false

theorem pre_not_lt : ∀ {a b : List Int}, a <+: b → ¬ cmpL b a < 0
  | [], [], _ => by simp [cmpL]
  | [], _ :: _, _ => by simp [cmpL]
  | _ :: _, [], h => by simp at h
  | x :: a, y :: b, h => by
    obtain ⟨rfl, h2⟩ := List.cons_prefix_cons.1 h
    unfold cmpL
    rw [if_pos (cmpI_zero.2 rfl)]
    exact pre_not_lt h2
theorem pre_between : ∀ {a b c : List Int}, cmpL a b < 0 → cmpL b c < 0 → a <+: c → a <+: b
  | [], b, c, _, _, _ => List.nil_prefix
  | x :: a, [], c, h, _, _ => by simp [cmpL] at h
  | x :: a, y :: b, [], _, _, h => by simp at h
  | x :: a, y :: b, z :: c, h1, h2, h3 => by
    obtain ⟨rfl, h4⟩ := List.cons_prefix_cons.1 h3
    unfold cmpL at h1 h2
    have hxy : x = y := by
      by_cases e : cmpI x y = 0
      · exact cmpI_zero.1 e
      · rw [if_neg e] at h1
        have g1 := cmpI_neg.1 h1
        rw [if_neg (fun e2 => by have := cmpI_zero.1 e2; omega)] at h2
        have g2 := cmpI_neg.1 h2
        omega
    subst hxy
    rw [if_pos (cmpI_zero.2 rfl)] at h1 h2
    exact List.cons_prefix_cons.2 ⟨rfl, pre_between h1 h2 h4⟩
theorem above_iff {a b : List Int} : aboveB a b = true ↔ a.length < b.length ∧ a <+: b := by
  unfold aboveB
  rw [Bool.and_eq_true, decide_eq_true_eq, decide_eq_true_eq, alikeN_pre]
theorem pre_above {a b : List Int} (hne : cmpL a b < 0) : a <+: b ↔ aboveB a b = true := by
  rw [above_iff]
  refine ⟨fun h => ⟨?_, h⟩, fun h => h.2⟩
  rcases Nat.lt_or_ge a.length b.length with h1 | h1
  · exact h1
  · have := h.eq_of_length_le h1
    subst this
    exact absurd hne (by rw [cmpL_self]; omega)

/-- What is kept of paths in order: none is above another one; each is at or below one of them. -/
theorem readyF_some : ∀ (S : List (List Int)) (q : List Int), StrictL S → (∀ s ∈ S, cmpL q s < 0) →
    (∀ r ∈ readyF (some q) S, r ∈ S ∧ ¬ q <+: r) ∧ (readyF (some q) S).Pairwise (fun a b => ¬ a <+: b ∧ ¬ b <+: a) ∧ ∀ s ∈ S, q <+: s ∨ ∃ r ∈ readyF (some q) S, r <+: s
  | [], q, _, _ => by simp [readyF]
  | p :: S, q, hS, hq => by
    obtain ⟨h1, h2⟩ := List.pairwise_cons.1 hS
    have hqp := hq p (by simp)
    unfold readyF
    by_cases ha : aboveB q p = true
    · rw [if_pos ha]
      obtain ⟨g1, g2, g3⟩ := readyF_some S q h2 fun s hs => hq s (by simp [hs])
      refine ⟨fun r hr => ⟨by simp [(g1 r hr).1], (g1 r hr).2⟩, g2, fun s hs => ?_⟩
      rcases List.mem_cons.1 hs with rfl | hs
      · exact .inl ((pre_above hqp).2 ha)
      · exact g3 s hs
    · rw [if_neg ha]
      have hnp : ¬ q <+: p := fun h => ha ((pre_above hqp).1 h)
      obtain ⟨g1, g2, g3⟩ := readyF_some S p h2 h1
      refine ⟨fun r hr => ?_, List.pairwise_cons.2 ⟨fun r hr => ⟨(g1 r hr).2, fun h => pre_not_lt h (h1 r (g1 r hr).1)⟩, g2⟩, fun s hs => ?_⟩
      · rcases List.mem_cons.1 hr with rfl | hr
        · exact ⟨by simp, hnp⟩
        · exact ⟨by simp [(g1 r hr).1], fun h => hnp (pre_between hqp (h1 r (g1 r hr).1) h)⟩
      · rcases List.mem_cons.1 hs with rfl | hs
        · exact .inr ⟨s, by simp, List.prefix_rfl⟩
        · rcases g3 s hs with h | ⟨r, hr, h⟩
          · exact .inr ⟨p, by simp, h⟩
          · exact .inr ⟨r, by simp [hr], h⟩
theorem readyL_spec (S : List (List Int)) (hS : StrictL S) :
    (∀ r ∈ readyL S, r ∈ S) ∧ (readyL S).Pairwise (fun a b => ¬ a <+: b ∧ ¬ b <+: a) ∧ ∀ s ∈ S, ∃ r ∈ readyL S, r <+: s := by
  unfold readyL
  cases S with
  | nil => simp [readyF]
  | cons p S =>
    obtain ⟨h1, h2⟩ := List.pairwise_cons.1 hS
    obtain ⟨g1, g2, g3⟩ := readyF_some S p h2 h1
    unfold readyF
    refine ⟨fun r hr => ?_, List.pairwise_cons.2 ⟨fun r hr => ⟨(g1 r hr).2, fun h => pre_not_lt h (h1 r (g1 r hr).1)⟩, g2⟩, fun s hs => ?_⟩
    · rcases List.mem_cons.1 hr with rfl | hr
      · simp
      · simp [(g1 r hr).1]
    · rcases List.mem_cons.1 hs with rfl | hs
      · exact ⟨s, by simp, List.prefix_rfl⟩
      · rcases g3 s hs with h | ⟨r, hr, h⟩
        · exact ⟨p, by simp, h⟩
        · exact ⟨r, by simp [hr], h⟩

mutual
theorem pathsW_pre (want : NodeD → Bool) : ∀ (n : NodeD) (p x : List Int), x ∈ pathsW want n p → p <+: x
  | .mk l ps t ks, p, x => by
    intro h
    unfold pathsW at h
    rcases List.mem_append.1 h with h | h
    · split at h
      · rw [List.mem_singleton.1 h]; exact List.prefix_rfl
      · simp at h
    · obtain ⟨j, -, hj⟩ := pathsK_pre want ks 0 p x h
      exact (List.prefix_append _ _).trans hj
theorem pathsK_pre (want : NodeD → Bool) : ∀ (ks : List NodeD) (i : Nat) (p x : List Int), x ∈ pathsK want ks i p → ∃ j : Nat, i ≤ j ∧ (p ++ [(j : Int)]) <+: x
  | [], i, p, x => by intro h; unfold pathsK at h; simp at h
  | k :: ks, i, p, x => by
    intro h
    unfold pathsK at h
    rcases List.mem_append.1 h with h | h
    · exact ⟨i, Nat.le_refl _, pathsW_pre want k _ x h⟩
    · obtain ⟨j, hj, hx⟩ := pathsK_pre want ks (i + 1) p x h
      exact ⟨j, by omega, hx⟩
end
mutual
theorem pathsW_size : ∀ (n : NodeD) (p q : List Int), (pathsW (fun _ => true) n p).length = (pathsW (fun _ => true) n q).length
  | .mk l ps t ks, p, q => by
    unfold pathsW
    rw [List.length_append, List.length_append, pathsK_size ks 0 p q]
    simp
theorem pathsK_size : ∀ (ks : List NodeD) (i : Nat) (p q : List Int), (pathsK (fun _ => true) ks i p).length = (pathsK (fun _ => true) ks i q).length
  | [], i, p, q => rfl
  | k :: ks, i, p, q => by
    unfold pathsK
    rw [List.length_append, List.length_append, pathsW_size k _ (q ++ [(i : Int)]), pathsK_size ks (i + 1) p q]
end
theorem pre_clash {p x : List Int} {i j : Int} {r : List Int} (h1 : (p ++ [j]) <+: x) (h2 : (p ++ i :: r) <+: x) : i = j := by
  obtain ⟨s, rfl⟩ := h1
  obtain ⟨u, hu⟩ := h2
  rw [List.append_assoc, List.append_assoc, List.append_cancel_left_eq] at hu
  simp at hu
  exact hu.1
/-- How many nodes lie at a path, or below it. -/
theorem count_at : ∀ (r : List Int) (n : NodeD) (p : List Int), (pathsW (fun _ => true) n p).countP (fun x => (p ++ r).isPrefixOf x) = sizeAt n r
  | [], n, p => by
    rw [List.append_nil]
    have h : (pathsW (fun _ => true) n p).countP (fun x => p.isPrefixOf x) = (pathsW (fun _ => true) n p).length :=
      List.countP_eq_length.2 fun x hx => List.isPrefixOf_iff_prefix.2 (pathsW_pre _ n p x hx)
    rw [h]
    unfold sizeAt
    rw [show atN n [] = some n by unfold atN; rfl]
    exact pathsW_size n p []
  | i :: r, .mk l ps t ks, p => by
    have hK : ∀ (ks : List NodeD) (j : Nat), (pathsK (fun _ => true) ks j p).countP (fun x => (p ++ i :: r).isPrefixOf x) = if (j : Int) ≤ i then (match ks[(i - j).toNat]? with | some k => sizeAt k r | none => 0) else 0 := by
      intro ks
      induction ks with
      | nil => intro j; unfold pathsK; simp
      | cons k ks ih =>
        intro j
        unfold pathsK
        rw [List.countP_append, ih (j + 1)]
        by_cases hij : i = (j : Int)
        · subst hij
          have h1 : (pathsW (fun _ => true) k (p ++ [(j : Int)])).countP (fun x => (p ++ (j : Int) :: r).isPrefixOf x) = sizeAt k r := by
            have := count_at r k (p ++ [(j : Int)])
            rw [List.append_assoc] at this
            exact this
          rw [h1, if_neg (by omega), if_pos (Int.le_refl _)]
          simp
        · have h1 : (pathsW (fun _ => true) k (p ++ [(j : Int)])).countP (fun x => (p ++ i :: r).isPrefixOf x) = 0 := by
            rw [List.countP_eq_zero]
            intro x hx h
            exact hij (pre_clash (pathsW_pre _ k _ x hx) (List.isPrefixOf_iff_prefix.1 h))
          rw [h1, Nat.zero_add]
          by_cases hle : (j : Int) ≤ i
          · rw [if_pos hle, if_pos (by omega)]
            have e : (i - (j : Int)).toNat = (i - ((j + 1 : Nat) : Int)).toNat + 1 := by omega
            rw [e, List.getElem?_cons_succ]
          · rw [if_neg hle, if_neg (by omega)]
    unfold pathsW
    rw [List.countP_append, hK ks 0]
    have h0 : ([p] : List (List Int)).countP (fun x => (p ++ i :: r).isPrefixOf x) = 0 := by
      rw [List.countP_eq_zero]
      intro x hx h
      rw [List.mem_singleton.1 hx] at h
      have := (List.isPrefixOf_iff_prefix.1 h).length_le
      simp at this
      omega
    simp only [if_true]
    rw [h0, Nat.zero_add]
    unfold sizeAt
    rw [show atN (.mk l ps t ks) (i :: r) = if 0 ≤ i then (match ks[i.toNat]? with | some k => atN k r | none => none) else none by rw [atN]; rfl]
    by_cases hi : 0 ≤ i
    · rw [if_pos (by simpa using hi), if_pos hi]
      simp only [Int.natCast_zero, Int.sub_zero]
      cases ks[i.toNat]? with
      | none => rfl
      | some k => rfl
    · rw [if_neg (by simpa using hi), if_neg hi]

/-- A node lies at or below one of some. -/
def covB (E : List (List Int)) (x : List Int) : Bool := E.any fun q => q.isPrefixOf x
theorem cov_iff {E : List (List Int)} {x : List Int} : covB E x = true ↔ ∃ q ∈ E, q <+: x := by
  unfold covB
  rw [List.any_eq_true]
  constructor
  · rintro ⟨q, h1, h2⟩; exact ⟨q, h1, List.isPrefixOf_iff_prefix.1 h2⟩
  · rintro ⟨q, h1, h2⟩; exact ⟨q, h1, List.isPrefixOf_iff_prefix.2 h2⟩
theorem countP_or {α : Type} (f g : α → Bool) : ∀ (l : List α), (∀ x ∈ l, f x = true → g x = false) → l.countP (fun x => f x || g x) = l.countP f + l.countP g
  | [], _ => rfl
  | x :: l, h => by
    have ih := countP_or f g l fun y hy => h y (by simp [hy])
    have hx := h x (by simp)
    simp only [List.countP_cons, ih]
    cases hf : f x with
    | true => simp [hx hf]; omega
    | false => cases g x <;> simp <;> omega
theorem sum_count (n : NodeD) : ∀ (R : List (List Int)), R.Pairwise (fun a b => ¬ a <+: b ∧ ¬ b <+: a) → sumN n R = (allN n).countP (covB R)
  | [], _ => (List.countP_eq_zero.2 fun x _ => by simp [covB]).symm
  | r :: R, h => by
    obtain ⟨h1, h2⟩ := List.pairwise_cons.1 h
    have hc := count_at r n []
    rw [List.nil_append] at hc
    have e : (allN n).countP (covB (r :: R)) = (allN n).countP (fun x => r.isPrefixOf x || covB R x) := rfl
    rw [e, countP_or _ _ _ fun x _ hr => ?_, ← sum_count n R h2, hc]
    · simp [sumN]
    · cases hq : covB R x with
      | false => rfl
      | true =>
        obtain ⟨q, hq1, hq2⟩ := cov_iff.1 hq
        rcases List.prefix_or_prefix_of_prefix (List.isPrefixOf_iff_prefix.1 hr) hq2 with g | g
        · exact absurd g (h1 q hq1).1
        · exact absurd g (h1 q hq1).2
theorem atN_small : ∀ (p : List Int) (n k : NodeD), n.wt ≤ 1048576 → atN n p = some k → smallB1 p = true
  | [], n, k, _, _ => rfl
  | i :: p, n, k, hw, h => by
    unfold atN at h
    split at h
    · rename_i hi
      cases hk : (kidsOf n)[i.toNat]? with
      | none => rw [hk] at h; cases h
      | some q =>
        rw [hk] at h
        have hlt := (List.getElem?_eq_some_iff.1 hk).1
        have hmem : q ∈ kidsOf n := List.mem_of_getElem? hk
        obtain ⟨l, ps, t, ks⟩ := n
        simp only [kidsOf] at hlt hmem
        have h1 := wtAll_mem hmem
        have h2 := wtAll_len ks
        simp only [NodeD.wt] at hw
        have ih := atN_small p q k (by omega) h
        unfold smallB1 at ih ⊢
        rw [List.all_cons, ih, Bool.and_true]
        simp [bigB]
        omega
    · cases h
theorem elem_small {n : NodeD} (hw : n.wt ≤ 1048576) {p : List Int} (h : isElem n p = true) : smallB1 p = true := by
  unfold isElem at h
  cases hat : atN n p with
  | none => rw [hat] at h; cases h
  | some k => exact atN_small p n k hw hat
theorem elemL_eq {n : NodeD} (hw : n.wt ≤ 1048576) (L : List (List Int)) : elemL n L = setL (L.filter (isElem n)) := by
  unfold elemL
  congr 1
  rw [List.filter_filter]
  refine List.filter_congr fun p _ => ?_
  cases h : isElem n p with
  | true => simp [elem_small hw h]
  | false => simp
theorem setL_setL (L : List (List Int)) : setL (setL L) = setL L := (setL_eq (setL_strict L) fun x => Iff.rfl).symm
theorem cov_ready (L : List (List Int)) (x : List Int) : covB (readyL (setL L)) x = covB L x := by
  obtain ⟨h1, -, h3⟩ := readyL_spec (setL L) (setL_strict L)
  rw [Bool.eq_iff_iff, cov_iff, cov_iff]
  constructor
  · rintro ⟨q, hq, hx⟩; exact ⟨q, mem_setL.1 (h1 q hq), hx⟩
  · rintro ⟨q, hq, hx⟩
    obtain ⟨r, hr, hrq⟩ := h3 q (mem_setL.2 hq)
    exact ⟨r, hr, hrq.trans hx⟩
/-- The region: how many nodes lie at or below an element of some paths. -/
theorem regN_eq {n : NodeD} (hw : n.wt ≤ 1048576) (L : List (List Int)) : regN n L = (allN n).countP (covB (L.filter (isElem n))) := by
  unfold regN
  rw [elemL_eq hw, setL_setL, sum_count n _ (readyL_spec _ (setL_strict _)).2.1]
  congr 1
  funext x
  exact cov_ready _ x

end Go.Proofs.YtajclfjedlkbcaaGreatDoor
/- Walks: the reference's Leaf of one byte, Elem. -/
namespace Go.Proofs.YtajclfjedlkbcaaGreatDoor
open Go.RowKit Go.Redl
set_option linter.unusedVariables false
set_option linter.unusedSimpArgs false

theorem below_three (W : World) (o1 o2 o3 : Obj) : Below W.heap.size W (((W.alloc o1).alloc o2).alloc o3) :=
  (((Below.refl _ _).alloc (Nat.le_refl _) o1).alloc (by simp) o2).alloc (by simp; omega) o3
/-- A text of one byte, as runes. -/
theorem conv_one (c : UInt8) (hc : Conv.runesFrom ⟨#[c]⟩ 1 0 #[] = #[.int .i32 c.toNat]) (w : World) : ∃ cap w', (convert 9 32 (.string ⟨#[c]⟩)).run Tryz.prog w = .ok (.slice (some ⟨w.heap.size, 0, none⟩) 1 cap) w' ∧
    Below w.heap.size w w' ∧ RowA w' w'.heap.size 1 (some ⟨w.heap.size, 0, none⟩) 1 cap [.int .i32 c.toNat] := by
  have hsz : (Conv.runesFrom ⟨#[c]⟩ (⟨#[c]⟩ : ByteArray).size 0 #[]) = #[.int .i32 c.toNat] := hc
  have h := run_runes_of_string (P := Tryz.prog) w 9 32 21 ⟨#[c]⟩ Tryz.underlying9 Tryz.underlying32 Tryz.underlying21 (by rw [hsz]; simp)
  rw [hsz] at h
  have h1 : (#[Value.int .i32 c.toNat] : Array Value).size = 1 := rfl
  rw [h1] at h
  have hge := grownCap_ge w 1 0 21
  have hcm := grownCap_le_maxLen w 1 0 21 (by unfold maxLen; omega)
  refine ⟨_, _, h, (Below.refl _ _).drew.alloc (Nat.le_refl _) _, ⟨by simp, hge, hcm, by simp; rfl, (fun h => by cases h), fun _ => ⟨w.heap.size, 0, rfl, by simp, fun j u hj => ?_⟩⟩⟩
  have hg := heap_alloc_new w.drew (Obj.cells (#[Value.int .i32 c.toNat] ++ Array.replicate (grownCap w 1 0 21 - 1) (.int .i32 0)) 21)
  have hd : w.drew.heap.size = w.heap.size := rfl
  rw [hd] at hg
  rw [cell_of_row _ w.heap.size (0 + j) _ _ _ hg]
  have hj0 : j = 0 := by
    cases j with
    | zero => rfl
    | succ j => simp at hj
  subst hj0
  simp at hj
  subst hj
  rw [Array.getElem?_append_left (by simp)]
  rfl
/-- A leaf of one byte. -/
def LeafP (W : World) (ps : List PropD) (c : UInt8) (e : Ending) (w' : World) : Prop :=
  ∃ ap cp at_ ct, e = .returned (.agg #[.bool true, .slice ap ps.length cp, .slice at_ 1 ct, .slice none 0 0]) ∧ NodeC w' w'.heap.size (.mk true ps [(c.toNat : Int)] []) [.bool true, .slice ap ps.length cp, .slice at_ 1 ct, .slice none 0 0] ∧ Below W.heap.size W w'

set_option maxRecDepth 100000 in
set_option maxHeartbeats 1000000 in
theorem leaf_c (c : UInt8) (hc : Conv.runesFrom ⟨#[c]⟩ 1 0 #[] = #[.int .i32 c.toNat]) (ps : List PropD) (ap : Option Addr) (cp : Nat) (W : World) (hp : RowA W W.heap.size 2 ap ps.length cp (propCells ps)) :
    Calls Tryz.prog 13 #[.string ⟨#[c]⟩, .slice ap ps.length cp] W (LeafP W ps c) := by
  obtain ⟨cap, w1, h1, h2, h3⟩ := conv_one c hc (W.alloc (Obj.cells #[Value.bool false, Value.slice none 0 0, Value.slice none 0 0, Value.slice none 0 0] 35))
  have hsz0 : (W.alloc (Obj.cells #[Value.bool false, Value.slice none 0 0, Value.slice none 0 0, Value.slice none 0 0] 35)).heap.size = W.heap.size + 1 := by simp
  have hz := h2.size
  rw [hsz0] at h2 hz h3 h1
  have hblk : w1.heap[W.heap.size]? = some (Obj.cells #[Value.bool false, Value.slice none 0 0, Value.slice none 0 0, Value.slice none 0 0] 35 (0, 0)) := by
    rw [h2.block _ (by omega)]; exact heap_alloc_new W _
  have k0 : w1.cell? ⟨W.heap.size, 0, none⟩ = some (.bool false) := by rw [cell_of_row _ _ _ _ _ _ hblk]; rfl
  have k1 : w1.cell? ⟨W.heap.size, 1, none⟩ = some (.slice none 0 0) := by rw [cell_of_row _ _ _ _ _ _ hblk]; rfl
  have k2 : w1.cell? ⟨W.heap.size, 2, none⟩ = some (.slice none 0 0) := by rw [cell_of_row _ _ _ _ _ _ hblk]; rfl
  have k3 : w1.cell? ⟨W.heap.size, 3, none⟩ = some (.slice none 0 0) := by rw [cell_of_row _ _ _ _ _ _ hblk]; rfl
  have f0 : ∀ i, w1.frozen? ⟨W.heap.size, i, none⟩ = false := fun i => by simp [World.frozen?, hblk]
  have Hp := Lib.hid hp; have H2 := Lib.hid h2; have H3 := Lib.hid h3; have Hblk := Lib.hid hblk
  clear hp h2 h3 hsz0 hblk hc
  go_enter Tryz.func13, Tryz.ntmps13
  go_wp2_with fail
  have hz2 : W.heap.size + 1 < w1.heap.size ∨ True := .inr trivial
  refine bodyPost_ret (v := .agg #[.bool true, .slice ap ps.length cp, .slice (some ⟨W.heap.size + 1, 0, none⟩) 1 cap, .slice none 0 0]) (by simp [results, Tryz.results13, go_sem, k0, k1, k2, k3]) rfl ⟨ap, cp, _, cap, rfl, ?_, ?_⟩
  · have hb : Below W.heap.size W w1 := below_unbox H2.out
    have r1 : RowA w1 w1.heap.size 2 ap ps.length cp (propCells ps) := Hp.out.keep hb hb.size
    have hn1 : ∀ b off, ap = some ⟨b, off, none⟩ → propCells ps ≠ [] → b < W.heap.size := fun b off h hne => by
      obtain ⟨b', off', h', hlt, -⟩ := Hp.out.some_ hne
      rw [h] at h'
      cases h'; exact hlt
    unfold NodeC
    refine ⟨ap, cp, _, cap, none, 0, [], rfl, ?_, ?_, ?_, RowA.empty _ _ _, by unfold KidsC; rfl⟩
    · have hlen := propCells_len ps
      by_cases hpe : propCells ps = []
      · have h0 := Hp.out
        exact ⟨h0.len, h0.le, h0.max, h0.one, h0.nil, fun h => absurd hpe h⟩
      · have r2 := (((r1.setCell ⟨W.heap.size, 0, none⟩ (.bool true) (fun b off h => by have := hn1 b off h hpe; simp; omega)).setCell ⟨W.heap.size, 1, none⟩ (.slice ap ps.length cp) (fun b off h => by have := hn1 b off h hpe; simp; omega)).setCell ⟨W.heap.size, 2, none⟩ (.slice (some ⟨W.heap.size + 1, 0, none⟩) 1 cap) (fun b off h => by have := hn1 b off h hpe; simp; omega)).setCell ⟨W.heap.size, 3, none⟩ (.slice none 0 0) (fun b off h => by have := hn1 b off h hpe; simp; omega)
        simpa [World.setCell] using r2
    · have r2 := (((H3.out.setCell ⟨W.heap.size, 0, none⟩ (.bool true) (fun b off h => by cases h; simp)).setCell ⟨W.heap.size, 1, none⟩ (.slice ap ps.length cp) (fun b off h => by cases h; simp)).setCell ⟨W.heap.size, 2, none⟩ (.slice (some ⟨W.heap.size + 1, 0, none⟩) 1 cap) (fun b off h => by cases h; simp)).setCell ⟨W.heap.size, 3, none⟩ (.slice none 0 0) (fun b off h => by cases h; simp)
      simpa [World.setCell] using r2
    · intro z hz
      simp at hz
      subst hz
      have := c.toNat_lt
      have h1 : IntKind.i32.min = -2147483648 := by decide
      have h2 : IntKind.i32.max = 2147483647 := by decide
      simp only [Lit.wf, Bool.and_eq_true, decide_eq_true_eq, h1, h2]
      omega
  · exact ((((below_unbox H2.out).setCell (p := ⟨W.heap.size, 0, none⟩) (Nat.le_refl _) _).setCell (p := ⟨W.heap.size, 1, none⟩) (Nat.le_refl _) _).setCell (p := ⟨W.heap.size, 2, none⟩) (Nat.le_refl _) _).setCell (p := ⟨W.heap.size, 3, none⟩) (Nat.le_refl _) _

/-- A literal in a new block, behind which more memory lies. -/
theorem row_cells {w w' : World} {E : TypeId} (sz n : Nat) (cs : List Value) (hl : cs.length = n * sz) (hn : n ≤ 1000000) (h1 : ∀ u ∈ cs, u.oneCell' = true) (hb : Below (w.heap.size + 1) (w.alloc (Obj.cells cs.toArray E)) w') : RowA w' w'.heap.size sz (some ⟨w.heap.size, 0, none⟩) n n cs := by
  refine ⟨hl, Nat.le_refl _, by unfold maxLen; omega, h1, (fun h => by cases h), fun _ => ⟨w.heap.size, 0, rfl, ?_, fun j u hj => ?_⟩⟩
  · have := hb.size; simp at this; omega
  · have hg : w'.heap[w.heap.size]? = some (Obj.cells cs.toArray E (0, 0)) := by
      rw [hb.block _ (by omega)]; exact heap_alloc_new w _
    rw [cell_of_row _ w.heap.size (0 + j) _ E (0, 0) hg]
    simpa using hj

def ElemP (W : World) (s : List UInt8) (a : Option Addr) (c : Nat) (ks : List NodeD) (e : Ending) (w' : World) : Prop :=
  ∃ g, e = .returned (.agg #[.bool false, .slice (some ⟨g, 0, none⟩) 1 1, .slice none 0 0, .slice a ks.length c]) ∧ NodeC w' w'.heap.size (.mk false [(typeB, s)] [] ks) [.bool false, .slice (some ⟨g, 0, none⟩) 1 1, .slice none 0 0, .slice a ks.length c] ∧ Below W.heap.size W w'

set_option maxRecDepth 100000 in
set_option maxHeartbeats 1000000 in
theorem elem_c (x : UInt8) (r : List UInt8) (a : Option Addr) (c : Nat) (ks : List NodeD) (css : List Value) (W : World) (hr : RowA W W.heap.size 4 a ks.length c css) (hk : KidsC W W.heap.size ks css) :
    Calls Tryz.prog 12 #[.string ⟨(x :: r).toArray⟩, .slice a ks.length c] W (ElemP W (x :: r) a c ks) := by
  have hne : ((⟨(x :: r).toArray⟩ : ByteArray).toList.isEmpty) = false := by rw [ByteArray.toList_mk]; rfl
  have hne2 : (!(⟨(x :: r).toArray⟩ : ByteArray).toList.isEmpty) = true := by rw [ByteArray.toList_mk]; rfl
  have Hpc : Hid (propCells [(typeB, x :: r)] = [.string ⟨#[116, 121, 112, 101]⟩, .string ⟨(x :: r).toArray⟩]) := rfl
  obtain ⟨S, hS⟩ : ∃ S, S = (⟨(x :: r).toArray⟩ : ByteArray) := ⟨_, rfl⟩
  rw [← hS] at hne hne2 Hpc ⊢
  have Hr := Lib.hid hr; have Hk := Lib.hid hk
  clear hr hk hS
  go_enter Tryz.func12, Tryz.ntmps12
  go_wp2_with fail
  have hb1 := fun (o1 o2 : Obj) => Lib.hid (below_three W o1 o2 (Obj.cells #[.string ⟨#[116, 121, 112, 101]⟩, .string S] 68))
  refine bodyPost_ret (v := .agg #[.bool false, .slice (some ⟨W.heap.size + 1 + 1, 0, none⟩) 1 1, .slice none 0 0, .slice a ks.length c]) (by simp [results, Tryz.results12, go_sem]) rfl ⟨W.heap.size + 1 + 1, rfl, ?_, (hb1 _ _).out⟩
  unfold NodeC
  refine ⟨some ⟨W.heap.size + 1 + 1, 0, none⟩, 1, none, 0, a, c, css, rfl, ?_, RowA.empty _ _ _, by simp, Hr.out.keep (hb1 _ _).out (hb1 _ _).out.size, KidsC.keep (hb1 _ _).out (hb1 _ _).out.size ks css Hk.out⟩
  rw [Hpc.out]
  have h := row_cells (w := (W.alloc (Obj.cells #[Value.bool false, Value.slice (some ⟨W.heap.size + 1 + 1, 0, none⟩) 1 1, Value.slice none 0 0, Value.slice a ks.length c] 35)).alloc (Obj.cells #[Value.bool false, Value.slice (some ⟨W.heap.size + 1 + 1, 0, none⟩) 1 1, Value.slice none 0 0, Value.slice a ks.length c] 35)) (E := 68) 2 1 [.string ⟨#[116, 121, 112, 101]⟩, .string S] rfl (by omega) (by intro u hu; simp at hu; rcases hu with rfl | rfl <;> rfl) (Below.refl _ _)
  simpa using h

end Go.Proofs.YtajclfjedlkbcaaGreatDoor
/- Walks: table.RuleOf. -/
namespace Go.Proofs.YtajclfjedlkbcaaGreatDoor
open Go.RowKit Go.Redl
set_option linter.unusedVariables false

theorem info_pair : (Tryz.prog.info? 70).map (fun i => (i.zero, i.size, i.bytes)) = some (some (.agg #[.string ⟨#[]⟩, .int .i64 0, .string ⟨#[]⟩]), 3, 40) := by kernel_rfl
set_option maxRecDepth 100000 in
set_option maxHeartbeats 400000 in
theorem clone_pair (B n : Nat) (a : Option Addr) (cap : Nat) (cs : List Value) (w : World) (hr : RowA w B 3 a n cap cs) (hB : B ≤ w.heap.size) (hn : n ≤ 100000000) :
    Calls Tryz.prog 103 #[.slice a n cap] w (MadeRow w 70 3 n cs) := by
  have hel := fun (w : World) => Lib.run_eql_slice_nil w (P := Tryz.prog) 25 70 a n cap 0 0 Tryz.underlying25
  cases ha : a with
  | none =>
    subst ha
    obtain rfl := hr.nil rfl
    obtain rfl : n = 0 := by have := hr.le; omega
    have hcs : cs = [] := List.eq_nil_of_length_eq_zero (by simpa using hr.len)
    subst hcs
    go_enter Tryz.func103, Tryz.ntmps103
    go_wp2_with fail
    go_ret
    exact ⟨_, rfl, World.ownsRow_nil _ _ _ _, Below.refl _ _⟩
  | some ad =>
    subst ha
    go_enter Tryz.func103, Tryz.ntmps103
    go_wp2_with (at_builtin; refine wpList_app rfl _ _ 25 rfl w.heap.size 70 (.agg #[.string ⟨#[]⟩, .int .i64 0, .string ⟨#[]⟩]) 3 40 Tryz.underlying25 info_pair rfl (by decide) _ 0 [] rfl ?hown _ n cap B cs rfl ?hr ?h63 ?hb ?hbase ?_)
    case hown => exact World.ownsRow_lit w #[] 0 (Nat.le_refl _) (Nat.zero_le _) rfl
    case hr => exact hr.keep ((Below.refl _ _).alloc hB _) (Nat.le_refl _)
    case h63 => unfold maxLen; omega
    case hb => omega
    case hbase => simp
    intro v' w1 hown hgrow
    have Ho := Lib.hid hown; have Hg := Lib.hid hgrow; clear hown hgrow hel hr
    go_wp2_with fail
    go_ret
    refine ⟨v', rfl, by simpa using Ho.out, ((Below.refl _ _).alloc (Nat.le_refl _) _).grown Hg.out (by simp) ?_⟩
    simp [Value.ownBlock]


/-- A schema's sixteen cells. -/
theorem _root_.Go.Redl.SchemaV.open {w : World} {B : Nat} {s : SchemaD} {v : Value} (h : SchemaV w B s v) :
    ∃ a c css ea ec o0 o1 o2 o3 o4 o5, v = .agg #[.slice a s.rules.length c, strV s.els.type, .int .i64 s.els.text.1, strV s.els.text.2, .int .i64 s.els.other.1, strV s.els.other.2, .slice ea s.els.kids.length ec, .int .i64 s.els.fill, strV s.els.fillT, .int .i64 o0, .int .i64 o1, .int .i64 o2, .int .i64 o3, .int .i64 o4, .int .i64 o5, .int .i64 s.cap] ∧
      RowA w B 8 a s.rules.length c css ∧ RulesC w B s.rules css ∧ RowA w B 3 ea s.els.kids.length ec (pairCells s.els.kids) ∧ s.order = [o0, o1, o2, o3, o4, o5] := by
  obtain ⟨cs, rfl, a, c, css, es, rfl, h1, h2, ⟨ea, ec, rfl, h3⟩, h4⟩ := h
  match ho : s.order, h4 with
  | [o0, o1, o2, o3, o4, o5], _ => exact ⟨a, c, css, ea, ec, o0, o1, o2, o3, o4, o5, rfl, h1, h2, h3, rfl⟩
/-- The k-th rule of a row: its eight cells one by one. -/
theorem rule8 {w : World} {B n cap : Nat} {a : Option Addr} {rs : List RuleD} {css : List Value} (h : RowA w B 8 a n cap css) (hr : RulesC w B rs css) (k : Nat) (hk : k < rs.length) :
    ∃ b off ra rc, a = some ⟨b, off, none⟩ ∧ b < B ∧ RowA w B 3 ra rs[k].kids.length rc (pairCells rs[k].kids) ∧ w.cell? ⟨b, off + k * 8, none⟩ = some (strV rs[k].type) ∧ w.cell? ⟨b, off + k * 8 + 1, none⟩ = some (.int .i64 rs[k].text.1) ∧
      w.cell? ⟨b, off + k * 8 + 2, none⟩ = some (strV rs[k].text.2) ∧ w.cell? ⟨b, off + k * 8 + 3, none⟩ = some (.int .i64 rs[k].other.1) ∧ w.cell? ⟨b, off + k * 8 + 4, none⟩ = some (strV rs[k].other.2) ∧ w.cell? ⟨b, off + k * 8 + 5, none⟩ = some (.slice ra rs[k].kids.length rc) ∧
      w.cell? ⟨b, off + k * 8 + 6, none⟩ = some (.int .i64 rs[k].fill) ∧ w.cell? ⟨b, off + k * 8 + 7, none⟩ = some (strV rs[k].fillT) := by
  obtain ⟨b, off, ra, rc, h1, h2, h3, h4⟩ := h.rule_at hr k hk
  exact ⟨b, off, ra, rc, h1, h2, h3, h4 0 _ rfl, h4 1 _ rfl, h4 2 _ rfl, h4 3 _ rfl, h4 4 _ rfl, h4 5 _ rfl, h4 6 _ rfl, h4 7 _ rfl⟩
theorem ruleOf_some {s : SchemaD} {k : List UInt8} {j : Nat} (hj : j < s.rules.length) (h : s.rules[j].type = k) (hb : ∀ i (hi : i < j), (s.rules[i]'(by omega)).type ≠ k) : ruleOf s k = s.rules[j] := by
  unfold ruleOf
  rw [find_idx (q := fun r => decide (r.type = k)) hj (by simpa using h) (fun i hi => by simpa using hb i hi)]
  rfl
theorem ruleOf_none {s : SchemaD} {k : List UInt8} (hb : ∀ i (hi : i < s.rules.length), s.rules[i].type ≠ k) : ruleOf s k = s.els := by
  unfold ruleOf
  rw [find_none (fun i hi => by simpa using hb i hi)]
  rfl
theorem ruleOf_cases (s : SchemaD) (k : List UInt8) : ruleOf s k ∈ s.rules ∨ ruleOf s k = s.els := by
  unfold ruleOf
  cases h : s.rules.find? (fun r => decide (r.type = k)) with
  | none => exact .inr rfl
  | some r => exact .inl (List.mem_of_find?_eq_some h)
theorem ruleOf_wt (s : SchemaD) (k : List UInt8) : (ruleOf s k).wt ≤ s.wt := by
  unfold SchemaD.wt
  rcases ruleOf_cases s k with h | h
  · have := rulesWt_mem h; omega
  · rw [h]; omega
theorem kids_wt (r : RuleD) : 3 * r.kids.length ≤ r.wt := by
  have := pairsWt_len r.kids
  unfold RuleD.wt; omega

set_option maxRecDepth 100000 in
theorem ruleOf1_c (ty : List UInt8) (td : Int) (tt : List UInt8) (od : Int) (ot : List UInt8) (sl : Option Addr) (sn sc : Nat) (fl : Int) (ft k : List UInt8) (N : Nat) (W : World) (hN : W.cell? ⟨N, 0, none⟩ = some (strV k)) :
    Calls Tryz.prog 102 #[.agg #[strV ty, .int .i64 td, strV tt, .int .i64 od, strV ot, .slice sl sn sc, .int .i64 fl, strV ft], .pointer (some ⟨N, 0, none⟩)] W fun e w' => e = .returned (.bool (decide (ty = k))) ∧ Below W.heap.size W w' := by
  have hlt := World.block_lt_of_cell? W _ hN
  have Hb := Lib.hid (one_below W (Obj.cells #[strV ty, .int .i64 td, strV tt, .int .i64 od, strV ot, .slice sl sn sc, .int .i64 fl, strV ft] 27))
  go_enter Tryz.func102, Tryz.ntmps102
  go_wp2_with fail
  go_ret
  exact ⟨ret_bool (beq_dec _ _), Hb.out⟩
theorem ruleOf1_ent : ∀ args w, (callFunc 102 args).run Tryz.prog w = .ok (.enter 102 args) w := by intro args w; kernel_rfl

/-- A rule handed back. -/
abbrev RuleP (W : World) (r : RuleD) (e : Ending) (w' : World) : Prop :=
  ∃ a c, e = .returned (.agg #[strV r.type, .int .i64 r.text.1, strV r.text.2, .int .i64 r.other.1, strV r.other.2, .slice a r.kids.length c, .int .i64 r.fill, strV r.fillT]) ∧ RowQ w' (fun b => W.heap.size ≤ b) 3 a r.kids.length c (pairCells r.kids) ∧ Below W.heap.size W w'

set_option maxRecDepth 100000 in
set_option maxHeartbeats 4000000 in
theorem ruleOf_c (s : SchemaD) (v : Value) (k : List UInt8) (W : World) (hw : s.wt ≤ 100000000) (hv : SchemaV W W.heap.size s v) :
    Calls Tryz.prog 57 #[v, strV k] W (RuleP W (ruleOf s k)) := by
  have hs1 := fun (j : Nat) (hj : j < s.rules.length) h hb => ruleOf_some (s := s) (k := k) (j := j) hj h hb
  have hs2 := fun hb => ruleOf_none (s := s) (k := k) hb
  have hRw : (ruleOf s k).kids.length ≤ 100000000 := by have := kids_wt (ruleOf s k); have := ruleOf_wt s k; omega
  obtain ⟨R, hR⟩ : ∃ R, R = ruleOf s k := ⟨_, rfl⟩
  rw [← hR] at hs1 hs2 hRw ⊢
  have hrl : s.rules.length ≤ 100000000 := by have := rulesWt_len s.rules; unfold SchemaD.wt at hw; omega
  obtain ⟨a, c, css, ea, ec, o0, o1, o2, o3, o4, o5, rfl, h1, h2, h3, -⟩ := hv.open
  obtain ⟨rs, ⟨ty, ⟨td, tt⟩, ⟨od, ot⟩, kids, fill, ft⟩, order, scap⟩ := s
  simp only at hs1 hs2 hrl h1 h2 h3 ⊢
  obtain ⟨w0, hw0⟩ : ∃ w0, w0 = ((((W.alloc (Obj.cells #[.slice a rs.length c, strV ty, .int .i64 td, strV tt, .int .i64 od, strV ot, .slice ea kids.length ec, .int .i64 fill, strV ft, .int .i64 o0, .int .i64 o1, .int .i64 o2, .int .i64 o3, .int .i64 o4, .int .i64 o5, .int .i64 scap] 30)).alloc (Obj.cells #[strV k] 9)).alloc (Obj.cells #[strV [], .int .i64 0, strV [], .int .i64 0, strV [], .slice none 0 0, .int .i64 0, strV []] 27)).alloc (Obj.cells #[strV ty, .int .i64 td, strV tt, .int .i64 od, strV ot, .slice ea kids.length ec, .int .i64 fill, strV ft] 27)) := ⟨_, rfl⟩
  have hb0 : Below W.heap.size W w0 := by rw [hw0]; exact four_below _ _ _ _ _
  have hA : At w0 W.heap.size [.slice a rs.length c, strV ty, .int .i64 td, strV tt, .int .i64 od, strV ot, .slice ea kids.length ec, .int .i64 fill, strV ft, .int .i64 o0, .int .i64 o1, .int .i64 o2, .int .i64 o3, .int .i64 o4, .int .i64 o5, .int .i64 scap] 30 := by rw [hw0]; exact (((At.fresh W _ _).alloc _).alloc _).alloc _
  have hK : At w0 (W.heap.size + 1) [strV k] 9 := by rw [hw0]; exact ((At.second W _ _ _).alloc _).alloc _
  have hX : At w0 (W.heap.size + 1 + 1) [strV [], .int .i64 0, strV [], .int .i64 0, strV [], .slice none 0 0, .int .i64 0, strV []] 27 := by rw [hw0]; exact (At.third W _ _ _ _).alloc _
  have hY : At w0 (W.heap.size + 1 + 1 + 1) [strV ty, .int .i64 td, strV tt, .int .i64 od, strV ot, .slice ea kids.length ec, .int .i64 fill, strV ft] 27 := by rw [hw0]; exact At.fourth W _ _ _ _ _
  have hr0 := h1.keep hb0 hb0.size; have hc0 := RulesC.keep hb0 hb0.size h2
  have hgd : ∀ j (hj : j < rs.length), (rs.map (·.type)).getD j [] = rs[j].type := fun j hj => by simp [List.getD, List.getElem?_eq_getElem hj]
  have HI := Lib.hid (idx_rule rs.length a c 102 #[.pointer (some ⟨W.heap.size + 1, 0, none⟩)] (fun j => decide ((rs.map (·.type)).getD j [] = k)) w0 hrl ruleOf1_ent (fun j W' hj hb => by
    obtain ⟨b, off, ra, rc, ha, -, -, g0, g1, g2, g3, g4, g5, g6, g7⟩ := rule8 (hr0.keep hb hb.size) (RulesC.keep hb hb.size hc0) j hj
    refine ⟨b, off, _, _, _, _, _, _, _, _, ha, g0, g1, g2, g3, g4, g5, g6, g7, ?_⟩
    rw [hgd j hj]
    exact ruleOf1_c _ _ _ _ _ _ _ _ _ _ _ _ W' ((hK.kept hb).cell 0 rfl)))
  have Hr := Lib.hid h1; have Hc := Lib.hid h2; have H3 := Lib.hid h3; have Hb0 := Lib.hid hb0; have HA := Lib.hid hA; have HX := Lib.hid hX; have HY := Lib.hid hY
  have Hs1 := Lib.hid hs1; have Hs2 := Lib.hid hs2; have Hgd := Lib.hid hgd
  have Hw0 := Lib.hid hw0
  obtain ⟨⟨x0, x1, x2, x3, x4, x5, x6, x7, x8, x9, x10, x11, x12, x13, x14, x15⟩, -, xl⟩ := hA.f16
  obtain ⟨⟨y0, y1, y2, y3, y4, y5, y6, y7⟩, yf, yl⟩ := hY.f8
  have hcl : W.heap.size ≤ W.heap.size + 1 + 1 := by omega
  have hcl2 : W.heap.size ≤ W.heap.size + 1 + 1 + 1 := by omega
  clear hv hs1 hs2 hR h1 h2 h3 hw0 hb0 hA hK hX hY hr0 hc0 hgd hw
  go_enter Tryz.func57, Tryz.ntmps57
  go_upto_region 2 with fail
  rw [← Hw0.out]
  clear Hw0
  go_wp2_with fail
  refine HI.out.mono ?_
  rintro e w1 ⟨rfl, hbel⟩
  have Hb1 := Lib.hid (Hb0.out.trans (hbel.mono Hb0.out.size))
  have HA1 := Lib.hid (HA.out.kept hbel); have HX1 := Lib.hid (HX.out.kept hbel); have HY1 := Lib.hid (HY.out.kept hbel)
  clear hbel HI x0 x1 x2 x3 x4 x5 x6 x7 x8 x9 x10 x11 x12 x13 x14 x15 y0 y1 y2 y3 y4 y5 y6 y7 yf HA HX HY
  obtain ⟨⟨x0, x1, x2, x3, x4, x5, x6, x7, x8, x9, x10, x11, x12, x13, x14, x15⟩, -, xl⟩ := HA1.out.f16
  obtain ⟨⟨y0, y1, y2, y3, y4, y5, y6, y7⟩, yf, yl⟩ := HY1.out.f8
  obtain ⟨z, hz⟩ : ∃ z, z = idxP (fun j => decide ((rs.map (·.type)).getD j [] = k)) rs.length := ⟨_, rfl⟩
  rw [← hz]
  have Hz := Lib.hid hz
  clear hz
  go_upto_if 14 with fail
  go_cut [] (fun wx => ∃ ra rc, At wx (W.heap.size + 1 + 1 + 1) [strV R.type, .int .i64 R.text.1, strV R.text.2, .int .i64 R.other.1, strV R.other.2, .slice ra R.kids.length rc, .int .i64 R.fill, strV R.fillT] 27 ∧
    At wx (W.heap.size + 1 + 1) [strV [], .int .i64 0, strV [], .int .i64 0, strV [], .slice none 0 0, .int .i64 0, strV []] 27 ∧ RowA wx W.heap.size 3 ra R.kids.length rc (pairCells R.kids) ∧ Below W.heap.size W wx)
  case first =>
    rcases idxP_cases (fun j => decide ((rs.map (·.type)).getD j [] = k)) rs.length with ⟨j, hj, hp, hmin, he⟩ | ⟨hall, he⟩
    · have hze : z = (j : Int) := Hz.out.trans he
      subst hze
      have HG := Lib.hid (Hs1.out j hj (by have h := of_decide_eq_true hp; rw [Hgd.out j hj] at h; exact h) (fun i hi => by have h := of_decide_eq_false (hmin i hi); rw [Hgd.out i (by omega)] at h; exact h))
      have hji : (j : Int) < rs.length := by omega
      obtain ⟨b, off, ra, rc, rfl, -, hrr, g0, g1, g2, g3, g4, g5, g6, g7⟩ := rule8 (Hr.out.keep Hb1.out (Nat.le_refl _)) (RulesC.keep Hb1.out (Nat.le_refl _) Hc.out) j hj
      have Hrr := Lib.hid hrr
      generalize rs[j] = q at g0 g1 g2 g3 g4 g5 g6 g7 HG Hrr
      clear he hmin hp hrr Hz
      go_wp2_with fail
      go_meet
      case rel =>
        rw [HG.out]
        exact ⟨ra, rc, HY1.out.s8 _ _ _ _ _ _ _ _, HX1.out.n8 (by omega) _ _ _ _ _ _ _ _, Hrr.out.keep (below_s8 (Below.refl _ _) hcl2 _ _ _ _ _ _ _ _) (Nat.le_refl _), below_s8 Hb1.out hcl2 _ _ _ _ _ _ _ _⟩
    · have hze : z = -1 := Hz.out.trans he
      subst hze
      have HG := Lib.hid (Hs2.out (fun i hi => by have h := of_decide_eq_false (hall i hi); rw [Hgd.out i hi] at h; exact h))
      clear he hall Hz
      go_wp2_with fail
      go_meet
      case rel =>
        rw [HG.out]
        exact ⟨ea, ec, HY1.out, HX1.out, H3.out.keep Hb1.out (Nat.le_refl _), Hb1.out⟩
  case rest =>
    obtain ⟨ra, rc, hy, hx, hrr, hb⟩ := hcut
    have HY2 := Lib.hid hy; have HX2 := Lib.hid hx; have Hb2 := Lib.hid hb
    have hlt2 := hy.lt
    have HC := Lib.hid (clone_pair W.heap.size R.kids.length ra rc (pairCells R.kids) wc hrr hb.size hRw)
    clear x0 x1 x2 x3 x4 x5 x6 x7 x8 x9 x10 x11 x12 x13 x14 x15 y0 y1 y2 y3 y4 y5 y6 y7 yf hy hx hrr hb HA1 HX1 HY1 Hs1 Hs2 Hz Hgd
    obtain ⟨⟨y0, y1, y2, y3, y4, y5, y6, y7⟩, yf, yl⟩ := HY2.out.f8
    go_wp2_with fail
    refine HC.out.mono ?_
    rintro e w2 ⟨v2, rfl, hown, hbel⟩
    obtain ⟨ka, kc, rfl, hq⟩ := rowq_own hown (pairCells_one _)
    have Hq := Lib.hid hq
    have Hb3 := Lib.hid (Hb2.out.trans (hbel.mono Hb2.out.size))
    have HY3 := Lib.hid (HY2.out.kept hbel); have HX3 := Lib.hid (HX2.out.kept hbel)
    clear hbel hown hq HC y0 y1 y2 y3 y4 y5 y6 y7 yf HY2 HX2
    obtain ⟨⟨y0, y1, y2, y3, y4, y5, y6, y7⟩, yf, yl⟩ := HY3.out.f8
    obtain ⟨⟨z0, z1, z2, z3, z4, z5, z6, z7⟩, zf, zl⟩ := HX3.out.f8
    go_wp2_with fail
    refine bodyPost_ret (v := .agg #[strV R.type, .int .i64 R.text.1, strV R.text.2, .int .i64 R.other.1, strV R.other.2, .slice ka R.kids.length kc, .int .i64 R.fill, strV R.fillT]) (by simp [results, Tryz.results57, go_sem, z0, z1, z2, z3, z4, z5, z6, z7]) rfl ?_
    have hn3 : ¬ (wc.heap.size ≤ W.heap.size + 1 + 1 + 1) := by omega
    have hn2 : ¬ (wc.heap.size ≤ W.heap.size + 1 + 1) := by omega
    exact ⟨ka, kc, rfl, (rowq_s8 (rowq_set Hq.out hn3) hn2 _ _ _ _ _ _ _ _).keep (Nat.le_refl _) (fun _ _ _ => rfl) (fun b hb _ => Nat.le_trans Hb2.out.size hb), below_s8 (Hb3.out.setCell (p := ⟨W.heap.size + 1 + 1 + 1, 5, none⟩) hcl2 _) hcl _ _ _ _ _ _ _ _⟩

end Go.Proofs.YtajclfjedlkbcaaGreatDoor
