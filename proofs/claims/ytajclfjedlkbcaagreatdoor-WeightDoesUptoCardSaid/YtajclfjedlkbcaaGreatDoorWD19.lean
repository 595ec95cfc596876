/- Parts of the proof, one behind the other: RMZ, RM1, RQJ, RQK, RM2. -/
import Derived.Test.YtajclfjedlkbcaaGreatDoorWD18
import Derived.Test.YtajclfjedlkbcaaGreatDoorWD11
/- Walk: table.Check. -/
namespace Go.Proofs.YtajclfjedlkbcaaGreatDoor
open Go.RowKit Go.Redl
set_option linter.unusedVariables false
set_option linter.unusedSimpArgs false

theorem check_ent : ∀ args w, (callFunc 25 args).run Tryz.prog w = .ok (.enter 25 args) w := by intro args w; kernel_rfl
/-- The schema by itself; its rules by themselves; all rules by each other. -/
def chkA (s : SchemaD) : Bool := orderB s && (decide (1 ≤ s.cap) && decide (s.cap ≤ 1048576))
def chkB (s : SchemaD) : Bool := decide (s.els.type = []) && (riseB (s.rules.map (·.type)) && (allR s).all formedB)
abbrev chkR (s : SchemaD) (r : RuleD) : Bool := settledB s r && decide (0 ≤ depthN s r)
theorem checkS_eq (s : SchemaD) : checkS s = if chkA s && chkB s && (allR s).all (chkR s) then 0 else 12 := rfl
set_option maxRecDepth 100000 in
set_option maxHeartbeats 8000000 in
theorem tcheck_c (s : SchemaD) (v : Value) (W : World) (hw : s.wt ≤ 100000000) (hv : SchemaV W W.heap.size s v) :
    Calls Tryz.prog 25 #[v] W fun e w' => e = .returned (.int .i64 (checkS s)) ∧ Below W.heap.size W w' := by
  have Hv := Lib.hid (fun (w' : World) (hb : Below W.heap.size W w') => hv.keep hb hb.size)
  have HvW := Lib.hid (fun (w' : World) (hb : Below W.heap.size W w') => hv.keep hb (Nat.le_refl _))
  obtain ⟨sa, sc, css, ea, ec, o0, o1, o2, o3, o4, o5, rfl, h1, h2, h3, h4⟩ := hv.open
  have Hwt := Lib.hid hw
  have hrl : s.rules.length ≤ 100000000 := by have := rulesWt_len s.rules; unfold SchemaD.wt at hw; omega
  have h1r := Lib.hid (fun (w' : World) (hb : Below W.heap.size W w') => h1.keep hb hb.size)
  have h2r := Lib.hid (fun (w' : World) (hb : Below W.heap.size W w') => RulesC.keep hb hb.size h2)
  obtain ⟨R, hR⟩ : ∃ R, R = checkS s := ⟨_, rfl⟩
  have HR := Lib.hid (show (if chkA s && chkB s && (allR s).all (chkR s) then (0 : Int) else 12) = R from hR.symm)
  have Hord := Lib.hid (show decide (srtI [o0, o1, o2, o3, o4, o5] = sixL) = orderB s by rw [← order_law (s := s) (by rw [h4]; rfl), h4])
  rw [← hR]
  obtain ⟨w0, hw0⟩ : ∃ w0, w0 = W.alloc (Obj.cells #[.slice sa s.rules.length sc, strV s.els.type, .int .i64 s.els.text.1, strV s.els.text.2, .int .i64 s.els.other.1, strV s.els.other.2, .slice ea s.els.kids.length ec, .int .i64 s.els.fill, strV s.els.fillT, .int .i64 o0, .int .i64 o1, .int .i64 o2, .int .i64 o3, .int .i64 o4, .int .i64 o5, .int .i64 s.cap] 30) := ⟨_, rfl⟩
  have hb0 : Below W.heap.size W w0 := by rw [hw0]; exact one_below _ _
  have hA : At w0 W.heap.size [.slice sa s.rules.length sc, strV s.els.type, .int .i64 s.els.text.1, strV s.els.text.2, .int .i64 s.els.other.1, strV s.els.other.2, .slice ea s.els.kids.length ec, .int .i64 s.els.fill, strV s.els.fillT, .int .i64 o0, .int .i64 o1, .int .i64 o2, .int .i64 o3, .int .i64 o4, .int .i64 o5, .int .i64 s.cap] 30 := by rw [hw0]; exact At.fresh W _ _
  have hld := fun (w' : World) (h : At w' W.heap.size [.slice sa s.rules.length sc, strV s.els.type, .int .i64 s.els.text.1, strV s.els.text.2, .int .i64 s.els.other.1, strV s.els.other.2, .slice ea s.els.kids.length ec, .int .i64 s.els.fill, strV s.els.fillT, .int .i64 o0, .int .i64 o1, .int .i64 o2, .int .i64 o3, .int .i64 o4, .int .i64 o5, .int .i64 s.cap] 30) => load_at (P := Tryz.prog) h Tryz.underlying30 rfl (by kernel_rfl)
  simp [go_sem] at hld
  have HLD := Lib.hid hld
  have HV := Lib.hid (values_c (some ⟨W.heap.size, 9, none⟩) 6 6 w0)
  obtain ⟨w1, hw1⟩ : ∃ w1, w1 = w0.alloc (Obj.cells #[.slice (some ⟨W.heap.size, 9, none⟩) 6 6] 47) := ⟨_, rfl⟩
  have hb1 : Below w0.heap.size w0 w1 := by rw [hw1]; exact one_below _ _
  have hA1 : At w1 W.heap.size _ _ := hA.kept hb1
  have hB1 : At w1 w0.heap.size [.slice (some ⟨W.heap.size, 9, none⟩) 6 6] 47 := by rw [hw1]; exact At.fresh w0 _ _
  have HS := Lib.hid (show Calls Tryz.prog 45 #[.func (.func 94) #[] #[.pointer (some ⟨w0.heap.size, 0, none⟩)]] w1 (fun e w' => ∃ a c, e = .returned (.slice a 6 c) ∧ RowA w' w'.heap.size 1 a 6 c ((srtI [o0, o1, o2, o3, o4, o5]).map (Value.int .i64)) ∧ Below w1.heap.size w1 w') from
    sorted_c w0.heap.size W.heap.size 9 6 [o0, o1, o2, o3, o4, o5] (by simp) w1 hB1.lt hA1.lt (hB1.cell 0 rfl) (fun j hj => by
      have hj6 : j < 6 := hj
      match j, hj6 with
      | 0, _ => exact hA1.cell 9 rfl
      | 1, _ => exact hA1.cell 10 rfl
      | 2, _ => exact hA1.cell 11 rfl
      | 3, _ => exact hA1.cell 12 rfl
      | 4, _ => exact hA1.cell 13 rfl
      | 5, _ => exact hA1.cell 14 rfl))
  have Hw0 := Lib.hid hw0; have Hw1 := Lib.hid hw1; have Hb0 := Lib.hid hb0; have HA := Lib.hid hA; have Hb01 := Lib.hid (hb0.trans (hb1.mono hb0.size)); have Hb1 := Lib.hid hb1
  have hel := fun (w : World) => sorted_ent
  have xl := hA.lt
  clear hv hw h1 h2 h3 h4 hR hw0 hb0 hA hld hw1 hb1 hA1 hB1
  go_enter Tryz.func25, Tryz.ntmps25
  go_upto_region 1 with fail
  rw [← Hw0.out]
  clear Hw0
  go_wp2_with fail
  refine HV.out.mono ?_
  rintro e wx ⟨rfl, rfl⟩
  rw [← Hw1.out]
  clear HV Hw1
  go_wp2_with fail
  refine HS.out.mono ?_
  rintro e w2 ⟨oa, oc, rfl, hrow, hbel⟩
  obtain ⟨ys, hys⟩ : ∃ ys, ys = srtI [o0, o1, o2, o3, o4, o5] := ⟨_, rfl⟩
  have hyl : ys.length = 6 := by rw [hys, List.length_mergeSort]; rfl
  rw [← hys] at hrow Hord
  have hb2 := Hb1.out.trans (hbel.mono Hb1.out.size)
  have HA2 := Lib.hid (HA.out.kept hb2)
  have Hb2 := Lib.hid (Hb0.out.trans (hb2.mono Hb0.out.size))
  obtain ⟨w3, hw3⟩ : ∃ w3, w3 = w2.alloc (Obj.cells #[.int .i64 1, .int .i64 2, .int .i64 3, .int .i64 4, .int .i64 5, .int .i64 6] 3) := ⟨_, rfl⟩
  have hb3 : Below w2.heap.size w2 w3 := by rw [hw3]; exact one_below _ _
  have hS3 : At w3 w2.heap.size (sixL.map (Value.int .i64)) 3 := by rw [hw3]; exact At.fresh w2 _ _
  have hQ := spath_c oa (some ⟨w2.heap.size, 0, none⟩) oc 6 (w2.heap.size + 1) ys sixL w3 ((by rw [hyl]; exact hrow.keep hb3 (Nat.le_succ _))) (row_at hS3 6 1 rfl (by omega) (fun u hu => by obtain ⟨x, -, rfl⟩ := List.mem_map.1 hu; rfl))
  rw [hyl, Hord.out] at hQ
  have HQ := Lib.hid hQ
  have Hw3 := Lib.hid hw3; have Hb3 := Lib.hid hb3
  obtain ⟨E, hE⟩ : ∃ E, E = orderB s := ⟨_, rfl⟩
  have Hc := Lib.hid (show chkA s = (E && (decide (1 ≤ s.cap) && decide (s.cap ≤ 1048576))) by rw [hE]; rfl)
  rw [← hE] at HQ
  clear hbel HS hys hyl hrow Hord hw3 hb3 hS3 hQ hE hb2 HA
  go_upto_region 2 with fail
  go_cut [24] (fun b wx => b = .bool (!chkA s) ∧ Hid (Below w2.heap.size w2 wx))
  case first =>
    go_wp2_with fail
    rw [← Hw3.out]
    clear Hw3
    refine HQ.out.mono ?_
    rintro e w4 ⟨rfl, hd⟩
    have hb4 := Hb3.out.trans ((hd.below w3.heap.size).mono Hb3.out.size)
    have x15 := (HA2.out.kept hb4).cell 15 (v := .int .i64 s.cap) rfl
    have Hb4 := Lib.hid hb4
    clear hd hb4 HQ
    cases E with
    | false =>
      have Hz := Lib.hid (show chkA s = false from Hc.out)
      go_wp2_with fail
      go_meet
      case rel => exact ⟨by rw [Hz.out]; rfl, Hb4⟩
    | true =>
      by_cases c1 : s.cap < 1
      · have Hz := Lib.hid (show chkA s = false by rw [Hc.out, decide_eq_false (show ¬ 1 ≤ s.cap by omega)]; rfl)
        go_wp2_with fail
        go_meet
        case rel => exact ⟨by rw [Hz.out]; rfl, Hb4⟩
      · by_cases c2 : 1048576 < s.cap
        · have Hz := Lib.hid (show chkA s = false by rw [Hc.out, decide_eq_false (show ¬ s.cap ≤ 1048576 by omega)]; simp)
          go_wp2_with fail
          go_meet
          case rel => exact ⟨by rw [Hz.out]; rfl, Hb4⟩
        · have Hz := Lib.hid (show chkA s = true by rw [Hc.out, decide_eq_true (show s.cap ≤ 1048576 by omega), decide_eq_true (show 1 ≤ s.cap by omega)]; rfl)
          have c1b := decide_eq_false c1
          have c2b := decide_eq_false c2
          go_wp2_with fail
          go_meet
          case rel => exact ⟨by rw [Hz.out]; first | rfl | (rw [c1b, c2b]; rfl), Hb4⟩
  case rest =>
    obtain ⟨w5, rfl⟩ : ∃ z, z = wc := ⟨_, rfl⟩
    obtain ⟨rfl, hbx⟩ := hcut
    have Hb5 := Lib.hid (Hb2.out.trans (hbx.out.mono Hb2.out.size))
    have HA5 := Lib.hid (HA2.out.kept hbx.out)
    obtain ⟨A1, hA1⟩ : ∃ A1, A1 = chkA s := ⟨_, rfl⟩
    rw [← hA1] at HR ⊢
    clear hA1 HQ Hc hbx HA2 Hw3
    cases A1 with
    | false =>
      have Hz := Lib.hid (show (12 : Int) = R from HR.out)
      go_wp2_with fail
      go_ret
      exact ⟨ret_int Hz.out, Hb5.out⟩
    | true =>
      have HR2 := Lib.hid (show (if chkB s && (allR s).all (chkR s) then (0 : Int) else 12) = R by have h := HR.out; simpa using h)
      have x0 := HA5.out.cell 0 (v := .slice sa s.rules.length sc) rfl
      have x1 := HA5.out.cell 1 (v := strV s.els.type) rfl
      have xl5 := HA5.out.lt
      have HT := Lib.hid (typesR_c s.rules sa sc css w5 (h1r.out w5 Hb5.out) (h2r.out w5 Hb5.out) hrl)
      clear HR
      go_upto_region 4 with fail
      go_cut [40] (fun b wx => b = .bool (!chkB s) ∧ Hid (Below w5.heap.size w5 wx))
      case first =>
        have Hc := Lib.hid (show chkB s = (decide (s.els.type = []) && (riseB (s.rules.map (·.type)) && (allR s).all formedB)) from rfl)
        obtain ⟨T, hT⟩ : ∃ T, T = s.els.type := ⟨_, rfl⟩
        rw [← hT] at x1
        cases T with
        | cons t0 ts =>
          have Hz := Lib.hid (show chkB s = false by rw [Hc.out, ← hT]; rfl)
          clear hT
          go_wp2_with fail
          go_meet
          case rel => exact ⟨by rw [Hz.out]; rfl, (show Below _ _ _ from Below.refl _ _)⟩
        | nil =>
          have Hc2 := Lib.hid (show chkB s = (riseB (s.rules.map (·.type)) && (allR s).all formedB) by rw [Hc.out, ← hT]; simp)
          clear hT Hc
          go_wp2_with fail
          refine HT.out.mono ?_
          rintro e w6 ⟨rfl, hat, hbel⟩
          have hat2 : At w6 w5.heap.size ((s.rules.map (·.type)).map strV) 9 := by have h := hat; unfold ruleTypes at h; rw [List.map_map]; exact h
          have hwt := Hwt.out
          have HQ := Lib.hid (rising_at (s.rules.map (·.type)) s.rules.length _ w6 (by simp) hat2 hrl (fun t ht => by obtain ⟨r, hr, rfl⟩ := List.mem_map.1 ht; have h1 := rulesWt_mem hr; unfold SchemaD.wt at hwt; unfold RuleD.wt at h1; omega))
          have Hb6 := Lib.hid hbel
          clear hbel hat hat2 HT hwt
          obtain ⟨F, hF⟩ : ∃ F, F = riseB (s.rules.map (·.type)) := ⟨_, rfl⟩
          rw [← hF] at HQ Hc2
          clear hF
          go_wp2_with fail
          refine HQ.out.mono ?_
          rintro e w7 ⟨rfl, hbel⟩
          have hb7 := Hb6.out.trans (hbel.mono Hb6.out.size)
          have Hb7 := Lib.hid hb7
          have hld7 := HLD.out w7 (HA5.out.kept hb7)
          have hbW := Hb5.out.trans (hb7.mono Hb5.out.size)
          have HRu := Lib.hid (rules_cB s _ W.heap.size w7 Hwt.out (HvW.out w7 hbW) hbW.size)
          have HbW := Lib.hid hbW
          clear hbel hb7 HQ x0 x1 hbW
          cases F with
          | false =>
            have Hz := Lib.hid (show chkB s = false from Hc2.out)
            go_wp2_with fail
            go_meet
            case rel => exact ⟨by rw [Hz.out]; rfl, Hb7⟩
          | true =>
            have Hz := Lib.hid (show chkB s = (allR s).all formedB by rw [Hc2.out]; rfl)
            go_wp2_with fail
            refine HRu.out.mono ?_
            rintro e w8 ⟨ra, rc, css2, rfl, hrow, hrcs, hbel⟩
            have hr1 : (allR s).length ≤ 100000000 := by have h1 := rulesWt_len s.rules; have h2 := Hwt.out; unfold SchemaD.wt RuleD.wt at h2; rw [all_len]; omega
            have HCF := Lib.hid (cfrule_c (allR s) ra rc css2 W.heap.size w8 hrow.row hrcs (Nat.le_trans HbW.out.size hbel.size) hr1 (fun r hr => Nat.le_trans (allR_wt hr) Hwt.out))
            have Hb8 := Lib.hid (Hb7.out.trans (hbel.mono Hb7.out.size))
            obtain ⟨rs, hrs⟩ : ∃ rs, rs = allR s := ⟨_, rfl⟩
            rw [← hrs] at HCF Hz ⊢
            clear hrow hrcs hbel HRu hld7 hr1 hrs
            go_wp2_with fail
            refine HCF.out.mono ?_
            rintro e w9 ⟨rfl, hbel⟩
            have Hb9 := Lib.hid (Hb8.out.trans (hbel.mono Hb8.out.size))
            clear hbel HCF
            go_wp2_with fail
            go_meet
            case rel => exact ⟨by rw [Hz.out], Hb9⟩
      case rest =>
        obtain ⟨w6, rfl⟩ : ∃ z, z = wc := ⟨_, rfl⟩
        obtain ⟨rfl, hbx⟩ := hcut
        have Hb6 := Lib.hid (Hb5.out.trans (hbx.out.mono Hb5.out.size))
        have HA6 := Lib.hid (HA5.out.kept hbx.out)
        obtain ⟨B1, hB1⟩ : ∃ B1, B1 = chkB s := ⟨_, rfl⟩
        rw [← hB1] at HR2 ⊢
        clear hB1 HT hbx HA5 x0 x1 xl5
        cases B1 with
        | false =>
          have Hz := Lib.hid (show (12 : Int) = R from HR2.out)
          go_wp2_with fail
          go_ret
          exact ⟨ret_int Hz.out, Hb6.out⟩
        | true =>
          have HR3 := Lib.hid (show (if (allR s).all (chkR s) then (0 : Int) else 12) = R by have h := HR2.out; simpa using h)
          have hld6 := HLD.out w6 HA6.out
          have xl6 := HA6.out.lt
          have HN := Lib.hid (names_c s _ w6 Hwt.out (Hv.out w6 Hb6.out))
          obtain ⟨i0, hi, hz0, hz1, hz2⟩ := info_parts info_strT
          clear HR2
          go_wp2_with fail
          refine HN.out.mono ?_
          rintro e w7 ⟨nv, out, rfl, hown, hmem, hlen, hbel⟩
          have hlw : out.length ≤ 100000000 := Nat.le_trans hlen Hwt.out
          have Hmem := Lib.hid hmem
          have Hb7 := Lib.hid hbel
          have hs7 := hbel.size
          clear hmem hlen hbel HN hld6
          go_upto_region 7 with (at_builtin; refine wpList_append_own _ rfl _ _ 91 rfl w6.heap.size 9 i0 (.string ⟨#[]⟩) 1 16 Tryz.underlying91 hi hz0 hz1 hz2 rfl (by decide) _ _ _ rfl (hown.alloc _) ⟨w7.heap.size, 0, none⟩ 1 1 [strV []] rfl rfl (cell_one_new _ _ _) (by simp [Value.oneCell']) (by unfold maxLen at *; omega) (by omega) (by simp; omega) ?_; intro nv2 w8 hown2 hg8 hnil8; go_frame)
          have hb8 : Below w6.heap.size w6 w8 := (Hb7.out.alloc hs7 (Obj.cells #[strV []] 9)).grown hg8 (Nat.le_trans hs7 (one_below w7 _).size) (fun j hj => (hown.lt j hj).1)
          obtain ⟨l, hl⟩ : ∃ l, l = out ++ [[]] := ⟨_, rfl⟩
          obtain ⟨na, nc, hnv, hnr⟩ : ∃ na nc, nv2 = .slice na l.length nc ∧ RowA w8 w8.heap.size 1 na l.length nc (l.map strV) := by
            have h := hown2
            rw [show out.length + 1 = l.length by rw [hl]; simp, show out.map strV ++ [strV []] = l.map strV by rw [hl]; simp] at h
            exact row_of_own h (fun u hu => by obtain ⟨t, -, rfl⟩ := List.mem_map.1 hu; rfl)
          subst hnv
          have Hll := Lib.hid (show l.length ≤ 1000000000 by rw [hl]; simp; omega)
          have HST := Lib.hid (fun (r : RuleD) => show settledL s r l = settledB s r by rw [hl]; exact settled_by Hmem.out)
          have Hnr := Lib.hid hnr
          have Hb8 := Lib.hid (Hb6.out.trans (hb8.mono Hb6.out.size))
          have HA8 := Lib.hid (HA6.out.kept hb8)
          have hld8 := HLD.out w8 HA8.out
          have HRu := Lib.hid (rules_cB s _ W.heap.size w8 Hwt.out (HvW.out w8 Hb8.out) Hb8.out.size)
          clear hown hown2 hg8 hnil8 hb8 hl hnr hi hz0 hz1 hz2 hlw hs7 HA6 xl6
          have xl8 := HA8.out.lt
          go_wp2_with fail
          refine HRu.out.mono ?_
          rintro e w9 ⟨ra, rc, css2, rfl, hrow, hrcs, hbel⟩
          have hr1 : (allR s).length ≤ 100000000 := by have h1 := rulesWt_len s.rules; have h2 := Hwt.out; unfold SchemaD.wt RuleD.wt at h2; rw [all_len]; omega
          have Hb9 := Lib.hid (Hb8.out.trans (hbel.mono Hb8.out.size))
          have HA9 := Lib.hid (HA8.out.kept hbel)
          have Hn9 := Lib.hid (Hnr.out.keep hbel hbel.size)
          have Hrow := Lib.hid hrow.row; have Hrcs := Lib.hid hrcs
          obtain ⟨rs, hrs⟩ : ∃ rs, rs = allR s := ⟨_, rfl⟩
          have Hrs := Lib.hid hrs
          rw [← hrs] at Hrow Hrcs hr1 HR3 ⊢
          clear hrow hrcs hbel HRu hld8 hrs xl8
          go_wp2_with fail
          go_loopg [48] rs.length (fun g i wr => ∃ k : Nat, i = .int .i64 k ∧ k + g = rs.length ∧ Hid ((if (rs.drop k).all (chkR s) then (0 : Int) else 12) = R) ∧ Hid (Below w9.heap.size w9 wr))
          case atStart => exact ⟨0, rfl, by omega, HR3, (show Below _ _ _ from Below.refl _ _)⟩
          case round =>
            obtain ⟨k, rfl, hg, hst, hbr⟩ := hrel
            have Hbr := Lib.hid (Hb9.out.trans (hbr.out.mono Hb9.out.size))
            by_cases hlt : k < rs.length
            · have hlti : (k : Int) < rs.length := by omega
              obtain ⟨b, off, qa, qc, rfl, hlb, hkr, p0, p1, p2, p3, p4, p5, p6, p7⟩ := rule8q (Hrow.out.keep hbr.out hbr.out.size) (RulesC.keep (hbr.out.mono Hb9.out.size) (Nat.le_refl _) Hrcs.out) k hlt
              have Hqm := Lib.hid (show rs[k] ∈ allR s by rw [← Hrs.out]; exact List.getElem_mem hlt)
              have Hst := Lib.hid (show (if chkR s rs[k] && (rs.drop (k + 1)).all (chkR s) then (0 : Int) else 12) = R by
                have h := hst.out
                rw [List.drop_eq_getElem_cons hlt, List.all_cons] at h
                exact h)
              generalize rs[k] = q at hkr p0 p1 p2 p3 p4 p5 p6 p7 Hqm Hst
              obtain ⟨w10, hw10⟩ : ∃ w10, w10 = wr.alloc (Obj.cells #[strV q.type, .int .i64 q.text.1, strV q.text.2, .int .i64 q.other.1, strV q.other.2, .slice qa q.kids.length qc, .int .i64 q.fill, strV q.fillT] 27) := ⟨_, rfl⟩
              have hb10 : Below wr.heap.size wr w10 := by rw [hw10]; exact one_below _ _
              have hX : At w10 wr.heap.size [strV q.type, .int .i64 q.text.1, strV q.text.2, .int .i64 q.other.1, strV q.other.2, .slice qa q.kids.length qc, .int .i64 q.fill, strV q.fillT] 27 := by rw [hw10]; exact At.fresh wr _ _
              have hlr := fun (w' : World) (h : At w' wr.heap.size [strV q.type, .int .i64 q.text.1, strV q.text.2, .int .i64 q.other.1, strV q.other.2, .slice qa q.kids.length qc, .int .i64 q.fill, strV q.fillT] 27) => load_at (P := Tryz.prog) h Tryz.underlying27 rfl (by kernel_rfl)
              simp [go_sem] at hlr
              have HLR := Lib.hid hlr
              have hb9x := hbr.out.trans (hb10.mono hbr.out.size)
              have HA10 := Lib.hid (HA9.out.kept hb9x)
              have HX10 := Lib.hid hX
              have Hw10 := Lib.hid hw10
              have Hb10 := Lib.hid hb9x
              have hbW := Hb9.out.trans (hb9x.mono Hb9.out.size)
              have HbW := Lib.hid hbW
              have hql : q.kids.length ≤ 100000000 := by have h1 := kids_wt q; have h2 := allR_wt Hqm.out; have h3 := Hwt.out; omega
              have Hkr := Lib.hid (fun (w' : World) (hb : Below wr.heap.size wr w') => hkr.keep (hb.mono Hbr.out.size) (Nat.le_trans Hbr.out.size hb.size))
              have hS := settled_c s _ q qa qc l na nc w10 Hwt.out (Hv.out w10 hbW) (Hkr.out w10 hb10) hql (Hn9.out.keep hb9x hb9x.size) Hll.out
              rw [HST.out q] at hS
              have HS := Lib.hid hS
              have hld10 := HLD.out w10 HA10.out
              have hlr10 := HLR.out w10 hX
              have hxl := hX.lt
              have HB10 := Lib.hid hb10
              clear hw10 hb10 hX hlr hb9x hbW hkr hlb hst hS
              go_upto_region 10 with fail
              rw [← Hw10.out]
              clear Hw10 p0 p1 p2 p3 p4 p5 p6 p7
              obtain ⟨S1, hS1⟩ : ∃ S1, S1 = settledB s q := ⟨_, rfl⟩
              have HCk := Lib.hid (show chkR s q = (S1 && decide (0 ≤ depthN s q)) by rw [hS1])
              rw [← hS1] at HS
              clear hS1
              go_wp2_with fail
              refine HS.out.mono ?_
              rintro e w11 ⟨rfl, hbel⟩
              have hb11 := Hb10.out.trans (hbel.mono Hb10.out.size)
              have HbB := Lib.hid (HB10.out.trans (hbel.mono HB10.out.size))
              have HA11 := Lib.hid (HA9.out.kept hb11)
              have HX11 := Lib.hid (HX10.out.kept hbel)
              have Hb11 := Lib.hid hb11
              have hld11 := HLD.out w11 HA11.out
              have hlr11 := HLR.out w11 HX11.out
              have Hb11W := Lib.hid (Hb9.out.trans (hb11.mono Hb9.out.size))
              have hxl11 := HX11.out.lt
              clear hbel hb11 HS hld10 hlr10 HA10 HX10 hxl
              cases S1 with
              | false =>
                have Hz := Lib.hid (show (12 : Int) = R by have h := Hst.out; rw [HCk.out] at h; exact h)
                clear Hst HCk
                go_wp2_with fail
                go_ret
                exact ⟨ret_int Hz.out, Hb11W.out⟩
              | true =>
                have HD := Lib.hid (depth_c s _ q qa qc w11 Hwt.out (Hv.out w11 Hb11W.out) Hqm.out)
                obtain ⟨d, hd⟩ : ∃ d, d = depthN s q := ⟨_, rfl⟩
                rw [← hd] at HD HCk
                clear hd
                go_wp2_with fail
                refine HD.out.mono ?_
                rintro e w12 ⟨rfl, hbel⟩
                have Hb12 := Lib.hid (Hb11.out.trans (hbel.mono Hb11.out.size))
                clear hbel HD hld11 hlr11
                by_cases hd0 : d < 0
                · have Hz := Lib.hid (show (12 : Int) = R by have h := Hst.out; rw [HCk.out, decide_eq_false (show ¬ 0 ≤ d by omega)] at h; exact h)
                  clear Hst HCk
                  go_wp2_with fail
                  go_ret
                  exact ⟨ret_int Hz.out, Hb9.out.trans (Hb12.out.mono Hb9.out.size)⟩
                · have HN := Lib.hid (show (if (rs.drop (k + 1)).all (chkR s) then (0 : Int) else 12) = R by have h := Hst.out; rw [HCk.out, decide_eq_true (show 0 ≤ d by omega)] at h; simpa using h)
                  clear Hst HCk
                  go_wp2_with fail
                  go_roundg (rs.length - (k + 1))
                  case measure => omega
                  case rel => exact ⟨k + 1, by go_num, by omega, HN, Hb12⟩
            · obtain rfl : k = rs.length := by omega
              have Hz := Lib.hid (show (0 : Int) = R by have h := hst.out; rw [List.drop_length] at h; exact h)
              clear hst
              go_wp2_with fail
              go_ret
              exact ⟨ret_int Hz.out, Hbr.out⟩

end Go.Proofs.YtajclfjedlkbcaaGreatDoor
/- Walk: table.Fills. -/
namespace Go.Proofs.YtajclfjedlkbcaaGreatDoor
open Go.RowKit Go.Redl
set_option linter.unusedVariables false
set_option linter.unusedSimpArgs false

theorem fills_ent : ∀ args w, (callFunc 11 args).run Tryz.prog w = .ok (.enter 11 args) w := by intro args w; kernel_rfl
theorem fold_le (s : SchemaD) (B : Int) (hB : ∀ r : RuleD, depthN s r ≤ B) : ∀ (l : List RuleD) (m : Int), m ≤ B → l.foldl (fun m r => max m (depthN s r)) m ≤ B
  | [], m, h => h
  | r :: l, m, h => fold_le s B hB l _ (by show max m (depthN s r) ≤ B; have := hB r; omega)
theorem depthN_le (s : SchemaD) (r : RuleD) : depthN s r ≤ s.rules.length + 2 := by
  have := depth_le s (s.rules.length + 2) [] r 0
  unfold depthN
  omega
theorem fills_le (s : SchemaD) : (fillsS s).1 ≤ s.rules.length + 2 := by
  unfold fillsS
  split
  · show (0 : Int) ≤ _; omega
  · exact fold_le s _ (depthN_le s) _ 0 (by omega)
theorem fills_err (s : SchemaD) (h : (fillsS s).2 ≠ 0) : (fillsS s).1 = 0 := by
  unfold fillsS at *
  split
  · rfl
  · rename_i hc
    rw [if_neg hc] at h
    exact absurd rfl h
set_option maxRecDepth 100000 in
set_option maxHeartbeats 4000000 in
theorem fills_c (s : SchemaD) (v : Value) (W : World) (hw : s.wt ≤ 100000000) (hv : SchemaV W W.heap.size s v) :
    Calls Tryz.prog 11 #[v] W fun e w' => e = .returned (.tuple #[.int .i64 (fillsS s).1, .int .i64 (fillsS s).2]) ∧ Below W.heap.size W w' := by
  have Hv := Lib.hid (fun (w' : World) (hb : Below W.heap.size W w') => hv.keep hb hb.size)
  have HvW := Lib.hid (fun (w' : World) (hb : Below W.heap.size W w') => hv.keep hb (Nat.le_refl _))
  obtain ⟨sa, sc, css, ea, ec, o0, o1, o2, o3, o4, o5, rfl, -, -, -, -⟩ := hv.open
  have Hwt := Lib.hid hw
  have hdl := Lib.hid (depthN_le s)
  have hrl : s.rules.length ≤ 100000000 := by have := rulesWt_len s.rules; unfold SchemaD.wt at hw; omega
  obtain ⟨R1, hR1⟩ : ∃ R1, R1 = (fillsS s).1 := ⟨_, rfl⟩
  obtain ⟨R2, hR2⟩ : ∃ R2, R2 = (fillsS s).2 := ⟨_, rfl⟩
  have HR := Lib.hid (show (if checkS s ≠ 0 then ((0 : Int), checkS s) else ((allR s).foldl (fun m r => max m (depthN s r)) 0, 0)) = (R1, R2) by rw [hR1, hR2]; rfl)
  rw [← hR1, ← hR2]
  obtain ⟨w0, hw0⟩ : ∃ w0, w0 = W.alloc (Obj.cells #[.slice sa s.rules.length sc, strV s.els.type, .int .i64 s.els.text.1, strV s.els.text.2, .int .i64 s.els.other.1, strV s.els.other.2, .slice ea s.els.kids.length ec, .int .i64 s.els.fill, strV s.els.fillT, .int .i64 o0, .int .i64 o1, .int .i64 o2, .int .i64 o3, .int .i64 o4, .int .i64 o5, .int .i64 s.cap] 30) := ⟨_, rfl⟩
  have hb0 : Below W.heap.size W w0 := by rw [hw0]; exact one_below _ _
  have hA : At w0 W.heap.size [.slice sa s.rules.length sc, strV s.els.type, .int .i64 s.els.text.1, strV s.els.text.2, .int .i64 s.els.other.1, strV s.els.other.2, .slice ea s.els.kids.length ec, .int .i64 s.els.fill, strV s.els.fillT, .int .i64 o0, .int .i64 o1, .int .i64 o2, .int .i64 o3, .int .i64 o4, .int .i64 o5, .int .i64 s.cap] 30 := by rw [hw0]; exact At.fresh W _ _
  have hld := fun (w' : World) (h : At w' W.heap.size [.slice sa s.rules.length sc, strV s.els.type, .int .i64 s.els.text.1, strV s.els.text.2, .int .i64 s.els.other.1, strV s.els.other.2, .slice ea s.els.kids.length ec, .int .i64 s.els.fill, strV s.els.fillT, .int .i64 o0, .int .i64 o1, .int .i64 o2, .int .i64 o3, .int .i64 o4, .int .i64 o5, .int .i64 s.cap] 30) => load_at (P := Tryz.prog) h Tryz.underlying30 rfl (by kernel_rfl)
  simp [go_sem] at hld
  have HLD := Lib.hid hld
  have hld0 := hld w0 hA
  have HC := Lib.hid (tcheck_c s _ w0 hw (Hv.out w0 hb0))
  have Hw0 := Lib.hid hw0; have Hb0 := Lib.hid hb0; have HA := Lib.hid hA
  have xl := hA.lt
  clear hv hw hw0 hb0 hA hld hR1 hR2
  go_enter Tryz.func11, Tryz.ntmps11
  go_upto_region 1 with fail
  rw [← Hw0.out]
  clear Hw0
  obtain ⟨C, hC⟩ : ∃ C, C = checkS s := ⟨_, rfl⟩
  rw [← hC] at HC HR
  clear hC
  go_wp2_with fail
  refine HC.out.mono ?_
  rintro e w1 ⟨rfl, hbel⟩
  have Hb1 := Lib.hid (Hb0.out.trans (hbel.mono Hb0.out.size))
  have HA1 := Lib.hid (HA.out.kept hbel)
  have hld1 := HLD.out w1 HA1.out
  have xl1 := HA1.out.lt
  have HRu := Lib.hid (rules_cB s _ W.heap.size w1 Hwt.out (HvW.out w1 Hb1.out) Hb1.out.size)
  clear hbel HC hld0 xl
  by_cases hC0 : C = 0
  · subst hC0
    have HR2 := Lib.hid (show (allR s).foldl (fun m r => max m (depthN s r)) 0 = R1 ∧ (0 : Int) = R2 by have h := HR.out; rw [if_neg (by simp)] at h; injection h with h1 h2; exact ⟨h1, h2⟩)
    clear HR
    go_wp2_with fail
    refine HRu.out.mono ?_
    rintro e w2 ⟨ra, rc, css2, rfl, hrow, hrcs, hbel⟩
    have hr1 : (allR s).length ≤ 100000000 := by have h1 := rulesWt_len s.rules; have h2 := Hwt.out; unfold SchemaD.wt RuleD.wt at h2; rw [all_len]; omega
    have Hb2 := Lib.hid (Hb1.out.trans (hbel.mono Hb1.out.size))
    have HA2 := Lib.hid (HA1.out.kept hbel)
    have Hrow := Lib.hid hrow.row; have Hrcs := Lib.hid hrcs
    obtain ⟨rs, hrs⟩ : ∃ rs, rs = allR s := ⟨_, rfl⟩
    have Hrs := Lib.hid hrs
    rw [← hrs] at Hrow Hrcs hr1 HR2 ⊢
    clear hrow hrcs hbel HRu hld1 hrs xl1
    go_wp2_with fail
    go_loopg [16, 5] rs.length (fun g i m wr => ∃ (k : Nat) (z : Int), i = .int .i64 k ∧ m = .int .i64 z ∧ k + g = rs.length ∧ Hid ((rs.drop k).foldl (fun m r => max m (depthN s r)) z = R1) ∧ Hid (Below w2.heap.size w2 wr))
    case atStart => exact ⟨0, 0, rfl, rfl, by omega, HR2.out.1, (show Below _ _ _ from Below.refl _ _)⟩
    case round =>
      obtain ⟨k, z, rfl, rfl, hg, hst, hbr⟩ := hrel
      have Hbr := Lib.hid (Hb2.out.trans (hbr.out.mono Hb2.out.size))
      by_cases hlt : k < rs.length
      · have hlti : (k : Int) < rs.length := by omega
        obtain ⟨b, off, qa, qc, rfl, hlb, -, p0, p1, p2, p3, p4, p5, p6, p7⟩ := rule8q (Hrow.out.keep hbr.out hbr.out.size) (RulesC.keep (hbr.out.mono Hb2.out.size) (Nat.le_refl _) Hrcs.out) k hlt
        have Hqm := Lib.hid (show rs[k] ∈ allR s by rw [← Hrs.out]; exact List.getElem_mem hlt)
        have Hst := Lib.hid (show (rs.drop (k + 1)).foldl (fun m r => max m (depthN s r)) (max z (depthN s rs[k])) = R1 by
          have h := hst.out
          rw [List.drop_eq_getElem_cons hlt, List.foldl_cons] at h
          exact h)
        generalize rs[k] = q at p0 p1 p2 p3 p4 p5 p6 p7 Hqm Hst
        obtain ⟨w10, hw10⟩ : ∃ w10, w10 = wr.alloc (Obj.cells #[strV q.type, .int .i64 q.text.1, strV q.text.2, .int .i64 q.other.1, strV q.other.2, .slice qa q.kids.length qc, .int .i64 q.fill, strV q.fillT] 27) := ⟨_, rfl⟩
        have hb10 : Below wr.heap.size wr w10 := by rw [hw10]; exact one_below _ _
        have hX : At w10 wr.heap.size [strV q.type, .int .i64 q.text.1, strV q.text.2, .int .i64 q.other.1, strV q.other.2, .slice qa q.kids.length qc, .int .i64 q.fill, strV q.fillT] 27 := by rw [hw10]; exact At.fresh wr _ _
        have hlr10 := load_at (P := Tryz.prog) hX Tryz.underlying27 rfl (by kernel_rfl)
        simp [go_sem] at hlr10
        have hb9x := hbr.out.trans (hb10.mono hbr.out.size)
        have hld10 := HLD.out w10 (HA2.out.kept hb9x)
        have Hw10 := Lib.hid hw10
        have Hb10 := Lib.hid hb9x
        have hbW := Hb2.out.trans (hb9x.mono Hb2.out.size)
        have HD := Lib.hid (depth_c s _ q qa qc w10 Hwt.out (Hv.out w10 hbW) Hqm.out)
        have hxl := hX.lt
        clear hw10 hb10 hX hb9x hbW hlb hst
        go_upto_region 8 with fail
        rw [← Hw10.out]
        clear Hw10 p0 p1 p2 p3 p4 p5 p6 p7
        obtain ⟨d, hd⟩ : ∃ d, d = depthN s q := ⟨_, rfl⟩
        rw [← hd] at HD Hst
        clear hd
        go_wp2_with fail
        refine HD.out.mono ?_
        rintro e w12 ⟨rfl, hbel⟩
        have Hb12 := Lib.hid (Hb10.out.trans (hbel.mono Hb10.out.size))
        clear hbel HD hld10 hlr10
        go_wp2_with fail
        go_roundg (rs.length - (k + 1))
        case measure => omega
        case rel => exact ⟨k + 1, max z d, by go_num, by first | rfl | simp, by omega, Hst, Hb12⟩
      · obtain rfl : k = rs.length := by omega
        have Hz := Lib.hid (show z = R1 by have h := hst.out; rw [List.drop_length] at h; exact h)
        clear hst
        go_wp2_with fail
        go_ret2
        rw [Hz.out, ← HR2.out.2]
        exact ⟨rfl, Hbr.out⟩
  · have hCb : (C != 0) = true := by simp [hC0]
    have HR2 := Lib.hid (show (0 : Int) = R1 ∧ C = R2 by have h := HR.out; rw [if_pos hC0] at h; injection h with h1 h2; exact ⟨h1, h2⟩)
    clear HR hld1
    go_wp2_with fail
    go_ret2
    rw [← HR2.out.1, ← HR2.out.2]
    exact ⟨rfl, Hb1.out⟩

end Go.Proofs.YtajclfjedlkbcaaGreatDoor
/- The reference's Check and Fills answer as the program's: plain law; walk of the reference's Fills. -/
namespace Go.Proofs.YtajclfjedlkbcaaGreatDoor
open Go.RowKit Go.Redl
set_option linter.unusedVariables false
set_option linter.unusedSimpArgs false

theorem name_ne {t : List UInt8} (h : nameB t = true) : t ≠ [] := by
  unfold nameB at h
  rw [Bool.and_eq_true, decide_eq_true_eq] at h
  exact h.1
theorem leB_less {a b : List UInt8} (h : leB a b = false) : lessB b a = true := by
  unfold leB at h
  exact aft_iff.1 (by show (!(lessB a b || a == b)) = true; rw [show (lessB a b || a == b) = (Op.bytesLess a b || a == b) from rfl, h]; rfl)
/-- Names that rise: each is one; all behind are greater. -/
theorem rise_all : ∀ (l : List (List UInt8)) (o : Option (List UInt8)), riseGo o l = true → (∀ x ∈ l, nameB x = true) ∧ l.Pairwise (fun a b => lessB a b = true) ∧ (∀ p, o = some p → ∀ x ∈ l, lessB p x = true)
  | [], o, _ => ⟨by simp, List.Pairwise.nil, by simp⟩
  | t :: l, o, h => by
    have hn : nameB t = true ∧ riseGo (some t) l = true ∧ (∀ p, o = some p → leB t p = false) := by
      cases o with
      | none =>
        have h' : (nameB t && riseGo (some t) l) = true := h
        rw [Bool.and_eq_true] at h'
        exact ⟨h'.1, h'.2, by simp⟩
      | some p =>
        have h' : (nameB t && (!leB t p && riseGo (some t) l)) = true := h
        rw [Bool.and_eq_true, Bool.and_eq_true] at h'
        exact ⟨h'.1, h'.2.2, fun p' e => by injection e with e; subst e; simpa using h'.2.1⟩
    obtain ⟨h1, h2, h3⟩ := rise_all l (some t) hn.2.1
    refine ⟨fun x hx => ?_, List.pairwise_cons.2 ⟨fun x hx => h3 t rfl x hx, h2⟩, fun p hp x hx => ?_⟩
    · rcases List.mem_cons.1 hx with rfl | hx
      · exact hn.1
      · exact h1 x hx
    · have hpt := leB_less (hn.2.2 p hp)
      rcases List.mem_cons.1 hx with rfl | hx
      · exact hpt
      · exact less_trans hpt (h3 t rfl x hx)
theorem pair_dist {α : Type} {f : α → List UInt8} : ∀ {l : List α}, (l.map f).Pairwise (fun a b => lessB a b = true) → ∀ a ∈ l, ∀ b ∈ l, f a = f b → a = b
  | [], _, a, ha, _, _, _ => by cases ha
  | x :: l, h, a, ha, b, hb, e => by
    rw [List.map_cons, List.pairwise_cons] at h
    rcases List.mem_cons.1 ha with ha | ha
    · rcases List.mem_cons.1 hb with hb | hb
      · rw [ha, hb]
      · have := h.1 (f b) (List.mem_map.2 ⟨b, hb, rfl⟩)
        rw [← e, ha, less_irrefl] at this; cases this
    · rcases List.mem_cons.1 hb with hb | hb
      · have := h.1 (f a) (List.mem_map.2 ⟨a, ha, rfl⟩)
        rw [e, hb, less_irrefl] at this; cases this
      · exact pair_dist h.2 a ha b hb e
theorem dist_of {s : SchemaD} (he : s.els.type = []) (hr : riseGo none (s.rules.map (·.type)) = true) : Dist s := by
  obtain ⟨h1, h2, -⟩ := rise_all _ _ hr
  have hne : ∀ a ∈ s.rules, a.type ≠ [] := fun a ha => name_ne (h1 _ (List.mem_map.2 ⟨a, ha, rfl⟩))
  intro a ha b hb e
  rcases List.mem_append.1 ha with ha | ha
  · rcases List.mem_append.1 hb with hb | hb
    · exact pair_dist h2 a ha b hb e
    · rw [List.mem_singleton.1 hb, he] at e
      exact absurd e (hne a ha)
  · rcases List.mem_append.1 hb with hb | hb
    · rw [List.mem_singleton.1 ha, he] at e
      exact absurd e.symm (hne b hb)
    · rw [List.mem_singleton.1 ha, List.mem_singleton.1 hb]
theorem order_rng (s : SchemaD) : (List.range' 1 6).all (cntB s) = orderB s := by
  unfold orderB cntB
  rfl
theorem okR_eq {s : SchemaD} (hd : Dist s) {r : RuleD} (hr : r ∈ allR s) : okR s r = chkR s r := by
  have h2 : (rfillsS s r).2 = decide (0 ≤ depthN s r) := by
    obtain ⟨h1, h2⟩ := rfills_eq hd hr
    by_cases h : 0 ≤ depthN s r
    · rw [h1 h, decide_eq_true h]
    · rw [h2 (by omega), decide_eq_false h]
  show (wrapsB s r && (lastFill r && (rfillsS s r).2)) = (settledB s r && decide (0 ≤ depthN s r))
  rw [h2, show settledB s r = (!badText s r && ((namesS s).all (wrapOk s r) && lastFill r)) from rfl]
  unfold wrapsB
  cases badText s r <;> cases (namesS s).all (wrapOk s r) <;> cases lastFill r <;> simp
theorem all_congr2 {α : Type} {p q : α → Bool} : ∀ {l : List α}, (∀ x ∈ l, p x = q x) → l.all p = l.all q
  | [], _ => rfl
  | x :: l, h => by rw [List.all_cons, List.all_cons, h x (by simp), all_congr2 (fun y hy => h y (by simp [hy]))]
theorem rchk_eq (s : SchemaD) : rchk s = checkS s := by
  rw [checkS_eq]
  unfold rchk
  rw [order_rng]
  have hB : chkB s = (decide (s.els.type = []) && ((riseGo none (s.rules.map (·.type)) && decide (s.rules.length ≤ 32)) && (allR s).all formedB)) := by
    unfold chkB riseB
    rw [List.length_map]
  have hA : chkA s = (orderB s && (decide (1 ≤ s.cap) && decide (s.cap ≤ 1048576))) := rfl
  rw [hA, hB]
  unfold rP1
  by_cases he : s.els.type = []
  · cases hr : riseGo none (s.rules.map (·.type)) with
    | false => unfold res; simp
    | true =>
      have hd := dist_of he hr
      rw [all_congr2 (q := chkR s) (fun r hr => okR_eq hd hr)]
      generalize orderB s = b1
      generalize (allR s).all formedB = b2
      generalize (allR s).all (chkR s) = b3
      generalize decide (s.rules.length ≤ 32) = b4
      generalize decide (s.els.type = []) = b5
      generalize decide (1 ≤ s.cap) = b6
      generalize decide (s.cap ≤ 1048576) = b7
      unfold res
      cases b1 <;> cases b2 <;> cases b3 <;> cases b4 <;> cases b5 <;> cases b6 <;> cases b7 <;> rfl
  · rw [decide_eq_false he]
    unfold res
    simp

theorem fold_same (s : SchemaD) : ∀ (l : List RuleD) (m : Int), (∀ r ∈ l, (rfillsS s r).1 = depthN s r) → l.foldl (fun m r => max m (rfillsS s r).1) m = l.foldl (fun m r => max m (depthN s r)) m
  | [], m, _ => rfl
  | r :: l, m, h => by
    rw [List.foldl_cons, List.foldl_cons, h r (by simp)]
    exact fold_same s l _ (fun x hx => h x (by simp [hx]))
theorem fillsR_eq (s : SchemaD) : (if rchk s ≠ 0 then ((0 : Int), rchk s) else ((allR s).foldl (fun m r => max m (rfillsS s r).1) 0, 0)) = fillsS s := by
  rw [rchk_eq]
  unfold fillsS
  by_cases h : checkS s = 0
  · rw [if_neg (by simpa using h), if_neg (by simpa using h)]
    congr 1
    rw [checkS_eq] at h
    have hb : (chkA s && chkB s && (allR s).all (chkR s)) = true := by
      cases hh : (chkA s && chkB s && (allR s).all (chkR s)) with
      | true => rfl
      | false => rw [hh] at h; exact absurd h (by decide)
    rw [Bool.and_eq_true, Bool.and_eq_true] at hb
    have hB := hb.1.2
    unfold chkB riseB at hB
    rw [Bool.and_eq_true, Bool.and_eq_true, Bool.and_eq_true, decide_eq_true_eq] at hB
    have hd := dist_of hB.1 hB.2.1.1
    refine fold_same s _ 0 fun r hr => ?_
    have h2 := List.all_eq_true.1 hb.2 r hr
    have h3 : (settledB s r && decide (0 ≤ depthN s r)) = true := h2
    rw [Bool.and_eq_true, decide_eq_true_eq] at h3
    rw [(rfills_eq hd hr).1 h3.2]
  · rw [if_pos h, if_pos h]

end Go.Proofs.YtajclfjedlkbcaaGreatDoor
/- Walk: the reference's Fills: it answers as the program's. -/
namespace Go.Proofs.YtajclfjedlkbcaaGreatDoor
open Go.RowKit Go.Redl
set_option linter.unusedVariables false
set_option linter.unusedSimpArgs false

theorem fills15_ent : ∀ args w, (callFunc 16 args).run Tryz.prog w = .ok (.enter 16 args) w := by intro args w; kernel_rfl
set_option maxRecDepth 100000 in
set_option maxHeartbeats 4000000 in
theorem fills15_c (s : SchemaD) (v : Value) (W : World) (hw : s.wt ≤ 100000000) (hv : SchemaV W W.heap.size s v) :
    Calls Tryz.prog 16 #[v] W fun e w' => e = .returned (.tuple #[.int .i64 (fillsS s).1, .int .i64 (fillsS s).2]) ∧ Below W.heap.size W w' := by
  have Hv := Lib.hid (fun (w' : World) (hb : Below W.heap.size W w') => hv.keep hb hb.size)
  have HvW := Lib.hid (fun (w' : World) (hb : Below W.heap.size W w') => hv.keep hb (Nat.le_refl _))
  obtain ⟨sa, sc, css, ea, ec, o0, o1, o2, o3, o4, o5, rfl, -, -, -, -⟩ := hv.open
  have Hwt := Lib.hid hw
  have hrl : s.rules.length ≤ 100000000 := by have := rulesWt_len s.rules; unfold SchemaD.wt at hw; omega
  obtain ⟨R1, hR1⟩ : ∃ R1, R1 = (fillsS s).1 := ⟨_, rfl⟩
  obtain ⟨R2, hR2⟩ : ∃ R2, R2 = (fillsS s).2 := ⟨_, rfl⟩
  have HR := Lib.hid (show (if rchk s ≠ 0 then ((0 : Int), rchk s) else ((allR s).foldl (fun m r => max m (rfillsS s r).1) 0, 0)) = (R1, R2) by rw [hR1, hR2, fillsR_eq])
  rw [← hR1, ← hR2]
  obtain ⟨w0, hw0⟩ : ∃ w0, w0 = W.alloc (Obj.cells #[.slice sa s.rules.length sc, strV s.els.type, .int .i64 s.els.text.1, strV s.els.text.2, .int .i64 s.els.other.1, strV s.els.other.2, .slice ea s.els.kids.length ec, .int .i64 s.els.fill, strV s.els.fillT, .int .i64 o0, .int .i64 o1, .int .i64 o2, .int .i64 o3, .int .i64 o4, .int .i64 o5, .int .i64 s.cap] 30) := ⟨_, rfl⟩
  have hb0 : Below W.heap.size W w0 := by rw [hw0]; exact one_below _ _
  have hA : At w0 W.heap.size [.slice sa s.rules.length sc, strV s.els.type, .int .i64 s.els.text.1, strV s.els.text.2, .int .i64 s.els.other.1, strV s.els.other.2, .slice ea s.els.kids.length ec, .int .i64 s.els.fill, strV s.els.fillT, .int .i64 o0, .int .i64 o1, .int .i64 o2, .int .i64 o3, .int .i64 o4, .int .i64 o5, .int .i64 s.cap] 30 := by rw [hw0]; exact At.fresh W _ _
  have hld := fun (w' : World) (h : At w' W.heap.size [.slice sa s.rules.length sc, strV s.els.type, .int .i64 s.els.text.1, strV s.els.text.2, .int .i64 s.els.other.1, strV s.els.other.2, .slice ea s.els.kids.length ec, .int .i64 s.els.fill, strV s.els.fillT, .int .i64 o0, .int .i64 o1, .int .i64 o2, .int .i64 o3, .int .i64 o4, .int .i64 o5, .int .i64 s.cap] 30) => load_at (P := Tryz.prog) h Tryz.underlying30 rfl (by kernel_rfl)
  simp [go_sem] at hld
  have HLD := Lib.hid hld
  have hld0 := hld w0 hA
  have HC := Lib.hid (rcheck_c s _ w0 hw (Hv.out w0 hb0))
  have Hw0 := Lib.hid hw0; have Hb0 := Lib.hid hb0; have HA := Lib.hid hA
  have xl := hA.lt
  clear hv hw hw0 hb0 hA hld hR1 hR2
  go_enter Tryz.func16, Tryz.ntmps16
  go_upto_region 1 with fail
  rw [← Hw0.out]
  clear Hw0
  obtain ⟨C, hC⟩ : ∃ C, C = rchk s := ⟨_, rfl⟩
  rw [← hC] at HC HR
  clear hC
  go_wp2_with fail
  refine HC.out.mono ?_
  rintro e w1 ⟨rfl, hbel⟩
  have Hb1 := Lib.hid (Hb0.out.trans (hbel.mono Hb0.out.size))
  have HA1 := Lib.hid (HA.out.kept hbel)
  have hld1 := HLD.out w1 HA1.out
  have xl1 := HA1.out.lt
  have HRu := Lib.hid (rall_x s _ W.heap.size w1 Hwt.out (HvW.out w1 Hb1.out) Hb1.out.size)
  clear hbel HC hld0 xl
  by_cases hC0 : C = 0
  · subst hC0
    have HR2 := Lib.hid (show (allR s).foldl (fun m r => max m ((rfillsS s r).1)) 0 = R1 ∧ (0 : Int) = R2 by have h := HR.out; rw [if_neg (by simp)] at h; injection h with h1 h2; exact ⟨h1, h2⟩)
    clear HR
    go_wp2_with fail
    refine HRu.out.mono ?_
    rintro e w2 ⟨ra, rc, css2, rfl, hrow, hrcs, hbel⟩
    have hr1 : (allR s).length ≤ 100000000 := by have h1 := rulesWt_len s.rules; have h2 := Hwt.out; unfold SchemaD.wt RuleD.wt at h2; rw [all_len]; omega
    have Hb2 := Lib.hid (Hb1.out.trans (hbel.mono Hb1.out.size))
    have HA2 := Lib.hid (HA1.out.kept hbel)
    have Hrow := Lib.hid hrow.row; have Hrcs := Lib.hid hrcs
    obtain ⟨rs, hrs⟩ : ∃ rs, rs = allR s := ⟨_, rfl⟩
    have Hrs := Lib.hid hrs
    rw [← hrs] at Hrow Hrcs hr1 HR2 ⊢
    clear hrow hrcs hbel HRu hld1 hrs xl1
    go_wp2_with fail
    go_loopg [18, 5] rs.length (fun g i m wr => ∃ (k : Nat) (z : Int), i = .int .i64 k ∧ m = .int .i64 z ∧ k + g = rs.length ∧ Hid ((rs.drop k).foldl (fun m r => max m ((rfillsS s r).1)) z = R1) ∧ Hid (Below w2.heap.size w2 wr))
    case atStart => exact ⟨0, 0, rfl, rfl, by omega, HR2.out.1, (show Below _ _ _ from Below.refl _ _)⟩
    case round =>
      obtain ⟨k, z, rfl, rfl, hg, hst, hbr⟩ := hrel
      have Hbr := Lib.hid (Hb2.out.trans (hbr.out.mono Hb2.out.size))
      by_cases hlt : k < rs.length
      · have hlti : (k : Int) < rs.length := by omega
        obtain ⟨b, off, qa, qc, rfl, hlb, -, p0, p1, p2, p3, p4, p5, p6, p7⟩ := rule8q (Hrow.out.keep hbr.out hbr.out.size) (RulesC.keep (hbr.out.mono Hb2.out.size) (Nat.le_refl _) Hrcs.out) k hlt
        have Hqm := Lib.hid (show rs[k] ∈ allR s by rw [← Hrs.out]; exact List.getElem_mem hlt)
        have Hst := Lib.hid (show (rs.drop (k + 1)).foldl (fun m r => max m ((rfillsS s r).1)) (max z ((rfillsS s rs[k]).1)) = R1 by
          have h := hst.out
          rw [List.drop_eq_getElem_cons hlt, List.foldl_cons] at h
          exact h)
        generalize rs[k] = q at p0 p1 p2 p3 p4 p5 p6 p7 Hqm Hst
        obtain ⟨w10, hw10⟩ : ∃ w10, w10 = wr.alloc (Obj.cells #[strV q.type, .int .i64 q.text.1, strV q.text.2, .int .i64 q.other.1, strV q.other.2, .slice qa q.kids.length qc, .int .i64 q.fill, strV q.fillT] 27) := ⟨_, rfl⟩
        have hb10 : Below wr.heap.size wr w10 := by rw [hw10]; exact one_below _ _
        have hX : At w10 wr.heap.size [strV q.type, .int .i64 q.text.1, strV q.text.2, .int .i64 q.other.1, strV q.other.2, .slice qa q.kids.length qc, .int .i64 q.fill, strV q.fillT] 27 := by rw [hw10]; exact At.fresh wr _ _
        have hlr10 := load_at (P := Tryz.prog) hX Tryz.underlying27 rfl (by kernel_rfl)
        simp [go_sem] at hlr10
        have hb9x := hbr.out.trans (hb10.mono hbr.out.size)
        have hld10 := HLD.out w10 (HA2.out.kept hb9x)
        have Hw10 := Lib.hid hw10
        have Hb10 := Lib.hid hb9x
        have hbW := Hb2.out.trans (hb9x.mono Hb2.out.size)
        have HD := Lib.hid (rfills_c s _ q qa qc w10 Hwt.out (Hv.out w10 hbW))
        have hxl := hX.lt
        clear hw10 hb10 hX hb9x hbW hlb hst
        go_upto_region 8 with fail
        rw [← Hw10.out]
        clear Hw10 p0 p1 p2 p3 p4 p5 p6 p7
        obtain ⟨⟨d, d2⟩, hd⟩ : ∃ d, rfillsS s q = d := ⟨_, rfl⟩
        rw [hd] at HD Hst
        simp only at HD Hst
        clear hd
        go_wp2_with fail
        refine HD.out.mono ?_
        rintro e w12 ⟨rfl, hbel⟩
        have Hb12 := Lib.hid (Hb10.out.trans (hbel.mono Hb10.out.size))
        clear hbel HD hld10 hlr10
        go_wp2_with fail
        go_roundg (rs.length - (k + 1))
        case measure => omega
        case rel => exact ⟨k + 1, max z d, by go_num, by first | rfl | simp, by omega, Hst, Hb12⟩
      · obtain rfl : k = rs.length := by omega
        have Hz := Lib.hid (show z = R1 by have h := hst.out; rw [List.drop_length] at h; exact h)
        clear hst
        go_wp2_with fail
        go_ret2
        rw [Hz.out, ← HR2.out.2]
        exact ⟨rfl, Hbr.out⟩
  · have hCb : (C != 0) = true := by simp [hC0]
    have HR2 := Lib.hid (show (0 : Int) = R1 ∧ C = R2 by have h := HR.out; rw [if_pos hC0] at h; injection h with h1 h2; exact ⟨h1, h2⟩)
    clear HR hld1
    go_wp2_with fail
    go_ret2
    rw [← HR2.out.1, ← HR2.out.2]
    exact ⟨rfl, Hb1.out⟩

end Go.Proofs.YtajclfjedlkbcaaGreatDoor
/- Walk: weight.Bound. -/
namespace Go.Proofs.YtajclfjedlkbcaaGreatDoor
open Go.RowKit Go.Redl
set_option linter.unusedVariables false
set_option linter.unusedSimpArgs false

/-- What Bound answers. -/
def boundS (s : SchemaD) (n : NodeD) (L : List (List Int)) : Int × Int := if (fillsS s).2 ≠ 0 then (0, (fillsS s).2) else ((regN n L : Int) * (4 + 2 * (fillsS s).1), 0)
theorem bound_ent : ∀ args w, (callFunc 7 args).run Tryz.prog w = .ok (.enter 7 args) w := by intro args w; kernel_rfl
theorem reg_wt {n : NodeD} (hw : n.wt ≤ 1048576) (L : List (List Int)) : regN n L ≤ 1048576 := Nat.le_trans (regA_most hw L) (Nat.le_trans (regA_le hw) hw)
theorem mul_small {a b : Int} (ha : 0 ≤ a) (ha2 : a ≤ 1048576) (hb : 0 ≤ b) (hb2 : b ≤ 2200000) : 0 ≤ a * b ∧ a * b ≤ 2306867200000 := by
  refine ⟨Int.mul_nonneg ha hb, ?_⟩
  have h1 : a * b ≤ 1048576 * b := Int.mul_le_mul_of_nonneg_right ha2 hb
  omega
set_option maxRecDepth 100000 in
set_option maxHeartbeats 4000000 in
theorem bound_c (s : SchemaD) (n : NodeD) (u v : Value) (vx : Value) (xs : List PX) (W : World) (hs : s.wt ≤ 1048576) (hn : n.wt ≤ 1048576) (hxl : xs.length ≤ 1048576) (hxm : ∀ x ∈ xs, x.1.length ≤ 100000000) (hu : SchemaV W W.heap.size s u) (hv : NodeV W W.heap.size n v) (hx : ReadX W W.heap.size vx xs) :
    Calls Tryz.prog 7 #[u, v, vx] W fun e w' => e = .returned (.tuple #[.int .i64 (boundS s n (pxs xs)).1, .int .i64 (boundS s n (pxs xs)).2]) ∧ Below W.heap.size W w' := by
  have hu0 := hu; have hv0 := hv
  obtain ⟨l, ps, t, ks⟩ := n
  obtain ⟨a, c, css, ea, ec, o0, o1, o2, o3, o4, o5, rfl, -, -, -, -⟩ := hu0.open
  obtain ⟨ap, cp, at_, ct, ak, ck, cs4, rfl, -, -, -, -⟩ := hv0.open
  generalize NodeD.mk l ps t ks = n at hn hv ⊢
  obtain ⟨xa, xc, rfl, -⟩ := hx.row
  obtain ⟨w0, hw0⟩ : ∃ w0, w0 = (W.alloc (Obj.cells #[.slice a s.rules.length c, strV s.els.type, .int .i64 s.els.text.1, strV s.els.text.2, .int .i64 s.els.other.1, strV s.els.other.2, .slice ea s.els.kids.length ec, .int .i64 s.els.fill, strV s.els.fillT, .int .i64 o0, .int .i64 o1, .int .i64 o2, .int .i64 o3, .int .i64 o4, .int .i64 o5, .int .i64 s.cap] 30)).alloc (Obj.cells #[.bool l, .slice ap ps.length cp, .slice at_ t.length ct, .slice ak ks.length ck] 35) := ⟨_, rfl⟩
  have hb0 : Below W.heap.size W w0 := by rw [hw0]; exact two_below _ _ _
  have hA : At w0 W.heap.size [.slice a s.rules.length c, strV s.els.type, .int .i64 s.els.text.1, strV s.els.text.2, .int .i64 s.els.other.1, strV s.els.other.2, .slice ea s.els.kids.length ec, .int .i64 s.els.fill, strV s.els.fillT, .int .i64 o0, .int .i64 o1, .int .i64 o2, .int .i64 o3, .int .i64 o4, .int .i64 o5, .int .i64 s.cap] 30 := by rw [hw0]; exact (At.fresh W _ _).alloc _
  have hN : At w0 (W.heap.size + 1) [.bool l, .slice ap ps.length cp, .slice at_ t.length ct, .slice ak ks.length ck] 35 := by rw [hw0]; exact At.second W _ _ _
  have hld := load_at (P := Tryz.prog) hA Tryz.underlying30 rfl (by kernel_rfl)
  simp [go_sem] at hld
  have HF := Lib.hid (fills_c s _ w0 (by omega) (hu.keep hb0 hb0.size))
  have HRg := Lib.hid (fun (w' : World) (hb : Below W.heap.size W w') => region_c n _ W.heap.size _ xs w' (by omega) (hv.keep hb (Nat.le_refl _)) hb.size (hx.keep hb (Nat.le_refl _)) (by omega) hxm)
  have Hreg := Lib.hid (reg_wt hn (pxs xs))
  have Hf0 := Lib.hid (fills_ge s); have Hf1 := Lib.hid (show (fillsS s).1 ≤ 1048580 by have h1 := fills_le s; have h2 := rulesWt_len s.rules; unfold SchemaD.wt at hs; omega)
  have Hw0 := Lib.hid hw0; have Hb0 := Lib.hid hb0; have HN := Lib.hid hN
  have HBd := Lib.hid (show boundS s n (pxs xs) = if (fillsS s).2 ≠ 0 then (0, (fillsS s).2) else ((regN n (pxs xs) : Int) * (4 + 2 * (fillsS s).1), 0) from rfl)
  obtain ⟨BD, hBD⟩ : ∃ BD, BD = boundS s n (pxs xs) := ⟨_, rfl⟩
  rw [← hBD] at HBd ⊢
  obtain ⟨RG, hRG⟩ : ∃ RG, RG = regN n (pxs xs) := ⟨_, rfl⟩
  rw [← hRG] at HRg Hreg HBd
  obtain ⟨⟨F1, F2⟩, hFF⟩ : ∃ z, fillsS s = z := ⟨_, rfl⟩
  rw [hFF] at HF Hf0 Hf1 HBd
  simp only at HF Hf0 Hf1 HBd
  have xl := hN.lt
  clear hu hv hu0 hv0 hs hn hb0 hw0 hA hN hx hxm hRG hBD hFF
  go_enter Tryz.func7, Tryz.ntmps7
  go_upto_region 1 with fail
  rw [← Hw0.out]
  clear Hw0
  go_wp2_with fail
  refine HF.out.mono ?_
  rintro e w1 ⟨rfl, hbel⟩
  have Hb1 := Lib.hid (Hb0.out.trans (hbel.mono Hb0.out.size))
  obtain ⟨⟨y0, y1, y2, y3⟩, -, yl⟩ := (HN.out.kept hbel).f4
  have HR1 := Lib.hid (HRg.out w1 Hb1.out)
  clear hbel HF HRg hld
  by_cases h0 : F2 = 0
  · subst h0
    have Hz := Lib.hid (show BD = ((RG : Int) * (4 + 2 * F1), 0) by rw [HBd.out, if_neg (by simp)])
    go_wp2_with fail
    refine HR1.out.mono ?_
    rintro e w2 ⟨rfl, hbel⟩
    have Hb2 := Lib.hid (Hb1.out.trans (hbel.mono Hb1.out.size))
    have hf0 := Hf0.out; have hf1 := Hf1.out; have hreg := Hreg.out
    have hr0 : (0 : Int) ≤ RG := by omega
    have hr1 : (RG : Int) ≤ 1048576 := by omega
    have hm := mul_small hr0 hr1 (show (0 : Int) ≤ 4 + 2 * F1 by omega) (by omega)
    have e1 : IntKind.i64.wrap (2 * F1) = 2 * F1 := IntWalk.i64_in _ (by omega)
    have e2 : IntKind.i64.wrap (4 + 2 * F1) = 4 + 2 * F1 := IntWalk.i64_in _ (by omega)
    have e3 : IntKind.i64.wrap ((RG : Int) * (4 + 2 * F1)) = (RG : Int) * (4 + 2 * F1) := IntWalk.i64_in _ (by omega)
    clear hbel HR1 y0 y1 y2 y3 hf0 hf1 hreg hr0 hr1 hm
    go_wp2_with fail
    go_ret2
    rw [Hz.out]
    exact ⟨rfl, Hb2.out⟩
  · have Hz := Lib.hid (show BD = (0, F2) by rw [HBd.out, if_pos h0])
    clear HR1 y0 y1 y2 y3
    go_wp2_with fail
    go_ret2
    rw [Hz.out]
    exact ⟨rfl, Hb1.out⟩

end Go.Proofs.YtajclfjedlkbcaaGreatDoor
