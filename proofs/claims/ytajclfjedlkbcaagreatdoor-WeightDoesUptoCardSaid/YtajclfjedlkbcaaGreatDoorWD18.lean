/- Parts of the proof, one behind the other: RQI, RMY. -/
import Derived.Test.YtajclfjedlkbcaaGreatDoorWD17
import Derived.Test.YtajclfjedlkbcaaGreatDoorWD16
import Derived.Test.YtajclfjedlkbcaaGreatDoorWD14
import Derived.Test.YtajclfjedlkbcaaGreatDoorWD5
/- Walk: the reference's Check. -/
namespace Go.Proofs.YtajclfjedlkbcaaGreatDoor
open Go.RowKit Go.Redl
set_option linter.unusedVariables false
set_option linter.unusedSimpArgs false

def res (b : Bool) : Int := if b then 0 else 12
def cntB (s : SchemaD) (c : Nat) : Bool := decide ((s.order.filter (fun x => decide (x = (c : Int)))).length = 1)
def rP1 (s : SchemaD) : Bool := decide (s.rules.length ≤ 32) && (decide (s.els.type = []) && (decide (1 ≤ s.cap) && decide (s.cap ≤ 1048576)))
abbrev okR (s : SchemaD) (r : RuleD) : Bool := wrapsB s r && (lastFill r && (rfillsS s r).2)
def rchk (s : SchemaD) : Int := res (rP1 s && ((List.range' 1 6).all (cntB s) && (riseGo none (s.rules.map (·.type)) && ((allR s).all formedB && (allR s).all (okR s)))))
theorem rise_step2 {l : List (List UInt8)} {k : Nat} (hk : k < l.length) : riseGo (aheadL l k) (l.drop k) = ((nameB l[k] && leadB l[k] (aheadL l k)) && riseGo (aheadL l (k + 1)) (l.drop (k + 1))) := by
  rw [List.drop_eq_getElem_cons hk, show aheadL l (k + 1) = some l[k] by show l[k]? = _; exact List.getElem?_eq_getElem hk]
  cases aheadL l k with
  | none => show (nameB l[k] && riseGo (some l[k]) _) = ((nameB l[k] && true) && _); simp
  | some p => show (nameB l[k] && (!leB l[k] p && riseGo (some l[k]) _)) = ((nameB l[k] && !leB l[k] p) && _); rw [Bool.and_assoc]
theorem range_step {c : Nat} (h : c ≤ 6) (f : Nat → Bool) : (List.range' c (7 - c)).all f = (f c && (List.range' (c + 1) (7 - (c + 1))).all f) := by
  rw [show 7 - c = (7 - (c + 1)) + 1 by omega, List.range'_succ, List.all_cons]
theorem idx6 (o0 o1 o2 o3 o4 o5 : Int) (j : Nat) (hj : j < 6) : ∃ x, ([o0, o1, o2, o3, o4, o5] : List Int)[j]? = some x ∧ ∀ w : World, (Instr.index 28 (.agg #[.int .i64 o0, .int .i64 o1, .int .i64 o2, .int .i64 o3, .int .i64 o4, .int .i64 o5]) (.int .i64 (j : Int))).run Tryz.prog w = .ok (.int .i64 x) w := by
  match j, hj with
  | 0, _ => exact ⟨o0, rfl, fun w => by kernel_rfl⟩
  | 1, _ => exact ⟨o1, rfl, fun w => by kernel_rfl⟩
  | 2, _ => exact ⟨o2, rfl, fun w => by kernel_rfl⟩
  | 3, _ => exact ⟨o3, rfl, fun w => by kernel_rfl⟩
  | 4, _ => exact ⟨o4, rfl, fun w => by kernel_rfl⟩
  | 5, _ => exact ⟨o5, rfl, fun w => by kernel_rfl⟩
theorem lead_prevL {l : List (List UInt8)} {m : Nat} (h : m < l.length) (t : List UInt8) : leadB t (aheadL l (m + 1)) = !leB t l[m] := by
  rw [show aheadL l (m + 1) = some l[m] by show l[m]? = _; exact List.getElem?_eq_getElem h]
  rfl
theorem rcheck_ent : ∀ args w, (callFunc 30 args).run Tryz.prog w = .ok (.enter 30 args) w := by intro args w; kernel_rfl
set_option maxRecDepth 100000 in
set_option maxHeartbeats 8000000 in
theorem rcheck_c (s : SchemaD) (v : Value) (W : World) (hw : s.wt ≤ 100000000) (hv : SchemaV W W.heap.size s v) :
    Calls Tryz.prog 30 #[v] W fun e w' => e = .returned (.int .i64 (rchk s)) ∧ Below W.heap.size W w' := by
  have Hv := Lib.hid (fun (w' : World) (hb : Below W.heap.size W w') => hv.keep hb hb.size)
  have HvW := Lib.hid (fun (w' : World) (hb : Below W.heap.size W w') => hv.keep hb (Nat.le_refl _))
  obtain ⟨sa, sc, css, ea, ec, o0, o1, o2, o3, o4, o5, rfl, h1, h2, h3, h4⟩ := hv.open
  have Hwt := Lib.hid hw
  have hrl : s.rules.length ≤ 100000000 := by have := rulesWt_len s.rules; unfold SchemaD.wt at hw; omega
  have H1 := Lib.hid (fun (w' : World) (hb : Below W.heap.size W w') => h1.keep hb hb.size)
  have H2 := Lib.hid (fun (w' : World) (hb : Below W.heap.size W w') => RulesC.keep hb hb.size h2)
  have H4 := Lib.hid h4
  obtain ⟨R, hR⟩ : ∃ R, R = rchk s := ⟨_, rfl⟩
  obtain ⟨P1, hP1⟩ : ∃ P1, P1 = rP1 s := ⟨_, rfl⟩
  have HP1 := Lib.hid (show P1 = (decide (s.rules.length ≤ 32) && (decide (s.els.type = []) && (decide (1 ≤ s.cap) && decide (s.cap ≤ 1048576)))) from hP1)
  obtain ⟨P5, hP5⟩ : ∃ P5, P5 = (allR s).all (okR s) := ⟨_, rfl⟩
  obtain ⟨P4, hP4⟩ : ∃ P4, P4 = ((allR s).all formedB && P5) := ⟨_, rfl⟩
  obtain ⟨P3, hP3⟩ : ∃ P3, P3 = (riseGo none (s.rules.map (·.type)) && P4) := ⟨_, rfl⟩
  have HR := Lib.hid (show res (P1 && ((List.range' 1 (7 - 1)).all (cntB s) && P3)) = R by rw [hR, hP1, hP3, hP4, hP5]; rfl)
  have HP3 := Lib.hid hP3; have HP4 := Lib.hid hP4; have HP5 := Lib.hid hP5
  rw [← hR]
  obtain ⟨w0, hw0⟩ : ∃ w0, w0 = W.alloc (Obj.cells #[.slice sa s.rules.length sc, strV s.els.type, .int .i64 s.els.text.1, strV s.els.text.2, .int .i64 s.els.other.1, strV s.els.other.2, .slice ea s.els.kids.length ec, .int .i64 s.els.fill, strV s.els.fillT, .int .i64 o0, .int .i64 o1, .int .i64 o2, .int .i64 o3, .int .i64 o4, .int .i64 o5, .int .i64 s.cap] 30) := ⟨_, rfl⟩
  have hb0 : Below W.heap.size W w0 := by rw [hw0]; exact one_below _ _
  have hA : At w0 W.heap.size [.slice sa s.rules.length sc, strV s.els.type, .int .i64 s.els.text.1, strV s.els.text.2, .int .i64 s.els.other.1, strV s.els.other.2, .slice ea s.els.kids.length ec, .int .i64 s.els.fill, strV s.els.fillT, .int .i64 o0, .int .i64 o1, .int .i64 o2, .int .i64 o3, .int .i64 o4, .int .i64 o5, .int .i64 s.cap] 30 := by rw [hw0]; exact At.fresh W _ _
  have hld := fun (w' : World) (h : At w' W.heap.size [.slice sa s.rules.length sc, strV s.els.type, .int .i64 s.els.text.1, strV s.els.text.2, .int .i64 s.els.other.1, strV s.els.other.2, .slice ea s.els.kids.length ec, .int .i64 s.els.fill, strV s.els.fillT, .int .i64 o0, .int .i64 o1, .int .i64 o2, .int .i64 o3, .int .i64 o4, .int .i64 o5, .int .i64 s.cap] 30) => load_at (P := Tryz.prog) h Tryz.underlying30 rfl (by kernel_rfl)
  simp [go_sem] at hld
  have HLD := Lib.hid hld
  have Hw0 := Lib.hid hw0; have Hb0 := Lib.hid hb0; have HA := Lib.hid hA
  have xl := hA.lt
  have x0 := hA.cell 0 (v := .slice sa s.rules.length sc) rfl
  have x1 := hA.cell 1 (v := strV s.els.type) rfl
  have x15 := hA.cell 15 (v := .int .i64 s.cap) rfl
  clear hv hw h1 h2 h3 h4 hR hP1 hP3 hP4 hP5 hw0 hb0 hA hld
  go_enter Tryz.func30, Tryz.ntmps30
  go_upto_region 1 with fail
  rw [← Hw0.out]
  clear Hw0
  go_cut [34] (fun b wx => b = .bool (!P1) ∧ Hid (w0 = wx))
  case first =>
    by_cases c0 : s.rules.length ≤ 32
    · have c0i : ¬ (32 : Int) < s.rules.length := by omega
      obtain ⟨T, hT⟩ : ∃ T, T = s.els.type := ⟨_, rfl⟩
      rw [← hT] at x1
      cases T with
      | cons t0 ts =>
        have Hz := Lib.hid (show P1 = false by rw [HP1.out, ← hT]; simp)
        clear hT
        go_wp2_with fail
        go_meet
        case rel => exact ⟨by rw [Hz.out]; rfl, (show w0 = w0 from rfl)⟩
      | nil =>
        have HP2 := Lib.hid (show P1 = (decide (1 ≤ s.cap) && decide (s.cap ≤ 1048576)) by rw [HP1.out, ← hT, decide_eq_true c0]; simp)
        clear hT
        by_cases c1 : s.cap < 1
        · have Hz := Lib.hid (show P1 = false by rw [HP2.out, decide_eq_false (show ¬ 1 ≤ s.cap by omega)]; rfl)
          go_wp2_with fail
          go_meet
          case rel => exact ⟨by rw [Hz.out]; rfl, (show w0 = w0 from rfl)⟩
        · by_cases c2 : 1048576 < s.cap
          · have Hz := Lib.hid (show P1 = false by rw [HP2.out, decide_eq_false (show ¬ s.cap ≤ 1048576 by omega)]; simp)
            have c1b := decide_eq_false c1
            go_wp2_with fail
            go_meet
            case rel => exact ⟨by rw [Hz.out]; first | rfl | (rw [c1b]; rfl), (show w0 = w0 from rfl)⟩
          · have Hz := Lib.hid (show P1 = true by rw [HP2.out, decide_eq_true (show s.cap ≤ 1048576 by omega), decide_eq_true (show 1 ≤ s.cap by omega)]; rfl)
            have c1b := decide_eq_false c1
            have c2b := decide_eq_false c2
            go_wp2_with fail
            go_meet
            case rel => exact ⟨by rw [Hz.out]; first | rfl | (rw [c1b, c2b]; rfl), (show w0 = w0 from rfl)⟩
    · have c0i : (32 : Int) < s.rules.length := by omega
      have Hz := Lib.hid (show P1 = false by rw [HP1.out, decide_eq_false c0]; rfl)
      go_wp2_with fail
      go_meet
      case rel => exact ⟨by rw [Hz.out]; rfl, (show w0 = w0 from rfl)⟩
  case rest =>
    obtain ⟨rfl, hbx⟩ := hcut
    have hbe := hbx.out
    subst hbe
    clear x0 x1 x15 HP1
    cases P1 with
    | false =>
      have Hz := Lib.hid (show (12 : Int) = R from HR.out)
      go_wp2_with fail
      go_ret
      exact ⟨ret_int Hz.out, Hb0.out⟩
    | true =>
      have HR2 := Lib.hid (show res ((List.range' 1 (7 - 1)).all (cntB s) && P3) = R from HR.out)
      clear HR
      go_wp2_with fail
      go_loopg [3] 6 (fun g i wr => ∃ c : Nat, i = .int .i64 c ∧ c + g = 7 ∧ 1 ≤ c ∧ Hid (res ((List.range' c (7 - c)).all (cntB s) && P3) = R) ∧ Hid (Below w0.heap.size w0 wr))
      case atStart => exact ⟨1, rfl, by omega, by omega, HR2, (show Below _ _ _ from Below.refl _ _)⟩
      case round =>
        obtain ⟨c, rfl, hg, hc1, hst, hbr⟩ := hrel
        obtain ⟨wR, rfl⟩ : ∃ z, z = wr := ⟨_, rfl⟩
        obtain ⟨G, rfl⟩ : ∃ z, z = gk := ⟨_, rfl⟩
        have HAR := Lib.hid (HA.out.kept hbr.out)
        by_cases hc : c ≤ 6
        ·
          have hci : (c : Int) ≤ 6 := by omega
          have y9 := HAR.out.cell 9 (v := .int .i64 o0) rfl
          have y10 := HAR.out.cell 10 (v := .int .i64 o1) rfl
          have y11 := HAR.out.cell 11 (v := .int .i64 o2) rfl
          have y12 := HAR.out.cell 12 (v := .int .i64 o3) rfl
          have y13 := HAR.out.cell 13 (v := .int .i64 o4) rfl
          have y14 := HAR.out.cell 14 (v := .int .i64 o5) rfl
          have Hst := Lib.hid (show res (cntB s c && ((List.range' (c + 1) (7 - (c + 1))).all (cntB s) && P3)) = R by have h := hst.out; rw [range_step hc, Bool.and_assoc] at h; exact h)
          clear hst
          go_wp2_with fail
          clear y9 y10 y11 y12 y13 y14
          go_loopg [41, 4] 6 (fun g i m wx => ∃ (j N : Nat), i = .int .i64 j ∧ m = .int .i64 N ∧ j + g = 6 ∧ N ≤ j ∧ Hid (N = ((s.order.take j).filter (fun x => decide (x = (c : Int)))).length) ∧ Hid (Below wR.heap.size wR wx))
          case atStart => exact ⟨0, 0, rfl, rfl, by omega, by omega, (show 0 = _ from rfl), (show Below _ _ _ from Below.refl _ _)⟩
          case round =>
            obtain ⟨j, N, rfl, rfl, hg2, hNj, hN, hbk⟩ := hrel
            by_cases hj : j < 6
            · have hji : (j : Int) < 6 := by omega
              obtain ⟨x, hx, hidx⟩ := idx6 o0 o1 o2 o3 o4 o5 j hj
              have Hts := Lib.hid (show s.order.take (j + 1) = s.order.take j ++ [x] by
                rw [H4.out]
                have hj6 : j < ([o0, o1, o2, o3, o4, o5] : List Int).length := hj
                rw [List.take_succ_eq_append_getElem hj6]
                rw [List.getElem?_eq_getElem hj6] at hx
                injection hx with hx
                rw [hx])
              clear hx
              by_cases hxc : x = (c : Int)
              · have HN := Lib.hid (show N + 1 = ((s.order.take (j + 1)).filter (fun x => decide (x = (c : Int)))).length by rw [Hts.out, List.filter_append, List.length_append, ← hN.out]; simp [hxc])
                have hxb : (x == (c : Int)) = true := by simp [hxc]
                clear hxc hN
                go_wp2_with fail
                go_roundg (6 - (j + 1))
                case measure => omega
                case rel => exact ⟨j + 1, N + 1, by go_num, by go_num, by omega, by omega, HN, hbk⟩
              · have HN := Lib.hid (show N = ((s.order.take (j + 1)).filter (fun x => decide (x = (c : Int)))).length by rw [Hts.out, List.filter_append, List.length_append, ← hN.out]; simp [hxc])
                have hxb : (x == (c : Int)) = false := by simp [hxc]
                clear hxc hN
                go_wp2_with fail
                go_roundg (6 - (j + 1))
                case measure => omega
                case rel => exact ⟨j + 1, N, by go_num, rfl, by omega, by omega, HN, hbk⟩
            · have Hcn := Lib.hid (show cntB s c = decide (N = 1) by
                have h := hN.out
                rw [List.take_of_length_le (by rw [H4.out]; show 6 ≤ j; omega)] at h
                rw [h]; rfl)
              have hjl : ¬ (j : Int) < 6 := by omega
              have Hb3 := Lib.hid (hbr.out.trans (hbk.out.mono hbr.out.size))
              clear hN
              by_cases hN1 : N = 1
              · have HNx := Lib.hid (show res ((List.range' (c + 1) (7 - (c + 1))).all (cntB s) && P3) = R by have h := Hst.out; rw [Hcn.out, decide_eq_true hN1] at h; exact h)
                have hNb : ((N : Int) != 1) = false := by rw [hN1]; rfl
                clear hN1
                go_wp2_with fail
                go_roundg (7 - (c + 1))
                case measure => omega
                case rel => exact ⟨c + 1, by go_num, by omega, by omega, HNx, Hb3⟩
              · have Hz := Lib.hid (show (12 : Int) = R by have h := Hst.out; rw [Hcn.out, decide_eq_false hN1] at h; exact h)
                have hNb : ((N : Int) != 1) = true := by simp; omega
                clear hN1
                go_wp2_with fail
                go_ret
                exact ⟨ret_int Hz.out, Hb0.out.trans (Hb3.out.mono Hb0.out.size)⟩
        · obtain rfl : c = 7 := by omega
          have HR4 := Lib.hid (show res (riseGo (aheadL (s.rules.map (·.type)) 0) ((s.rules.map (·.type)).drop 0) && P4) = R by have h := hst.out; have h2 : res P3 = R := h; rw [HP3.out] at h2; exact h2)
          have y0 := HAR.out.cell 0 (v := .slice sa s.rules.length sc) rfl
          have yl := HAR.out.lt
          clear hst
          go_wp2_with fail
          go_loopg [55] s.rules.length (fun g i wx => ∃ k : Nat, i = .int .i64 k ∧ k + g = s.rules.length ∧ Hid (res (riseGo (aheadL (s.rules.map (·.type)) k) ((s.rules.map (·.type)).drop k) && P4) = R) ∧ Hid (Below w0.heap.size w0 wx))
          case atStart => exact ⟨0, rfl, by omega, HR4, hbr⟩
          case round =>
            obtain ⟨k, rfl, hg3, hst, hbk⟩ := hrel
            obtain ⟨wK, rfl⟩ : ∃ z, z = wr := ⟨_, rfl⟩
            have HbK := Lib.hid (Hb0.out.trans (hbk.out.mono Hb0.out.size))
            clear y0
            by_cases hlt : k < s.rules.length
            ·
              have hlti : (k : Int) < s.rules.length := by omega
              obtain ⟨b, off, qa, qc, rfl, hlb, -, p0, p1, p2, p3, p4, p5, p6, p7⟩ := rule8 (H1.out wK HbK.out) (H2.out wK HbK.out) k hlt
              have Hqw := Lib.hid (show s.rules[k].type.length ≤ 1000000000 by have h1 := rulesWt_mem (List.getElem_mem hlt); have h2 := Hwt.out; unfold SchemaD.wt at h2; unfold RuleD.wt at h1; omega)
              have hkl : k < (s.rules.map (·.type)).length := by simpa using hlt
              have Hst := Lib.hid (show res ((nameB s.rules[k].type && leadB s.rules[k].type (aheadL (s.rules.map (·.type)) k)) && (riseGo (aheadL (s.rules.map (·.type)) (k + 1)) ((s.rules.map (·.type)).drop (k + 1)) && P4)) = R by
                have h := hst.out
                rw [rise_step2 hkl, Bool.and_assoc, List.getElem_map] at h
                rw [Bool.and_assoc] at h ⊢
                exact h)
              generalize s.rules[k] = q at p0 p1 p2 p3 p4 p5 p6 p7 Hst Hqw
              obtain ⟨q0, ⟨q1, q2⟩, ⟨q3, q4⟩, q5, q6, q7⟩ := q
              simp only at p0 p1 p2 p3 p4 p5 p6 p7 Hqw Hst
              obtain ⟨w2, hw2⟩ : ∃ w2, w2 = wK.alloc (Obj.cells #[strV q0, .int .i64 q1, strV q2, .int .i64 q3, strV q4, .slice qa q5.length qc, .int .i64 q6, strV q7] 27) := ⟨_, rfl⟩
              have hb2 : Below wK.heap.size wK w2 := by rw [hw2]; exact one_below _ _
              have hP : At w2 wK.heap.size [strV q0, .int .i64 q1, strV q2, .int .i64 q3, strV q4, .slice qa q5.length qc, .int .i64 q6, strV q7] 27 := by rw [hw2]; exact At.fresh wK _ _
              have HP := Lib.hid hP
              have Hw2 := Lib.hid hw2
              have Hb2 := Lib.hid (hbk.out.trans (hb2.mono hbk.out.size))
              have hpl := hP.lt
              clear hw2 hb2 hP hlb hst
              go_upto_region 18 with fail
              rw [← Hw2.out]
              clear Hw2 p0 p1 p2 p3 p4 p5 p6 p7
              obtain ⟨OKB, hOK⟩ : ∃ OKB, OKB = (nameB q0 && leadB q0 (aheadL (s.rules.map (·.type)) k)) := ⟨_, rfl⟩
              have HOK := Lib.hid hOK
              rw [← hOK] at Hst
              clear hOK
              go_cut [79] (fun v wx => v = .bool (!OKB) ∧ Hid (Below w2.heap.size w2 wx))
              case first =>
                have HN := Lib.hid (fun (w : World) => rname_c q0 w Hqw.out)
                have hx := HP.out
                have ha := HA.out.kept Hb2.out
                have X80 := fun (p : Beh w2) => (hx.kept p.h).cell 0 (v := strV q0) rfl
                have XS0 := fun (p : Beh w2) => (ha.kept p.h).cell 0 (v := .slice (some ⟨b, off, none⟩) s.rules.length sc) rfl
                obtain ⟨N1, hN1⟩ : ∃ N1, N1 = nameB q0 := ⟨_, rfl⟩
                rw [← hN1] at HN
                cases k with
                | zero =>
                  have HO2 := Lib.hid (show OKB = N1 by rw [HOK.out, hN1, show leadB q0 (aheadL (s.rules.map (·.type)) 0) = true from rfl]; simp)
                  clear hN1 hx ha
                  cases N1 with
                  | false =>
                    refine wp_region_beh (by kernel_rfl) (by kernel_rfl) ?_
                    repeat (go_big_quiet_step (exact calls_beh0 (HN.out _)))
                    refine wpQuiet_nil ?_
                    rintro _ ⟨p, rfl⟩
                    go_wp2_with fail
                    go_meet
                    case rel => exact ⟨by rw [HO2.out] <;> rfl, (show Below _ _ _ from p.h)⟩
                  | true =>
                    refine wp_region_beh (by kernel_rfl) (by kernel_rfl) ?_
                    repeat (go_big_quiet_step (exact calls_beh0 (HN.out _)))
                    refine wpQuiet_nil ?_
                    rintro _ ⟨p, rfl⟩
                    go_wp2_with fail
                    go_meet
                    case rel => exact ⟨by rw [HO2.out] <;> rfl, (show Below _ _ _ from p.h)⟩
                | succ m =>
                  have hml : m < s.rules.length := by omega
                  have hmi : (m : Int) < s.rules.length := by omega
                  have hpos : (0 : Int) < ((m + 1 : Nat) : Int) := by omega
                  have hposd : decide ((0 : Int) < ((m + 1 : Nat) : Int)) = true := decide_eq_true hpos
                  have hsub : IntKind.i64.wrap (((m + 1 : Nat) : Int) - 1) = (m : Int) := (IntWalk.i64_in _ (by omega)).trans (by omega)
                  have X10 : ∀ p : Beh w2, p.w.cell? ⟨b, off + m * 8, none⟩ = some (strV s.rules[m].type) := fun p => by
                    have hbw := Hb0.out.trans ((Hb2.out.trans (p.h.mono Hb2.out.size)).mono Hb0.out.size)
                    obtain ⟨b', off', ra', rc', e1, -, -, c0, -⟩ := rule8 (H1.out p.w hbw) (H2.out p.w hbw) m hml
                    injection e1 with e1; injection e1 with e1 e2; subst e1; subst e2
                    exact c0
                  have HO1 := Lib.hid (show OKB = (N1 && !leB q0 s.rules[m].type) by rw [HOK.out, hN1, lead_prevL (by simpa using hml), List.getElem_map])
                  generalize s.rules[m].type = t at X10 HO1
                  have Hle : Hid (leB q0 t = (Op.bytesLess q0 t || q0 == t)) := rfl
                  clear hN1 hx ha
                  cases N1 with
                  | false =>
                    have HO2 := Lib.hid (show OKB = false by rw [HO1.out]; rfl)
                    refine wp_region_beh (by kernel_rfl) (by kernel_rfl) ?_
                    repeat (go_big_quiet_step (exact calls_beh0 (HN.out _)))
                    refine wpQuiet_nil ?_
                    rintro _ ⟨p, rfl⟩
                    go_wp2_with fail
                    go_meet
                    case rel => exact ⟨by rw [HO2.out] <;> rfl, (show Below _ _ _ from p.h)⟩
                  | true =>
                    cases hx : Op.bytesLess q0 t
                    · cases hy : (q0 == t)
                      · have HO2 := Lib.hid (show OKB = true by rw [HO1.out, Hle.out, hx, hy]; simp)
                        refine wp_region_beh (by kernel_rfl) (by kernel_rfl) ?_
                        repeat (go_big_quiet_step (exact calls_beh0 (HN.out _)))
                        refine wpQuiet_nil ?_
                        rintro _ ⟨p, rfl⟩
                        go_wp2_with fail
                        go_meet
                        case rel => exact ⟨by rw [HO2.out] <;> rfl, (show Below _ _ _ from p.h)⟩
                      · have HO2 := Lib.hid (show OKB = false by rw [HO1.out, Hle.out, hx, hy]; simp)
                        refine wp_region_beh (by kernel_rfl) (by kernel_rfl) ?_
                        repeat (go_big_quiet_step (exact calls_beh0 (HN.out _)))
                        refine wpQuiet_nil ?_
                        rintro _ ⟨p, rfl⟩
                        go_wp2_with fail
                        go_meet
                        case rel => exact ⟨by rw [HO2.out] <;> rfl, (show Below _ _ _ from p.h)⟩
                    · have HO2 := Lib.hid (show OKB = false by rw [HO1.out, Hle.out, hx]; simp)
                      refine wp_region_beh (by kernel_rfl) (by kernel_rfl) ?_
                      repeat (go_big_quiet_step (exact calls_beh0 (HN.out _)))
                      refine wpQuiet_nil ?_
                      rintro _ ⟨p, rfl⟩
                      go_wp2_with fail
                      go_meet
                      case rel => exact ⟨by rw [HO2.out] <;> rfl, (show Below _ _ _ from p.h)⟩
              case rest =>
                obtain ⟨w3, rfl⟩ : ∃ z, z = wc := ⟨_, rfl⟩
                obtain ⟨rfl, hby⟩ := hcut
                have Hb3 := Lib.hid (show Below w0.heap.size w0 w3 from Hb2.out.trans (hby.out.mono Hb2.out.size))
                clear hby HP
                cases OKB with
                | false =>
                  have Hz := Lib.hid (show (12 : Int) = R from Hst.out)
                  go_wp2_with fail
                  go_ret
                  exact ⟨ret_int Hz.out, Hb0.out.trans (Hb3.out.mono Hb0.out.size)⟩
                | true =>
                  have HNx := Lib.hid (show res (riseGo (aheadL (s.rules.map (·.type)) (k + 1)) ((s.rules.map (·.type)).drop (k + 1)) && P4) = R from Hst.out)
                  go_wp2_with fail
                  go_roundg (s.rules.length - (k + 1))
                  case measure => omega
                  case rel => exact ⟨k + 1, by go_num, by omega, HNx, Hb3⟩
            · obtain rfl : k = s.rules.length := by omega
              have HR5 := Lib.hid (show res ((allR s).all formedB && P5) = R by
                have h := hst.out
                rw [show (s.rules.map (·.type)).drop s.rules.length = [] by rw [List.drop_eq_nil_iff]; simp] at h
                rw [← HP4.out]
                cases aheadL (s.rules.map (·.type)) s.rules.length <;> simpa [riseGo] using h)
              clear hst
              have hldK := HLD.out wK (HA.out.kept hbk.out)
              have klK := (HA.out.kept hbk.out).lt
              have HAl := Lib.hid (rall_x s _ W.heap.size wK Hwt.out (HvW.out wK HbK.out) HbK.out.size)
              have hr1 : (allR s).length ≤ 100000000 := by have h1 := rulesWt_len s.rules; have h2 := Hwt.out; unfold SchemaD.wt RuleD.wt at h2; rw [all_len]; omega
              go_wp2_with fail
              refine HAl.out.mono ?_
              rintro e w5 ⟨ra, rc, css2, rfl, hrow, hrcs, hbel⟩
              have Hb5 := Lib.hid (hbk.out.trans (hbel.mono hbk.out.size))
              have HbW5 := Lib.hid (HbK.out.trans (hbel.mono HbK.out.size))
              have Hrow := Lib.hid hrow.row; have Hrcs := Lib.hid hrcs
              obtain ⟨rs, hrs⟩ : ∃ rs, rs = allR s := ⟨_, rfl⟩
              have Hrs := Lib.hid hrs
              have HP5b := Lib.hid (show P5 = rs.all (okR s) by rw [hrs]; exact HP5.out)
              rw [← hrs] at Hrow Hrcs hr1 HR5 ⊢
              clear hrow hrcs hbel HAl hldK hrs klK
              go_wp2_with fail
              go_loopg [84] rs.length (fun g i wx => ∃ k : Nat, i = .int .i64 k ∧ k + g = rs.length ∧ Hid (res ((rs.drop k).all formedB && P5) = R) ∧ Hid (Below w5.heap.size w5 wx))
              case atStart => exact ⟨0, rfl, by omega, HR5, (show Below _ _ _ from Below.refl _ _)⟩
              case round =>
                obtain ⟨k, rfl, hg4, hst, hb4⟩ := hrel
                obtain ⟨wM, rfl⟩ : ∃ z, z = wr := ⟨_, rfl⟩
                have HbM := Lib.hid (HbW5.out.trans (hb4.out.mono HbW5.out.size))
                by_cases hlt : k < rs.length
                ·
                  have hlti : (k : Int) < rs.length := by omega
                  obtain ⟨b, off, qa, qc, rfl, hlb, hkr, p0, p1, p2, p3, p4, p5, p6, p7⟩ := rule8q (Hrow.out.keep hb4.out hb4.out.size) (RulesC.keep (hb4.out.mono HbW5.out.size) (Nat.le_refl _) Hrcs.out) k hlt
                  have Hqw := Lib.hid (show rs[k].wt ≤ 100000000 from Nat.le_trans (allR_wt (by rw [← Hrs.out]; exact List.getElem_mem hlt)) Hwt.out)
                  have Hst := Lib.hid (show res (formedB rs[k] && ((rs.drop (k + 1)).all formedB && P5)) = R by
                    have h := hst.out
                    rw [List.drop_eq_getElem_cons hlt, List.all_cons, Bool.and_assoc] at h
                    exact h)
                  generalize rs[k] = q at hkr p0 p1 p2 p3 p4 p5 p6 p7 Hst Hqw
                  obtain ⟨w10, hw10⟩ : ∃ w10, w10 = wM.alloc (Obj.cells #[strV q.type, .int .i64 q.text.1, strV q.text.2, .int .i64 q.other.1, strV q.other.2, .slice qa q.kids.length qc, .int .i64 q.fill, strV q.fillT] 27) := ⟨_, rfl⟩
                  have hb10 : Below wM.heap.size wM w10 := by rw [hw10]; exact one_below _ _
                  have hX : At w10 wM.heap.size [strV q.type, .int .i64 q.text.1, strV q.text.2, .int .i64 q.other.1, strV q.other.2, .slice qa q.kids.length qc, .int .i64 q.fill, strV q.fillT] 27 := by rw [hw10]; exact At.fresh wM _ _
                  have hlr10 := load_at (P := Tryz.prog) hX Tryz.underlying27 rfl (by kernel_rfl)
                  simp [go_sem] at hlr10
                  have HF := Lib.hid (rrule_c q qa qc w10 (hkr.keep (hb10.mono HbM.out.size) (Nat.le_trans HbM.out.size hb10.size)) Hqw.out)
                  have Hb10 := Lib.hid (hb4.out.trans (hb10.mono hb4.out.size))
                  have Hw10 := Lib.hid hw10
                  have hxl := hX.lt
                  clear hw10 hb10 hX hkr hlb hst
                  go_upto_region 24 with fail
                  rw [← Hw10.out]
                  clear Hw10 p0 p1 p2 p3 p4 p5 p6 p7
                  obtain ⟨F, hF⟩ : ∃ F, F = formedB q := ⟨_, rfl⟩
                  rw [← hF] at HF Hst
                  clear hF
                  cases F with
                  | false =>
                    have Hz := Lib.hid (show (12 : Int) = R from Hst.out)
                    go_wp2_with fail
                    refine HF.out.mono ?_
                    rintro e w11 ⟨rfl, hbel⟩
                    have Hb11 := Lib.hid (HbW5.out.trans ((Hb10.out.trans (hbel.mono Hb10.out.size)).mono HbW5.out.size))
                    clear hbel HF hlr10
                    go_wp2_with fail
                    go_ret
                    exact ⟨ret_int Hz.out, Hb11.out⟩
                  | true =>
                    have HNx := Lib.hid (show res ((rs.drop (k + 1)).all formedB && P5) = R from Hst.out)
                    go_wp2_with fail
                    refine HF.out.mono ?_
                    rintro e w11 ⟨rfl, hbel⟩
                    have Hb11 := Lib.hid (Hb10.out.trans (hbel.mono Hb10.out.size))
                    clear hbel HF hlr10
                    go_wp2_with fail
                    go_roundg (rs.length - (k + 1))
                    case measure => omega
                    case rel => exact ⟨k + 1, by go_num, by omega, HNx, Hb11⟩
                · obtain rfl : k = rs.length := by omega
                  have HR6 := Lib.hid (show res ((rs.drop 0).all (okR s)) = R by have h := hst.out; rw [List.drop_length] at h; have h2 : res P5 = R := h; rw [HP5b.out] at h2; exact h2)
                  have hA5 := HA.out.kept (Hb5.out.trans (hb4.out.mono Hb5.out.size))
                  have hldM := HLD.out wM hA5
                  have klM := hA5.lt
                  have HAl := Lib.hid (rall_x s _ W.heap.size wM Hwt.out (HvW.out wM HbM.out) HbM.out.size)
                  have HA5 := Lib.hid hA5
                  clear hst hA5 Hrow Hrcs
                  go_wp2_with fail
                  refine HAl.out.mono ?_
                  rintro e w7 ⟨rb, rd, css3, rfl, hrow, hrcs, hbel⟩
                  have HA7 := Lib.hid (HA5.out.kept hbel)
                  have HbW7 := Lib.hid (HbM.out.trans (hbel.mono HbM.out.size))
                  have Hrow := Lib.hid hrow.row; have Hrcs := Lib.hid hrcs
                  rw [← Hrs.out] at Hrow Hrcs ⊢
                  clear hrow hrcs hbel HAl hldM klM
                  go_wp2_with fail
                  go_loopg [95] rs.length (fun g i wx => ∃ k : Nat, i = .int .i64 k ∧ k + g = rs.length ∧ Hid (res ((rs.drop k).all (okR s)) = R) ∧ Hid (Below w7.heap.size w7 wx))
                  case atStart => exact ⟨0, rfl, by omega, HR6, (show Below _ _ _ from Below.refl _ _)⟩
                  case round =>
                    obtain ⟨k, rfl, hg6, hst, hb6⟩ := hrel
                    have HbN := Lib.hid (HbW7.out.trans (hb6.out.mono HbW7.out.size))
                    by_cases hlt : k < rs.length
                    ·
                      have hlti : (k : Int) < rs.length := by omega
                      obtain ⟨b, off, qa, qc, rfl, hlb, hkr, p0, p1, p2, p3, p4, p5, p6, p7⟩ := rule8q (Hrow.out.keep hb6.out hb6.out.size) (RulesC.keep (hb6.out.mono HbW7.out.size) (Nat.le_refl _) Hrcs.out) k hlt
                      have Hqw := Lib.hid (show rs[k].wt ≤ 100000000 from Nat.le_trans (allR_wt (by rw [← Hrs.out]; exact List.getElem_mem hlt)) Hwt.out)
                      have Hst := Lib.hid (show res (okR s rs[k] && (rs.drop (k + 1)).all (okR s)) = R by
                        have h := hst.out
                        rw [List.drop_eq_getElem_cons hlt, List.all_cons] at h
                        exact h)
                      generalize rs[k] = q at hkr p0 p1 p2 p3 p4 p5 p6 p7 Hst Hqw
                      have hql : q.kids.length ≤ 100000000 := by have h1 := kids_wt q; have h2 := Hqw.out; omega
                      obtain ⟨w10, hw10⟩ : ∃ w10, w10 = wr.alloc (Obj.cells #[strV q.type, .int .i64 q.text.1, strV q.text.2, .int .i64 q.other.1, strV q.other.2, .slice qa q.kids.length qc, .int .i64 q.fill, strV q.fillT] 27) := ⟨_, rfl⟩
                      have hb10 : Below wr.heap.size wr w10 := by rw [hw10]; exact one_below _ _
                      have hX : At w10 wr.heap.size [strV q.type, .int .i64 q.text.1, strV q.text.2, .int .i64 q.other.1, strV q.other.2, .slice qa q.kids.length qc, .int .i64 q.fill, strV q.fillT] 27 := by rw [hw10]; exact At.fresh wr _ _
                      have hlr := fun (w' : World) (h : At w' wr.heap.size [strV q.type, .int .i64 q.text.1, strV q.text.2, .int .i64 q.other.1, strV q.other.2, .slice qa q.kids.length qc, .int .i64 q.fill, strV q.fillT] 27) => load_at (P := Tryz.prog) h Tryz.underlying27 rfl (by kernel_rfl)
                      simp [go_sem] at hlr
                      have HLR := Lib.hid hlr
                      have hlr10 := hlr w10 hX
                      have hbk7 := hb6.out.trans (hb10.mono hb6.out.size)
                      have hld10 := HLD.out w10 (HA7.out.kept hbk7)
                      have Hkr := Lib.hid (fun (w' : World) (hb : Below w10.heap.size w10 w') => hkr.keep ((hb10.trans (hb.mono hb10.size)).mono HbN.out.size) (Nat.le_trans HbN.out.size (Nat.le_trans hb10.size hb.size)))
                      have Hb10 := Lib.hid hbk7
                      have HbW10 := Lib.hid (HbW7.out.trans (hbk7.mono HbW7.out.size))
                      have HWr := Lib.hid (rwraps_c s _ q qa qc w10 Hwt.out (Hv.out w10 HbW10.out) (Hkr.out w10 (Below.refl _ _)) hql)
                      have HX := Lib.hid hX
                      have Hw10 := Lib.hid hw10
                      have hxl := hX.lt
                      clear hw10 hb10 hX hkr hlb hst hlr hbk7
                      go_upto_region 30 with fail
                      rw [← Hw10.out]
                      clear Hw10 p0 p1 p2 p3 p4 p5 p6 p7
                      obtain ⟨V1, hV1⟩ : ∃ V1, V1 = wrapsB s q := ⟨_, rfl⟩
                      have Hst2 := Lib.hid (show res (V1 && (lastFill q && ((rfillsS s q).2 && (rs.drop (k + 1)).all (okR s)))) = R by
                        have h := Hst.out
                        rw [hV1]
                        rw [← Bool.and_assoc (lastFill q), ← Bool.and_assoc]
                        exact h)
                      rw [← hV1] at HWr
                      clear hV1 Hst
                      go_wp2_with fail
                      refine HWr.out.mono ?_
                      rintro e w11 ⟨rfl, hbel⟩
                      have Hb11 := Lib.hid hbel
                      have HX11 := Lib.hid (HX.out.kept hbel)
                      have Hb711 := Lib.hid (Hb10.out.trans (hbel.mono Hb10.out.size))
                      have HbW11 := Lib.hid (HbW7.out.trans (Hb711.out.mono HbW7.out.size))
                      clear hbel HWr hlr10 hld10
                      cases V1 with
                      | false =>
                        have Hz := Lib.hid (show (12 : Int) = R from Hst2.out)
                        go_wp2_with fail
                        go_ret
                        exact ⟨ret_int Hz.out, HbW11.out⟩
                      | true =>
                        have Hst3 := Lib.hid (show res (lastFill q && ((rfillsS s q).2 && (rs.drop (k + 1)).all (okR s))) = R from Hst2.out)
                        obtain ⟨LF, hLF⟩ : ∃ LF, LF = lastFill q := ⟨_, rfl⟩
                        have HLF := Lib.hid (show LF = if q.fill = 1 then decide (q.text.1 = 1) else if q.fill = 2 then decide ((actIn q q.fillT).1 = 1) else true from hLF)
                        rw [← hLF] at Hst3
                        have HKp := Lib.hid (rkeeps_c q qa qc q.fillT w11 (Hkr.out w11 Hb11.out) hql)
                        obtain ⟨⟨x0, x1, x2, x3, x4, x5, x6, x7⟩, -, xl11⟩ := HX11.out.f8
                        have hlr11 := HLR.out w11 HX11.out
                        clear hLF Hst2
                        go_upto_region 32 with fail
                        go_cut [123] (fun v wx => v = .bool (!LF) ∧ Hid (Below w11.heap.size w11 wx))
                        case first =>
                          clear x0 x2 x3 x4 x5
                          by_cases h1 : q.fill = 1
                          · have HL2 := Lib.hid (show LF = decide (q.text.1 = 1) by rw [HLF.out, if_pos h1])
                            rw [h1] at x6
                            have hne := int_ne1 q.text.1
                            clear h1 hlr11
                            by_cases ht : q.text.1 = 1
                            · have Hz := Lib.hid (show LF = true by rw [HL2.out, decide_eq_true ht])
                              rw [ht] at x1
                              clear ht hne
                              go_wp2_with fail
                              go_meet
                              case rel => exact ⟨by rw [Hz.out] <;> rfl, (show Below _ _ _ from Below.refl _ _)⟩
                            · have Hz := Lib.hid (show LF = false by rw [HL2.out, decide_eq_false ht])
                              have htb : (q.text.1 != 1) = true := by simp [ht]
                              clear hne
                              go_wp2_with fail
                              go_meet
                              case rel => exact ⟨by rw [Hz.out] <;> rfl, (show Below _ _ _ from Below.refl _ _)⟩
                          · have h1b : (q.fill == 1) = false := beq_eq_false_iff_ne.2 h1
                            by_cases h2 : q.fill = 2
                            · have HL2 := Lib.hid (show LF = decide ((actIn q q.fillT).1 = 1) by rw [HLF.out, if_neg h1, if_pos h2])
                              have h2b : (q.fill == 2) = true := by simp [h2]
                              obtain ⟨D, hD⟩ : ∃ D, D = decide ((actIn q q.fillT).1 = 1) := ⟨_, rfl⟩
                              rw [← hD] at HL2 HKp
                              clear h1 h2 hD
                              go_wp2_with fail
                              refine HKp.out.mono ?_
                              rintro e w12 ⟨rfl, hbel⟩
                              have Hb12 := Lib.hid hbel
                              clear hbel HKp hlr11
                              go_wp2_with fail
                              go_meet
                              case rel => exact ⟨by rw [HL2.out], Hb12⟩
                            · have h2b : (q.fill == 2) = false := beq_eq_false_iff_ne.2 h2
                              have Hz := Lib.hid (show LF = true by rw [HLF.out, if_neg h1, if_neg h2])
                              clear hlr11
                              go_wp2_with fail
                              go_meet
                              case rel => exact ⟨by rw [Hz.out] <;> rfl, (show Below _ _ _ from Below.refl _ _)⟩
                        case rest =>
                          obtain ⟨w13, rfl⟩ : ∃ z, z = wc := ⟨_, rfl⟩
                          obtain ⟨rfl, hby⟩ := hcut
                          have Hb13 := Lib.hid (Hb711.out.trans (hby.out.mono Hb711.out.size))
                          have HbW13 := Lib.hid (HbW7.out.trans (Hb13.out.mono HbW7.out.size))
                          have hlr13 := HLR.out w13 (HX11.out.kept hby.out)
                          have hld13 := HLD.out w13 (HA7.out.kept Hb13.out)
                          have xl13 := (HX11.out.kept hby.out).lt
                          clear x0 x1 x2 x3 x4 x5 x6 x7 hlr11 HKp HLF hby
                          cases LF with
                          | false =>
                            have Hz := Lib.hid (show (12 : Int) = R from Hst3.out)
                            clear hlr13 hld13
                            go_wp2_with fail
                            go_ret
                            exact ⟨ret_int Hz.out, HbW13.out⟩
                          | true =>
                            have HFi := Lib.hid (rfills_c s _ q qa qc w13 Hwt.out (Hv.out w13 HbW13.out))
                            have Hst4 := Lib.hid (show res ((rfillsS s q).2 && (rs.drop (k + 1)).all (okR s)) = R from Hst3.out)
                            obtain ⟨⟨F1, F2⟩, hF⟩ : ∃ z, rfillsS s q = z := ⟨_, rfl⟩
                            rw [hF] at HFi Hst4
                            simp only at HFi Hst4
                            clear hF
                            cases F2 with
                            | false =>
                              have Hz := Lib.hid (show (12 : Int) = R from Hst4.out)
                              go_wp2_with fail
                              refine HFi.out.mono ?_
                              rintro e w14 ⟨rfl, hbel⟩
                              have Hb14 := Lib.hid (HbW13.out.trans (hbel.mono HbW13.out.size))
                              clear hbel HFi hlr13 hld13
                              go_wp2_with fail
                              go_ret
                              exact ⟨ret_int Hz.out, Hb14.out⟩
                            | true =>
                              have HNx := Lib.hid (show res ((rs.drop (k + 1)).all (okR s)) = R from Hst4.out)
                              go_wp2_with fail
                              refine HFi.out.mono ?_
                              rintro e w14 ⟨rfl, hbel⟩
                              have Hb14 := Lib.hid (Hb13.out.trans (hbel.mono Hb13.out.size))
                              clear hbel HFi hlr13 hld13
                              go_wp2_with fail
                              go_roundg (rs.length - (k + 1))
                              case measure => omega
                              case rel => exact ⟨k + 1, by go_num, by omega, HNx, Hb14⟩
                    · obtain rfl : k = rs.length := by omega
                      have Hz := Lib.hid (show (0 : Int) = R by have h := hst.out; rw [List.drop_length] at h; exact h)
                      clear hst
                      go_wp2_with fail
                      go_ret
                      exact ⟨ret_int Hz.out, HbN.out⟩

end Go.Proofs.YtajclfjedlkbcaaGreatDoor
/- Walks: slices.ContainsFunc over rules that are not formed; plain: which orders may be. -/
namespace Go.Proofs.YtajclfjedlkbcaaGreatDoor
open Go.RowKit Go.Redl
set_option linter.unusedVariables false
set_option linter.unusedSimpArgs false

theorem perm_sub {α : Type} [DecidableEq α] : ∀ (a l : List α), a.Nodup → (∀ x ∈ a, x ∈ l) → l.length ≤ a.length → a.Perm l
  | [], l, _, _, hl => by
    obtain rfl : l = [] := List.eq_nil_of_length_eq_zero (by simpa using hl)
    exact List.Perm.refl _
  | x :: a, l, h, hs, hl => by
    have hx : x ∈ l := hs x (by simp)
    have hn := List.nodup_cons.1 h
    have h1 := List.length_erase_of_mem hx
    have h2 := List.length_pos_of_mem hx
    have h3 := perm_sub a (l.erase x) hn.2 (fun y hy => (List.mem_erase_of_ne (show y ≠ x from fun e => hn.1 (by rw [← e]; exact hy))).2 (hs y (by simp [hy]))) (by simp only [List.length_cons] at hl; omega)
    exact (h3.cons x).trans (List.perm_cons_erase hx).symm
abbrev sixL : List Int := [1, 2, 3, 4, 5, 6]
theorem srt_six {l : List Int} (h : l.Perm sixL) : srtI l = sixL := by
  have tr : ∀ a b c : Int, decide (a ≤ b) = true → decide (b ≤ c) = true → decide (a ≤ c) = true := fun a b c h1 h2 => by simp only [decide_eq_true_eq] at *; omega
  have tot : ∀ a b : Int, (decide (a ≤ b) || decide (b ≤ a)) = true := fun a b => by simp only [Bool.or_eq_true, decide_eq_true_eq]; omega
  refine List.Perm.eq_of_pairwise (le := fun a b => decide (a ≤ b) = true) (fun a b _ _ h1 h2 => ?_) (List.pairwise_mergeSort tr tot l) (by decide) ((List.mergeSort_perm l _).trans h)
  simp only [decide_eq_true_eq] at h1 h2
  omega
theorem order_law {s : SchemaD} (h6 : s.order.length = 6) : decide (srtI s.order = sixL) = orderB s := by
  by_cases h : srtI s.order = sixL
  · rw [decide_eq_true h]
    have hp : s.order.Perm sixL := by rw [← h]; exact (List.mergeSort_perm _ _).symm
    symm
    unfold orderB
    rw [List.all_eq_true]
    intro c hc
    rw [decide_eq_true_eq, (hp.filter _).length_eq]
    revert c
    decide
  · rw [decide_eq_false h]
    symm
    cases ho : orderB s with
    | false => rfl
    | true =>
      exfalso
      apply h
      apply srt_six
      unfold orderB at ho
      rw [List.all_eq_true] at ho
      refine (perm_sub sixL s.order (by decide) (fun c hc => ?_) (by rw [h6]; decide)).symm
      have h1 := ho c hc
      rw [decide_eq_true_eq] at h1
      have h2 : 0 < (s.order.filter (fun x => decide (x = c))).length := by omega
      obtain ⟨y, hy⟩ := List.exists_mem_of_length_pos h2
      have h3 := List.mem_filter.1 hy
      have h4 : y = c := by simpa using h3.2
      rw [← h4]
      exact h3.1

theorem notf_ent : ∀ args w, (callFunc 52 args).run Tryz.prog w = .ok (.enter 52 args) w := by intro args w; kernel_rfl
set_option maxRecDepth 100000 in
set_option maxHeartbeats 1000000 in
theorem notf_c (r : RuleD) (a : Option Addr) (c : Nat) (W : World) (hr : RowA W W.heap.size 3 a r.kids.length c (pairCells r.kids)) (hw : r.wt ≤ 100000000) :
    Calls Tryz.prog 52 #[.agg #[strV r.type, .int .i64 r.text.1, strV r.text.2, .int .i64 r.other.1, strV r.other.2, .slice a r.kids.length c, .int .i64 r.fill, strV r.fillT]] W fun e w' => e = .returned (.bool (!formedB r)) ∧ Below W.heap.size W w' := by
  obtain ⟨w0, hw0⟩ : ∃ w0, w0 = W.alloc (Obj.cells #[strV r.type, .int .i64 r.text.1, strV r.text.2, .int .i64 r.other.1, strV r.other.2, .slice a r.kids.length c, .int .i64 r.fill, strV r.fillT] 27) := ⟨_, rfl⟩
  have hb0 : Below W.heap.size W w0 := by rw [hw0]; exact one_below _ _
  have hA : At w0 W.heap.size [strV r.type, .int .i64 r.text.1, strV r.text.2, .int .i64 r.other.1, strV r.other.2, .slice a r.kids.length c, .int .i64 r.fill, strV r.fillT] 27 := by rw [hw0]; exact At.fresh W _ _
  have hlr := load_at (P := Tryz.prog) hA Tryz.underlying27 rfl (by kernel_rfl)
  simp [go_sem] at hlr
  have HC := Lib.hid (formed_c r a c w0 (hr.keep hb0 hb0.size) hw)
  have Hw0 := Lib.hid hw0; have Hb0 := Lib.hid hb0
  obtain ⟨F, hF⟩ : ∃ F, F = formedB r := ⟨_, rfl⟩
  rw [← hF] at HC ⊢
  have xl := hA.lt
  clear hw0 hb0 hA hr hw hF
  go_enter Tryz.func52, Tryz.ntmps52
  go_upto_region 1 with fail
  rw [← Hw0.out]
  clear Hw0
  go_wp2_with fail
  refine HC.out.mono ?_
  rintro e w1 ⟨rfl, hbel⟩
  have Hb1 := Lib.hid (Hb0.out.trans (hbel.mono Hb0.out.size))
  clear hbel HC hlr
  go_wp2_with fail
  go_ret
  exact ⟨rfl, Hb1.out⟩
theorem cfrule_ent : ∀ args w, (callFunc 51 args).run Tryz.prog w = .ok (.enter 51 args) w := by intro args w; kernel_rfl
theorem cf_idx (rs : List RuleD) : decide (0 ≤ idxP (fun k => match rs[k]? with | some r => !formedB r | none => false) rs.length) = !rs.all formedB := by
  rcases idxP_cases (fun k => match rs[k]? with | some r => !formedB r | none => false) rs.length with ⟨k, hk, h1, -, he⟩ | ⟨h1, he⟩
  · rw [he]
    simp only [List.getElem?_eq_getElem hk] at h1
    have : rs.all formedB = false := by
      rw [List.all_eq_false]
      exact ⟨rs[k], List.getElem_mem hk, by simpa using h1⟩
    rw [this]; simp
  · rw [he]
    have : rs.all formedB = true := by
      rw [List.all_eq_true]
      intro r hr
      obtain ⟨k, hk, rfl⟩ := List.mem_iff_getElem.1 hr
      have := h1 k hk
      simp only [List.getElem?_eq_getElem hk] at this
      simpa using this
    rw [this]; rfl
set_option maxRecDepth 100000 in
set_option maxHeartbeats 1000000 in
theorem cfrule_c (rs : List RuleD) (a : Option Addr) (c : Nat) (css : List Value) (B : Nat) (W : World) (hr : RowA W W.heap.size 8 a rs.length c css) (hc : RulesC W B rs css) (hB : B ≤ W.heap.size) (hn : rs.length ≤ 100000000) (hw : ∀ r ∈ rs, r.wt ≤ 100000000) :
    Calls Tryz.prog 51 #[.slice a rs.length c, .func (.func 52) #[] #[]] W fun e w' => e = .returned (.bool (!rs.all formedB)) ∧ Below W.heap.size W w' := by
  have HI := Lib.hid (idx_rule rs.length a c 52 #[] (fun k => match rs[k]? with | some r => !formedB r | none => false) W hn notf_ent fun k W' hk hb => by
    obtain ⟨b, off, ra, rc, ha, -, hkr, g0, g1, g2, g3, g4, g5, g6, g7⟩ := rule8q (hr.keep hb hb.size) (RulesC.keep (hb.mono hB) (Nat.le_refl _) hc) k hk
    refine ⟨b, off, _, _, _, _, _, _, _, _, ha, g0, g1, g2, g3, g4, g5, g6, g7, ?_⟩
    simp only [List.getElem?_eq_getElem hk]
    exact notf_c rs[k] ra rc W' (hkr.keep (Below.refl _ _) (Nat.le_trans hB hb.size)) (hw _ (List.getElem_mem hk)))
  have Hd := Lib.hid (cf_idx rs)
  generalize idxP (fun k => match rs[k]? with | some r => !formedB r | none => false) rs.length = z at HI Hd
  clear hr hc hw
  go_enter Tryz.func51, Tryz.ntmps51
  go_wp2_with fail
  refine HI.out.mono ?_
  rintro e w1 ⟨rfl, hbel⟩
  have Hb := Lib.hid hbel
  clear hbel HI
  go_wp2_with fail
  go_ret
  exact ⟨ret_bool Hd.out, Hb.out⟩

end Go.Proofs.YtajclfjedlkbcaaGreatDoor
