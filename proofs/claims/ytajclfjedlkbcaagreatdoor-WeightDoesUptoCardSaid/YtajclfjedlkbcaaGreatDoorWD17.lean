/- Parts of the proof, one behind the other: RQG, RQH, RQB. -/
import Derived.Test.YtajclfjedlkbcaaGreatDoorWD16
import Derived.Test.YtajclfjedlkbcaaGreatDoorWD15
import Derived.Test.YtajclfjedlkbcaaGreatDoorWD10
import Derived.Test.YtajclfjedlkbcaaGreatDoorWD4
/- Walk: the reference's wraps. -/
namespace Go.Proofs.YtajclfjedlkbcaaGreatDoor
open Go.RowKit Go.Redl
set_option linter.unusedVariables false
set_option linter.unusedSimpArgs false

def wrapsB (s : SchemaD) (r : RuleD) : Bool := !badText s r && (namesS s).all (wrapOk s r)
theorem rwraps_ent : ∀ args w, (callFunc 60 args).run Tryz.prog w = .ok (.enter 60 args) w := by intro args w; kernel_rfl
theorem rruleOf_ent2 : ∀ args w, (callFunc 62 args).run Tryz.prog w = .ok (.enter 62 args) w := by intro args w; kernel_rfl
set_option maxRecDepth 100000 in
set_option maxHeartbeats 8000000 in
theorem rwraps_c (s : SchemaD) (v : Value) (r : RuleD) (a : Option Addr) (c : Nat) (W : World) (hw : s.wt ≤ 100000000) (hv : SchemaV W W.heap.size s v) (hr : RowA W W.heap.size 3 a r.kids.length c (pairCells r.kids)) (hk : r.kids.length ≤ 100000000) :
    Calls Tryz.prog 60 #[v, .agg #[strV r.type, .int .i64 r.text.1, strV r.text.2, .int .i64 r.other.1, strV r.other.2, .slice a r.kids.length c, .int .i64 r.fill, strV r.fillT]] W fun e w' => e = .returned (.bool (wrapsB s r)) ∧ Below W.heap.size W w' := by
  have Hv := Lib.hid (fun (w' : World) (hb : Below W.heap.size W w') => hv.keep hb hb.size)
  have Hr := Lib.hid (fun (w' : World) (hb : Below W.heap.size W w') (k : List UInt8) => ract_x r a c k w' (hr.keep hb hb.size) hk)
  have HK := Lib.hid (fun (w' : World) (hb : Below W.heap.size W w') (k : List UInt8) => rkeeps_c r a c k w' (hr.keep hb hb.size) hk)
  obtain ⟨sa, sc, css, ea, ec, o0, o1, o2, o3, o4, o5, rfl, -, -, -, -⟩ := hv.open
  have HO := Lib.hid (fun (w' : World) (hb : Below W.heap.size W w') (k : List UInt8) => rruleOf_c s _ k w'.heap.size w' (Nat.le_refl _) hw (Hv.out w' hb))
  have HNa := Lib.hid (fun (w' : World) (hb : Below W.heap.size W w') => rnames_c s _ w'.heap.size w' hw (Hv.out w' hb) (Nat.le_refl _))
  have Hkl := Lib.hid (fun (k : List UInt8) => show (ruleOf s k).kids.length ≤ 100000000 by have := kids_wt (ruleOf s k); have := ruleOf_wt s k; omega)
  have Hwt := Lib.hid hw
  obtain ⟨R, hR⟩ : ∃ R, R = wrapsB s r := ⟨_, rfl⟩
  have HR := Lib.hid (show (!badText s r && (namesS s).all (wrapOk s r)) = R from hR.symm)
  rw [← hR]
  obtain ⟨w0, hw0⟩ : ∃ w0, w0 = ((W.alloc (Obj.cells #[.slice sa s.rules.length sc, strV s.els.type, .int .i64 s.els.text.1, strV s.els.text.2, .int .i64 s.els.other.1, strV s.els.other.2, .slice ea s.els.kids.length ec, .int .i64 s.els.fill, strV s.els.fillT, .int .i64 o0, .int .i64 o1, .int .i64 o2, .int .i64 o3, .int .i64 o4, .int .i64 o5, .int .i64 s.cap] 30)).alloc (Obj.cells #[strV r.type, .int .i64 r.text.1, strV r.text.2, .int .i64 r.other.1, strV r.other.2, .slice a r.kids.length c, .int .i64 r.fill, strV r.fillT] 27)).alloc (Obj.cells #[.int .i64 r.text.1, strV r.text.2] 24) := ⟨_, rfl⟩
  have hb0 : Below W.heap.size W w0 := by rw [hw0]; exact three_below _ _ _ _
  have hA : At w0 W.heap.size [.slice sa s.rules.length sc, strV s.els.type, .int .i64 s.els.text.1, strV s.els.text.2, .int .i64 s.els.other.1, strV s.els.other.2, .slice ea s.els.kids.length ec, .int .i64 s.els.fill, strV s.els.fillT, .int .i64 o0, .int .i64 o1, .int .i64 o2, .int .i64 o3, .int .i64 o4, .int .i64 o5, .int .i64 s.cap] 30 := by rw [hw0]; exact ((At.fresh W _ _).alloc _).alloc _
  have hX : At w0 (W.heap.size + 1) [strV r.type, .int .i64 r.text.1, strV r.text.2, .int .i64 r.other.1, strV r.other.2, .slice a r.kids.length c, .int .i64 r.fill, strV r.fillT] 27 := by rw [hw0]; exact (At.second W _ _ _).alloc _
  have hY : At w0 (W.heap.size + 1 + 1) [.int .i64 r.text.1, strV r.text.2] 24 := by rw [hw0]; exact At.third W _ _ _ _
  have hld := fun (w' : World) (h : At w' W.heap.size [.slice sa s.rules.length sc, strV s.els.type, .int .i64 s.els.text.1, strV s.els.text.2, .int .i64 s.els.other.1, strV s.els.other.2, .slice ea s.els.kids.length ec, .int .i64 s.els.fill, strV s.els.fillT, .int .i64 o0, .int .i64 o1, .int .i64 o2, .int .i64 o3, .int .i64 o4, .int .i64 o5, .int .i64 s.cap] 30) => load_at (P := Tryz.prog) h Tryz.underlying30 rfl (by kernel_rfl)
  simp [go_sem] at hld
  have HLD := Lib.hid hld
  have hlr := fun (w' : World) (h : At w' (W.heap.size + 1) [strV r.type, .int .i64 r.text.1, strV r.text.2, .int .i64 r.other.1, strV r.other.2, .slice a r.kids.length c, .int .i64 r.fill, strV r.fillT] 27) => load_at (P := Tryz.prog) h Tryz.underlying27 rfl (by kernel_rfl)
  simp [go_sem] at hlr
  have HLR := Lib.hid hlr
  have Hw0 := Lib.hid hw0; have Hb0 := Lib.hid hb0; have HA := Lib.hid hA; have HX := Lib.hid hX; have HY := Lib.hid hY
  have hld0 := hld w0 hA
  have hlr0 := hlr w0 hX
  have xl := hX.lt
  obtain ⟨⟨y0, y1⟩, -, yl⟩ := hY.f2
  have HT := Lib.hid (HK.out w0 hb0 r.text.2)
  clear hv hw hr hld hlr hw0 hb0 hA hX hY hR
  go_enter Tryz.func60, Tryz.ntmps60
  go_upto_region 2 with fail
  rw [← Hw0.out]
  clear Hw0
  go_cut [29] (fun b wx => b = .bool (badText s r) ∧ Hid (Below w0.heap.size w0 wx))
  case first =>
    by_cases h4 : r.text.1 = 4
    ·
      obtain ⟨A1, hA1⟩ : ∃ A1, A1 = actIn r r.text.2 := ⟨_, rfl⟩
      obtain ⟨D1, hD1⟩ : ∃ D1, D1 = (ruleOf s r.text.2).text.1 := ⟨_, rfl⟩
      have HB := Lib.hid (show badText s r = (decide (A1.1 ≠ 1) || decide (D1 ≠ 1)) by unfold badText; rw [h4, ← hA1, ← hD1]; simp)
      rw [← hA1] at HT
      rw [h4] at y0
      have HD1 := Lib.hid hD1
      obtain ⟨a1, t1⟩ := A1
      simp only at HB HT
      clear hA1 hD1 h4
      have hft := field_text
      have hfa := field_do
      by_cases ha1 : a1 = 1
      · rw [decide_eq_true ha1] at HT
        subst ha1
        go_wp2_with fail
        refine HT.out.mono ?_
        rintro e w1 ⟨rfl, hbel⟩
        have HOx := Lib.hid (HO.out w1 (Hb0.out.trans (hbel.mono Hb0.out.size)) r.text.2)
        have Hb1 := Lib.hid hbel
        have hld1 := HLD.out w1 (HA.out.kept hbel)
        obtain ⟨⟨z0, z1⟩, -, zl⟩ := (HY.out.kept hbel).f2
        clear hbel HT hlr0 y0 y1 hld0
        go_wp2_with fail
        refine HOx.out.mono ?_
        rintro e w2 ⟨ka, kc, rfl, -, hbel⟩
        have Hb2 := Lib.hid (Hb1.out.trans (hbel.mono Hb1.out.size))
        clear hbel HOx z0 z1 hld1
        rw [← HD1.out]
        have hne := int_ne1 D1
        go_wp2_with fail
        go_meet
        case rel => exact ⟨by rw [HB.out]; simp, Hb2⟩
      · rw [decide_eq_false ha1] at HT
        have Hz := Lib.hid (show badText s r = true by rw [HB.out]; simp [ha1])
        clear ha1
        go_wp2_with fail
        refine HT.out.mono ?_
        rintro e w1 ⟨rfl, hbel⟩
        have Hb1 := Lib.hid hbel
        clear hbel HT hlr0 y0 y1 hld0
        go_wp2_with fail
        go_meet
        case rel => exact ⟨by rw [Hz.out], Hb1⟩
    · have h4b : (r.text.1 == 4) = false := beq_eq_false_iff_ne.2 h4
      have Hz := Lib.hid (show badText s r = false by unfold badText; simp [h4])
      go_wp2_with fail
      go_meet
      case rel => exact ⟨by rw [Hz.out], (show Below _ _ _ from Below.refl _ _)⟩
  case rest =>
    obtain ⟨wB, rfl⟩ : ∃ wB, wB = wc := ⟨_, rfl⟩
    obtain ⟨rfl, hbx⟩ := hcut
    have HAB := Lib.hid (HA.out.kept hbx.out)
    have HXB := Lib.hid (HX.out.kept hbx.out)
    have HbB := Lib.hid (Hb0.out.trans (hbx.out.mono Hb0.out.size))
    have hxlB := HXB.out.lt
    have hld1 := HLD.out wB HAB.out
    have HN := Lib.hid (HNa.out wB HbB.out)
    obtain ⟨B, hB⟩ : ∃ B, B = badText s r := ⟨_, rfl⟩
    rw [← hB] at HR ⊢
    clear hB y0 y1 yl hld0 hlr0 HT hbx HA HX HY xl HNa
    cases B with
    | true =>
      have Hz := Lib.hid (show false = R from HR.out)
      go_wp2_with fail
      go_ret
      exact ⟨ret_bool Hz.out, HbB.out⟩
    | false =>
      have HR1 := Lib.hid (show (namesS s).all (wrapOk s r) = R from HR.out)
      obtain ⟨i0, hi, hz0, hz1, hz2⟩ := info_parts info_strT
      clear HR
      go_wp2_with fail
      refine HN.out.mono ?_
      rintro e w7 ⟨nv, out, rfl, hown, hmem, hlen, hbel⟩
      have hlw : out.length ≤ 100000000 := Nat.le_trans hlen Hwt.out
      have Hmem := Lib.hid hmem
      have Hb7 := Lib.hid hbel
      have hs7 := hbel.size
      clear hmem hlen hbel HN hld1
      have hfrm : ∀ (v' : Value) (w' : World), w'.ownsRow wB.heap.size 9 1 v' (out.length + 1) (out.map strV ++ [strV []]) → ∃ na n nc, v' = .slice na n nc ∧ Hid (n = (out ++ [[]]).length ∧ RowA w' w'.heap.size 1 na n nc ((out ++ [[]]).map strV)) := fun v' w' h => by
        obtain ⟨na, nc, e, hr⟩ := row_of_own h (fun u hu => by rcases List.mem_append.1 hu with hu | hu; exact strs_one _ u hu; simp at hu; subst hu; rfl)
        exact ⟨na, _, nc, e, (show _ ∧ _ from ⟨by simp, by rw [List.map_append]; exact hr⟩)⟩
      go_wp2_with (at_builtin; refine wpList_append_own _ rfl _ _ 91 rfl wB.heap.size 9 i0 (.string ⟨#[]⟩) 1 16 Tryz.underlying91 hi hz0 hz1 hz2 rfl (by decide) _ _ _ rfl (hown.alloc _) ⟨w7.heap.size, 0, none⟩ 1 1 [strV []] rfl rfl (cell_one_new _ _ _) (by simp [Value.oneCell']) (by unfold maxLen at *; omega) (by omega) (by simp; omega) ?_; intro nv2 w8 hown2 hg8 hnil8; obtain ⟨na, n, nc, rfl, Hfr⟩ := hfrm nv2 w8 hown2; go_frame)
      have hb8 : Below wB.heap.size wB w8 := (Hb7.out.alloc hs7 (Obj.cells #[strV []] 9)).grown hg8 (Nat.le_trans hs7 (one_below w7 _).size) (fun j hj => (hown.lt j hj).1)
      obtain ⟨l, hl⟩ : ∃ l, l = out ++ [[]] := ⟨_, rfl⟩
      have Hnr := Lib.hid (show RowA w8 w8.heap.size 1 na n nc (l.map strV) by rw [hl]; exact Hfr.out.2)
      have hn1 : n ≤ l.length := by rw [hl]; exact Nat.le_of_eq Hfr.out.1
      have hn2 : l.length ≤ n := by rw [hl]; exact Nat.le_of_eq Hfr.out.1.symm
      have hn3 : n ≤ 1000000000 := by have h1 : l.length ≤ 100000001 := by rw [hl]; simp; omega
                                      omega
      have HR2 := Lib.hid (show (l.drop 0).all (wrapOk s r) = R by rw [← HR1.out, hl]; exact all_same (names_same Hmem.out))
      have HA8 := Lib.hid (HAB.out.kept hb8)
      have HX8 := Lib.hid (HXB.out.kept hb8)
      have Hb8 := Lib.hid (HbB.out.trans (hb8.mono HbB.out.size))
      have hxl8 := HX8.out.lt
      clear hl hown hown2 hg8 hnil8 hb8 hfrm hi hz0 hz1 hz2 hlw hs7 HR1 HAB HXB Hfr hxlB
      go_loopg [35] n (fun g i wr => ∃ k : Nat, i = .int .i64 k ∧ k + g = n ∧ Hid ((l.drop k).all (wrapOk s r) = R) ∧ Hid (Below w8.heap.size w8 wr))
      case atStart => exact ⟨0, rfl, by omega, HR2, (show Below _ _ _ from Below.refl _ _)⟩
      case round =>
        obtain ⟨k, rfl, hg, hst, hbr⟩ := hrel
        have Hbr := Lib.hid (Hb8.out.trans (hbr.out.mono Hb8.out.size))
        have hHX := HX8.out.kept hbr.out
        have hxl3 := hHX.lt
        have hlr0 := HLR.out wr hHX
        clear hHX
        by_cases hlt : k < n
        · have hlti : (k : Int) < n := by omega
          have hltl : k < l.length := by omega
          obtain ⟨b, off, rfl, hlb, hc⟩ := text_at (Hnr.out.keep hbr.out hbr.out.size) k hltl
          have Hst := Lib.hid (show (wrapOk s r l[k] && (l.drop (k + 1)).all (wrapOk s r)) = R by
            have h := hst.out
            rw [List.drop_eq_getElem_cons hltl, List.all_cons] at h
            exact h)
          generalize l[k] = x at hc Hst
          have HT := Lib.hid (Hr.out wr Hbr.out x)
          obtain ⟨A1, hA1⟩ : ∃ A1, A1 = actIn r x := ⟨_, rfl⟩
          rw [← hA1] at HT
          have HW := Lib.hid (show wrapOk s r x = !(decide (A1.1 = 4) && (decide ((actIn r A1.2).1 ≠ 1) || decide ((actIn (ruleOf s A1.2) x).1 ≠ 1))) by rw [hA1]; rfl)
          obtain ⟨a1, t1⟩ := A1
          simp only at HW
          clear hA1 hst hlb
          go_wp2_with fail
          refine HT.out.mono ?_
          rintro e w1 ⟨rfl, hbel⟩
          have Hb1 := Lib.hid (hbr.out.trans (hbel.mono hbr.out.size))
          clear hbel HT hc hlr0
          obtain ⟨w2, hw2⟩ : ∃ w2, w2 = w1.alloc (Obj.cells #[.int .i64 a1, strV t1] 24) := ⟨_, rfl⟩
          have hb2 : Below w8.heap.size w8 w2 := by rw [hw2]; exact Hb1.out.trans ((one_below w1 _).mono Hb1.out.size)
          have hY : At w2 w1.heap.size [.int .i64 a1, strV t1] 24 := by rw [hw2]; exact At.fresh w1 _ _
          have Hw2 := Lib.hid hw2; have Hb2 := Lib.hid hb2
          have hb2w := Hb8.out.trans (hb2.mono Hb8.out.size)
          have Hb2w := Lib.hid hb2w
          have HY := Lib.hid hY
          obtain ⟨⟨y0, y1⟩, -, yl⟩ := hY.f2
          have hlr0 := HLR.out w2 (HX8.out.kept hb2)
          have HT := Lib.hid (HK.out w2 hb2w t1)
          have hxl4 := (HX8.out.kept hb2).lt
          clear hw2 hb2 hY hb2w
          go_upto_region 8 with fail
          rw [← Hw2.out]
          clear Hw2
          go_cut [60] (fun b wx => b = .bool (!wrapOk s r x) ∧ Hid (Below w2.heap.size w2 wx))
          case first =>
            by_cases h4 : a1 = 4
            ·
              subst h4
              obtain ⟨A2, hA2⟩ : ∃ A2, A2 = actIn r t1 := ⟨_, rfl⟩
              obtain ⟨Q, hQ⟩ : ∃ Q, Q = ruleOf s t1 := ⟨_, rfl⟩
              rw [← hA2] at HT
              have HB := Lib.hid (show (!wrapOk s r x) = (decide (A2.1 ≠ 1) || decide ((actIn Q x).1 ≠ 1)) by rw [HW.out, ← hA2, ← hQ]; simp)
              have HQ := Lib.hid hQ
              have Hkq := Lib.hid (show Q.kids.length ≤ 100000000 by rw [hQ]; exact Hkl.out t1)
              obtain ⟨a2, t2⟩ := A2
              simp only at HB HT
              clear hA2 hQ
              by_cases ha2 : a2 = 1
              · rw [decide_eq_true ha2] at HT
                subst ha2
                go_wp2_with fail
                refine HT.out.mono ?_
                rintro e w3 ⟨rfl, hbel⟩
                have HOx := Lib.hid (HO.out w3 (Hb2w.out.trans (hbel.mono Hb2w.out.size)) t1)
                rw [← HQ.out] at HOx
                have Hb3 := Lib.hid hbel
                have hld1 := HLD.out w3 (HA8.out.kept (Hb2.out.trans (hbel.mono Hb2.out.size)))
                obtain ⟨⟨z0, z1⟩, -, zl⟩ := (HY.out.kept hbel).f2
                clear hbel HT y0 y1 hlr0
                go_wp2_with fail
                refine HOx.out.mono ?_
                rintro e w4 ⟨ka, kc, rfl, hq, hbel⟩
                have Hb4 := Lib.hid (Hb3.out.trans (hbel.mono Hb3.out.size))
                have HTQ := Lib.hid (rkeeps_c Q ka kc x w4 (hq.keep (Below.refl _ _) hbel.size) Hkq.out)
                obtain ⟨A3, hA3⟩ : ∃ A3, A3 = decide ((actIn Q x).1 = 1) := ⟨_, rfl⟩
                have HB2 := Lib.hid (show (!wrapOk s r x) = !A3 by rw [HB.out, hA3]; simp)
                rw [← hA3] at HTQ
                clear hbel HOx z0 z1 hld1 hq hA3
                go_wp2_with fail
                refine HTQ.out.mono ?_
                rintro e w5 ⟨rfl, hbel⟩
                have Hb5 := Lib.hid (Hb4.out.trans (hbel.mono Hb4.out.size))
                clear hbel HTQ
                go_wp2_with fail
                go_meet
                case rel => exact ⟨by rw [HB2.out], Hb5⟩
              · rw [decide_eq_false ha2] at HT
                have Hz := Lib.hid (show (!wrapOk s r x) = true by rw [HB.out]; simp [ha2])
                clear ha2
                go_wp2_with fail
                refine HT.out.mono ?_
                rintro e w3 ⟨rfl, hbel⟩
                have Hb3 := Lib.hid hbel
                clear hbel HT y0 y1 hlr0
                go_wp2_with fail
                go_meet
                case rel => exact ⟨by rw [Hz.out], Hb3⟩
            · have h4b : (a1 == 4) = false := beq_eq_false_iff_ne.2 h4
              have Hz := Lib.hid (show (!wrapOk s r x) = false by rw [HW.out]; simp [h4])
              go_wp2_with fail
              go_meet
              case rel => exact ⟨by rw [Hz.out], (show Below _ _ _ from Below.refl _ _)⟩
          case rest =>
            obtain ⟨rfl, hby⟩ := hcut
            have Hb3 := Lib.hid (show Below w8.heap.size w8 _ from Hb2.out.trans (hby.out.mono Hb2.out.size))
            obtain ⟨B, hB⟩ : ∃ B, B = wrapOk s r x := ⟨_, rfl⟩
            rw [← hB] at Hst ⊢
            clear hB y0 y1 yl hlr0 HT hby HY HW
            cases B with
            | false =>
              have Hz := Lib.hid (show false = R from Hst.out)
              go_wp2_with fail
              go_ret
              exact ⟨ret_bool Hz.out, Hb8.out.trans (Hb3.out.mono Hb8.out.size)⟩
            | true =>
              have HN := Lib.hid (show (l.drop (k + 1)).all (wrapOk s r) = R from Hst.out)
              go_wp2_with fail
              go_roundg (n - (k + 1))
              case measure => omega
              case rel => exact ⟨k + 1, by go_num, by omega, HN, Hb3⟩
        · have hkl : k = l.length := by omega
          have Hfin := Lib.hid (show true = R by have h := hst.out; rw [hkl, List.drop_length] at h; exact h)
          have hnl : ¬ (k : Int) < n := by omega
          clear hst hkl hlr0
          go_wp2_with fail
          go_ret
          exact ⟨ret_bool Hfin.out, Hbr.out⟩

end Go.Proofs.YtajclfjedlkbcaaGreatDoor
/- The reference's fills: plain law, walk. -/
namespace Go.Proofs.YtajclfjedlkbcaaGreatDoor
open Go.RowKit Go.Redl
set_option linter.unusedVariables false
set_option linter.unusedSimpArgs false

/-- How many nodes fill an element, by rounds. -/
def fR (s : SchemaD) : Nat → RuleD → Nat → Int × Bool
  | 0, _, _ => (0, false)
  | f + 1, r, n => if r.fill = 0 then ((n : Int), true) else if r.fill = 1 then ((n : Int) + 1, true) else fR s f (ruleOf s r.fillT) (n + 1)
theorem fR_step (s : SchemaD) (f : Nat) (r : RuleD) (n : Nat) : fR s (f + 1) r n = if r.fill = 0 then ((n : Int), true) else if r.fill = 1 then ((n : Int) + 1, true) else fR s f (ruleOf s r.fillT) (n + 1) := rfl
def rfillsS (s : SchemaD) (r : RuleD) : Int × Bool := fR s (s.rules.length + 2) r 0
/-- Types are none twice. -/
def Dist (s : SchemaD) : Prop := ∀ a ∈ allR s, ∀ b ∈ allR s, a.type = b.type → a = b
theorem fR_closed (s : SchemaD) (V : List RuleD) (h : ∀ q ∈ V, (q.fill ≠ 0 ∧ q.fill ≠ 1) ∧ ruleOf s q.fillT ∈ V) : ∀ (f : Nat) (q : RuleD) (m : Nat), q ∈ V → fR s f q m = (0, false)
  | 0, _, _, _ => rfl
  | f + 1, q, m, hq => by
    rw [fR_step, if_neg (h q hq).1.1, if_neg (h q hq).1.2]
    exact fR_closed s V h f _ _ (h q hq).2
theorem fR_depth {s : SchemaD} (hd : Dist s) : ∀ (f : Nat) (vis : List RuleD) (r : RuleD) (n : Nat), r ∈ allR s → (∀ q ∈ vis, q ∈ allR s) → (vis.map (·.type)).Nodup → f + vis.length = s.rules.length + 2 →
    (∀ q ∈ vis, (q.fill ≠ 0 ∧ q.fill ≠ 1) ∧ (ruleOf s q.fillT ∈ vis ∨ ruleOf s q.fillT = r)) →
    (0 ≤ depthF s f (vis.map (·.type)) r n → fR s f r n = (depthF s f (vis.map (·.type)) r n, true)) ∧ (depthF s f (vis.map (·.type)) r n < 0 → fR s f r n = (0, false))
  | 0, vis, r, n, hr, hv, hn, hl, hc => by
    exfalso
    have := met_le (s := s) hn (fun x hx => by obtain ⟨q, hq, rfl⟩ := List.mem_map.1 hx; exact List.mem_map.2 ⟨q, hv q hq, rfl⟩)
    rw [List.length_map] at this
    omega
  | f + 1, vis, r, n, hr, hv, hn, hl, hc => by
    rw [depth_step, fR_step]
    by_cases h0 : r.fill = 0
    · rw [if_pos h0, if_pos h0]
      exact ⟨fun _ => rfl, fun h => by omega⟩
    · rw [if_neg h0, if_neg h0]
      by_cases h1 : r.fill = 1
      · rw [if_pos h1, if_pos h1]
        exact ⟨fun _ => rfl, fun h => by omega⟩
      · rw [if_neg h1, if_neg h1]
        by_cases hm : r.type ∈ vis.map (·.type)
        · rw [if_pos hm]
          refine ⟨fun h => by omega, fun _ => ?_⟩
          obtain ⟨q, hq, he⟩ := List.mem_map.1 hm
          have hqr : q = r := hd q (hv q hq) r hr he
          subst hqr
          have hcl : ∀ p ∈ vis, (p.fill ≠ 0 ∧ p.fill ≠ 1) ∧ ruleOf s p.fillT ∈ vis := fun p hp => ⟨(hc p hp).1, by
            rcases (hc p hp).2 with h | h
            · exact h
            · rw [h]; exact hq⟩
          exact fR_closed s vis hcl f _ _ (hcl q hq).2
        · rw [if_neg hm]
          exact fR_depth hd f (r :: vis) (ruleOf s r.fillT) (n + 1) (ruleOf_all s _) (fun q hq => by rcases List.mem_cons.1 hq with rfl | hq; exact hr; exact hv q hq) (List.nodup_cons.2 ⟨hm, hn⟩) (by simp only [List.length_cons]; omega)
            (fun q hq => by
              rcases List.mem_cons.1 hq with rfl | hq
              · exact ⟨⟨h0, h1⟩, .inr rfl⟩
              · refine ⟨(hc q hq).1, .inl ?_⟩
                rcases (hc q hq).2 with h | h
                · exact List.mem_cons_of_mem _ h
                · rw [h]; exact List.mem_cons_self)
theorem rfills_eq {s : SchemaD} (hd : Dist s) {r : RuleD} (hr : r ∈ allR s) : (0 ≤ depthN s r → rfillsS s r = (depthN s r, true)) ∧ (depthN s r < 0 → rfillsS s r = (0, false)) :=
  fR_depth hd (s.rules.length + 2) [] r 0 hr (by simp) List.nodup_nil (by simp) (by simp)

theorem rfills_ent : ∀ args w, (callFunc 31 args).run Tryz.prog w = .ok (.enter 31 args) w := by intro args w; kernel_rfl
set_option maxRecDepth 100000 in
set_option maxHeartbeats 4000000 in
theorem rfills_c (s : SchemaD) (v : Value) (r : RuleD) (a : Option Addr) (c : Nat) (W : World) (hw : s.wt ≤ 100000000) (hv : SchemaV W W.heap.size s v) :
    Calls Tryz.prog 31 #[v, .agg #[strV r.type, .int .i64 r.text.1, strV r.text.2, .int .i64 r.other.1, strV r.other.2, .slice a r.kids.length c, .int .i64 r.fill, strV r.fillT]] W fun e w' => e = .returned (.tuple #[.int .i64 (rfillsS s r).1, .bool (rfillsS s r).2]) ∧ Below W.heap.size W w' := by
  have hrl : s.rules.length ≤ 100000000 := by have := rulesWt_len s.rules; unfold SchemaD.wt at hw; omega
  have Hv := Lib.hid (fun (w' : World) (hb : Below W.heap.size W w') => hv.keep hb hb.size)
  obtain ⟨sa, sc, css, ea, ec, o0, o1, o2, o3, o4, o5, rfl, -, -, -, -⟩ := hv.open
  obtain ⟨⟨R1, R2⟩, hR⟩ : ∃ R, rfillsS s r = R := ⟨_, rfl⟩
  have HR := Lib.hid (show fR s (s.rules.length + 2) r 0 = (R1, R2) from hR)
  rw [hR]
  have Hwt := Lib.hid hw
  obtain ⟨w0, hw0⟩ : ∃ w0, w0 = (W.alloc (Obj.cells #[.slice sa s.rules.length sc, strV s.els.type, .int .i64 s.els.text.1, strV s.els.text.2, .int .i64 s.els.other.1, strV s.els.other.2, .slice ea s.els.kids.length ec, .int .i64 s.els.fill, strV s.els.fillT, .int .i64 o0, .int .i64 o1, .int .i64 o2, .int .i64 o3, .int .i64 o4, .int .i64 o5, .int .i64 s.cap] 30)).alloc (Obj.cells #[strV r.type, .int .i64 r.text.1, strV r.text.2, .int .i64 r.other.1, strV r.other.2, .slice a r.kids.length c, .int .i64 r.fill, strV r.fillT] 27) := ⟨_, rfl⟩
  have hb0 : Below W.heap.size W w0 := by rw [hw0]; exact two_below _ _ _
  have hA : At w0 W.heap.size [.slice sa s.rules.length sc, strV s.els.type, .int .i64 s.els.text.1, strV s.els.text.2, .int .i64 s.els.other.1, strV s.els.other.2, .slice ea s.els.kids.length ec, .int .i64 s.els.fill, strV s.els.fillT, .int .i64 o0, .int .i64 o1, .int .i64 o2, .int .i64 o3, .int .i64 o4, .int .i64 o5, .int .i64 s.cap] 30 := by rw [hw0]; exact (At.fresh W _ _).alloc _
  have hX : At w0 (W.heap.size + 1) [strV r.type, .int .i64 r.text.1, strV r.text.2, .int .i64 r.other.1, strV r.other.2, .slice a r.kids.length c, .int .i64 r.fill, strV r.fillT] 27 := by rw [hw0]; exact At.second W _ _ _
  have hld := fun (w' : World) (h : At w' W.heap.size [.slice sa s.rules.length sc, strV s.els.type, .int .i64 s.els.text.1, strV s.els.text.2, .int .i64 s.els.other.1, strV s.els.other.2, .slice ea s.els.kids.length ec, .int .i64 s.els.fill, strV s.els.fillT, .int .i64 o0, .int .i64 o1, .int .i64 o2, .int .i64 o3, .int .i64 o4, .int .i64 o5, .int .i64 s.cap] 30) => load_at (P := Tryz.prog) h Tryz.underlying30 rfl (by kernel_rfl)
  simp [go_sem] at hld
  have HLD := Lib.hid hld
  have z0 := hA.cell 0 (v := .slice sa s.rules.length sc) rfl
  have xl := hX.lt
  have Hw0 := Lib.hid hw0; have HA1 := Lib.hid hA; have HX1 := Lib.hid hX; have Hb1 := Lib.hid hb0
  clear hv hw hw0 hb0 hA hX hld hR
  go_enter Tryz.func31, Tryz.ntmps31
  go_upto_region 1 with fail
  rw [← Hw0.out]
  clear Hw0
  go_wp2_with fail
  go_loopg [11, 6] (s.rules.length + 2) (fun g i m wr => ∃ (n : Nat) (q : RuleD) (qa : Option Addr) (qc : Nat), i = .int .i64 n ∧ m = .int .i64 n ∧ n + g = s.rules.length + 2 ∧ Hid (fR s g q n = (R1, R2)) ∧
    Hid (At wr (W.heap.size + 1) [strV q.type, .int .i64 q.text.1, strV q.text.2, .int .i64 q.other.1, strV q.other.2, .slice qa q.kids.length qc, .int .i64 q.fill, strV q.fillT] 27) ∧
    Hid (At wr W.heap.size [.slice sa s.rules.length sc, strV s.els.type, .int .i64 s.els.text.1, strV s.els.text.2, .int .i64 s.els.other.1, strV s.els.other.2, .slice ea s.els.kids.length ec, .int .i64 s.els.fill, strV s.els.fillT, .int .i64 o0, .int .i64 o1, .int .i64 o2, .int .i64 o3, .int .i64 o4, .int .i64 o5, .int .i64 s.cap] 30) ∧ Hid (Below W.heap.size W wr))
  case atStart => exact ⟨0, r, a, c, by go_num, rfl, by omega, HR, HX1, HA1, Hb1⟩
  case round =>
    obtain ⟨n, q, qa, qc, rfl, rfl, hg, hst, hx, ha, hbr⟩ := hrel
    by_cases hlt : n < s.rules.length + 2
    · obtain ⟨g', hg'⟩ : ∃ g', gk = g' + 1 := ⟨gk - 1, by omega⟩
      have hst2 := hst.out
      rw [hg', fR_step] at hst2
      have Hgg := Lib.hid (show n + 1 + g' = s.rules.length + 2 ∧ g' < gk from by omega)
      have hlti : (n : Int) < (s.rules.length : Int) + 2 := by omega
      have hlti2 : (n : Int) < ((s.rules.length + 2 : Nat) : Int) := by omega
      obtain ⟨⟨x0, x1, x2, x3, x4, x5, x6, x7⟩, xf, xl⟩ := hx.out.f8
      clear hst hg'
      by_cases h0 : q.fill = 0
      · have Hz := Lib.hid (show (n : Int) = R1 ∧ true = R2 by rw [if_pos h0] at hst2; injection hst2 with e1 e2; exact ⟨e1, e2⟩)
        rw [h0] at x6
        clear hst2 h0
        go_wp2_with fail
        go_ret2
        rw [← Hz.out.1, ← Hz.out.2]
        exact ⟨rfl, hbr.out⟩
      · by_cases h1 : q.fill = 1
        · have Hz := Lib.hid (show (n : Int) + 1 = R1 ∧ true = R2 by rw [if_neg h0, if_pos h1] at hst2; injection hst2 with e1 e2; exact ⟨e1, e2⟩)
          rw [h1] at x6
          clear hst2 h0 h1
          go_wp2_with fail
          go_ret2
          rw [← Hz.out.1, ← Hz.out.2]
          exact ⟨rfl, hbr.out⟩
        · have h0b : (q.fill == 0) = false := beq_eq_false_iff_ne.2 h0
          have h1b : (q.fill == 1) = false := beq_eq_false_iff_ne.2 h1
          have Hst := Lib.hid (show fR s g' (ruleOf s q.fillT) (n + 1) = (R1, R2) by rw [if_neg h0, if_neg h1] at hst2; exact hst2)
          have HC := Lib.hid (rruleOf_c s _ q.fillT wr.heap.size wr (Nat.le_refl _) Hwt.out (Hv.out wr hbr.out))
          have hld := HLD.out wr ha.out
          have zl := ha.out.lt
          clear hst2 h0 h1
          go_wp2_with fail
          refine HC.out.mono ?_
          rintro e w3 ⟨ka, kc, rfl, -, hbel⟩
          have Hb3 := Lib.hid (hbr.out.trans (hbel.mono hbr.out.size))
          have HX3 := Lib.hid (hx.out.kept hbel)
          have HA3 := Lib.hid (ha.out.kept hbel)
          clear hbel HC x0 x1 x2 x3 x4 x5 x6 x7 xf hld hx ha xl zl
          obtain ⟨⟨x0, x1, x2, x3, x4, x5, x6, x7⟩, xf, xl⟩ := HX3.out.f8
          obtain ⟨Q, hQ⟩ : ∃ Q, Q = ruleOf s q.fillT := ⟨_, rfl⟩
          rw [← hQ] at Hst ⊢
          clear hQ
          go_wp2_with fail
          go_roundg g'
          case measure => exact Hgg.out.2
          case rel =>
            have h9 := Hgg.out.1
            exact ⟨n + 1, Q, ka, kc, by go_num, by go_num, by omega, Hst, (show At _ _ _ _ from HX3.out.s8 _ _ _ _ _ _ _ _), (show At _ _ _ _ from HA3.out.n8 (by omega) _ _ _ _ _ _ _ _), (show Below _ _ _ from below_s8 Hb3.out (by omega) _ _ _ _ _ _ _ _)⟩
    · have hn : n = s.rules.length + 2 := by omega
      have Hz := Lib.hid (show (0 : Int) = R1 ∧ false = R2 by
        have h := hst.out
        rw [show gk = 0 by omega] at h
        injection h with e1 e2
        exact ⟨e1, e2⟩)
      have hnl : ¬ (n : Int) < (s.rules.length : Int) + 2 := by omega
      have hnl2 : ¬ (n : Int) < ((s.rules.length + 2 : Nat) : Int) := by omega
      clear hst hn
      go_wp2_with fail
      go_ret2
      rw [← Hz.out.1, ← Hz.out.2]
      exact ⟨rfl, hbr.out⟩

end Go.Proofs.YtajclfjedlkbcaaGreatDoor
/- Walk: the reference's rule (whether a rule may be by itself). -/
namespace Go.Proofs.YtajclfjedlkbcaaGreatDoor
open Go.RowKit Go.Redl
set_option linter.unusedVariables false
set_option linter.unusedSimpArgs false

/-- A rule's pairs: names that rise, and actions that may be. -/
def kGo : Option (List UInt8) → List PairD → Bool
  | _, [] => true
  | none, p :: l => nameB p.1 && (actB true p.2 && kGo (some p.1) l)
  | some q, p :: l => nameB p.1 && (!leB p.1 q && (actB true p.2 && kGo (some p.1) l))
theorem kGo_eq : ∀ (l : List PairD) (o : Option (List UInt8)), kGo o l = (riseGo o (l.map (·.1)) && l.all (fun p => actB true p.2))
  | [], o => by cases o <;> rfl
  | p :: l, none => by
    show (nameB p.1 && (actB true p.2 && kGo (some p.1) l)) = _
    rw [kGo_eq l (some p.1), List.map_cons, List.all_cons]
    show _ = ((nameB p.1 && riseGo (some p.1) (l.map (·.1))) && _)
    cases nameB p.1 <;> cases actB true p.2 <;> simp
  | p :: l, some q => by
    show (nameB p.1 && (!leB p.1 q && (actB true p.2 && kGo (some p.1) l))) = _
    rw [kGo_eq l (some p.1), List.map_cons, List.all_cons]
    show _ = ((nameB p.1 && (!leB p.1 q && riseGo (some p.1) (l.map (·.1)))) && _)
    cases nameB p.1 <;> cases actB true p.2 <;> cases leB p.1 q <;> simp
theorem actB_lift (a : ActD) : actB false a = (decide (a.1 ≠ 3) && actB true a) := by
  unfold actB
  by_cases h4 : a.1 = 4
  · simp [h4]
  · by_cases h3 : a.1 = 3
    · simp [h3]
    · simp [h4, h3]
/-- A rule by itself but for its pairs and its fill. -/
def headB (r : RuleD) : Bool := decide (r.kids.length ≤ 32) && (actB true r.text && (decide (r.text.1 ≠ 3) && actB true r.other))
theorem formed_law (r : RuleD) : formedB r = (headB r && (kGo none r.kids && fillB r)) := by
  unfold formedB headB riseB
  rw [kGo_eq, actB_lift, List.length_map]
  generalize r.kids.all (fun p => actB true p.2) = b1
  generalize fillB r = b2
  generalize decide (r.text.1 ≠ 3) = b3
  generalize actB true r.text = b4
  generalize actB true r.other = b5
  generalize riseGo none (r.kids.map (·.1)) = b6
  generalize decide (r.kids.length ≤ 32) = b7
  revert b1 b2 b3 b4 b5 b6 b7
  decide
theorem kGo_step0 {l : List PairD} (h : 0 < l.length) : kGo (aheadL (l.map (·.1)) 0) (l.drop 0) = (nameB l[0].1 && (actB true l[0].2 && kGo (aheadL (l.map (·.1)) 1) (l.drop 1))) := by
  rw [List.drop_eq_getElem_cons h, show aheadL (l.map (·.1)) 1 = some l[0].1 by show (l.map (·.1))[0]? = _; rw [List.getElem?_map, List.getElem?_eq_getElem h]; rfl]
  rfl
theorem kGo_stepS {l : List PairD} {m : Nat} (h : m + 1 < l.length) : kGo (aheadL (l.map (·.1)) (m + 1)) (l.drop (m + 1)) = (nameB l[m + 1].1 && (!leB l[m + 1].1 l[m].1 && (actB true l[m + 1].2 && kGo (aheadL (l.map (·.1)) (m + 2)) (l.drop (m + 2))))) := by
  rw [List.drop_eq_getElem_cons h, show aheadL (l.map (·.1)) (m + 2) = some l[m + 1].1 by show (l.map (·.1))[m + 1]? = _; rw [List.getElem?_map, List.getElem?_eq_getElem h]; rfl, show aheadL (l.map (·.1)) (m + 1) = some l[m].1 by show (l.map (·.1))[m]? = _; rw [List.getElem?_map, List.getElem?_eq_getElem (by omega)]; rfl]
  rfl
/-- What stands ahead of a text is less. -/
def leadB (t : List UInt8) : Option (List UInt8) → Bool
  | none => true
  | some p => !leB t p
theorem kGo_step {l : List PairD} {k : Nat} (h : k < l.length) : kGo (aheadL (l.map (·.1)) k) (l.drop k) = ((nameB l[k].1 && (leadB l[k].1 (aheadL (l.map (·.1)) k) && actB true l[k].2)) && kGo (aheadL (l.map (·.1)) (k + 1)) (l.drop (k + 1))) := by
  cases k with
  | zero =>
    rw [kGo_step0 h, show leadB l[0].1 (aheadL (l.map (·.1)) 0) = true from rfl]
    simp [Bool.and_assoc]
  | succ m =>
    rw [kGo_stepS h, show leadB l[m + 1].1 (aheadL (l.map (·.1)) (m + 1)) = !leB l[m + 1].1 l[m].1 by
      rw [show aheadL (l.map (·.1)) (m + 1) = some l[m].1 by show (l.map (·.1))[m]? = _; rw [List.getElem?_map, List.getElem?_eq_getElem (by omega)]; rfl]; rfl]
    simp [Bool.and_assoc]
theorem lead_prev {l : List PairD} {m : Nat} (h : m < l.length) (t : List UInt8) : leadB t (aheadL (l.map (·.1)) (m + 1)) = !leB t l[m].1 := by
  rw [show aheadL (l.map (·.1)) (m + 1) = some l[m].1 by show (l.map (·.1))[m]? = _; rw [List.getElem?_map, List.getElem?_eq_getElem h]; rfl]
  rfl
theorem rrule_ent : ∀ args w, (callFunc 59 args).run Tryz.prog w = .ok (.enter 59 args) w := by intro args w; kernel_rfl
set_option maxRecDepth 100000 in
set_option maxHeartbeats 8000000 in
theorem rrule_c (r : RuleD) (a : Option Addr) (c : Nat) (W : World) (hr : RowA W W.heap.size 3 a r.kids.length c (pairCells r.kids)) (hw : r.wt ≤ 100000000) :
    Calls Tryz.prog 59 #[.agg #[strV r.type, .int .i64 r.text.1, strV r.text.2, .int .i64 r.other.1, strV r.other.2, .slice a r.kids.length c, .int .i64 r.fill, strV r.fillT]] W fun e w' => e = .returned (.bool (formedB r)) ∧ Below W.heap.size W w' := by
  have hkl : r.kids.length ≤ 100000000 := by have := kids_wt r; omega
  have hkw : ∀ p ∈ r.kids, p.1.length ≤ 1000000000 ∧ p.2.2.length ≤ 1000000000 := fun p hp => by have := pairsWt_mem hp; unfold RuleD.wt at hw; omega
  have htl : r.text.2.length ≤ 1000000000 := by unfold RuleD.wt at hw; omega
  have hol : r.other.2.length ≤ 1000000000 := by unfold RuleD.wt at hw; omega
  have hfl : r.fillT.length ≤ 1000000000 := by unfold RuleD.wt at hw; omega
  obtain ⟨R, hR⟩ : ∃ R, R = formedB r := ⟨_, rfl⟩
  have HR := Lib.hid (show (headB r && (kGo none r.kids && fillB r)) = R by rw [hR, formed_law])
  have HH := Lib.hid (show headB r = (decide (r.kids.length ≤ 32) && (actB true r.text && (decide (r.text.1 ≠ 3) && actB true r.other))) from rfl)
  have HFl := Lib.hid (show fillB r = ((decide (r.fill = 0 ∨ r.fill = 1) && decide (r.fillT = [])) || (decide (r.fill = 2) && nameB r.fillT)) from rfl)
  rw [← hR]
  obtain ⟨HB, hHB⟩ : ∃ HB, HB = headB r := ⟨_, rfl⟩
  obtain ⟨FB, hFB⟩ : ∃ FB, FB = fillB r := ⟨_, rfl⟩
  rw [← hHB] at HR HH
  rw [← hFB] at HR HFl
  clear hHB hFB hR
  obtain ⟨ty, ⟨td, tt⟩, ⟨od, ot⟩, kids, fill, ft⟩ := r
  simp only at hkl hkw htl hol hfl hr HR HH HFl ⊢
  obtain ⟨w0, hw0⟩ : ∃ w0, w0 = W.alloc (Obj.cells #[strV ty, .int .i64 td, strV tt, .int .i64 od, strV ot, .slice a kids.length c, .int .i64 fill, strV ft] 27) := ⟨_, rfl⟩
  have hb0 : Below W.heap.size W w0 := by rw [hw0]; exact one_below _ _
  have hA : At w0 W.heap.size [strV ty, .int .i64 td, strV tt, .int .i64 od, strV ot, .slice a kids.length c, .int .i64 fill, strV ft] 27 := by rw [hw0]; exact At.fresh W _ _
  obtain ⟨⟨x0, x1, x2, x3, x4, x5, x6, x7⟩, -, xl⟩ := hA.f8
  have Hw0 := Lib.hid hw0; have Hb0 := Lib.hid hb0; have HA := Lib.hid hA
  have Hr := Lib.hid (fun (w' : World) (hb : Below W.heap.size W w') => hr.keep hb hb.size)
  have Hkw := Lib.hid hkw; have Htl := Lib.hid htl; have Hol := Lib.hid hol; have Hfl := Lib.hid hfl
  have HT1 := Lib.hid (fun (w1 : World) => rformed_c td tt w1 htl)
  have HT2 := Lib.hid (fun (w1 : World) => rformed_c od ot w1 hol)
  clear hw0 hb0 hA hr hw hkw htl hol hfl
  go_enter Tryz.func59, Tryz.ntmps59
  go_upto_region 1 with fail
  rw [← Hw0.out]
  clear Hw0
  go_cut [26] (fun b wx => b = .bool (!HB) ∧ Hid (Below w0.heap.size w0 wx))
  case first =>
    by_cases h32 : kids.length ≤ 32
    · have h32i : ¬ (32 : Int) < kids.length := by omega
      have HH2 := Lib.hid (show HB = (actB true (td, tt) && (decide (td ≠ 3) && actB true (od, ot))) by rw [HH.out, decide_eq_true h32]; simp)
      cases ht : actB true (td, tt) with
      | false =>
        have Hz := Lib.hid (show HB = false by rw [HH2.out, ht]; rfl)
        rw [ht] at HT1
        clear ht
        go_wp2_with fail
        refine (HT1.out _).mono ?_
        rintro e w2 ⟨rfl, hbel⟩
        have Hb2 := Lib.hid hbel
        clear hbel HT1 x0 x1 x2 x3 x4 x5 x6 x7
        go_wp2_with fail
        go_meet
        case rel => exact ⟨by rw [Hz.out]; rfl, Hb2⟩
      | true =>
        have HH3 := Lib.hid (show HB = (decide (td ≠ 3) && actB true (od, ot)) by rw [HH2.out, ht]; simp)
        rw [ht] at HT1
        clear ht
        go_wp2_with fail
        refine (HT1.out _).mono ?_
        rintro e w2 ⟨rfl, hbel⟩
        have Hb2 := Lib.hid hbel
        have HA2 := Lib.hid (HA.out.kept hbel)
        clear hbel HT1 x0 x1 x2 x3 x4 x5 x6 x7
        obtain ⟨⟨x0, x1, x2, x3, x4, x5, x6, x7⟩, -, xl2⟩ := HA2.out.f8
        by_cases h3 : td = 3
        · have Hz := Lib.hid (show HB = false by rw [HH3.out, h3]; rfl)
          rw [h3] at x1
          clear h3
          go_wp2_with fail
          go_meet
          case rel => exact ⟨by rw [Hz.out]; rfl, Hb2⟩
        · have h3b : (td == 3) = false := beq_eq_false_iff_ne.2 h3
          have HH4 := Lib.hid (show HB = actB true (od, ot) by rw [HH3.out, decide_eq_true h3]; simp)
          go_wp2_with fail
          refine (HT2.out _).mono ?_
          rintro e w3 ⟨rfl, hbel⟩
          have Hb3 := Lib.hid (Hb2.out.trans (hbel.mono Hb2.out.size))
          clear hbel HT2 x0 x1 x2 x3 x4 x5 x6 x7
          go_wp2_with fail
          go_meet
          case rel => exact ⟨by rw [HH4.out], Hb3⟩
    · have h32i : (32 : Int) < kids.length := by omega
      have Hz := Lib.hid (show HB = false by rw [HH.out, decide_eq_false h32]; rfl)
      go_wp2_with fail
      go_meet
      case rel => exact ⟨by rw [Hz.out]; rfl, (show Below _ _ _ from Below.refl _ _)⟩
  case rest =>
    obtain ⟨w1, rfl⟩ : ∃ z, z = wc := ⟨_, rfl⟩
    obtain ⟨rfl, hbx⟩ := hcut
    have HA1 := Lib.hid (HA.out.kept hbx.out)
    have Hb1 := Lib.hid (Hb0.out.trans (hbx.out.mono Hb0.out.size))
    clear x0 x1 x2 x3 x4 x5 x6 x7 xl HA HT1 HT2 HH hbx
    obtain ⟨⟨x0, x1, x2, x3, x4, x5, x6, x7⟩, -, xl⟩ := HA1.out.f8
    cases HB with
    | false =>
      have Hz := Lib.hid (show false = R from HR.out)
      go_wp2_with fail
      go_ret
      exact ⟨ret_bool Hz.out, Hb1.out⟩
    | true =>
      have HR2 := Lib.hid (show (kGo (aheadL (kids.map (·.1)) 0) (kids.drop 0) && FB) = R from HR.out)
      clear HR
      go_wp2_with fail
      go_loopg [30] kids.length (fun g i wr => ∃ k : Nat, i = .int .i64 k ∧ k + g = kids.length ∧ Hid ((kGo (aheadL (kids.map (·.1)) k) (kids.drop k) && FB) = R) ∧ Hid (Below w1.heap.size w1 wr))
      case atStart => exact ⟨0, rfl, by omega, HR2, (show Below _ _ _ from Below.refl _ _)⟩
      case round =>
        obtain ⟨k, rfl, hg, hst, hbr⟩ := hrel
        have Hbr := Lib.hid (Hb1.out.trans (hbr.out.mono Hb1.out.size))
        have HAr := Lib.hid (HA1.out.kept hbr.out)
        clear x0 x1 x2 x3 x4 x5 x6 x7
        by_cases hlt : k < kids.length
        · have hlti : (k : Int) < kids.length := by omega
          obtain ⟨b, off, rfl, hlb, p0, p1, p2⟩ := (Hr.out wr Hbr.out).pair_at k hlt
          have Hq := Lib.hid (Hkw.out _ (List.getElem_mem hlt))
          obtain ⟨q, hq⟩ : ∃ q, q = kids[k] := ⟨_, rfl⟩
          have Hqe := Lib.hid hq
          rw [← hq] at p0 p1 p2 Hq
          obtain ⟨q0, q1, q2⟩ := q
          simp only at p0 p1 p2 Hq
          obtain ⟨w2, hw2⟩ : ∃ w2, w2 = wr.alloc (Obj.cells #[strV q0, .int .i64 q1, strV q2] 70) := ⟨_, rfl⟩
          have hb2 : Below wr.heap.size wr w2 := by rw [hw2]; exact one_below _ _
          have hP : At w2 wr.heap.size [strV q0, .int .i64 q1, strV q2] 70 := by rw [hw2]; exact At.fresh wr _ _
          have HP := Lib.hid hP
          have Hw2 := Lib.hid hw2
          have Hb2 := Lib.hid (show Below w1.heap.size w1 w2 from hbr.out.trans (hb2.mono hbr.out.size))
          have HA2 := Lib.hid (HAr.out.kept hb2)
          have hpl := hP.lt
          have Hb2r := Lib.hid hb2
          clear hq hw2 hb2 hP
          go_upto_region 6 with fail
          rw [← Hw2.out]
          clear Hw2 p0 p1 p2
          obtain ⟨OKB, hOK⟩ : ∃ OKB, OKB = (nameB q0 && (leadB q0 (aheadL (kids.map (·.1)) k) && actB true (q1, q2))) := ⟨_, rfl⟩
          have HOK := Lib.hid hOK
          clear hOK
          go_cut [60] (fun v wx => v = .bool (!OKB) ∧ Hid (Below w2.heap.size w2 wx))
          case first =>
            have HF := Lib.hid (fun (w : World) => rformed_c q1 q2 w Hq.out.2)
            have HN := Lib.hid (fun (w : World) => rname_c q0 w Hq.out.1)
            have hx := HP.out
            have X0 := fun (p : Beh w2) => (hx.kept p.h).f3.1
            have X5 := fun (p : Beh w2) => (HA2.out.kept p.h).cell 5 (v := .slice (some ⟨b, off, none⟩) kids.length c) rfl
            have X00 := fun (p : Beh w2) => (X0 p).1
            have X01 := fun (p : Beh w2) => (X0 p).2.1
            have X02 := fun (p : Beh w2) => (X0 p).2.2
            clear X0 hx
            cases k with
            | zero =>
              obtain ⟨N1, hN1⟩ : ∃ N1, N1 = nameB q0 := ⟨_, rfl⟩
              obtain ⟨A1, hA1⟩ : ∃ A1, A1 = actB true (q1, q2) := ⟨_, rfl⟩
              rw [← hN1] at HN
              rw [← hA1] at HF
              have HO2 := Lib.hid (show OKB = (N1 && A1) by rw [HOK.out, hN1, hA1, show leadB q0 (aheadL (kids.map (·.1)) 0) = true from rfl]; simp)
              clear hN1 hA1 hlb
              cases N1 with
              | false =>
                refine wp_region_beh (by kernel_rfl) (by kernel_rfl) ?_
                repeat (go_big_quiet_step (first | exact calls_beh0 (HN.out _) | exact calls_beh (HF.out _)))
                refine wpQuiet_nil ?_
                rintro _ ⟨p, rfl⟩
                go_wp2_with fail
                go_meet
                case rel => exact ⟨by rw [HO2.out] <;> rfl, (show Below _ _ _ from p.h)⟩
              | true =>
                refine wp_region_beh (by kernel_rfl) (by kernel_rfl) ?_
                repeat (go_big_quiet_step (first | exact calls_beh0 (HN.out _) | exact calls_beh (HF.out _)))
                refine wpQuiet_nil ?_
                rintro _ ⟨p, rfl⟩
                go_wp2_with fail
                go_meet
                case rel => exact ⟨by rw [HO2.out] <;> simp, (show Below _ _ _ from p.h)⟩
            | succ m =>
              have hml : m < kids.length := by omega
              have hmi : (m : Int) < kids.length := by omega
              have hpos : (0 : Int) < ((m + 1 : Nat) : Int) := by omega
              have hposd : decide ((0 : Int) < ((m + 1 : Nat) : Int)) = true := decide_eq_true hpos
              have hsub : IntKind.i64.wrap (((m + 1 : Nat) : Int) - 1) = (m : Int) := (IntWalk.i64_in _ (by omega)).trans (by omega)
              have X10 : ∀ p : Beh w2, p.w.cell? ⟨b, off + m * 3, none⟩ = some (strV kids[m].1) := fun p => by
                obtain ⟨b', off', e1, -, c0, -, -⟩ := (Hr.out p.w (Hbr.out.trans ((Hb2r.out.trans (p.h.mono Hb2r.out.size)).mono Hbr.out.size))).pair_at m hml
                injection e1 with e1; injection e1 with e1 e2; subst e1; subst e2
                exact c0
              obtain ⟨N1, hN1⟩ : ∃ N1, N1 = nameB q0 := ⟨_, rfl⟩
              obtain ⟨A1, hA1⟩ : ∃ A1, A1 = actB true (q1, q2) := ⟨_, rfl⟩
              rw [← hN1] at HN
              rw [← hA1] at HF
              have HO1 := Lib.hid (show OKB = (N1 && (!leB q0 kids[m].1 && A1)) by rw [HOK.out, hN1, hA1, lead_prev hml])
              generalize kids[m].1 = t at X10 HO1
              have Hle : Hid (leB q0 t = (Op.bytesLess q0 t || q0 == t)) := rfl
              clear hN1 hA1 hlb
              cases N1 with
              | false =>
                have HO2 := Lib.hid (show OKB = false by rw [HO1.out]; rfl)
                refine wp_region_beh (by kernel_rfl) (by kernel_rfl) ?_
                repeat (go_big_quiet_step (first | exact calls_beh0 (HN.out _) | exact calls_beh (HF.out _)))
                refine wpQuiet_nil ?_
                rintro _ ⟨p, rfl⟩
                go_wp2_with fail
                go_meet
                case rel => exact ⟨by rw [HO2.out] <;> rfl, (show Below _ _ _ from p.h)⟩
              | true =>
                cases hx : Op.bytesLess q0 t
                · cases hy : (q0 == t)
                  · have HO2 := Lib.hid (show OKB = A1 by rw [HO1.out, Hle.out, hx, hy]; simp)
                    refine wp_region_beh (by kernel_rfl) (by kernel_rfl) ?_
                    repeat (go_big_quiet_step (first | exact calls_beh0 (HN.out _) | exact calls_beh (HF.out _)))
                    refine wpQuiet_nil ?_
                    rintro _ ⟨p, rfl⟩
                    go_wp2_with fail
                    go_meet
                    case rel => exact ⟨by rw [HO2.out] <;> simp, (show Below _ _ _ from p.h)⟩
                  · have HO2 := Lib.hid (show OKB = false by rw [HO1.out, Hle.out, hx, hy]; simp)
                    refine wp_region_beh (by kernel_rfl) (by kernel_rfl) ?_
                    repeat (go_big_quiet_step (first | exact calls_beh0 (HN.out _) | exact calls_beh (HF.out _)))
                    refine wpQuiet_nil ?_
                    rintro _ ⟨p, rfl⟩
                    go_wp2_with fail
                    go_meet
                    case rel => exact ⟨by rw [HO2.out] <;> rfl, (show Below _ _ _ from p.h)⟩
                · have HO2 := Lib.hid (show OKB = false by rw [HO1.out, Hle.out, hx]; simp)
                  refine wp_region_beh (by kernel_rfl) (by kernel_rfl) ?_
                  repeat (go_big_quiet_step (first | exact calls_beh0 (HN.out _) | exact calls_beh (HF.out _)))
                  refine wpQuiet_nil ?_
                  rintro _ ⟨p, rfl⟩
                  go_wp2_with fail
                  go_meet
                  case rel => exact ⟨by rw [HO2.out] <;> rfl, (show Below _ _ _ from p.h)⟩
          case rest =>
            obtain ⟨w3, rfl⟩ : ∃ z, z = wc := ⟨_, rfl⟩
            obtain ⟨rfl, hby⟩ := hcut
            have Hb3 := Lib.hid (show Below w1.heap.size w1 w3 from Hb2.out.trans (hby.out.mono Hb2.out.size))
            have Hst := Lib.hid (show (OKB && (kGo (aheadL (kids.map (·.1)) (k + 1)) (kids.drop (k + 1)) && FB)) = R by
              have h := hst.out
              rw [kGo_step hlt, ← Hqe.out, Bool.and_assoc] at h
              rw [HOK.out]
              exact h)
            clear hby hst HP HA2
            cases OKB with
            | false =>
              have Hz := Lib.hid (show false = R from Hst.out)
              go_wp2_with fail
              go_ret
              exact ⟨ret_bool Hz.out, Hb1.out.trans (Hb3.out.mono Hb1.out.size)⟩
            | true =>
              have HNx := Lib.hid (show (kGo (aheadL (kids.map (·.1)) (k + 1)) (kids.drop (k + 1)) && FB) = R from Hst.out)
              go_wp2_with fail
              go_roundg (kids.length - (k + 1))
              case measure => omega
              case rel => exact ⟨k + 1, by go_num, by omega, HNx, Hb3⟩
        · obtain rfl : k = kids.length := by omega
          have Hfin := Lib.hid (show FB = R by have h := hst.out; rw [List.drop_length] at h; cases aheadL (kids.map (·.1)) kids.length <;> simpa [kGo] using h)
          have hnl : ¬ (kids.length : Int) < kids.length := by omega
          obtain ⟨⟨x0, x1, x2, x3, x4, x5, x6, x7⟩, -, xl⟩ := HAr.out.f8
          have HN := Lib.hid (rname_c ft wr Hfl.out)
          have heq := str_eqb ft []
          clear hst
          by_cases h0 : fill = 0
          · have Hz := Lib.hid (show decide (ft = []) = R by rw [← Hfin.out, HFl.out, h0]; simp)
            rw [h0] at x6
            clear h0
            cases ft with
            | nil =>
              go_wp2_with fail
              go_ret
              exact ⟨ret_bool (by rw [← Hz.out]; rfl), Hbr.out⟩
            | cons f0 fs =>
              go_wp2_with fail
              go_ret
              exact ⟨ret_bool (by rw [← Hz.out]; rfl), Hbr.out⟩
          · have h0b : (fill == 0) = false := beq_eq_false_iff_ne.2 h0
            by_cases h1 : fill = 1
            · have Hz := Lib.hid (show decide (ft = []) = R by rw [← Hfin.out, HFl.out, h1]; simp)
              rw [h1] at x6
              clear h0 h0b h1
              cases ft with
              | nil =>
                go_wp2_with fail
                go_ret
                exact ⟨ret_bool (by rw [← Hz.out]; rfl), Hbr.out⟩
              | cons f0 fs =>
                go_wp2_with fail
                go_ret
                exact ⟨ret_bool (by rw [← Hz.out]; rfl), Hbr.out⟩
            · have h1b : (fill == 1) = false := beq_eq_false_iff_ne.2 h1
              by_cases h2 : fill = 2
              · have Hz := Lib.hid (show nameB ft = R by rw [← Hfin.out, HFl.out, h2]; simp)
                rw [h2] at x6
                clear h0 h0b h1 h1b h2
                go_wp2_with fail
                refine HN.out.mono ?_
                rintro e w3 ⟨rfl, rfl⟩
                clear HN
                go_wp2_with fail
                go_ret
                exact ⟨ret_bool Hz.out, Hbr.out⟩
              · have h2b : (fill == 2) = false := beq_eq_false_iff_ne.2 h2
                have Hz := Lib.hid (show false = R by rw [← Hfin.out, HFl.out]; simp [h0, h1, h2])
                go_wp2_with fail
                go_ret
                exact ⟨ret_bool Hz.out, Hbr.out⟩

end Go.Proofs.YtajclfjedlkbcaaGreatDoor
