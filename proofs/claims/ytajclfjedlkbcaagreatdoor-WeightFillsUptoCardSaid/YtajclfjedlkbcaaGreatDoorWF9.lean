/- Parts of the proof, one behind the other: RMY, RMZ, RM1, RSort, RKE. -/
import Derived.Test.YtajclfjedlkbcaaGreatDoorWF7
import Derived.Test.YtajclfjedlkbcaaGreatDoorWF8
import Derived.Shelf.SlGeneric
import Derived.Ground.SlsfProg
import Derived.Shelf.SlSortCmp.Whole1
import Derived.Test.YtajclfjedlkbcaaGreatDoorProg
/- Walks: slices.ContainsFunc over rules that are not formed; plain: which orders may be. -/
namespace Go.Proofs.YtajclfjedlkbcaaGreatDoor
open Go.RowKit Go.Redl
set_option linter.unusedVariables false
set_option linter.unusedSimpArgs false

theorem perm_sub {α : Type} [DecidableEq α] : ∀ (a l : List α), a.Nodup → (∀ x ∈ a, x ∈ l) → l.length ≤ a.length → a.Perm l
  | [], l, _, _, hl => by
    obtain rfl : l = [] := List.eq_nil_of_length_eq_zero (by simpa using hl)
    exact List.Perm.refl _
  | x :: a, l, h, hs, hl => by
    have hx : x ∈ l := hs x (by simp)
    have hn := List.nodup_cons.1 h
    have h1 := List.length_erase_of_mem hx
    have h2 := List.length_pos_of_mem hx
    have h3 := perm_sub a (l.erase x) hn.2 (fun y hy => (List.mem_erase_of_ne (show y ≠ x from fun e => hn.1 (by rw [← e]; exact hy))).2 (hs y (by simp [hy]))) (by simp only [List.length_cons] at hl; omega)
    exact (h3.cons x).trans (List.perm_cons_erase hx).symm
abbrev sixL : List Int := [1, 2, 3, 4, 5, 6]
theorem srt_six {l : List Int} (h : l.Perm sixL) : srtI l = sixL := by
  have tr : ∀ a b c : Int, decide (a ≤ b) = true → decide (b ≤ c) = true → decide (a ≤ c) = true := fun a b c h1 h2 => by simp only [decide_eq_true_eq] at *; omega
  have tot : ∀ a b : Int, (decide (a ≤ b) || decide (b ≤ a)) = true := fun a b => by simp only [Bool.or_eq_true, decide_eq_true_eq]; omega
  refine List.Perm.eq_of_pairwise (le := fun a b => decide (a ≤ b) = true) (fun a b _ _ h1 h2 => ?_) (List.pairwise_mergeSort tr tot l) (by decide) ((List.mergeSort_perm l _).trans h)
  simp only [decide_eq_true_eq] at h1 h2
  omega
theorem order_law {s : SchemaD} (h6 : s.order.length = 6) : decide (srtI s.order = sixL) = orderB s := by
  by_cases h : srtI s.order = sixL
  · rw [decide_eq_true h]
    have hp : s.order.Perm sixL := by rw [← h]; exact (List.mergeSort_perm _ _).symm
    symm
    unfold orderB
    rw [List.all_eq_true]
    intro c hc
    rw [decide_eq_true_eq, (hp.filter _).length_eq]
    revert c
    decide
  · rw [decide_eq_false h]
    symm
    cases ho : orderB s with
    | false => rfl
    | true =>
      exfalso
      apply h
      apply srt_six
      unfold orderB at ho
      rw [List.all_eq_true] at ho
      refine (perm_sub sixL s.order (by decide) (fun c hc => ?_) (by rw [h6]; decide)).symm
      have h1 := ho c hc
      rw [decide_eq_true_eq] at h1
      have h2 : 0 < (s.order.filter (fun x => decide (x = c))).length := by omega
      obtain ⟨y, hy⟩ := List.exists_mem_of_length_pos h2
      have h3 := List.mem_filter.1 hy
      have h4 : y = c := by simpa using h3.2
      rw [← h4]
      exact h3.1

theorem notf_ent : ∀ args w, (callFunc 52 args).run Tryz.prog w = .ok (.enter 52 args) w := by intro args w; kernel_rfl
set_option maxRecDepth 100000 in
set_option maxHeartbeats 1000000 in
theorem notf_c (r : RuleD) (a : Option Addr) (c : Nat) (W : World) (hr : RowA W W.heap.size 3 a r.kids.length c (pairCells r.kids)) (hw : r.wt ≤ 100000000) :
    Calls Tryz.prog 52 #[.agg #[strV r.type, .int .i64 r.text.1, strV r.text.2, .int .i64 r.other.1, strV r.other.2, .slice a r.kids.length c, .int .i64 r.fill, strV r.fillT]] W fun e w' => e = .returned (.bool (!formedB r)) ∧ Below W.heap.size W w' := by
  obtain ⟨w0, hw0⟩ : ∃ w0, w0 = W.alloc (Obj.cells #[strV r.type, .int .i64 r.text.1, strV r.text.2, .int .i64 r.other.1, strV r.other.2, .slice a r.kids.length c, .int .i64 r.fill, strV r.fillT] 27) := ⟨_, rfl⟩
  have hb0 : Below W.heap.size W w0 := by rw [hw0]; exact one_below _ _
  have hA : At w0 W.heap.size [strV r.type, .int .i64 r.text.1, strV r.text.2, .int .i64 r.other.1, strV r.other.2, .slice a r.kids.length c, .int .i64 r.fill, strV r.fillT] 27 := by rw [hw0]; exact At.fresh W _ _
  have hlr := load_at (P := Tryz.prog) hA Tryz.underlying27 rfl (by kernel_rfl)
  simp [go_sem] at hlr
  have HC := Lib.hid (formed_c r a c w0 (hr.keep hb0 hb0.size) hw)
  have Hw0 := Lib.hid hw0; have Hb0 := Lib.hid hb0
  obtain ⟨F, hF⟩ : ∃ F, F = formedB r := ⟨_, rfl⟩
  rw [← hF] at HC ⊢
  have xl := hA.lt
  clear hw0 hb0 hA hr hw hF
  go_enter Tryz.func52, Tryz.ntmps52
  go_upto_region 1 with fail
  rw [← Hw0.out]
  clear Hw0
  go_wp2_with fail
  refine HC.out.mono ?_
  rintro e w1 ⟨rfl, hbel⟩
  have Hb1 := Lib.hid (Hb0.out.trans (hbel.mono Hb0.out.size))
  clear hbel HC hlr
  go_wp2_with fail
  go_ret
  exact ⟨rfl, Hb1.out⟩
theorem cfrule_ent : ∀ args w, (callFunc 51 args).run Tryz.prog w = .ok (.enter 51 args) w := by intro args w; kernel_rfl
theorem cf_idx (rs : List RuleD) : decide (0 ≤ idxP (fun k => match rs[k]? with | some r => !formedB r | none => false) rs.length) = !rs.all formedB := by
  rcases idxP_cases (fun k => match rs[k]? with | some r => !formedB r | none => false) rs.length with ⟨k, hk, h1, -, he⟩ | ⟨h1, he⟩
  · rw [he]
    simp only [List.getElem?_eq_getElem hk] at h1
    have : rs.all formedB = false := by
      rw [List.all_eq_false]
      exact ⟨rs[k], List.getElem_mem hk, by simpa using h1⟩
    rw [this]; simp
  · rw [he]
    have : rs.all formedB = true := by
      rw [List.all_eq_true]
      intro r hr
      obtain ⟨k, hk, rfl⟩ := List.mem_iff_getElem.1 hr
      have := h1 k hk
      simp only [List.getElem?_eq_getElem hk] at this
      simpa using this
    rw [this]; rfl
set_option maxRecDepth 100000 in
set_option maxHeartbeats 1000000 in
theorem cfrule_c (rs : List RuleD) (a : Option Addr) (c : Nat) (css : List Value) (B : Nat) (W : World) (hr : RowA W W.heap.size 8 a rs.length c css) (hc : RulesC W B rs css) (hB : B ≤ W.heap.size) (hn : rs.length ≤ 100000000) (hw : ∀ r ∈ rs, r.wt ≤ 100000000) :
    Calls Tryz.prog 51 #[.slice a rs.length c, .func (.func 52) #[] #[]] W fun e w' => e = .returned (.bool (!rs.all formedB)) ∧ Below W.heap.size W w' := by
  have HI := Lib.hid (idx_rule rs.length a c 52 #[] (fun k => match rs[k]? with | some r => !formedB r | none => false) W hn notf_ent fun k W' hk hb => by
    obtain ⟨b, off, ra, rc, ha, -, hkr, g0, g1, g2, g3, g4, g5, g6, g7⟩ := rule8q (hr.keep hb hb.size) (RulesC.keep (hb.mono hB) (Nat.le_refl _) hc) k hk
    refine ⟨b, off, _, _, _, _, _, _, _, _, ha, g0, g1, g2, g3, g4, g5, g6, g7, ?_⟩
    simp only [List.getElem?_eq_getElem hk]
    exact notf_c rs[k] ra rc W' (hkr.keep (Below.refl _ _) (Nat.le_trans hB hb.size)) (hw _ (List.getElem_mem hk)))
  have Hd := Lib.hid (cf_idx rs)
  generalize idxP (fun k => match rs[k]? with | some r => !formedB r | none => false) rs.length = z at HI Hd
  clear hr hc hw
  go_enter Tryz.func51, Tryz.ntmps51
  go_wp2_with fail
  refine HI.out.mono ?_
  rintro e w1 ⟨rfl, hbel⟩
  have Hb := Lib.hid hbel
  clear hbel HI
  go_wp2_with fail
  go_ret
  exact ⟨ret_bool Hd.out, Hb.out⟩

end Go.Proofs.YtajclfjedlkbcaaGreatDoor
/- Walk: table.Check. -/
namespace Go.Proofs.YtajclfjedlkbcaaGreatDoor
open Go.RowKit Go.Redl
set_option linter.unusedVariables false
set_option linter.unusedSimpArgs false

theorem check_ent : ∀ args w, (callFunc 25 args).run Tryz.prog w = .ok (.enter 25 args) w := by intro args w; kernel_rfl
/-- The schema by itself; its rules by themselves; all rules by each other. -/
def chkA (s : SchemaD) : Bool := orderB s && (decide (1 ≤ s.cap) && decide (s.cap ≤ 1048576))
def chkB (s : SchemaD) : Bool := decide (s.els.type = []) && (riseB (s.rules.map (·.type)) && (allR s).all formedB)
abbrev chkR (s : SchemaD) (r : RuleD) : Bool := settledB s r && decide (0 ≤ depthN s r)
theorem checkS_eq (s : SchemaD) : checkS s = if chkA s && chkB s && (allR s).all (chkR s) then 0 else 12 := rfl
set_option maxRecDepth 100000 in
set_option maxHeartbeats 8000000 in
theorem tcheck_c (s : SchemaD) (v : Value) (W : World) (hw : s.wt ≤ 100000000) (hv : SchemaV W W.heap.size s v) :
    Calls Tryz.prog 25 #[v] W fun e w' => e = .returned (.int .i64 (checkS s)) ∧ Below W.heap.size W w' := by
  have Hv := Lib.hid (fun (w' : World) (hb : Below W.heap.size W w') => hv.keep hb hb.size)
  have HvW := Lib.hid (fun (w' : World) (hb : Below W.heap.size W w') => hv.keep hb (Nat.le_refl _))
  obtain ⟨sa, sc, css, ea, ec, o0, o1, o2, o3, o4, o5, rfl, h1, h2, h3, h4⟩ := hv.open
  have Hwt := Lib.hid hw
  have hrl : s.rules.length ≤ 100000000 := by have := rulesWt_len s.rules; unfold SchemaD.wt at hw; omega
  have h1r := Lib.hid (fun (w' : World) (hb : Below W.heap.size W w') => h1.keep hb hb.size)
  have h2r := Lib.hid (fun (w' : World) (hb : Below W.heap.size W w') => RulesC.keep hb hb.size h2)
  obtain ⟨R, hR⟩ : ∃ R, R = checkS s := ⟨_, rfl⟩
  have HR := Lib.hid (show (if chkA s && chkB s && (allR s).all (chkR s) then (0 : Int) else 12) = R from hR.symm)
  have Hord := Lib.hid (show decide (srtI [o0, o1, o2, o3, o4, o5] = sixL) = orderB s by rw [← order_law (s := s) (by rw [h4]; rfl), h4])
  rw [← hR]
  obtain ⟨w0, hw0⟩ : ∃ w0, w0 = W.alloc (Obj.cells #[.slice sa s.rules.length sc, strV s.els.type, .int .i64 s.els.text.1, strV s.els.text.2, .int .i64 s.els.other.1, strV s.els.other.2, .slice ea s.els.kids.length ec, .int .i64 s.els.fill, strV s.els.fillT, .int .i64 o0, .int .i64 o1, .int .i64 o2, .int .i64 o3, .int .i64 o4, .int .i64 o5, .int .i64 s.cap] 30) := ⟨_, rfl⟩
  have hb0 : Below W.heap.size W w0 := by rw [hw0]; exact one_below _ _
  have hA : At w0 W.heap.size [.slice sa s.rules.length sc, strV s.els.type, .int .i64 s.els.text.1, strV s.els.text.2, .int .i64 s.els.other.1, strV s.els.other.2, .slice ea s.els.kids.length ec, .int .i64 s.els.fill, strV s.els.fillT, .int .i64 o0, .int .i64 o1, .int .i64 o2, .int .i64 o3, .int .i64 o4, .int .i64 o5, .int .i64 s.cap] 30 := by rw [hw0]; exact At.fresh W _ _
  have hld := fun (w' : World) (h : At w' W.heap.size [.slice sa s.rules.length sc, strV s.els.type, .int .i64 s.els.text.1, strV s.els.text.2, .int .i64 s.els.other.1, strV s.els.other.2, .slice ea s.els.kids.length ec, .int .i64 s.els.fill, strV s.els.fillT, .int .i64 o0, .int .i64 o1, .int .i64 o2, .int .i64 o3, .int .i64 o4, .int .i64 o5, .int .i64 s.cap] 30) => load_at (P := Tryz.prog) h Tryz.underlying30 rfl (by kernel_rfl)
  simp [go_sem] at hld
  have HLD := Lib.hid hld
  have HV := Lib.hid (values_c (some ⟨W.heap.size, 9, none⟩) 6 6 w0)
  obtain ⟨w1, hw1⟩ : ∃ w1, w1 = w0.alloc (Obj.cells #[.slice (some ⟨W.heap.size, 9, none⟩) 6 6] 47) := ⟨_, rfl⟩
  have hb1 : Below w0.heap.size w0 w1 := by rw [hw1]; exact one_below _ _
  have hA1 : At w1 W.heap.size _ _ := hA.kept hb1
  have hB1 : At w1 w0.heap.size [.slice (some ⟨W.heap.size, 9, none⟩) 6 6] 47 := by rw [hw1]; exact At.fresh w0 _ _
  have HS := Lib.hid (show Calls Tryz.prog 45 #[.func (.func 94) #[] #[.pointer (some ⟨w0.heap.size, 0, none⟩)]] w1 (fun e w' => ∃ a c, e = .returned (.slice a 6 c) ∧ RowA w' w'.heap.size 1 a 6 c ((srtI [o0, o1, o2, o3, o4, o5]).map (Value.int .i64)) ∧ Below w1.heap.size w1 w') from
    sorted_c w0.heap.size W.heap.size 9 6 [o0, o1, o2, o3, o4, o5] (by simp) w1 hB1.lt hA1.lt (hB1.cell 0 rfl) (fun j hj => by
      have hj6 : j < 6 := hj
      match j, hj6 with
      | 0, _ => exact hA1.cell 9 rfl
      | 1, _ => exact hA1.cell 10 rfl
      | 2, _ => exact hA1.cell 11 rfl
      | 3, _ => exact hA1.cell 12 rfl
      | 4, _ => exact hA1.cell 13 rfl
      | 5, _ => exact hA1.cell 14 rfl))
  have Hw0 := Lib.hid hw0; have Hw1 := Lib.hid hw1; have Hb0 := Lib.hid hb0; have HA := Lib.hid hA; have Hb01 := Lib.hid (hb0.trans (hb1.mono hb0.size)); have Hb1 := Lib.hid hb1
  have hel := fun (w : World) => sorted_ent
  have xl := hA.lt
  clear hv hw h1 h2 h3 h4 hR hw0 hb0 hA hld hw1 hb1 hA1 hB1
  go_enter Tryz.func25, Tryz.ntmps25
  go_upto_region 1 with fail
  rw [← Hw0.out]
  clear Hw0
  go_wp2_with fail
  refine HV.out.mono ?_
  rintro e wx ⟨rfl, rfl⟩
  rw [← Hw1.out]
  clear HV Hw1
  go_wp2_with fail
  refine HS.out.mono ?_
  rintro e w2 ⟨oa, oc, rfl, hrow, hbel⟩
  obtain ⟨ys, hys⟩ : ∃ ys, ys = srtI [o0, o1, o2, o3, o4, o5] := ⟨_, rfl⟩
  have hyl : ys.length = 6 := by rw [hys, List.length_mergeSort]; rfl
  rw [← hys] at hrow Hord
  have hb2 := Hb1.out.trans (hbel.mono Hb1.out.size)
  have HA2 := Lib.hid (HA.out.kept hb2)
  have Hb2 := Lib.hid (Hb0.out.trans (hb2.mono Hb0.out.size))
  obtain ⟨w3, hw3⟩ : ∃ w3, w3 = w2.alloc (Obj.cells #[.int .i64 1, .int .i64 2, .int .i64 3, .int .i64 4, .int .i64 5, .int .i64 6] 3) := ⟨_, rfl⟩
  have hb3 : Below w2.heap.size w2 w3 := by rw [hw3]; exact one_below _ _
  have hS3 : At w3 w2.heap.size (sixL.map (Value.int .i64)) 3 := by rw [hw3]; exact At.fresh w2 _ _
  have hQ := spath_c oa (some ⟨w2.heap.size, 0, none⟩) oc 6 (w2.heap.size + 1) ys sixL w3 ((by rw [hyl]; exact hrow.keep hb3 (Nat.le_succ _))) (row_at hS3 6 1 rfl (by omega) (fun u hu => by obtain ⟨x, -, rfl⟩ := List.mem_map.1 hu; rfl))
  rw [hyl, Hord.out] at hQ
  have HQ := Lib.hid hQ
  have Hw3 := Lib.hid hw3; have Hb3 := Lib.hid hb3
  obtain ⟨E, hE⟩ : ∃ E, E = orderB s := ⟨_, rfl⟩
  have Hc := Lib.hid (show chkA s = (E && (decide (1 ≤ s.cap) && decide (s.cap ≤ 1048576))) by rw [hE]; rfl)
  rw [← hE] at HQ
  clear hbel HS hys hyl hrow Hord hw3 hb3 hS3 hQ hE hb2 HA
  go_upto_region 2 with fail
  go_cut [24] (fun b wx => b = .bool (!chkA s) ∧ Hid (Below w2.heap.size w2 wx))
  case first =>
    go_wp2_with fail
    rw [← Hw3.out]
    clear Hw3
    refine HQ.out.mono ?_
    rintro e w4 ⟨rfl, hd⟩
    have hb4 := Hb3.out.trans ((hd.below w3.heap.size).mono Hb3.out.size)
    have x15 := (HA2.out.kept hb4).cell 15 (v := .int .i64 s.cap) rfl
    have Hb4 := Lib.hid hb4
    clear hd hb4 HQ
    cases E with
    | false =>
      have Hz := Lib.hid (show chkA s = false from Hc.out)
      go_wp2_with fail
      go_meet
      case rel => exact ⟨by rw [Hz.out]; rfl, Hb4⟩
    | true =>
      by_cases c1 : s.cap < 1
      · have Hz := Lib.hid (show chkA s = false by rw [Hc.out, decide_eq_false (show ¬ 1 ≤ s.cap by omega)]; rfl)
        go_wp2_with fail
        go_meet
        case rel => exact ⟨by rw [Hz.out]; rfl, Hb4⟩
      · by_cases c2 : 1048576 < s.cap
        · have Hz := Lib.hid (show chkA s = false by rw [Hc.out, decide_eq_false (show ¬ s.cap ≤ 1048576 by omega)]; simp)
          go_wp2_with fail
          go_meet
          case rel => exact ⟨by rw [Hz.out]; rfl, Hb4⟩
        · have Hz := Lib.hid (show chkA s = true by rw [Hc.out, decide_eq_true (show s.cap ≤ 1048576 by omega), decide_eq_true (show 1 ≤ s.cap by omega)]; rfl)
          have c1b := decide_eq_false c1
          have c2b := decide_eq_false c2
          go_wp2_with fail
          go_meet
          case rel => exact ⟨by rw [Hz.out]; first | rfl | (rw [c1b, c2b]; rfl), Hb4⟩
  case rest =>
    obtain ⟨w5, rfl⟩ : ∃ z, z = wc := ⟨_, rfl⟩
    obtain ⟨rfl, hbx⟩ := hcut
    have Hb5 := Lib.hid (Hb2.out.trans (hbx.out.mono Hb2.out.size))
    have HA5 := Lib.hid (HA2.out.kept hbx.out)
    obtain ⟨A1, hA1⟩ : ∃ A1, A1 = chkA s := ⟨_, rfl⟩
    rw [← hA1] at HR ⊢
    clear hA1 HQ Hc hbx HA2 Hw3
    cases A1 with
    | false =>
      have Hz := Lib.hid (show (12 : Int) = R from HR.out)
      go_wp2_with fail
      go_ret
      exact ⟨ret_int Hz.out, Hb5.out⟩
    | true =>
      have HR2 := Lib.hid (show (if chkB s && (allR s).all (chkR s) then (0 : Int) else 12) = R by have h := HR.out; simpa using h)
      have x0 := HA5.out.cell 0 (v := .slice sa s.rules.length sc) rfl
      have x1 := HA5.out.cell 1 (v := strV s.els.type) rfl
      have xl5 := HA5.out.lt
      have HT := Lib.hid (typesR_c s.rules sa sc css w5 (h1r.out w5 Hb5.out) (h2r.out w5 Hb5.out) hrl)
      clear HR
      go_upto_region 4 with fail
      go_cut [40] (fun b wx => b = .bool (!chkB s) ∧ Hid (Below w5.heap.size w5 wx))
      case first =>
        have Hc := Lib.hid (show chkB s = (decide (s.els.type = []) && (riseB (s.rules.map (·.type)) && (allR s).all formedB)) from rfl)
        obtain ⟨T, hT⟩ : ∃ T, T = s.els.type := ⟨_, rfl⟩
        rw [← hT] at x1
        cases T with
        | cons t0 ts =>
          have Hz := Lib.hid (show chkB s = false by rw [Hc.out, ← hT]; rfl)
          clear hT
          go_wp2_with fail
          go_meet
          case rel => exact ⟨by rw [Hz.out]; rfl, (show Below _ _ _ from Below.refl _ _)⟩
        | nil =>
          have Hc2 := Lib.hid (show chkB s = (riseB (s.rules.map (·.type)) && (allR s).all formedB) by rw [Hc.out, ← hT]; simp)
          clear hT Hc
          go_wp2_with fail
          refine HT.out.mono ?_
          rintro e w6 ⟨rfl, hat, hbel⟩
          have hat2 : At w6 w5.heap.size ((s.rules.map (·.type)).map strV) 9 := by have h := hat; unfold ruleTypes at h; rw [List.map_map]; exact h
          have hwt := Hwt.out
          have HQ := Lib.hid (rising_at (s.rules.map (·.type)) s.rules.length _ w6 (by simp) hat2 hrl (fun t ht => by obtain ⟨r, hr, rfl⟩ := List.mem_map.1 ht; have h1 := rulesWt_mem hr; unfold SchemaD.wt at hwt; unfold RuleD.wt at h1; omega))
          have Hb6 := Lib.hid hbel
          clear hbel hat hat2 HT hwt
          obtain ⟨F, hF⟩ : ∃ F, F = riseB (s.rules.map (·.type)) := ⟨_, rfl⟩
          rw [← hF] at HQ Hc2
          clear hF
          go_wp2_with fail
          refine HQ.out.mono ?_
          rintro e w7 ⟨rfl, hbel⟩
          have hb7 := Hb6.out.trans (hbel.mono Hb6.out.size)
          have Hb7 := Lib.hid hb7
          have hld7 := HLD.out w7 (HA5.out.kept hb7)
          have hbW := Hb5.out.trans (hb7.mono Hb5.out.size)
          have HRu := Lib.hid (rules_cB s _ W.heap.size w7 Hwt.out (HvW.out w7 hbW) hbW.size)
          have HbW := Lib.hid hbW
          clear hbel hb7 HQ x0 x1 hbW
          cases F with
          | false =>
            have Hz := Lib.hid (show chkB s = false from Hc2.out)
            go_wp2_with fail
            go_meet
            case rel => exact ⟨by rw [Hz.out]; rfl, Hb7⟩
          | true =>
            have Hz := Lib.hid (show chkB s = (allR s).all formedB by rw [Hc2.out]; rfl)
            go_wp2_with fail
            refine HRu.out.mono ?_
            rintro e w8 ⟨ra, rc, css2, rfl, hrow, hrcs, hbel⟩
            have hr1 : (allR s).length ≤ 100000000 := by have h1 := rulesWt_len s.rules; have h2 := Hwt.out; unfold SchemaD.wt RuleD.wt at h2; rw [all_len]; omega
            have HCF := Lib.hid (cfrule_c (allR s) ra rc css2 W.heap.size w8 hrow.row hrcs (Nat.le_trans HbW.out.size hbel.size) hr1 (fun r hr => Nat.le_trans (allR_wt hr) Hwt.out))
            have Hb8 := Lib.hid (Hb7.out.trans (hbel.mono Hb7.out.size))
            obtain ⟨rs, hrs⟩ : ∃ rs, rs = allR s := ⟨_, rfl⟩
            rw [← hrs] at HCF Hz ⊢
            clear hrow hrcs hbel HRu hld7 hr1 hrs
            go_wp2_with fail
            refine HCF.out.mono ?_
            rintro e w9 ⟨rfl, hbel⟩
            have Hb9 := Lib.hid (Hb8.out.trans (hbel.mono Hb8.out.size))
            clear hbel HCF
            go_wp2_with fail
            go_meet
            case rel => exact ⟨by rw [Hz.out], Hb9⟩
      case rest =>
        obtain ⟨w6, rfl⟩ : ∃ z, z = wc := ⟨_, rfl⟩
        obtain ⟨rfl, hbx⟩ := hcut
        have Hb6 := Lib.hid (Hb5.out.trans (hbx.out.mono Hb5.out.size))
        have HA6 := Lib.hid (HA5.out.kept hbx.out)
        obtain ⟨B1, hB1⟩ : ∃ B1, B1 = chkB s := ⟨_, rfl⟩
        rw [← hB1] at HR2 ⊢
        clear hB1 HT hbx HA5 x0 x1 xl5
        cases B1 with
        | false =>
          have Hz := Lib.hid (show (12 : Int) = R from HR2.out)
          go_wp2_with fail
          go_ret
          exact ⟨ret_int Hz.out, Hb6.out⟩
        | true =>
          have HR3 := Lib.hid (show (if (allR s).all (chkR s) then (0 : Int) else 12) = R by have h := HR2.out; simpa using h)
          have hld6 := HLD.out w6 HA6.out
          have xl6 := HA6.out.lt
          have HN := Lib.hid (names_c s _ w6 Hwt.out (Hv.out w6 Hb6.out))
          obtain ⟨i0, hi, hz0, hz1, hz2⟩ := info_parts info_strT
          clear HR2
          go_wp2_with fail
          refine HN.out.mono ?_
          rintro e w7 ⟨nv, out, rfl, hown, hmem, hlen, hbel⟩
          have hlw : out.length ≤ 100000000 := Nat.le_trans hlen Hwt.out
          have Hmem := Lib.hid hmem
          have Hb7 := Lib.hid hbel
          have hs7 := hbel.size
          clear hmem hlen hbel HN hld6
          go_upto_region 7 with (at_builtin; refine wpList_append_own _ rfl _ _ 91 rfl w6.heap.size 9 i0 (.string ⟨#[]⟩) 1 16 Tryz.underlying91 hi hz0 hz1 hz2 rfl (by decide) _ _ _ rfl (hown.alloc _) ⟨w7.heap.size, 0, none⟩ 1 1 [strV []] rfl rfl (cell_one_new _ _ _) (by simp [Value.oneCell']) (by unfold maxLen at *; omega) (by omega) (by simp; omega) ?_; intro nv2 w8 hown2 hg8 hnil8; go_frame)
          have hb8 : Below w6.heap.size w6 w8 := (Hb7.out.alloc hs7 (Obj.cells #[strV []] 9)).grown hg8 (Nat.le_trans hs7 (one_below w7 _).size) (fun j hj => (hown.lt j hj).1)
          obtain ⟨l, hl⟩ : ∃ l, l = out ++ [[]] := ⟨_, rfl⟩
          obtain ⟨na, nc, hnv, hnr⟩ : ∃ na nc, nv2 = .slice na l.length nc ∧ RowA w8 w8.heap.size 1 na l.length nc (l.map strV) := by
            have h := hown2
            rw [show out.length + 1 = l.length by rw [hl]; simp, show out.map strV ++ [strV []] = l.map strV by rw [hl]; simp] at h
            exact row_of_own h (fun u hu => by obtain ⟨t, -, rfl⟩ := List.mem_map.1 hu; rfl)
          subst hnv
          have Hll := Lib.hid (show l.length ≤ 1000000000 by rw [hl]; simp; omega)
          have HST := Lib.hid (fun (r : RuleD) => show settledL s r l = settledB s r by rw [hl]; exact settled_by Hmem.out)
          have Hnr := Lib.hid hnr
          have Hb8 := Lib.hid (Hb6.out.trans (hb8.mono Hb6.out.size))
          have HA8 := Lib.hid (HA6.out.kept hb8)
          have hld8 := HLD.out w8 HA8.out
          have HRu := Lib.hid (rules_cB s _ W.heap.size w8 Hwt.out (HvW.out w8 Hb8.out) Hb8.out.size)
          clear hown hown2 hg8 hnil8 hb8 hl hnr hi hz0 hz1 hz2 hlw hs7 HA6 xl6
          have xl8 := HA8.out.lt
          go_wp2_with fail
          refine HRu.out.mono ?_
          rintro e w9 ⟨ra, rc, css2, rfl, hrow, hrcs, hbel⟩
          have hr1 : (allR s).length ≤ 100000000 := by have h1 := rulesWt_len s.rules; have h2 := Hwt.out; unfold SchemaD.wt RuleD.wt at h2; rw [all_len]; omega
          have Hb9 := Lib.hid (Hb8.out.trans (hbel.mono Hb8.out.size))
          have HA9 := Lib.hid (HA8.out.kept hbel)
          have Hn9 := Lib.hid (Hnr.out.keep hbel hbel.size)
          have Hrow := Lib.hid hrow.row; have Hrcs := Lib.hid hrcs
          obtain ⟨rs, hrs⟩ : ∃ rs, rs = allR s := ⟨_, rfl⟩
          have Hrs := Lib.hid hrs
          rw [← hrs] at Hrow Hrcs hr1 HR3 ⊢
          clear hrow hrcs hbel HRu hld8 hrs xl8
          go_wp2_with fail
          go_loopg [48] rs.length (fun g i wr => ∃ k : Nat, i = .int .i64 k ∧ k + g = rs.length ∧ Hid ((if (rs.drop k).all (chkR s) then (0 : Int) else 12) = R) ∧ Hid (Below w9.heap.size w9 wr))
          case atStart => exact ⟨0, rfl, by omega, HR3, (show Below _ _ _ from Below.refl _ _)⟩
          case round =>
            obtain ⟨k, rfl, hg, hst, hbr⟩ := hrel
            have Hbr := Lib.hid (Hb9.out.trans (hbr.out.mono Hb9.out.size))
            by_cases hlt : k < rs.length
            · have hlti : (k : Int) < rs.length := by omega
              obtain ⟨b, off, qa, qc, rfl, hlb, hkr, p0, p1, p2, p3, p4, p5, p6, p7⟩ := rule8q (Hrow.out.keep hbr.out hbr.out.size) (RulesC.keep (hbr.out.mono Hb9.out.size) (Nat.le_refl _) Hrcs.out) k hlt
              have Hqm := Lib.hid (show rs[k] ∈ allR s by rw [← Hrs.out]; exact List.getElem_mem hlt)
              have Hst := Lib.hid (show (if chkR s rs[k] && (rs.drop (k + 1)).all (chkR s) then (0 : Int) else 12) = R by
                have h := hst.out
                rw [List.drop_eq_getElem_cons hlt, List.all_cons] at h
                exact h)
              generalize rs[k] = q at hkr p0 p1 p2 p3 p4 p5 p6 p7 Hqm Hst
              obtain ⟨w10, hw10⟩ : ∃ w10, w10 = wr.alloc (Obj.cells #[strV q.type, .int .i64 q.text.1, strV q.text.2, .int .i64 q.other.1, strV q.other.2, .slice qa q.kids.length qc, .int .i64 q.fill, strV q.fillT] 27) := ⟨_, rfl⟩
              have hb10 : Below wr.heap.size wr w10 := by rw [hw10]; exact one_below _ _
              have hX : At w10 wr.heap.size [strV q.type, .int .i64 q.text.1, strV q.text.2, .int .i64 q.other.1, strV q.other.2, .slice qa q.kids.length qc, .int .i64 q.fill, strV q.fillT] 27 := by rw [hw10]; exact At.fresh wr _ _
              have hlr := fun (w' : World) (h : At w' wr.heap.size [strV q.type, .int .i64 q.text.1, strV q.text.2, .int .i64 q.other.1, strV q.other.2, .slice qa q.kids.length qc, .int .i64 q.fill, strV q.fillT] 27) => load_at (P := Tryz.prog) h Tryz.underlying27 rfl (by kernel_rfl)
              simp [go_sem] at hlr
              have HLR := Lib.hid hlr
              have hb9x := hbr.out.trans (hb10.mono hbr.out.size)
              have HA10 := Lib.hid (HA9.out.kept hb9x)
              have HX10 := Lib.hid hX
              have Hw10 := Lib.hid hw10
              have Hb10 := Lib.hid hb9x
              have hbW := Hb9.out.trans (hb9x.mono Hb9.out.size)
              have HbW := Lib.hid hbW
              have hql : q.kids.length ≤ 100000000 := by have h1 := kids_wt q; have h2 := allR_wt Hqm.out; have h3 := Hwt.out; omega
              have Hkr := Lib.hid (fun (w' : World) (hb : Below wr.heap.size wr w') => hkr.keep (hb.mono Hbr.out.size) (Nat.le_trans Hbr.out.size hb.size))
              have hS := settled_c s _ q qa qc l na nc w10 Hwt.out (Hv.out w10 hbW) (Hkr.out w10 hb10) hql (Hn9.out.keep hb9x hb9x.size) Hll.out
              rw [HST.out q] at hS
              have HS := Lib.hid hS
              have hld10 := HLD.out w10 HA10.out
              have hlr10 := HLR.out w10 hX
              have hxl := hX.lt
              have HB10 := Lib.hid hb10
              clear hw10 hb10 hX hlr hb9x hbW hkr hlb hst hS
              go_upto_region 10 with fail
              rw [← Hw10.out]
              clear Hw10 p0 p1 p2 p3 p4 p5 p6 p7
              obtain ⟨S1, hS1⟩ : ∃ S1, S1 = settledB s q := ⟨_, rfl⟩
              have HCk := Lib.hid (show chkR s q = (S1 && decide (0 ≤ depthN s q)) by rw [hS1])
              rw [← hS1] at HS
              clear hS1
              go_wp2_with fail
              refine HS.out.mono ?_
              rintro e w11 ⟨rfl, hbel⟩
              have hb11 := Hb10.out.trans (hbel.mono Hb10.out.size)
              have HbB := Lib.hid (HB10.out.trans (hbel.mono HB10.out.size))
              have HA11 := Lib.hid (HA9.out.kept hb11)
              have HX11 := Lib.hid (HX10.out.kept hbel)
              have Hb11 := Lib.hid hb11
              have hld11 := HLD.out w11 HA11.out
              have hlr11 := HLR.out w11 HX11.out
              have Hb11W := Lib.hid (Hb9.out.trans (hb11.mono Hb9.out.size))
              have hxl11 := HX11.out.lt
              clear hbel hb11 HS hld10 hlr10 HA10 HX10 hxl
              cases S1 with
              | false =>
                have Hz := Lib.hid (show (12 : Int) = R by have h := Hst.out; rw [HCk.out] at h; exact h)
                clear Hst HCk
                go_wp2_with fail
                go_ret
                exact ⟨ret_int Hz.out, Hb11W.out⟩
              | true =>
                have HD := Lib.hid (depth_c s _ q qa qc w11 Hwt.out (Hv.out w11 Hb11W.out) Hqm.out)
                obtain ⟨d, hd⟩ : ∃ d, d = depthN s q := ⟨_, rfl⟩
                rw [← hd] at HD HCk
                clear hd
                go_wp2_with fail
                refine HD.out.mono ?_
                rintro e w12 ⟨rfl, hbel⟩
                have Hb12 := Lib.hid (Hb11.out.trans (hbel.mono Hb11.out.size))
                clear hbel HD hld11 hlr11
                by_cases hd0 : d < 0
                · have Hz := Lib.hid (show (12 : Int) = R by have h := Hst.out; rw [HCk.out, decide_eq_false (show ¬ 0 ≤ d by omega)] at h; exact h)
                  clear Hst HCk
                  go_wp2_with fail
                  go_ret
                  exact ⟨ret_int Hz.out, Hb9.out.trans (Hb12.out.mono Hb9.out.size)⟩
                · have HN := Lib.hid (show (if (rs.drop (k + 1)).all (chkR s) then (0 : Int) else 12) = R by have h := Hst.out; rw [HCk.out, decide_eq_true (show 0 ≤ d by omega)] at h; simpa using h)
                  clear Hst HCk
                  go_wp2_with fail
                  go_roundg (rs.length - (k + 1))
                  case measure => omega
                  case rel => exact ⟨k + 1, by go_num, by omega, HN, Hb12⟩
            · obtain rfl : k = rs.length := by omega
              have Hz := Lib.hid (show (0 : Int) = R by have h := hst.out; rw [List.drop_length] at h; exact h)
              clear hst
              go_wp2_with fail
              go_ret
              exact ⟨ret_int Hz.out, Hbr.out⟩

end Go.Proofs.YtajclfjedlkbcaaGreatDoor
/- Walk: table.Fills. -/
namespace Go.Proofs.YtajclfjedlkbcaaGreatDoor
open Go.RowKit Go.Redl
set_option linter.unusedVariables false
set_option linter.unusedSimpArgs false

theorem fills_ent : ∀ args w, (callFunc 11 args).run Tryz.prog w = .ok (.enter 11 args) w := by intro args w; kernel_rfl
theorem fold_le (s : SchemaD) (B : Int) (hB : ∀ r : RuleD, depthN s r ≤ B) : ∀ (l : List RuleD) (m : Int), m ≤ B → l.foldl (fun m r => max m (depthN s r)) m ≤ B
  | [], m, h => h
  | r :: l, m, h => fold_le s B hB l _ (by show max m (depthN s r) ≤ B; have := hB r; omega)
theorem depthN_le (s : SchemaD) (r : RuleD) : depthN s r ≤ s.rules.length + 2 := by
  have := depth_le s (s.rules.length + 2) [] r 0
  unfold depthN
  omega
theorem fills_le (s : SchemaD) : (fillsS s).1 ≤ s.rules.length + 2 := by
  unfold fillsS
  split
  · show (0 : Int) ≤ _; omega
  · exact fold_le s _ (depthN_le s) _ 0 (by omega)
theorem fills_err (s : SchemaD) (h : (fillsS s).2 ≠ 0) : (fillsS s).1 = 0 := by
  unfold fillsS at *
  split
  · rfl
  · rename_i hc
    rw [if_neg hc] at h
    exact absurd rfl h
set_option maxRecDepth 100000 in
set_option maxHeartbeats 4000000 in
theorem fills_c (s : SchemaD) (v : Value) (W : World) (hw : s.wt ≤ 100000000) (hv : SchemaV W W.heap.size s v) :
    Calls Tryz.prog 11 #[v] W fun e w' => e = .returned (.tuple #[.int .i64 (fillsS s).1, .int .i64 (fillsS s).2]) ∧ Below W.heap.size W w' := by
  have Hv := Lib.hid (fun (w' : World) (hb : Below W.heap.size W w') => hv.keep hb hb.size)
  have HvW := Lib.hid (fun (w' : World) (hb : Below W.heap.size W w') => hv.keep hb (Nat.le_refl _))
  obtain ⟨sa, sc, css, ea, ec, o0, o1, o2, o3, o4, o5, rfl, -, -, -, -⟩ := hv.open
  have Hwt := Lib.hid hw
  have hdl := Lib.hid (depthN_le s)
  have hrl : s.rules.length ≤ 100000000 := by have := rulesWt_len s.rules; unfold SchemaD.wt at hw; omega
  obtain ⟨R1, hR1⟩ : ∃ R1, R1 = (fillsS s).1 := ⟨_, rfl⟩
  obtain ⟨R2, hR2⟩ : ∃ R2, R2 = (fillsS s).2 := ⟨_, rfl⟩
  have HR := Lib.hid (show (if checkS s ≠ 0 then ((0 : Int), checkS s) else ((allR s).foldl (fun m r => max m (depthN s r)) 0, 0)) = (R1, R2) by rw [hR1, hR2]; rfl)
  rw [← hR1, ← hR2]
  obtain ⟨w0, hw0⟩ : ∃ w0, w0 = W.alloc (Obj.cells #[.slice sa s.rules.length sc, strV s.els.type, .int .i64 s.els.text.1, strV s.els.text.2, .int .i64 s.els.other.1, strV s.els.other.2, .slice ea s.els.kids.length ec, .int .i64 s.els.fill, strV s.els.fillT, .int .i64 o0, .int .i64 o1, .int .i64 o2, .int .i64 o3, .int .i64 o4, .int .i64 o5, .int .i64 s.cap] 30) := ⟨_, rfl⟩
  have hb0 : Below W.heap.size W w0 := by rw [hw0]; exact one_below _ _
  have hA : At w0 W.heap.size [.slice sa s.rules.length sc, strV s.els.type, .int .i64 s.els.text.1, strV s.els.text.2, .int .i64 s.els.other.1, strV s.els.other.2, .slice ea s.els.kids.length ec, .int .i64 s.els.fill, strV s.els.fillT, .int .i64 o0, .int .i64 o1, .int .i64 o2, .int .i64 o3, .int .i64 o4, .int .i64 o5, .int .i64 s.cap] 30 := by rw [hw0]; exact At.fresh W _ _
  have hld := fun (w' : World) (h : At w' W.heap.size [.slice sa s.rules.length sc, strV s.els.type, .int .i64 s.els.text.1, strV s.els.text.2, .int .i64 s.els.other.1, strV s.els.other.2, .slice ea s.els.kids.length ec, .int .i64 s.els.fill, strV s.els.fillT, .int .i64 o0, .int .i64 o1, .int .i64 o2, .int .i64 o3, .int .i64 o4, .int .i64 o5, .int .i64 s.cap] 30) => load_at (P := Tryz.prog) h Tryz.underlying30 rfl (by kernel_rfl)
  simp [go_sem] at hld
  have HLD := Lib.hid hld
  have hld0 := hld w0 hA
  have HC := Lib.hid (tcheck_c s _ w0 hw (Hv.out w0 hb0))
  have Hw0 := Lib.hid hw0; have Hb0 := Lib.hid hb0; have HA := Lib.hid hA
  have xl := hA.lt
  clear hv hw hw0 hb0 hA hld hR1 hR2
  go_enter Tryz.func11, Tryz.ntmps11
  go_upto_region 1 with fail
  rw [← Hw0.out]
  clear Hw0
  obtain ⟨C, hC⟩ : ∃ C, C = checkS s := ⟨_, rfl⟩
  rw [← hC] at HC HR
  clear hC
  go_wp2_with fail
  refine HC.out.mono ?_
  rintro e w1 ⟨rfl, hbel⟩
  have Hb1 := Lib.hid (Hb0.out.trans (hbel.mono Hb0.out.size))
  have HA1 := Lib.hid (HA.out.kept hbel)
  have hld1 := HLD.out w1 HA1.out
  have xl1 := HA1.out.lt
  have HRu := Lib.hid (rules_cB s _ W.heap.size w1 Hwt.out (HvW.out w1 Hb1.out) Hb1.out.size)
  clear hbel HC hld0 xl
  by_cases hC0 : C = 0
  · subst hC0
    have HR2 := Lib.hid (show (allR s).foldl (fun m r => max m (depthN s r)) 0 = R1 ∧ (0 : Int) = R2 by have h := HR.out; rw [if_neg (by simp)] at h; injection h with h1 h2; exact ⟨h1, h2⟩)
    clear HR
    go_wp2_with fail
    refine HRu.out.mono ?_
    rintro e w2 ⟨ra, rc, css2, rfl, hrow, hrcs, hbel⟩
    have hr1 : (allR s).length ≤ 100000000 := by have h1 := rulesWt_len s.rules; have h2 := Hwt.out; unfold SchemaD.wt RuleD.wt at h2; rw [all_len]; omega
    have Hb2 := Lib.hid (Hb1.out.trans (hbel.mono Hb1.out.size))
    have HA2 := Lib.hid (HA1.out.kept hbel)
    have Hrow := Lib.hid hrow.row; have Hrcs := Lib.hid hrcs
    obtain ⟨rs, hrs⟩ : ∃ rs, rs = allR s := ⟨_, rfl⟩
    have Hrs := Lib.hid hrs
    rw [← hrs] at Hrow Hrcs hr1 HR2 ⊢
    clear hrow hrcs hbel HRu hld1 hrs xl1
    go_wp2_with fail
    go_loopg [16, 5] rs.length (fun g i m wr => ∃ (k : Nat) (z : Int), i = .int .i64 k ∧ m = .int .i64 z ∧ k + g = rs.length ∧ Hid ((rs.drop k).foldl (fun m r => max m (depthN s r)) z = R1) ∧ Hid (Below w2.heap.size w2 wr))
    case atStart => exact ⟨0, 0, rfl, rfl, by omega, HR2.out.1, (show Below _ _ _ from Below.refl _ _)⟩
    case round =>
      obtain ⟨k, z, rfl, rfl, hg, hst, hbr⟩ := hrel
      have Hbr := Lib.hid (Hb2.out.trans (hbr.out.mono Hb2.out.size))
      by_cases hlt : k < rs.length
      · have hlti : (k : Int) < rs.length := by omega
        obtain ⟨b, off, qa, qc, rfl, hlb, -, p0, p1, p2, p3, p4, p5, p6, p7⟩ := rule8q (Hrow.out.keep hbr.out hbr.out.size) (RulesC.keep (hbr.out.mono Hb2.out.size) (Nat.le_refl _) Hrcs.out) k hlt
        have Hqm := Lib.hid (show rs[k] ∈ allR s by rw [← Hrs.out]; exact List.getElem_mem hlt)
        have Hst := Lib.hid (show (rs.drop (k + 1)).foldl (fun m r => max m (depthN s r)) (max z (depthN s rs[k])) = R1 by
          have h := hst.out
          rw [List.drop_eq_getElem_cons hlt, List.foldl_cons] at h
          exact h)
        generalize rs[k] = q at p0 p1 p2 p3 p4 p5 p6 p7 Hqm Hst
        obtain ⟨w10, hw10⟩ : ∃ w10, w10 = wr.alloc (Obj.cells #[strV q.type, .int .i64 q.text.1, strV q.text.2, .int .i64 q.other.1, strV q.other.2, .slice qa q.kids.length qc, .int .i64 q.fill, strV q.fillT] 27) := ⟨_, rfl⟩
        have hb10 : Below wr.heap.size wr w10 := by rw [hw10]; exact one_below _ _
        have hX : At w10 wr.heap.size [strV q.type, .int .i64 q.text.1, strV q.text.2, .int .i64 q.other.1, strV q.other.2, .slice qa q.kids.length qc, .int .i64 q.fill, strV q.fillT] 27 := by rw [hw10]; exact At.fresh wr _ _
        have hlr10 := load_at (P := Tryz.prog) hX Tryz.underlying27 rfl (by kernel_rfl)
        simp [go_sem] at hlr10
        have hb9x := hbr.out.trans (hb10.mono hbr.out.size)
        have hld10 := HLD.out w10 (HA2.out.kept hb9x)
        have Hw10 := Lib.hid hw10
        have Hb10 := Lib.hid hb9x
        have hbW := Hb2.out.trans (hb9x.mono Hb2.out.size)
        have HD := Lib.hid (depth_c s _ q qa qc w10 Hwt.out (Hv.out w10 hbW) Hqm.out)
        have hxl := hX.lt
        clear hw10 hb10 hX hb9x hbW hlb hst
        go_upto_region 8 with fail
        rw [← Hw10.out]
        clear Hw10 p0 p1 p2 p3 p4 p5 p6 p7
        obtain ⟨d, hd⟩ : ∃ d, d = depthN s q := ⟨_, rfl⟩
        rw [← hd] at HD Hst
        clear hd
        go_wp2_with fail
        refine HD.out.mono ?_
        rintro e w12 ⟨rfl, hbel⟩
        have Hb12 := Lib.hid (Hb10.out.trans (hbel.mono Hb10.out.size))
        clear hbel HD hld10 hlr10
        go_wp2_with fail
        go_roundg (rs.length - (k + 1))
        case measure => omega
        case rel => exact ⟨k + 1, max z d, by go_num, by first | rfl | simp, by omega, Hst, Hb12⟩
      · obtain rfl : k = rs.length := by omega
        have Hz := Lib.hid (show z = R1 by have h := hst.out; rw [List.drop_length] at h; exact h)
        clear hst
        go_wp2_with fail
        go_ret2
        rw [Hz.out, ← HR2.out.2]
        exact ⟨rfl, Hbr.out⟩
  · have hCb : (C != 0) = true := by simp [hC0]
    have HR2 := Lib.hid (show (0 : Int) = R1 ∧ C = R2 by have h := HR.out; rw [if_pos hC0] at h; injection h with h1 h2; exact ⟨h1, h2⟩)
    clear HR hld1
    go_wp2_with fail
    go_ret2
    rw [← HR2.out.1, ← HR2.out.2]
    exact ⟨rfl, Hb1.out⟩

end Go.Proofs.YtajclfjedlkbcaaGreatDoor
/- slices.SortFunc at [][]int: its bodies at this program, laid by the kit, in plain words. -/
namespace Go.Proofs
open Go.Shelf
def Tryz.sortL_ren : Go.Shelf.Ren := ⟨fun | 6 => 63 | 15 => 109 | 14 => 108 | 28 => 132 | 29 => 133 | 20 => 124 | 21 => 125 | 22 => 126 | 23 => 127 | 24 => 128 | 25 => 129 | 26 => 130 | 27 => 131 | 46 => 161 | 47 => 162 | 48 => 163 | 49 => 164 | 50 => 165 | 57 => 178 | n => n, fun | 22 => 36 | 24 => 47 | 25 => 105 | 3 => 3 | 39 => 136 | 0 => 0 | 53 => 156 | 55 => 158 | 4 => 4 | 46 => 150 | 45 => 149 | 50 => 72 | 5 => 5 | 9 => 9 | 66 => 181 | 70 => 160 | 76 => 194 | 77 => 195 | n => n, fun | n => n⟩
theorem Tryz.sortL : Go.Proofs.SlLaysF.n6 Tryz.prog Tryz.sortL_ren := {
  mixed := by kernel_rfl
  f6 := ⟨Tryz.f63.name, by decide, Tryz.func63.trans (congrArg some (by kernel_rfl))⟩
  f14 := ⟨Tryz.f108.name, by decide, Tryz.func108.trans (congrArg some (by kernel_rfl))⟩
  f15 := Tryz.func109.trans (congrArg some (by kernel_rfl))
  f20 := ⟨Tryz.f124.name, by decide, Tryz.func124.trans (congrArg some (by kernel_rfl))⟩
  f21 := ⟨Tryz.f125.name, by decide, Tryz.func125.trans (congrArg some (by kernel_rfl))⟩
  f22 := ⟨Tryz.f126.name, by decide, Tryz.func126.trans (congrArg some (by kernel_rfl))⟩
  f23 := ⟨Tryz.f127.name, by decide, Tryz.func127.trans (congrArg some (by kernel_rfl))⟩
  f24 := ⟨Tryz.f128.name, by decide, Tryz.func128.trans (congrArg some (by kernel_rfl))⟩
  f25 := ⟨Tryz.f129.name, by decide, Tryz.func129.trans (congrArg some (by kernel_rfl))⟩
  f26 := ⟨Tryz.f130.name, by decide, Tryz.func130.trans (congrArg some (by kernel_rfl))⟩
  f27 := ⟨Tryz.f131.name, by decide, Tryz.func131.trans (congrArg some (by kernel_rfl))⟩
  f28 := Tryz.func132.trans (congrArg some (by kernel_rfl))
  f29 := Tryz.func133.trans (congrArg some (by kernel_rfl))
  f46 := ⟨Tryz.f161.name, by decide, Tryz.func161.trans (congrArg some (by kernel_rfl))⟩
  f47 := Tryz.func162.trans (congrArg some (by kernel_rfl))
  f48 := Tryz.func163.trans (congrArg some (by kernel_rfl))
  f49 := ⟨Tryz.f164.name, by decide, Tryz.func164.trans (congrArg some (by kernel_rfl))⟩
  f50 := ⟨Tryz.f165.name, by decide, Tryz.func165.trans (congrArg some (by kernel_rfl))⟩
  f57 := ⟨Tryz.f178.name, by decide, Tryz.func178.trans (congrArg some (by kernel_rfl))⟩
  t0 := Tryz.underlying0
  a0 := Tryz.isAgg0
  z0 := Tryz.sizeOf0
  v0 := Tryz.zeroValue0
  t3 := Tryz.underlying3
  a3 := Tryz.isAgg3
  z3 := Tryz.sizeOf3
  v3 := Tryz.zeroValue3
  t4 := Tryz.underlying4
  a4 := Tryz.isAgg4
  z4 := Tryz.sizeOf4
  v4 := Tryz.zeroValue4
  t5 := Tryz.underlying5
  a5 := Tryz.isAgg5
  z5 := Tryz.sizeOf5
  v5 := Tryz.zeroValue5
  t9 := Tryz.underlying9
  a9 := Tryz.isAgg9
  z9 := Tryz.sizeOf9
  v9 := Tryz.zeroValue9
  t22 := Tryz.underlying36
  a22 := Tryz.isAgg36
  z22 := Tryz.sizeOf36
  v22 := Tryz.zeroValue36
  a24 := Tryz.isAgg47
  z24 := Tryz.sizeOf47
  t25 := Tryz.underlying105
  a25 := Tryz.isAgg105
  z25 := Tryz.sizeOf105
  v25 := Tryz.zeroValue105
  t39 := Tryz.underlying136
  a39 := Tryz.isAgg136
  z39 := Tryz.sizeOf136
  v39 := Tryz.zeroValue136
  t45 := Tryz.underlying149
  a45 := Tryz.isAgg149
  z45 := Tryz.sizeOf149
  v45 := Tryz.zeroValue149
  t46 := Tryz.underlying150
  a46 := Tryz.isAgg150
  z46 := Tryz.sizeOf150
  v46 := Tryz.zeroValue150
  t50 := Tryz.underlying72
  a50 := Tryz.isAgg72
  z50 := Tryz.sizeOf72
  v50 := Tryz.zeroValue72
  t53 := Tryz.underlying156
  a53 := Tryz.isAgg156
  z53 := Tryz.sizeOf156
  v53 := Tryz.zeroValue156
  t55 := Tryz.underlying158
  a55 := Tryz.isAgg158
  z55 := Tryz.sizeOf158
  v55 := Tryz.zeroValue158
  t66 := Tryz.underlying181
  a66 := Tryz.isAgg181
  z66 := Tryz.sizeOf181
  v66 := Tryz.zeroValue181
  t70 := Tryz.underlying160
  a70 := Tryz.isAgg160
  z70 := Tryz.sizeOf160
  v70 := Tryz.zeroValue160
  t76 := Tryz.underlying194
  a76 := Tryz.isAgg194
  z76 := Tryz.sizeOf194
  v76 := Tryz.zeroValue194
  t77 := Tryz.underlying195
  a77 := Tryz.isAgg195
  z77 := Tryz.sizeOf195
  v77 := Tryz.zeroValue195 }
end Go.Proofs
/- Walks: whether a path is above another one. -/
namespace Go.Proofs.YtajclfjedlkbcaaGreatDoor
open Go.RowKit Go.Redl
set_option linter.unusedVariables false

/-- How many numbers both begin with. -/
def alikeN : List Int → List Int → Nat
  | x :: a, y :: b => if x = y then 1 + alikeN a b else 0
  | [], _ => 0
  | _ :: _, [] => 0
theorem alikeN_le : ∀ a b : List Int, alikeN a b ≤ a.length ∧ alikeN a b ≤ b.length
  | [], b => by simp [alikeN]
  | _ :: _, [] => by simp [alikeN]
  | x :: a, y :: b => by
    have := alikeN_le a b
    unfold alikeN
    split <;> simp <;> omega
theorem alikeN_step {xs ys : List Int} {k : Nat} (h1 : k < xs.length) (h2 : k < ys.length) : alikeN (xs.drop k) (ys.drop k) = if xs[k] = ys[k] then 1 + alikeN (xs.drop (k + 1)) (ys.drop (k + 1)) else 0 := by
  rw [List.drop_eq_getElem_cons h1, List.drop_eq_getElem_cons h2]; rfl
theorem alikeN_pre : ∀ {a b : List Int}, alikeN a b = a.length ↔ a <+: b
  | [], b => by simp [alikeN]
  | x :: a, [] => by simp [alikeN]
  | x :: a, y :: b => by
    unfold alikeN
    rw [List.cons_prefix_cons, ← alikeN_pre (a := a) (b := b)]
    split
    · rename_i h; simp [h]; omega
    · rename_i h; simp [h]
/-- One path is above another one. -/
def aboveB (a b : List Int) : Bool := decide (a.length < b.length) && decide (alikeN a b = a.length)

theorem alike_ent : ∀ args w, (callFunc 67 args).run Tryz.prog w = .ok (.enter 67 args) w := by intro args w; kernel_rfl
set_option maxRecDepth 100000 in
set_option maxHeartbeats 2000000 in
theorem alike_c (xs ys : List Int) (a a' : Option Addr) (cap cap' B : Nat) (w : World) (hr : RowA w B 1 a xs.length cap (xs.map (Value.int .i64))) (hr' : RowA w B 1 a' ys.length cap' (ys.map (Value.int .i64))) :
    Calls Tryz.prog 67 #[.slice a xs.length cap, .slice a' ys.length cap'] w fun e w' => e = .returned (.int .i64 (alikeN xs ys : Nat)) ∧ Drawn w w' := by
  obtain ⟨z, hz⟩ : ∃ z, z = alikeN xs ys := ⟨_, rfl⟩
  rw [← hz]
  have Hz := Lib.hid hz
  have H63 := Lib.hid (show xs.length ≤ 9223372036854775807 from Nat.le_trans hr.le (by have := hr.max; unfold maxLen at this; omega))
  have Hle := Lib.hid (alikeN_le xs ys)
  by_cases hle : xs.length ≤ ys.length
  · have hlei : (xs.length : Int) ≤ ys.length := by omega
    have Hor := Lib.hid hle
    clear hz
    go_enter Tryz.func67, Tryz.ntmps67
    go_wp2_with fail
    go_loopg [11, 5] xs.length (fun g i _ wr => ∃ k : Nat, i = .int .i64 k ∧ k + g = xs.length ∧ Hid (k + alikeN (xs.drop k) (ys.drop k) = z) ∧ Drawn w wr)
    case atStart => exact ⟨0, rfl, by omega, (show 0 + alikeN xs ys = z by rw [Hz.out]; omega), ⟨0, rfl⟩⟩
    case round =>
      obtain ⟨k, rfl, hg, hst, q, rfl⟩ := hrel
      by_cases hlt : k < xs.length
      · have hlti : (k : Int) < xs.length := by omega
        have hlx : k < xs.length := by have := Hor.out; omega
        have hly : k < ys.length := by have := Hor.out; omega
        have hlxi : (k : Int) < xs.length := by omega
        have hlyi : (k : Int) < ys.length := by omega
        obtain ⟨b, off, rfl, hb, hcell0⟩ := hr.int_at k hlx
        have hcell := hcell0 k hlx
        obtain ⟨b', off', rfl, hb', hcell1⟩ := hr'.int_at k hly
        have hcell' := hcell1 k hly
        rw [getD_of_lt hlx] at hcell
        rw [getD_of_lt hly] at hcell'
        have Hs := Lib.hid (show k + (if xs[k] = ys[k] then 1 + alikeN (xs.drop (k + 1)) (ys.drop (k + 1)) else 0) = z by rw [← alikeN_step hlx hly]; exact hst.out)
        have hw1 : IntKind.i64.wrap ((k : Int) + 1) = (k : Int) + 1 := IntWalk.i64_in _ (by have := H63.out; omega)
        generalize xs[k] = x at hcell Hs
        generalize ys[k] = y at hcell' Hs
        clear hcell0 hcell1 hst
        by_cases he : x = y
        · have hne : (x != y) = false := by simp [he]
          have Hs2 := Lib.hid (show (k + 1) + alikeN (xs.drop (k + 1)) (ys.drop (k + 1)) = z by have h := Hs.out; rw [if_pos he] at h; omega)
          have He := Lib.hid he
          clear he Hs
          go_wp2_with fail
          go_quiet (fail)
          go_wp2_with fail
          go_roundg (xs.length - (k + 1))
          case measure => omega
          case rel => exact ⟨k + 1, by go_num, by omega, Hs2, by first | exact drawn_one _ _ | exact drawn_two _ _ _⟩
        · have hne : (x != y) = true := by simp [he]
          have Hs2 := Lib.hid (show k = z by have h := Hs.out; rw [if_neg he] at h; omega)
          clear he Hs
          go_wp2_with fail
          go_quiet (fail)
          go_wp2_with fail
          go_ret
          exact ⟨ret_int (by first | (rw [← Hs2.out]; done) | (rw [← Hs2.out]; omega)), by first | exact drawn_one _ _ | exact drawn_two _ _ _⟩
      · obtain rfl : k = xs.length := by omega
        have Hs2 := Lib.hid (show xs.length = z by
          have h := hst.out
          have h2 := alikeN_le (xs.drop xs.length) (ys.drop xs.length)
          rw [List.length_drop, List.length_drop] at h2
          omega)
        clear hst
        go_wp2_with fail
        go_ret
        exact ⟨ret_int (by first | (rw [← Hs2.out]; done) | (rw [← Hs2.out]; omega)), by first | exact drawn_one _ _ | exact drawn_two _ _ _⟩
  · have hlei : ¬ (xs.length : Int) ≤ ys.length := by omega
    have Hor := Lib.hid hle
    clear hz
    go_enter Tryz.func67, Tryz.ntmps67
    go_wp2_with fail
    go_loopg [11, 5] ys.length (fun g i _ wr => ∃ k : Nat, i = .int .i64 k ∧ k + g = ys.length ∧ Hid (k + alikeN (xs.drop k) (ys.drop k) = z) ∧ Drawn w wr)
    case atStart => exact ⟨0, rfl, by omega, (show 0 + alikeN xs ys = z by rw [Hz.out]; omega), ⟨0, rfl⟩⟩
    case round =>
      obtain ⟨k, rfl, hg, hst, q, rfl⟩ := hrel
      by_cases hlt : k < ys.length
      · have hlti : (k : Int) < ys.length := by omega
        have hlx : k < xs.length := by have := Hor.out; omega
        have hly : k < ys.length := by have := Hor.out; omega
        have hlxi : (k : Int) < xs.length := by omega
        have hlyi : (k : Int) < ys.length := by omega
        obtain ⟨b, off, rfl, hb, hcell0⟩ := hr.int_at k hlx
        have hcell := hcell0 k hlx
        obtain ⟨b', off', rfl, hb', hcell1⟩ := hr'.int_at k hly
        have hcell' := hcell1 k hly
        rw [getD_of_lt hlx] at hcell
        rw [getD_of_lt hly] at hcell'
        have Hs := Lib.hid (show k + (if xs[k] = ys[k] then 1 + alikeN (xs.drop (k + 1)) (ys.drop (k + 1)) else 0) = z by rw [← alikeN_step hlx hly]; exact hst.out)
        have hw1 : IntKind.i64.wrap ((k : Int) + 1) = (k : Int) + 1 := IntWalk.i64_in _ (by have := H63.out; omega)
        generalize xs[k] = x at hcell Hs
        generalize ys[k] = y at hcell' Hs
        clear hcell0 hcell1 hst
        by_cases he : x = y
        · have hne : (x != y) = false := by simp [he]
          have Hs2 := Lib.hid (show (k + 1) + alikeN (xs.drop (k + 1)) (ys.drop (k + 1)) = z by have h := Hs.out; rw [if_pos he] at h; omega)
          have He := Lib.hid he
          clear he Hs
          go_wp2_with fail
          go_quiet (fail)
          go_wp2_with fail
          go_roundg (ys.length - (k + 1))
          case measure => omega
          case rel => exact ⟨k + 1, by go_num, by omega, Hs2, by first | exact drawn_one _ _ | exact drawn_two _ _ _⟩
        · have hne : (x != y) = true := by simp [he]
          have Hs2 := Lib.hid (show k = z by have h := Hs.out; rw [if_neg he] at h; omega)
          clear he Hs
          go_wp2_with fail
          go_quiet (fail)
          go_wp2_with fail
          go_ret
          exact ⟨ret_int (by first | (rw [← Hs2.out]; done) | (rw [← Hs2.out]; omega)), by first | exact drawn_one _ _ | exact drawn_two _ _ _⟩
      · obtain rfl : k = ys.length := by omega
        have Hs2 := Lib.hid (show ys.length = z by
          have h := hst.out
          have h2 := alikeN_le (xs.drop ys.length) (ys.drop ys.length)
          rw [List.length_drop, List.length_drop] at h2
          omega)
        clear hst
        go_wp2_with fail
        go_ret
        exact ⟨ret_int (by first | (rw [← Hs2.out]; done) | (rw [← Hs2.out]; omega)), by first | exact drawn_one _ _ | exact drawn_two _ _ _⟩

theorem above_ent : ∀ args w, (callFunc 34 args).run Tryz.prog w = .ok (.enter 34 args) w := by intro args w; kernel_rfl
set_option maxRecDepth 100000 in
theorem above_c (xs ys : List Int) (a a' : Option Addr) (cap cap' B : Nat) (w : World) (hr : RowA w B 1 a xs.length cap (xs.map (Value.int .i64))) (hr' : RowA w B 1 a' ys.length cap' (ys.map (Value.int .i64))) :
    Calls Tryz.prog 34 #[.slice a xs.length cap, .slice a' ys.length cap'] w fun e w' => e = .returned (.bool (aboveB xs ys)) ∧ Drawn w w' := by
  have HC := Lib.hid (alike_c xs ys a a' cap cap' B w hr hr')
  clear hr hr'
  unfold aboveB
  by_cases hlt : xs.length < ys.length
  · have hlti : (xs.length : Int) < ys.length := by omega
    obtain ⟨z, hz⟩ : ∃ z, z = alikeN xs ys := ⟨_, rfl⟩
    rw [← hz] at HC ⊢
    have Hlt := Lib.hid (decide_eq_true hlt)
    have hbe : ((z : Int) == (xs.length : Int)) = decide (z = xs.length) := by
      by_cases h : z = xs.length
      · subst h; simp
      · rw [decide_eq_false h]; simp; omega
    clear hz hlt
    go_enter Tryz.func34, Tryz.ntmps34
    go_wp2_with fail
    refine HC.out.mono ?_
    rintro e w1 ⟨rfl, hd⟩
    have Hd := Lib.hid hd
    clear hd
    go_wp2_with fail
    go_ret
    exact ⟨ret_bool (by rw [Hlt.out]; simp), Hd.out⟩
  · have hlti : ¬ (xs.length : Int) < ys.length := by omega
    have Hlt := Lib.hid (decide_eq_false hlt)
    clear hlt HC
    go_enter Tryz.func34, Tryz.ntmps34
    go_wp2_with fail
    go_ret
    exact ⟨ret_bool (by rw [Hlt.out]; simp), ⟨0, rfl⟩⟩

end Go.Proofs.YtajclfjedlkbcaaGreatDoor
