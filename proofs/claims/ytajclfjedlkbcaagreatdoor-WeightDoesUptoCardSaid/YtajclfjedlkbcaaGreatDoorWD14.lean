/- Parts of the proof, one behind the other: RMB, RMC, RMD, RME, RMH, RMI. -/
import Derived.Test.YtajclfjedlkbcaaGreatDoorWD13
import Derived.Test.YtajclfjedlkbcaaGreatDoorWD12
import Derived.Test.YtajclfjedlkbcaaGreatDoorWD4
/- Walks: table's name, acts. -/
namespace Go.Proofs.YtajclfjedlkbcaaGreatDoor
open Go.RowKit Go.Redl
set_option linter.unusedVariables false
set_option linter.unusedSimpArgs false

theorem name_ent : ∀ args w, (callFunc 95 args).run Tryz.prog w = .ok (.enter 95 args) w := by intro args w; kernel_rfl
set_option maxRecDepth 100000 in
set_option maxHeartbeats 1000000 in
theorem name_c (s : List UInt8) (w : World) (hn : s.length ≤ 1000000000) :
    Calls Tryz.prog 95 #[.string ⟨s.toArray⟩] w fun e w' => e = .returned (.bool (nameB s)) ∧ Below w.heap.size w w' := by
  have Hk : Hid (nameB s = (decide (s ≠ []) && (decide (s.length ≤ 32) && s.all valcB))) := rfl
  obtain ⟨hT, hF⟩ := trim_c s valSet valcB val_set (by decide) (by decide +kernel) w hn
  have HT := Lib.hid hT; have HF := Lib.hid hF
  clear hT hF
  cases s with
  | nil =>
    go_enter Tryz.func95, Tryz.ntmps95
    go_wp2_with fail
    go_ret
    exact ⟨ret_bool (by rw [Hk.out]; rfl), Below.refl _ _⟩
  | cons c r =>
    have hsz : (⟨(c :: r).toArray⟩ : ByteArray).size = r.length + 1 := rfl
    have hne : ((⟨(c :: r).toArray⟩ : ByteArray).toList.isEmpty) = false := by rw [ByteArray.toList_mk]; rfl
    have hne2 : (!(⟨(c :: r).toArray⟩ : ByteArray).toList.isEmpty) = true := by rw [ByteArray.toList_mk]; rfl
    obtain ⟨S, hS⟩ : ∃ S, S = (⟨(c :: r).toArray⟩ : ByteArray) := ⟨_, rfl⟩
    rw [← hS] at hsz hne hne2 HT HF ⊢
    by_cases h32 : 32 < r.length + 1
    · have Hz : Hid (nameB (c :: r) = false) := by
        show nameB _ = false
        rw [Hk.out, decide_eq_false (show ¬ (c :: r).length ≤ 32 by simp only [List.length_cons]; omega)]; simp
      clear hS HT HF
      go_enter Tryz.func95, Tryz.ntmps95
      go_wp2_with fail
      go_ret
      exact ⟨ret_bool Hz.out.symm, Below.refl _ _⟩
    · have Hk2 : Hid (nameB (c :: r) = (c :: r).all valcB) := by
        show nameB _ = _
        rw [Hk.out, decide_eq_true (show (c :: r).length ≤ 32 by simp only [List.length_cons]; omega)]; simp
      cases hall : (c :: r).all valcB with
      | true =>
        have HC := Lib.hid (HT.out hall)
        rw [hall] at Hk2
        clear hS HT HF hall
        go_enter Tryz.func95, Tryz.ntmps95
        go_wp2_with fail
        refine HC.out.mono ?_
        rintro e w1 ⟨rfl, hb⟩
        have Hb := Lib.hid hb
        clear hb
        go_wp2_with fail
        go_ret
        exact ⟨ret_bool Hk2.out.symm, Hb.out⟩
      | false =>
        obtain ⟨y, ys, hC⟩ := HF.out hall
        have HC := Lib.hid hC
        rw [hall] at Hk2
        have hn2 : ((⟨(y :: ys).toArray⟩ : ByteArray).toList.isEmpty) = false := by rw [ByteArray.toList_mk]; rfl
        clear hS HT HF hall hC
        go_enter Tryz.func95, Tryz.ntmps95
        go_wp2_with fail
        refine HC.out.mono ?_
        rintro e w1 ⟨rfl, hb⟩
        have Hb := Lib.hid hb
        clear hb
        go_wp2_with fail
        go_ret
        exact ⟨ret_bool Hk2.out.symm, Hb.out⟩

theorem acts_ent : ∀ args w, (callFunc 97 args).run Tryz.prog w = .ok (.enter 97 args) w := by intro args w; kernel_rfl
set_option maxRecDepth 100000 in
set_option maxHeartbeats 1000000 in
theorem acts_c (x : Int) (t : List UInt8) (lift : Bool) (w : World) (hn : t.length ≤ 1000000000) :
    Calls Tryz.prog 97 #[.agg #[.int .i64 x, strV t], .bool lift] w fun e w' => e = .returned (.bool (actB lift (x, t))) ∧ Below w.heap.size w w' := by
  obtain ⟨R, hR⟩ : ∃ R, R = actB lift (x, t) := ⟨_, rfl⟩
  have Hr := Lib.hid (show R = if x = 4 then nameB t else if x = 3 then lift && decide (t = []) else if x = 1 ∨ x = 2 then decide (t = []) else false from hR)
  rw [← hR]
  obtain ⟨w0, hw0⟩ : ∃ w0, w0 = w.alloc (Obj.cells #[.int .i64 x, strV t] 24) := ⟨_, rfl⟩
  have hb0 : Below w.heap.size w w0 := by rw [hw0]; exact one_below _ _
  have hA : At w0 w.heap.size [.int .i64 x, strV t] 24 := by rw [hw0]; exact At.fresh w _ _
  obtain ⟨⟨x0, x1⟩, -, xl⟩ := hA.f2
  have HN := Lib.hid (name_c t w0 hn)
  have heq := str_eqb t []
  have Hb0 := Lib.hid hb0; have Hw0 := Lib.hid hw0
  clear hR hb0 hw0 hA
  by_cases h4 : x = 4
  · subst h4
    have Hr2 := Lib.hid (show R = nameB t from Hr.out)
    go_enter Tryz.func97, Tryz.ntmps97
    go_upto_region 1 with fail
    rw [← Hw0.out]
    clear Hw0
    go_wp2_with fail
    refine HN.out.mono ?_
    rintro e w1 ⟨rfl, hbel⟩
    have Hb1 := Lib.hid (Hb0.out.trans (hbel.mono Hb0.out.size))
    clear hbel HN x0 x1 xl
    go_wp2_with fail
    go_ret
    exact ⟨ret_bool Hr2.out.symm, Hb1.out⟩
  · have h4b : (x == 4) = false := beq_eq_false_iff_ne.2 h4
    by_cases h3 : x = 3
    · subst h3
      cases lift with
      | false =>
        have Hr2 := Lib.hid (show R = false from Hr.out)
        go_enter Tryz.func97, Tryz.ntmps97
        go_upto_region 1 with fail
        rw [← Hw0.out]
        clear Hw0
        go_wp2_with fail
        go_ret
        exact ⟨ret_bool Hr2.out.symm, Hb0.out⟩
      | true =>
        have Hr2 := Lib.hid (show R = decide (t = []) from by rw [Hr.out]; simp)
        go_enter Tryz.func97, Tryz.ntmps97
        go_upto_region 1 with fail
        rw [← Hw0.out]
        clear Hw0
        go_wp2_with fail
        go_ret
        exact ⟨ret_bool (by rw [Hr2.out]; cases t <;> simp), Hb0.out⟩
    · have h3b : (x == 3) = false := beq_eq_false_iff_ne.2 h3
      by_cases h12 : x = 1 ∨ x = 2
      · have Hr2 := Lib.hid (show R = decide (t = []) from by rw [Hr.out, if_neg h4, if_neg h3, if_pos h12])
        rcases h12 with rfl | rfl
        · go_enter Tryz.func97, Tryz.ntmps97
          go_upto_region 1 with fail
          rw [← Hw0.out]
          clear Hw0
          go_wp2_with fail
          go_ret
          exact ⟨ret_bool (by rw [Hr2.out]; cases t <;> simp), Hb0.out⟩
        · go_enter Tryz.func97, Tryz.ntmps97
          go_upto_region 1 with fail
          rw [← Hw0.out]
          clear Hw0
          go_wp2_with fail
          go_ret
          exact ⟨ret_bool (by rw [Hr2.out]; cases t <;> simp), Hb0.out⟩
      · have h1b : (x == 1) = false := beq_eq_false_iff_ne.2 fun h => h12 (.inl h)
        have h2b : (x == 2) = false := beq_eq_false_iff_ne.2 fun h => h12 (.inr h)
        have Hr2 := Lib.hid (show R = false from by rw [Hr.out, if_neg h4, if_neg h3, if_neg h12])
        go_enter Tryz.func97, Tryz.ntmps97
        go_upto_region 1 with fail
        rw [← Hw0.out]
        clear Hw0
        go_wp2_with fail
        go_ret
        exact ⟨ret_bool Hr2.out.symm, Hb0.out⟩

end Go.Proofs.YtajclfjedlkbcaaGreatDoor
/- Walk: table's rising. -/
namespace Go.Proofs.YtajclfjedlkbcaaGreatDoor
open Go.RowKit Go.Redl
set_option linter.unusedVariables false
set_option linter.unusedSimpArgs false

/-- A row of texts: the k-th. -/
theorem text_at {w : World} {B : Nat} {a : Option Addr} {n c : Nat} {l : List (List UInt8)} (h : RowA w B 1 a n c (l.map strV)) (k : Nat) (hk : k < l.length) :
    ∃ b off, a = some ⟨b, off, none⟩ ∧ b < B ∧ w.cell? ⟨b, off + k, none⟩ = some (strV l[k]) := by
  obtain ⟨b, off, ha, hb, hc⟩ := h.some_ (by intro e; simp at e; subst e; simp at hk)
  exact ⟨b, off, ha, hb, hc k _ (by simp [List.getElem?_eq_getElem hk])⟩
/-- The one ahead of the k-th. -/
def aheadL (l : List (List UInt8)) : Nat → Option (List UInt8)
  | 0 => none
  | k + 1 => l[k]?
theorem rise_step {l : List (List UInt8)} {k : Nat} (hk : k < l.length) : riseGo (aheadL l k) (l.drop k) = (nameB l[k] && ((match aheadL l k with | none => true | some p => !leB l[k] p) && riseGo (aheadL l (k + 1)) (l.drop (k + 1)))) := by
  rw [List.drop_eq_getElem_cons hk, show aheadL l (k + 1) = some l[k] by show l[k]? = _; exact List.getElem?_eq_getElem hk]
  cases aheadL l k with
  | none => simp [riseGo]
  | some p => simp [riseGo]
theorem rising_ent : ∀ args w, (callFunc 48 args).run Tryz.prog w = .ok (.enter 48 args) w := by intro args w; kernel_rfl
set_option maxRecDepth 100000 in
set_option maxHeartbeats 2000000 in
theorem rising_c (l : List (List UInt8)) (a : Option Addr) (cap : Nat) (W : World) (hr : RowA W W.heap.size 1 a l.length cap (l.map strV)) (hn : l.length ≤ 100000000) (hb : ∀ t ∈ l, t.length ≤ 1000000000) :
    Calls Tryz.prog 48 #[.slice a l.length cap] W fun e w' => e = .returned (.bool (riseB l)) ∧ Below W.heap.size W w' := by
  obtain ⟨R, hR⟩ : ∃ R, R = riseB l := ⟨_, rfl⟩
  have HR := Lib.hid (show (riseGo (aheadL l 0) (l.drop 0) && decide (l.length ≤ 32)) = R from hR.symm)
  rw [← hR]
  have Hr := Lib.hid hr; have HB := Lib.hid hb
  clear hR hr hb
  go_enter Tryz.func48, Tryz.ntmps48
  go_wp2_with fail
  go_loopg [7] l.length (fun g i wr => ∃ k : Nat, i = .int .i64 k ∧ k + g = l.length ∧ Hid ((riseGo (aheadL l k) (l.drop k) && decide (l.length ≤ 32)) = R) ∧ Below W.heap.size W wr)
  case atStart => exact ⟨0, rfl, by omega, HR, Below.refl _ _⟩
  case round =>
    obtain ⟨k, rfl, hg, hst, hbr⟩ := hrel
    have Hbr := Lib.hid hbr
    by_cases hlt : k < l.length
    · have hlti : (k : Int) < l.length := by omega
      have hrr := Hr.out.keep hbr hbr.size
      obtain ⟨b, off, rfl, hlb, hc⟩ := text_at hrr k hlt
      have HN := Lib.hid (name_c l[k] wr (HB.out _ (List.getElem_mem hlt)))
      have Hst := Lib.hid ((congrArg (· && decide (l.length ≤ 32)) (rise_step hlt)).symm.trans hst.out)
      cases k with
      | zero =>
        have Hst2 := Lib.hid (show (nameB l[0] && (true && riseGo (aheadL l 1) (l.drop 1)) && decide (l.length ≤ 32)) = R from Hst.out)
        rw [Nat.add_zero] at hc
        generalize l[0] = t at hc HN Hst2
        clear hrr hbr hst Hst
        cases hnm : nameB t with
        | false =>
          have Hz := Lib.hid (show false = R by have h := Hst2.out; rw [hnm] at h; exact h)
          rw [hnm] at HN
          clear hnm Hst2
          go_wp2_with fail
          refine HN.out.mono ?_
          rintro e w1 ⟨rfl, hbel⟩
          have Hb1 := Lib.hid (Hbr.out.trans (hbel.mono Hbr.out.size))
          clear hbel HN hc
          go_wp2_with fail
          go_ret
          exact ⟨ret_bool Hz.out, Hb1.out⟩
        | true =>
          have HN2 := Lib.hid (show (riseGo (aheadL l 1) (l.drop 1) && decide (l.length ≤ 32)) = R by have h := Hst2.out; rw [hnm] at h; simpa using h)
          rw [hnm] at HN
          clear hnm Hst2
          go_wp2_with fail
          refine HN.out.mono ?_
          rintro e w1 ⟨rfl, hbel⟩
          have Hb1 := Lib.hid (Hbr.out.trans (hbel.mono Hbr.out.size))
          clear hbel HN hc
          go_wp2_with fail
          go_roundg (l.length - 1)
          case measure => omega
          case rel => exact ⟨1, by go_num, by omega, HN2, Hb1.out⟩
      | succ m =>
        have hml : m < l.length := by omega
        have hmi : (m : Int) < l.length := by omega
        have hpos : (0 : Int) < ((m + 1 : Nat) : Int) := by omega
        have hsub : IntKind.i64.wrap (((m + 1 : Nat) : Int) - 1) = (m : Int) := (IntWalk.i64_in _ (by omega)).trans (by omega)
        obtain ⟨b', off', e1, -, hc2⟩ := text_at hrr m hml
        injection e1 with e1; injection e1 with e1 e2; subst e1; subst e2
        have Hst2 := Lib.hid (show (nameB l[m + 1] && (!leB l[m + 1] l[m] && riseGo (aheadL l (m + 2)) (l.drop (m + 2))) && decide (l.length ≤ 32)) = R by
          have h := Hst.out
          rw [show aheadL l (m + 1) = some l[m] by show l[m]? = _; exact List.getElem?_eq_getElem hml] at h
          exact h)
        have Hlb := Lib.hid hlb
        generalize l[m + 1] = t at hc HN Hst2
        generalize l[m] = p at hc2 Hst2
        have Hle : Hid (leB t p = (Op.bytesLess t p || t == p)) := rfl
        clear hrr hbr hst Hst hlb
        cases hnm : nameB t with
        | false =>
          have Hz := Lib.hid (show false = R by have h := Hst2.out; rw [hnm] at h; exact h)
          rw [hnm] at HN
          clear hnm Hst2
          go_wp2_with fail
          refine HN.out.mono ?_
          rintro e w1 ⟨rfl, hbel⟩
          have Hb1 := Lib.hid (Hbr.out.trans (hbel.mono Hbr.out.size))
          have d2 := (hbel.cell (by exact Hlb.out)).trans hc2
          clear hbel HN hc hc2
          go_wp2_with fail
          go_ret
          exact ⟨ret_bool Hz.out, Hb1.out⟩
        | true =>
          have Hst3 := Lib.hid (show (!leB t p && riseGo (aheadL l (m + 2)) (l.drop (m + 2)) && decide (l.length ≤ 32)) = R by have h := Hst2.out; rw [hnm] at h; simpa using h)
          rw [hnm] at HN
          clear hnm Hst2
          cases hx : Op.bytesLess t p
          · cases hy : (t == p)
            · have HN2 := Lib.hid (show (riseGo (aheadL l (m + 1 + 1)) (l.drop (m + 1 + 1)) && decide (l.length ≤ 32)) = R by have h := Hst3.out; rw [show leB t p = false by rw [Hle.out, hx, hy]; rfl] at h; simpa using h)
              clear Hst3
              go_wp2_with fail
              refine HN.out.mono ?_
              rintro e w1 ⟨rfl, hbel⟩
              have Hb1 := Lib.hid (Hbr.out.trans (hbel.mono Hbr.out.size))
              have d2 := (hbel.cell (by exact Hlb.out)).trans hc2
              clear hbel HN hc hc2
              go_wp2_with fail
              go_roundg (l.length - (m + 1 + 1))
              case measure => omega
              case rel => exact ⟨m + 1 + 1, by go_num, by omega, HN2, Hb1.out⟩
            · have Hz := Lib.hid (show false = R by have h := Hst3.out; rw [show leB t p = true by rw [Hle.out, hx, hy]; rfl] at h; simpa using h)
              clear Hst3
              go_wp2_with fail
              refine HN.out.mono ?_
              rintro e w1 ⟨rfl, hbel⟩
              have Hb1 := Lib.hid (Hbr.out.trans (hbel.mono Hbr.out.size))
              have d2 := (hbel.cell (by exact Hlb.out)).trans hc2
              clear hbel HN hc hc2
              go_wp2_with fail
              go_ret
              exact ⟨ret_bool Hz.out, Hb1.out⟩
          · have Hz := Lib.hid (show false = R by have h := Hst3.out; rw [show leB t p = true by rw [Hle.out, hx]; rfl] at h; simpa using h)
            clear Hst3
            go_wp2_with fail
            refine HN.out.mono ?_
            rintro e w1 ⟨rfl, hbel⟩
            have Hb1 := Lib.hid (Hbr.out.trans (hbel.mono Hbr.out.size))
            have d2 := (hbel.cell (by exact Hlb.out)).trans hc2
            clear hbel HN hc hc2
            go_wp2_with fail
            go_ret
            exact ⟨ret_bool Hz.out, Hb1.out⟩
    · obtain rfl : k = l.length := by omega
      have Hfin := Lib.hid (show decide (l.length ≤ 32) = R by have h := hst.out; rw [List.drop_length] at h; cases aheadL l l.length <;> simpa [riseGo] using h)
      clear hst hbr
      by_cases h32 : l.length ≤ 32
      · have h32i : (l.length : Int) ≤ 32 := by omega
        have Hz := Lib.hid ((decide_eq_true h32).symm.trans Hfin.out)
        clear h32
        go_wp2_with fail
        go_ret
        exact ⟨ret_bool Hz.out, Hbr.out⟩
      · have h32i : ¬ (l.length : Int) ≤ 32 := by omega
        have Hz := Lib.hid ((decide_eq_false h32).symm.trans Hfin.out)
        clear h32
        go_wp2_with fail
        go_ret
        exact ⟨ret_bool (by rw [← Hz.out]), Hbr.out⟩

end Go.Proofs.YtajclfjedlkbcaaGreatDoor
/- Walks: table's small closures (a rule's type, a pair's type). -/
namespace Go.Proofs.YtajclfjedlkbcaaGreatDoor
open Go.RowKit Go.Redl
set_option linter.unusedVariables false
set_option linter.unusedSimpArgs false

theorem pairtype_ent : ∀ args w, (callFunc 99 args).run Tryz.prog w = .ok (.enter 99 args) w := by intro args w; kernel_rfl
set_option maxRecDepth 100000 in
theorem pairtype_c (x0 : List UInt8) (v1 v2 : Value) (W : World) : Calls Tryz.prog 99 #[.agg #[strV x0, v1, v2]] W fun e w' => e = .returned (strV x0) ∧ Below W.heap.size W w' := by
  have Hb := Lib.hid (one_below W (Obj.cells #[strV x0, v1, v2] 70))
  go_enter Tryz.func99, Tryz.ntmps99
  go_wp2_with fail
  go_ret
  exact ⟨rfl, Hb.out⟩
theorem ruletype_ent : ∀ args w, (callFunc 50 args).run Tryz.prog w = .ok (.enter 50 args) w := by intro args w; kernel_rfl
set_option maxRecDepth 100000 in
theorem ruletype_c (x0 : List UInt8) (v1 v2 v3 v4 v5 v6 v7 : Value) (W : World) : Calls Tryz.prog 50 #[.agg #[strV x0, v1, v2, v3, v4, v5, v6, v7]] W fun e w' => e = .returned (strV x0) ∧ Below W.heap.size W w' := by
  have Hb := Lib.hid (one_below W (Obj.cells #[strV x0, v1, v2, v3, v4, v5, v6, v7] 27))
  go_enter Tryz.func50, Tryz.ntmps50
  go_wp2_with fail
  go_ret
  exact ⟨rfl, Hb.out⟩

end Go.Proofs.YtajclfjedlkbcaaGreatDoor
/- Walk: table's types at a rule's pairs. -/
namespace Go.Proofs.YtajclfjedlkbcaaGreatDoor
open Go.RowKit Go.Redl
set_option linter.unusedVariables false
set_option linter.unusedSimpArgs false

theorem info_strT : (Tryz.prog.info? 9).map (fun i => (i.zero, i.size, i.bytes)) = some (some (.string ⟨#[]⟩), 1, 16) := by kernel_rfl
theorem made_strs (n : Nat) : madeCells (#[.string ⟨#[]⟩] : Array Value) (n * 1) = (List.replicate n (strV [])).toArray := by
  apply Array.ext'
  unfold madeCells
  simp only [Array.toList_map, Array.toList_range, Nat.mul_one]
  apply List.ext_getElem
  · simp
  · intro i h1 h2
    simp [Nat.mod_one]
theorem make_strs (n : Nat) (hn : n ≤ 100000000) (w : World) :
    (Instr.makeSlice 91 (.int .i64 (n : Int)) (.int .i64 (n : Int))).run Tryz.prog w = .ok (.slice (some ⟨w.heap.size, 0, none⟩) n n) (w.alloc (.cells (List.replicate n (strV [])).toArray 9)) := by
  obtain ⟨i, hi, hz, hs, hb⟩ : ∃ i, Tryz.prog.info? 9 = some i ∧ i.zero = some (.string ⟨#[]⟩) ∧ i.size = 1 ∧ i.bytes = 16 := by
    obtain ⟨i, hi, hzz⟩ := Option.map_eq_some_iff.1 info_strT
    simp only [Prod.mk.injEq] at hzz
    exact ⟨i, hi, hzz⟩
  have hr := run_make (P := Tryz.prog) w 91 9 i _ Tryz.underlying91 hi hz .i64 .i64 n n (by omega) (Int.le_refl _) (by rw [hb]; omega) (by omega)
  simp only [Int.toNat_natCast, hs, Value.cells] at hr
  rw [hr, made_strs]

theorem typesP_ent : ∀ args w, (callFunc 98 args).run Tryz.prog w = .ok (.enter 98 args) w := by intro args w; kernel_rfl
abbrev pairNames (l : List PairD) : List Value := l.map fun p => strV p.1
set_option maxRecDepth 100000 in
set_option maxHeartbeats 1000000 in
theorem typesP_c (l : List PairD) (a : Option Addr) (cap : Nat) (W : World) (hr : RowA W W.heap.size 3 a l.length cap (pairCells l)) (hn : l.length ≤ 100000000) :
    Calls Tryz.prog 98 #[.slice a l.length cap, .func (.func 99) #[] #[]] W fun e w' => e = .returned (.slice (some ⟨W.heap.size, 0, none⟩) l.length l.length) ∧ At w' W.heap.size (pairNames l) 9 ∧ Below W.heap.size W w' := by
  obtain ⟨w0, hw0⟩ : ∃ w0, w0 = W.alloc (.cells (List.replicate l.length (strV [])).toArray 9) := ⟨_, rfl⟩
  have hb0 : Below W.heap.size W w0 := by rw [hw0]; exact one_below _ _
  have hA : At w0 W.heap.size (List.replicate l.length (strV [])) 9 := by rw [hw0]; exact At.fresh W _ _
  have hMk := make_strs l.length hn W
  rw [← hw0] at hMk
  have Hr := Lib.hid (fun (w' : World) (hb : Below W.heap.size W w') => hr.keep hb hb.size)
  have HA := Lib.hid hA; have Hb0 := Lib.hid hb0
  have HE := pairtype_ent
  clear hr hA hb0 hw0
  go_enter Tryz.func98, Tryz.ntmps98
  go_wp2_with fail
  go_loopg [13] l.length (fun g i wr => ∃ k : Nat, i = .int .i64 k ∧ k + g = l.length ∧ Hid (At wr W.heap.size (pairNames (l.take k) ++ List.replicate (l.length - k) (strV [])) 9) ∧ Hid (Below W.heap.size W wr))
  case atStart => exact ⟨0, rfl, by omega, (show At w0 W.heap.size (pairNames (l.take 0) ++ List.replicate (l.length - 0) (strV [])) 9 by simpa using HA.out), Hb0⟩
  case round =>
    obtain ⟨k, rfl, hg, hat, hbr⟩ := hrel
    by_cases hlt : k < l.length
    · have hlti : (k : Int) < l.length := by omega
      obtain ⟨b, off, rfl, hlb, p0, p1, p2⟩ := (Hr.out wr hbr.out).pair_at k hlt
      have Hst := Lib.hid (show l.take (k + 1) = l.take k ++ [l[k]] from List.take_succ_eq_append_getElem hlt)
      generalize l[k] = q at p0 p1 p2 Hst
      obtain ⟨q0, q1, q2⟩ := q
      simp only at p0 p1 p2
      have HC := Lib.hid (fun (w1 : World) => pairtype_c q0 (.int .i64 q1) (strV q2) w1)
      clear hlb
      go_wp2_with fail
      refine (HC.out _).mono ?_
      rintro e w2 ⟨rfl, hbel⟩
      have hb2 : Below wr.heap.size wr w2 := (one_below wr (Obj.cells #[strV q0, .int .i64 q1, strV q2] 70)).trans (hbel.mono (one_below wr _).size)
      have hA2 := hat.out.kept hb2
      have Hb2 := Lib.hid (hbr.out.trans (hb2.mono hbr.out.size))
      have cf : w2.frozen? ⟨W.heap.size, k, none⟩ = false := Lib.frozen_of_heap hA2 _
      have cc : w2.cell? ⟨W.heap.size, k, none⟩ = some (strV []) := hA2.cell k (by
        have hkl : (pairNames (l.take k)).length = k := by simp; omega
        rw [List.getElem?_append_right (by omega), List.getElem?_replicate, if_pos (by omega)])
      have HA2 := Lib.hid hA2
      clear hbel hb2 hA2 HC p0 p1 p2
      go_wp2_with fail
      go_roundg (l.length - (k + 1))
      case measure => omega
      case rel =>
        refine ⟨k + 1, by go_num, by omega, ?_, (show Below _ _ _ from Hb2.out.setCell (p := ⟨W.heap.size, k, none⟩) (Nat.le_refl _) _)⟩
        show At _ W.heap.size (pairNames (l.take (k + 1)) ++ List.replicate (l.length - (k + 1)) (strV [])) 9
        have h := HA2.out.set k (strV q0)
        rw [List.set_append_right _ _ (by simp; omega)] at h
        rw [Hst.out]
        have e : l.length - k = (l.length - (k + 1)) + 1 := by omega
        rw [e, List.replicate_succ] at h
        simpa [Nat.min_eq_left (Nat.le_of_lt hlt)] using h
    · obtain rfl : k = l.length := by omega
      have Hfin := Lib.hid (show At wr W.heap.size (pairNames l) 9 by have h := hat.out; rw [List.take_length, Nat.sub_self] at h; simpa using h)
      have hnl : ¬ (l.length : Int) < l.length := by omega
      clear hat
      go_wp2_with fail
      go_ret
      exact ⟨rfl, Hfin.out, hbr.out⟩

end Go.Proofs.YtajclfjedlkbcaaGreatDoor
/- Walk: table.formed. -/
namespace Go.Proofs.YtajclfjedlkbcaaGreatDoor
open Go.RowKit Go.Redl
set_option linter.unusedVariables false
set_option linter.unusedSimpArgs false

theorem typesP_names (l : List PairD) : pairNames l = (l.map (·.1)).map strV := by simp [pairNames]
theorem row_strs {w : World} {N : Nat} {l : List (List UInt8)} {T : TypeId} (h : At w N (l.map strV) T) (hn : l.length ≤ 100000000) : RowA w (N + 1) 1 (some ⟨N, 0, none⟩) l.length l.length (l.map strV) :=
  ⟨by simp, Nat.le_refl _, by unfold maxLen; omega, (fun u hu => by obtain ⟨t, -, rfl⟩ := List.mem_map.1 hu; rfl), (fun e => by cases e), fun _ => ⟨N, 0, rfl, by omega, fun j u hj => by rw [Nat.zero_add]; exact h.cell j hj⟩⟩
theorem rising_at (l : List (List UInt8)) (n N : Nat) (w : World) (hl : l.length = n) (h : At w N (l.map strV) 9) (hn : n ≤ 100000000) (hb : ∀ t ∈ l, t.length ≤ 1000000000) :
    Calls Tryz.prog 48 #[.slice (some ⟨N, 0, none⟩) n n] w fun e w' => e = .returned (.bool (riseB l)) ∧ Below w.heap.size w w' := by
  subst hl
  exact rising_c l _ l.length w ((row_strs h hn).keep ((Below.refl _ _)) h.lt) hn hb
theorem formed_ent : ∀ args w, (callFunc 53 args).run Tryz.prog w = .ok (.enter 53 args) w := by intro args w; kernel_rfl
set_option maxRecDepth 100000 in
set_option maxHeartbeats 4000000 in
theorem formed_c (r : RuleD) (a : Option Addr) (c : Nat) (W : World) (hr : RowA W W.heap.size 3 a r.kids.length c (pairCells r.kids)) (hw : r.wt ≤ 100000000) :
    Calls Tryz.prog 53 #[.agg #[strV r.type, .int .i64 r.text.1, strV r.text.2, .int .i64 r.other.1, strV r.other.2, .slice a r.kids.length c, .int .i64 r.fill, strV r.fillT]] W fun e w' => e = .returned (.bool (formedB r)) ∧ Below W.heap.size W w' := by
  have hkl : r.kids.length ≤ 100000000 := by have := kids_wt r; omega
  have hkw : ∀ p ∈ r.kids, p.1.length ≤ 1000000000 ∧ p.2.2.length ≤ 1000000000 := fun p hp => by have := pairsWt_mem hp; unfold RuleD.wt at hw; omega
  have htl : r.text.2.length ≤ 1000000000 := by unfold RuleD.wt at hw; omega
  have hol : r.other.2.length ≤ 1000000000 := by unfold RuleD.wt at hw; omega
  have hfl : r.fillT.length ≤ 1000000000 := by unfold RuleD.wt at hw; omega
  obtain ⟨R, hR⟩ : ∃ R, R = formedB r := ⟨_, rfl⟩
  have HR := Lib.hid (show ((r.kids.drop 0).all (fun p => actB true p.2) && (fillB r && (actB false r.text && (actB true r.other && riseB (r.kids.map (·.1)))))) = R from hR.symm)
  rw [← hR]
  obtain ⟨ty, ⟨td, tt⟩, ⟨od, ot⟩, kids, fill, ft⟩ := r
  simp only at hkl hkw htl hol hfl hr HR ⊢
  obtain ⟨w0, hw0⟩ : ∃ w0, w0 = W.alloc (Obj.cells #[strV ty, .int .i64 td, strV tt, .int .i64 od, strV ot, .slice a kids.length c, .int .i64 fill, strV ft] 27) := ⟨_, rfl⟩
  have hb0 : Below W.heap.size W w0 := by rw [hw0]; exact one_below _ _
  have hA : At w0 W.heap.size [strV ty, .int .i64 td, strV tt, .int .i64 od, strV ot, .slice a kids.length c, .int .i64 fill, strV ft] 27 := by rw [hw0]; exact At.fresh W _ _
  obtain ⟨⟨x0, x1, x2, x3, x4, x5, x6, x7⟩, -, xl⟩ := hA.f8
  have Hw0 := Lib.hid hw0; have Hb0 := Lib.hid hb0; have HA := Lib.hid hA
  have Hr := Lib.hid (fun (w' : World) (hb : Below W.heap.size W w') => hr.keep hb hb.size)
  have Hkw := Lib.hid hkw; have Htl := Lib.hid htl; have Hol := Lib.hid hol; have Hfl := Lib.hid hfl
  clear hw0 hb0 hA hr hw hR hkw htl hol hfl
  go_enter Tryz.func53, Tryz.ntmps53
  go_upto_region 1 with fail
  rw [← Hw0.out]
  clear Hw0
  go_wp2_with fail
  go_loopg [9] kids.length (fun g i wr => ∃ k : Nat, i = .int .i64 k ∧ k + g = kids.length ∧ Hid (((kids.drop k).all (fun p => actB true p.2) && (fillB ⟨ty, (td, tt), (od, ot), kids, fill, ft⟩ && (actB false (td, tt) && (actB true (od, ot) && riseB (kids.map (·.1)))))) = R) ∧ Hid (Below w0.heap.size w0 wr))
  case atStart => exact ⟨0, rfl, by omega, HR, (show Below _ _ _ from Below.refl _ _)⟩
  case round =>
    obtain ⟨k, rfl, hg, hst, hbr⟩ := hrel
    have Hbr := Lib.hid (Hb0.out.trans (hbr.out.mono Hb0.out.size))
    clear x0 x1 x2 x3 x4 x5 x6 x7
    by_cases hlt : k < kids.length
    · have hlti : (k : Int) < kids.length := by omega
      obtain ⟨b, off, rfl, hlb, p0, p1, p2⟩ := (Hr.out wr Hbr.out).pair_at k hlt
      have Hst := Lib.hid (show (actB true kids[k].2 && ((kids.drop (k + 1)).all (fun p => actB true p.2) && (fillB ⟨ty, (td, tt), (od, ot), kids, fill, ft⟩ && (actB false (td, tt) && (actB true (od, ot) && riseB (kids.map (·.1))))))) = R by
        have h := hst.out
        rw [List.drop_eq_getElem_cons hlt, List.all_cons, Bool.and_assoc] at h
        exact h)
      have Hq := Lib.hid (Hkw.out _ (List.getElem_mem hlt)).2
      generalize kids[k] = q at p0 p1 p2 Hst Hq
      obtain ⟨q0, q1, q2⟩ := q
      simp only at p0 p1 p2
      have HC := Lib.hid (fun (w1 : World) => acts_c q1 q2 true w1 Hq.out)
      clear hlb hst
      cases hact : actB true (q1, q2) with
      | false =>
        have Hz := Lib.hid (show false = R by have h := Hst.out; simp only at h; rw [hact] at h; exact h)
        rw [hact] at HC
        clear Hst hact
        go_wp2_with fail
        refine (HC.out _).mono ?_
        rintro e w2 ⟨rfl, hbel⟩
        have Hb2 := Lib.hid (Hbr.out.trans (((one_below wr (Obj.cells #[strV q0, .int .i64 q1, strV q2] 70)).trans (hbel.mono (one_below wr _).size)).mono Hbr.out.size))
        clear hbel HC p0 p1 p2
        go_wp2_with fail
        go_ret
        exact ⟨ret_bool Hz.out, Hb2.out⟩
      | true =>
        have HN := Lib.hid (show ((kids.drop (k + 1)).all (fun p => actB true p.2) && (fillB ⟨ty, (td, tt), (od, ot), kids, fill, ft⟩ && (actB false (td, tt) && (actB true (od, ot) && riseB (kids.map (·.1)))))) = R by have h := Hst.out; simp only at h; rw [hact] at h; simpa using h)
        rw [hact] at HC
        clear Hst hact
        go_wp2_with fail
        refine (HC.out _).mono ?_
        rintro e w2 ⟨rfl, hbel⟩
        have Hb2 := Lib.hid (show Below w0.heap.size w0 w2 from hbr.out.trans (((one_below wr (Obj.cells #[strV q0, .int .i64 q1, strV q2] 70)).trans (hbel.mono (one_below wr _).size)).mono hbr.out.size))
        clear hbel HC p0 p1 p2
        go_wp2_with fail
        go_roundg (kids.length - (k + 1))
        case measure => omega
        case rel => exact ⟨k + 1, by go_num, by omega, HN, Hb2⟩
    · obtain rfl : k = kids.length := by omega
      have Hfin := Lib.hid (show (fillB ⟨ty, (td, tt), (od, ot), kids, fill, ft⟩ && (actB false (td, tt) && (actB true (od, ot) && riseB (kids.map (·.1))))) = R by have h := hst.out; rw [List.drop_length] at h; simpa using h)
      have hnl : ¬ (kids.length : Int) < kids.length := by omega
      obtain ⟨F, hF⟩ : ∃ F, F = fillB ⟨ty, (td, tt), (od, ot), kids, fill, ft⟩ := ⟨_, rfl⟩
      rw [← hF] at Hfin
      have HF := Lib.hid (show F = ((decide (fill = 0 ∨ fill = 1) && decide (ft = [])) || (decide (fill = 2) && nameB ft)) from hF)
      obtain ⟨⟨x0, x1, x2, x3, x4, x5, x6, x7⟩, -, xl⟩ := (HA.out.kept hbr.out).f8
      have HN := Lib.hid (name_c ft wr Hfl.out)
      have heq := str_eqb ft []
      clear hst hF
      go_upto_region 7 with fail
      go_cut [5] (fun v wx => v = .bool F ∧ Hid (Below wr.heap.size wr wx))
      case first =>
        by_cases h0 : fill = 0
        · subst h0
          cases ft with
          | nil =>
            have Hz := Lib.hid (show true = F from by rw [HF.out]; rfl)
            go_wp2_with fail
            go_meet
            case rel => exact ⟨by rw [← Hz.out], (show Below _ _ _ from Below.refl _ _)⟩
          | cons f0 fs =>
            have Hz := Lib.hid (show false = F from by rw [HF.out]; rfl)
            go_wp2_with fail
            go_meet
            case rel => exact ⟨by rw [← Hz.out], (show Below _ _ _ from Below.refl _ _)⟩
        · have h0b : (fill == 0) = false := beq_eq_false_iff_ne.2 h0
          by_cases h1 : fill = 1
          · subst h1
            cases ft with
            | nil =>
              have Hz := Lib.hid (show true = F from by rw [HF.out]; rfl)
              go_wp2_with fail
              go_meet
              case rel => exact ⟨by rw [← Hz.out], (show Below _ _ _ from Below.refl _ _)⟩
            | cons f0 fs =>
              have Hz := Lib.hid (show false = F from by rw [HF.out]; rfl)
              go_wp2_with fail
              go_meet
              case rel => exact ⟨by rw [← Hz.out], (show Below _ _ _ from Below.refl _ _)⟩
          · have h1b : (fill == 1) = false := beq_eq_false_iff_ne.2 h1
            by_cases h2 : fill = 2
            · subst h2
              have Hz := Lib.hid (show nameB ft = F from by rw [HF.out]; simp)
              go_wp2_with fail
              refine HN.out.mono ?_
              rintro e w2 ⟨rfl, hbel⟩
              have Hb2 := Lib.hid hbel
              clear hbel HN
              go_wp2_with fail
              go_meet
              case rel => exact ⟨by rw [Hz.out], Hb2⟩
            · have h2b : (fill == 2) = false := beq_eq_false_iff_ne.2 h2
              have Hz := Lib.hid (show false = F from by rw [HF.out]; simp [h0, h1, h2])
              go_wp2_with fail
              go_meet
              case rel => exact ⟨by rw [← Hz.out], (show Below _ _ _ from Below.refl _ _)⟩
      case rest =>
        obtain ⟨rfl, hbx⟩ := hcut
        have Hbx := Lib.hid (Hbr.out.trans (hbx.out.mono Hbr.out.size))
        have HA2 := Lib.hid ((HA.out.kept hbr.out).kept hbx.out)
        have HT1 := Lib.hid (fun (w1 : World) => acts_c td tt false w1 Htl.out)
        have HT2 := Lib.hid (fun (w1 : World) => acts_c od ot true w1 Hol.out)
        clear x0 x1 x2 x3 x4 x5 x6 x7 HN HF hbr hbx
        obtain ⟨⟨x0, x1, x2, x3, x4, x5, x6, x7⟩, -, xl⟩ := HA2.out.f8
        cases F with
        | false =>
          have Hz := Lib.hid (show false = R from Hfin.out)
          go_wp2_with fail
          go_ret
          exact ⟨ret_bool Hz.out, Hbx.out⟩
        | true =>
          cases ht : actB false (td, tt) with
          | false =>
            have Hz := Lib.hid (show false = R by have h := Hfin.out; rw [ht] at h; exact h)
            rw [ht] at HT1
            clear Hfin ht
            go_wp2_with fail
            refine (HT1.out _).mono ?_
            rintro e w2 ⟨rfl, hbel⟩
            have Hb2 := Lib.hid (Hbx.out.trans (hbel.mono Hbx.out.size))
            clear x0 x1 x2 x3 x4 x5 x6 x7 hbel HT1
            go_wp2_with fail
            go_ret
            exact ⟨ret_bool Hz.out, Hb2.out⟩
          | true =>
            have Hfin2 := Lib.hid (show (actB true (od, ot) && riseB (kids.map (·.1))) = R by have h := Hfin.out; rw [ht] at h; simpa using h)
            rw [ht] at HT1
            clear Hfin ht
            go_wp2_with fail
            refine (HT1.out _).mono ?_
            rintro e w2 ⟨rfl, hbel⟩
            have Hb2 := Lib.hid (Hbx.out.trans (hbel.mono Hbx.out.size))
            have HA3 := Lib.hid (HA2.out.kept hbel)
            clear x0 x1 x2 x3 x4 x5 x6 x7 hbel HT1 HA2
            obtain ⟨⟨x0, x1, x2, x3, x4, x5, x6, x7⟩, -, xl⟩ := HA3.out.f8
            cases ho : actB true (od, ot) with
            | false =>
              have Hz := Lib.hid (show false = R by have h := Hfin2.out; rw [ho] at h; exact h)
              rw [ho] at HT2
              clear Hfin2 ho
              go_wp2_with fail
              refine (HT2.out _).mono ?_
              rintro e w3 ⟨rfl, hbel⟩
              have Hb3 := Lib.hid (Hb2.out.trans (hbel.mono Hb2.out.size))
              clear x0 x1 x2 x3 x4 x5 x6 x7 hbel HT2
              go_wp2_with fail
              go_ret
              exact ⟨ret_bool Hz.out, Hb3.out⟩
            | true =>
              have Hz := Lib.hid (show riseB (kids.map (·.1)) = R by have h := Hfin2.out; rw [ho] at h; simpa using h)
              rw [ho] at HT2
              clear Hfin2 ho
              go_wp2_with fail
              refine (HT2.out _).mono ?_
              rintro e w3 ⟨rfl, hbel⟩
              have Hb3 := Lib.hid (Hb2.out.trans (hbel.mono Hb2.out.size))
              have HA4 := Lib.hid (HA3.out.kept hbel)
              have HP := Lib.hid (typesP_c kids a c w3 (Hr.out w3 Hb3.out) hkl)
              clear x0 x1 x2 x3 x4 x5 x6 x7 hbel HT2 HA3
              obtain ⟨⟨x0, x1, x2, x3, x4, x5, x6, x7⟩, -, xl⟩ := HA4.out.f8
              go_wp2_with fail
              refine HP.out.mono ?_
              rintro e w4 ⟨rfl, hat, hbel⟩
              have Hb4 := Lib.hid (Hb3.out.trans (hbel.mono Hb3.out.size))
              rw [typesP_names] at hat
              have HQ := Lib.hid (rising_at (kids.map (·.1)) kids.length _ w4 (by simp) hat hkl (fun t ht => by obtain ⟨p, hp, rfl⟩ := List.mem_map.1 ht; exact (Hkw.out p hp).1))
              clear x0 x1 x2 x3 x4 x5 x6 x7 hbel HP hat
              go_wp2_with fail
              refine HQ.out.mono ?_
              rintro e w5 ⟨rfl, hbel⟩
              have Hb5 := Lib.hid (Hb4.out.trans (hbel.mono Hb4.out.size))
              clear hbel HQ
              go_wp2_with fail
              go_ret
              exact ⟨ret_bool Hz.out, Hb5.out⟩

end Go.Proofs.YtajclfjedlkbcaaGreatDoor
/- Walk: table.settled. -/
namespace Go.Proofs.YtajclfjedlkbcaaGreatDoor
open Go.RowKit Go.Redl
set_option linter.unusedVariables false
set_option linter.unusedSimpArgs false

theorem typed_x (r : RuleD) (a : Option Addr) (c : Nat) (k : List UInt8) (W : World) (hr : RowA W W.heap.size 3 a r.kids.length c (pairCells r.kids)) (hn : r.kids.length ≤ 100000000) :
    Calls Tryz.prog 101 #[.agg #[strV r.type, .int .i64 r.text.1, strV r.text.2, .int .i64 r.other.1, strV r.other.2, .slice a r.kids.length c, .int .i64 r.fill, strV r.fillT], strV k] W (ActP W (actIn r k)) := typed_c r a c k W hr hn
/-- What is wrapped by a text's rule. -/
def badText (s : SchemaD) (r : RuleD) : Bool := decide (r.text.1 = 4) && (decide ((actIn r r.text.2).1 ≠ 1) || decide ((ruleOf s r.text.2).text.1 ≠ 1))
def lastFill (r : RuleD) : Bool := if r.fill = 1 then decide (r.text.1 = 1) else if r.fill = 2 then decide ((actIn r r.fillT).1 = 1) else true
theorem settledL_eq (s : SchemaD) (r : RuleD) (l : List (List UInt8)) : settledL s r l = (!badText s r && (l.all (wrapOk s r) && lastFill r)) := rfl
theorem int_ne1 (x : Int) : (x != 1) = decide (x ≠ 1) := by by_cases h : x = 1 <;> simp [h]
theorem field_do (x : Int) (s : List UInt8) : ∀ w : World, (Instr.field 24 (.agg #[.int .i64 x, strV s]) 0).run Tryz.prog w = .ok (.int .i64 x) w := by intro w; kernel_rfl
theorem field_text (x0 : List UInt8) (x1 : Int) (x2 : List UInt8) (x3 : Int) (x4 : List UInt8) (x5 : Option Addr) (n c : Nat) (x6 : Int) (x7 : List UInt8) : ∀ w : World, (Instr.field 27 (.agg #[strV x0, .int .i64 x1, strV x2, .int .i64 x3, strV x4, .slice x5 n c, .int .i64 x6, strV x7]) 1).run Tryz.prog w = .ok (.agg #[.int .i64 x1, strV x2]) w := by intro w; kernel_rfl
theorem settled_ent : ∀ args w, (callFunc 55 args).run Tryz.prog w = .ok (.enter 55 args) w := by intro args w; kernel_rfl
set_option maxRecDepth 100000 in
set_option maxHeartbeats 8000000 in
theorem settled_c (s : SchemaD) (v : Value) (r : RuleD) (a : Option Addr) (c : Nat) (l : List (List UInt8)) (na : Option Addr) (nc : Nat) (W : World) (hw : s.wt ≤ 100000000) (hv : SchemaV W W.heap.size s v) (hr : RowA W W.heap.size 3 a r.kids.length c (pairCells r.kids)) (hk : r.kids.length ≤ 100000000)
    (hl : RowA W W.heap.size 1 na l.length nc (l.map strV)) (hll : l.length ≤ 1000000000) :
    Calls Tryz.prog 55 #[v, .agg #[strV r.type, .int .i64 r.text.1, strV r.text.2, .int .i64 r.other.1, strV r.other.2, .slice a r.kids.length c, .int .i64 r.fill, strV r.fillT], .slice na l.length nc] W fun e w' => e = .returned (.bool (settledL s r l)) ∧ Below W.heap.size W w' := by
  have Hv := Lib.hid (fun (w' : World) (hb : Below W.heap.size W w') => hv.keep hb hb.size)
  have Hr := Lib.hid (fun (w' : World) (hb : Below W.heap.size W w') (k : List UInt8) => typed_x r a c k w' (hr.keep hb hb.size) hk)
  have Hl := Lib.hid (fun (w' : World) (hb : Below W.heap.size W w') => hl.keep hb hb.size)
  obtain ⟨sa, sc, css, ea, ec, o0, o1, o2, o3, o4, o5, rfl, -, -, -, -⟩ := hv.open
  have HO := Lib.hid (fun (w' : World) (hb : Below W.heap.size W w') (k : List UInt8) => ruleOf_c s _ k w' hw (Hv.out w' hb))
  have Hkl := Lib.hid (fun (k : List UInt8) => show (ruleOf s k).kids.length ≤ 100000000 by have := kids_wt (ruleOf s k); have := ruleOf_wt s k; omega)
  obtain ⟨R, hR⟩ : ∃ R, R = settledL s r l := ⟨_, rfl⟩
  have HR := Lib.hid (show (!badText s r && ((l.drop 0).all (wrapOk s r) && lastFill r)) = R from hR.symm)
  rw [← hR]
  obtain ⟨w0, hw0⟩ : ∃ w0, w0 = ((W.alloc (Obj.cells #[.slice sa s.rules.length sc, strV s.els.type, .int .i64 s.els.text.1, strV s.els.text.2, .int .i64 s.els.other.1, strV s.els.other.2, .slice ea s.els.kids.length ec, .int .i64 s.els.fill, strV s.els.fillT, .int .i64 o0, .int .i64 o1, .int .i64 o2, .int .i64 o3, .int .i64 o4, .int .i64 o5, .int .i64 s.cap] 30)).alloc (Obj.cells #[strV r.type, .int .i64 r.text.1, strV r.text.2, .int .i64 r.other.1, strV r.other.2, .slice a r.kids.length c, .int .i64 r.fill, strV r.fillT] 27)).alloc (Obj.cells #[.int .i64 r.text.1, strV r.text.2] 24) := ⟨_, rfl⟩
  have hb0 : Below W.heap.size W w0 := by rw [hw0]; exact three_below _ _ _ _
  have hA : At w0 W.heap.size [.slice sa s.rules.length sc, strV s.els.type, .int .i64 s.els.text.1, strV s.els.text.2, .int .i64 s.els.other.1, strV s.els.other.2, .slice ea s.els.kids.length ec, .int .i64 s.els.fill, strV s.els.fillT, .int .i64 o0, .int .i64 o1, .int .i64 o2, .int .i64 o3, .int .i64 o4, .int .i64 o5, .int .i64 s.cap] 30 := by rw [hw0]; exact ((At.fresh W _ _).alloc _).alloc _
  have hX : At w0 (W.heap.size + 1) [strV r.type, .int .i64 r.text.1, strV r.text.2, .int .i64 r.other.1, strV r.other.2, .slice a r.kids.length c, .int .i64 r.fill, strV r.fillT] 27 := by rw [hw0]; exact (At.second W _ _ _).alloc _
  have hY : At w0 (W.heap.size + 1 + 1) [.int .i64 r.text.1, strV r.text.2] 24 := by rw [hw0]; exact At.third W _ _ _ _
  have hld := fun (w' : World) (h : At w' W.heap.size [.slice sa s.rules.length sc, strV s.els.type, .int .i64 s.els.text.1, strV s.els.text.2, .int .i64 s.els.other.1, strV s.els.other.2, .slice ea s.els.kids.length ec, .int .i64 s.els.fill, strV s.els.fillT, .int .i64 o0, .int .i64 o1, .int .i64 o2, .int .i64 o3, .int .i64 o4, .int .i64 o5, .int .i64 s.cap] 30) => load_at (P := Tryz.prog) h Tryz.underlying30 rfl (by kernel_rfl)
  simp [go_sem] at hld
  have HLD := Lib.hid hld
  have hlr := fun (w' : World) (h : At w' (W.heap.size + 1) [strV r.type, .int .i64 r.text.1, strV r.text.2, .int .i64 r.other.1, strV r.other.2, .slice a r.kids.length c, .int .i64 r.fill, strV r.fillT] 27) => load_at (P := Tryz.prog) h Tryz.underlying27 rfl (by kernel_rfl)
  simp [go_sem] at hlr
  have HLR := Lib.hid hlr
  have Hw0 := Lib.hid hw0; have Hb0 := Lib.hid hb0; have HA := Lib.hid hA; have HX := Lib.hid hX; have HY := Lib.hid hY
  have hld0 := hld w0 hA
  have hlr0 := hlr w0 hX
  have xl := hX.lt
  obtain ⟨⟨y0, y1⟩, -, yl⟩ := hY.f2
  have HT := Lib.hid (Hr.out w0 hb0 r.text.2)
  clear hv hw hr hl hld hlr hw0 hb0 hA hX hY hR
  go_enter Tryz.func55, Tryz.ntmps55
  go_upto_region 2 with fail
  rw [← Hw0.out]
  clear Hw0
  go_cut [32] (fun b wx => b = .bool (badText s r) ∧ Hid (Below w0.heap.size w0 wx))
  case first =>
    by_cases h4 : r.text.1 = 4
    ·
      obtain ⟨A1, hA1⟩ : ∃ A1, A1 = actIn r r.text.2 := ⟨_, rfl⟩
      obtain ⟨D1, hD1⟩ : ∃ D1, D1 = (ruleOf s r.text.2).text.1 := ⟨_, rfl⟩
      have HB := Lib.hid (show badText s r = (decide (A1.1 ≠ 1) || decide (D1 ≠ 1)) by unfold badText; rw [h4, ← hA1, ← hD1]; simp)
      rw [← hA1] at HT
      rw [h4] at y0
      have HD1 := Lib.hid hD1
      obtain ⟨a1, t1⟩ := A1
      simp only at HB
      clear hA1 hD1 h4
      have hfa := field_do
      have hft := field_text
      go_wp2_with fail
      refine HT.out.mono ?_
      rintro e w1 ⟨rfl, hbel⟩
      by_cases ha1 : a1 = 1
      ·
        subst ha1
        have HOx := Lib.hid (HO.out w1 (Hb0.out.trans (hbel.mono Hb0.out.size)) r.text.2)
        have Hb1 := Lib.hid hbel
        have hld1 := HLD.out w1 (HA.out.kept hbel)
        obtain ⟨⟨z0, z1⟩, -, zl⟩ := (HY.out.kept hbel).f2
        clear hbel HT hlr0 y0 y1 hld0
        go_wp2_with fail
        refine HOx.out.mono ?_
        rintro e w2 ⟨ka, kc, rfl, -, hbel⟩
        have Hb2 := Lib.hid (Hb1.out.trans (hbel.mono Hb1.out.size))
        clear hbel HOx z0 z1 hld1
        rw [← HD1.out]
        have hne := int_ne1 D1
        go_wp2_with fail
        go_meet
        case rel => exact ⟨by rw [HB.out]; simp, Hb2⟩
      · have h1b : (a1 == 1) = false := beq_eq_false_iff_ne.2 ha1
        have Hz := Lib.hid (show badText s r = true by rw [HB.out]; simp [ha1])
        have hne1 : (a1 != 1) = true := by simp [ha1]
        have Hb1 := Lib.hid hbel
        clear hbel HT hlr0 y0 y1 hld0
        go_wp2_with fail
        go_meet
        case rel => exact ⟨by rw [Hz.out], Hb1⟩
    ·
      have h4b : (r.text.1 == 4) = false := beq_eq_false_iff_ne.2 h4
      have Hz := Lib.hid (show badText s r = false by unfold badText; simp [h4])
      go_wp2_with fail
      go_meet
      case rel => exact ⟨by rw [Hz.out], (show Below _ _ _ from Below.refl _ _)⟩
  case rest =>
    obtain ⟨wC, rfl⟩ : ∃ wC, wC = wc := ⟨_, rfl⟩
    obtain ⟨rfl, hbx⟩ := hcut
    have HA2 := Lib.hid (HA.out.kept hbx.out)
    have HX2 := Lib.hid (HX.out.kept hbx.out)
    have Hbx := Lib.hid (Hb0.out.trans (hbx.out.mono Hb0.out.size))
    have hxl2 := HX2.out.lt
    obtain ⟨B, hB⟩ : ∃ B, B = badText s r := ⟨_, rfl⟩
    rw [← hB] at HR ⊢
    clear hB y0 y1 yl hld0 hlr0 HT hbx HA HX HY xl
    cases B with
    | true =>
      have Hz := Lib.hid (show false = R from HR.out)
      go_wp2_with fail
      go_ret
      exact ⟨ret_bool Hz.out, Hbx.out⟩
    | false =>
      have HR2 := Lib.hid (show ((l.drop 0).all (wrapOk s r) && lastFill r) = R from HR.out)
      clear HR
      go_wp2_with fail
      go_loopg [35] l.length (fun g i wr => ∃ k : Nat, i = .int .i64 k ∧ k + g = l.length ∧ Hid (((l.drop k).all (wrapOk s r) && lastFill r) = R) ∧ Hid (Below wC.heap.size wC wr))
      case atStart => exact ⟨0, rfl, by omega, HR2, (show Below _ _ _ from Below.refl _ _)⟩
      case round =>
        obtain ⟨k, rfl, hg, hst, hbr⟩ := hrel
        have Hbr := Lib.hid (Hbx.out.trans (hbr.out.mono Hbx.out.size))
        have hHX := HX2.out.kept hbr.out
        have hHA := HA2.out.kept hbr.out
        have hxl3 := hHX.lt
        have hlr0 := HLR.out wr hHX
        have HX3 := Lib.hid hHX; have HA3 := Lib.hid hHA
        clear hHX hHA
        by_cases hlt : k < l.length
        · have hlti : (k : Int) < l.length := by omega
          obtain ⟨b, off, rfl, hlb, hc⟩ := text_at (Hl.out wr Hbr.out) k hlt
          have Hst := Lib.hid (show (wrapOk s r l[k] && ((l.drop (k + 1)).all (wrapOk s r) && lastFill r)) = R by
            have h := hst.out
            rw [List.drop_eq_getElem_cons hlt, List.all_cons, Bool.and_assoc] at h
            exact h)
          generalize l[k] = x at hc Hst
          have HT := Lib.hid (Hr.out wr Hbr.out x)
          obtain ⟨A1, hA1⟩ : ∃ A1, A1 = actIn r x := ⟨_, rfl⟩
          rw [← hA1] at HT
          have HW := Lib.hid (show wrapOk s r x = !(decide (A1.1 = 4) && (decide ((actIn r A1.2).1 ≠ 1) || decide ((actIn (ruleOf s A1.2) x).1 ≠ 1))) by rw [hA1]; rfl)
          obtain ⟨a1, t1⟩ := A1
          simp only at HW
          clear hA1 hst hlb
          have hfa := field_do
          go_wp2_with fail
          refine HT.out.mono ?_
          rintro e w1 ⟨rfl, hbel⟩
          have Hb1 := Lib.hid (hbr.out.trans (hbel.mono hbr.out.size))
          clear hbel HT hc hlr0
          obtain ⟨w2, hw2⟩ : ∃ w2, w2 = w1.alloc (Obj.cells #[.int .i64 a1, strV t1] 24) := ⟨_, rfl⟩
          have hb2 : Below wC.heap.size wC w2 := by rw [hw2]; exact Hb1.out.trans ((one_below w1 _).mono Hb1.out.size)
          have hY : At w2 w1.heap.size [.int .i64 a1, strV t1] 24 := by rw [hw2]; exact At.fresh w1 _ _
          have Hw2 := Lib.hid hw2; have Hb2 := Lib.hid hb2
          have hb2w := Hbx.out.trans (hb2.mono Hbx.out.size)
          have Hb2w := Lib.hid hb2w
          have HY := Lib.hid hY
          obtain ⟨⟨y0, y1⟩, -, yl⟩ := hY.f2
          have hlr0 := HLR.out w2 (HX2.out.kept hb2)
          have HT := Lib.hid (Hr.out w2 hb2w t1)
          have hxl4 := (HX2.out.kept hb2).lt
          clear hw2 hb2 hY hb2w
          go_upto_region 8 with fail
          rw [← Hw2.out]
          clear Hw2
          go_cut [62] (fun b wx => b = .bool (!wrapOk s r x) ∧ Hid (Below w2.heap.size w2 wx))
          case first =>
            by_cases h4 : a1 = 4
            ·
              subst h4
              obtain ⟨A2, hA2⟩ : ∃ A2, A2 = actIn r t1 := ⟨_, rfl⟩
              obtain ⟨Q, hQ⟩ : ∃ Q, Q = ruleOf s t1 := ⟨_, rfl⟩
              rw [← hA2] at HT
              have HB := Lib.hid (show (!wrapOk s r x) = (decide (A2.1 ≠ 1) || decide ((actIn Q x).1 ≠ 1)) by rw [HW.out, ← hA2, ← hQ]; simp)
              have HQ := Lib.hid hQ
              have Hkq := Lib.hid (show Q.kids.length ≤ 100000000 by rw [hQ]; exact Hkl.out t1)
              obtain ⟨a2, t2⟩ := A2
              simp only at HB
              clear hA2 hQ
              have hft := field_text
              go_wp2_with fail
              refine HT.out.mono ?_
              rintro e w3 ⟨rfl, hbel⟩
              by_cases ha2 : a2 = 1
              · subst ha2
                have HOx := Lib.hid (HO.out w3 (Hb2w.out.trans (hbel.mono Hb2w.out.size)) t1)
                rw [← HQ.out] at HOx
                have Hb3 := Lib.hid hbel
                have hld1 := HLD.out w3 (HA2.out.kept (Hb2.out.trans (hbel.mono Hb2.out.size)))
                obtain ⟨⟨z0, z1⟩, -, zl⟩ := (HY.out.kept hbel).f2
                clear hbel HT y0 y1 hlr0
                go_wp2_with fail
                refine HOx.out.mono ?_
                rintro e w4 ⟨ka, kc, rfl, hq, hbel⟩
                have Hb4 := Lib.hid (Hb3.out.trans (hbel.mono Hb3.out.size))
                have HTQ := Lib.hid (typed_x Q ka kc x w4 hq.row Hkq.out)
                obtain ⟨A3, hA3⟩ : ∃ A3, A3 = actIn Q x := ⟨_, rfl⟩
                rw [← hA3] at HTQ HB
                obtain ⟨a3, t3⟩ := A3
                simp only at HB
                clear hbel HOx z0 z1 hld1 hq hA3
                go_wp2_with fail
                refine HTQ.out.mono ?_
                rintro e w5 ⟨rfl, hbel⟩
                have Hb5 := Lib.hid (Hb4.out.trans (hbel.mono Hb4.out.size))
                have hne := int_ne1 a3
                clear hbel HTQ
                go_wp2_with fail
                go_meet
                case rel => exact ⟨by rw [HB.out]; simp, Hb5⟩
              · have h1b : (a2 == 1) = false := beq_eq_false_iff_ne.2 ha2
                have Hz := Lib.hid (show (!wrapOk s r x) = true by rw [HB.out]; simp [ha2])
                have hne1 : (a2 != 1) = true := by simp [ha2]
                have Hb3 := Lib.hid hbel
                clear hbel HT y0 y1 hlr0
                go_wp2_with fail
                go_meet
                case rel => exact ⟨by rw [Hz.out], Hb3⟩
            · have h4b : (a1 == 4) = false := beq_eq_false_iff_ne.2 h4
              have Hz := Lib.hid (show (!wrapOk s r x) = false by rw [HW.out]; simp [h4])
              go_wp2_with fail
              go_meet
              case rel => exact ⟨by rw [Hz.out], (show Below _ _ _ from Below.refl _ _)⟩
          case rest =>
            obtain ⟨rfl, hby⟩ := hcut
            have Hb3 := Lib.hid (show Below wC.heap.size wC _ from Hb2.out.trans (hby.out.mono Hb2.out.size))
            obtain ⟨B, hB⟩ : ∃ B, B = wrapOk s r x := ⟨_, rfl⟩
            rw [← hB] at Hst ⊢
            clear hB y0 y1 yl hlr0 HT hby HY HW
            cases B with
            | false =>
              have Hz := Lib.hid (show false = R from Hst.out)
              go_wp2_with fail
              go_ret
              exact ⟨ret_bool Hz.out, Hbx.out.trans (Hb3.out.mono Hbx.out.size)⟩
            | true =>
              have HN := Lib.hid (show ((l.drop (k + 1)).all (wrapOk s r) && lastFill r) = R from Hst.out)
              go_wp2_with fail
              go_roundg (l.length - (k + 1))
              case measure => omega
              case rel => exact ⟨k + 1, by go_num, by omega, HN, Hb3⟩
        · obtain rfl : k = l.length := by omega
          have Hfin := Lib.hid (show lastFill r = R by have h := hst.out; rw [List.drop_length] at h; simpa using h)
          have hnl : ¬ (l.length : Int) < l.length := by omega
          have HT := Lib.hid (Hr.out wr Hbr.out r.fillT)
          obtain ⟨⟨x0, x1, x2, x3, x4, x5, x6, x7⟩, -, xl⟩ := HX3.out.f8
          have hfa := field_do
          clear hst x0 x2 x3 x4 x5
          by_cases h1 : r.fill = 1
          · have Hz := Lib.hid (show decide (r.text.1 = 1) = R by rw [← Hfin.out]; unfold lastFill; rw [if_pos h1])
            rw [h1] at x6
            have heq1 : (r.text.1 == 1) = decide (r.text.1 = 1) := by by_cases h : r.text.1 = 1 <;> simp [h]
            clear h1 hlr0
            go_wp2_with fail
            go_ret
            exact ⟨ret_bool (by rw [← Hz.out]), Hbr.out⟩
          · have h1b : (r.fill == 1) = false := beq_eq_false_iff_ne.2 h1
            by_cases h2 : r.fill = 2
            · have Hz := Lib.hid (show decide ((actIn r r.fillT).1 = 1) = R by rw [← Hfin.out]; unfold lastFill; rw [if_neg h1, if_pos h2])
              obtain ⟨A1, hA1⟩ : ∃ A1, A1 = actIn r r.fillT := ⟨_, rfl⟩
              rw [← hA1] at HT Hz
              obtain ⟨a1, t1⟩ := A1
              simp only at Hz
              rw [h2] at x6
              have heq1 : (a1 == 1) = decide (a1 = 1) := by by_cases h : a1 = 1 <;> simp [h]
              clear h1 h1b h2 hA1
              go_wp2_with fail
              refine HT.out.mono ?_
              rintro e w1 ⟨rfl, hbel⟩
              have Hb1 := Lib.hid (Hbr.out.trans (hbel.mono Hbr.out.size))
              clear hbel HT hlr0
              go_wp2_with fail
              go_ret
              exact ⟨ret_bool (by rw [← Hz.out]), Hb1.out⟩
            · have h2b : (r.fill == 2) = false := beq_eq_false_iff_ne.2 h2
              have Hz := Lib.hid (show true = R by rw [← Hfin.out]; unfold lastFill; rw [if_neg h1, if_neg h2])
              clear hlr0
              go_wp2_with fail
              go_ret
              exact ⟨ret_bool Hz.out, Hbr.out⟩

end Go.Proofs.YtajclfjedlkbcaaGreatDoor
