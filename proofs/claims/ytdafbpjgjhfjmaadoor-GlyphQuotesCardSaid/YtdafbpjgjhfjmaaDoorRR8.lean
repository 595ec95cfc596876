/- Walks: the reference's escape. -/
import Derived.Test.YtdafbpjgjhfjmaaDoorRR1
import Derived.Test.YtdafbpjgjhfjmaaDoorRS4
import Derived.Deep.QuietTactic
import Derived.BigQuiet
namespace Go.Proofs.YtdafbpjgjhfjmaaDoor
open Go.RowKit Go.Redl Go.BigFrame
set_option linter.unusedVariables false

theorem ret_esc {t : List UInt8} {a b : Int} {c : Bool} (h : escR t = (a, b, c)) : Ending.returned (.tuple #[.int .i32 a, .int .i64 b, .bool c]) = .returned (.tuple #[.int .i32 (escR t).1, .int .i64 (escR t).2.1, .bool (escR t).2.2]) := by rw [h]
theorem ris_q (c : Int) (b : Bool) (h : validB c = b) (w : World) (q : Nat) : Calls Tryd.prog 32 #[.int .i32 c] (w.drewN q) fun e w' => e = .returned (.bool b) ∧ ∃ m, w' = w.drewN m :=
  Calls.quiet_of_same ((ris_c c _).mono fun e w' h1 => ⟨by rw [h1.1, h], h1.2.symm⟩)
theorem rplain_q (c : Int) (b : Bool) (h : plainB c = b) (w : World) (q : Nat) : Calls Tryd.prog 39 #[.int .i32 c] (w.drewN q) fun e w' => e = .returned (.bool b) ∧ ∃ m, w' = w.drewN m :=
  Calls.quiet_of_same ((rplain_c c _).mono fun e w' h1 => ⟨by rw [h1.1, h], h1.2.symm⟩)
theorem rhex_q (n : Nat) (hn : n ≤ 2000000000) (S : ByteArray) (h : S = ⟨(hexL n).toArray⟩) (w : World) (q : Nat) : Calls Tryd.prog 40 #[.int .i32 n] (w.drewN q) fun e w' => e = .returned (.string S) ∧ ∃ m, w' = w.drewN m :=
  Calls.quiet_of_same ((rhex_c n _ hn).mono fun e w' h1 => ⟨by rw [h1.1, h], h1.2.symm⟩)

set_option maxRecDepth 100000 in
set_option maxHeartbeats 4000000 in
theorem escape_c (t : List UInt8) (w : World) (hn : t.length ≤ 1000000) :
    Calls Tryd.prog 42 #[.string ⟨t.toArray⟩] w fun e w' => e = .returned (.tuple #[.int .i32 (escR t).1, .int .i64 (escR t).2.1, .bool (escR t).2.2]) ∧ Drawn w w' := by
  have Hall : Hid (∀ (k : Nat) (x : UInt8), t[k]? = some x → ∀ h, (⟨t.toArray⟩ : ByteArray)[k]'h = x) := by
    show ∀ (k : Nat) (x : UInt8), t[k]? = some x → ∀ h, (⟨t.toArray⟩ : ByteArray)[k]'h = x
    intro k x hx h
    exact Option.some.inj ((List.getElem?_eq_getElem (l := t) h).symm.trans hx)
  have Hcut : Hid (∀ k, k ≤ t.length → (⟨t.toArray⟩ : ByteArray).extract 0 k = ⟨(t.take k).toArray⟩) := by
    show ∀ k, k ≤ t.length → (⟨t.toArray⟩ : ByteArray).extract 0 k = ⟨(t.take k).toArray⟩
    intro k hk
    rw [ByteArray.extract_mk]; simp
  have hsz : (⟨t.toArray⟩ : ByteArray).size = t.length := rfl
  generalize (⟨t.toArray⟩ : ByteArray) = S at Hall hsz Hcut ⊢
  go_enter Tryd.func42, Tryd.ntmps42
  go_wp2_with fail
  go_loopw [5, 10] (fun n i wr => ∃ k acc : Nat, i = .int .i64 k ∧ n = .int .i32 acc ∧ HexTo t k acc ∧ w = wr) (fun _ i _ => t.length - (intOf i).toNat)
  case atStart => exact ⟨0, 0, rfl, rfl, HexTo.zero t, rfl⟩
  case round =>
    obtain ⟨k, acc, rfl, rfl, hx, rfl⟩ := hrel
    have hkl := hx.le
    have hk6 := hx.six
    have hsm := hx.small
    have Hx := Lib.hid hx
    clear hx
    by_cases hlt : k < t.length
    · have hg := Hall.out k t[k] (List.getElem?_eq_getElem hlt)
      have hx8 := t[k].toNat_lt
      have Hbad := Lib.hid (fun h1 h2 => esc_bad Hx.out hlt h1 h2)
      have Hstep := Lib.hid (fun h1 h2 => Hx.out.step hlt h1 h2)
      have Hno59 := Lib.hid (fun h1 h2 => esc_no Hx.out hlt h1 h2)
      have Hyes := Lib.hid (fun h1 h2 h3 h4 => esc_yes Hx.out hlt h1 h2 h3 h4)
      have Hc := Hcut.out k hkl
      generalize t[k] = c at hg hx8 Hbad Hstep Hno59 Hyes
      by_cases h59 : c = 59
      · have hc59 : (c.toNat : Int) = 59 := by subst h59; rfl
        have H59 := Lib.hid h59
        clear h59 hx8 Hbad Hstep
        cases k with
        | zero =>
          have Hno : Hid (escR t = (0, 0, false)) := escR_none (Hno59.out H59.out (.inl rfl))
          clear Hc
          go_wp2_with fail
          go_quiet (fail)
          go_wp2_with fail
          go_ret3
          exact ⟨ret_esc Hno.out, by first | exact drawn_one _ _ | exact drawn_two _ _ _⟩
        | succ j =>
          have hj0 : (((j + 1 : Nat) : Int) == 0) = false := by simp only [beq_eq_false_iff_ne, ne_eq]; omega
          have hj1 : (((j : Int) + 1) == 0) = false := by simp only [beq_eq_false_iff_ne, ne_eq]; omega
          cases hv : validB acc with
          | false =>
            have Hno : Hid (escR t = (0, 0, false)) := escR_none (Hno59.out H59.out (.inr (.inl hv)))
            have HV := fun q => Lib.hid (ris_q acc false hv w q)
            clear Hc hv
            go_wp2_with fail
            go_quiet (first | (go_at_call 32; exact (HV _).out))
            go_wp2_with fail
            go_ret3
            exact ⟨ret_esc Hno.out, by first | exact drawn_one _ _ | exact drawn_two _ _ _⟩
          | true =>
            have HV := fun q => Lib.hid (ris_q acc true hv w q)
            cases hp : plainB acc with
            | true =>
              have Hno : Hid (escR t = (0, 0, false)) := escR_none (Hno59.out H59.out (.inr (.inr (.inl hp))))
              have HP := fun q => Lib.hid (rplain_q acc true hp w q)
              clear Hc hv hp
              go_wp2_with fail
              go_quiet (first | (go_at_call 32; exact (HV _).out) | (go_at_call 39; exact (HP _).out))
              go_wp2_with fail
              go_ret3
              exact ⟨ret_esc Hno.out, by first | exact drawn_one _ _ | exact drawn_two _ _ _⟩
            | false =>
              have HP := fun q => Lib.hid (rplain_q acc false hp w q)
              by_cases hh : hexL acc = t.take (j + 1)
              · have Hr : Hid (escR t = ((acc : Int), (((j + 1 : Nat) : Int) + 1), true)) := by
                  show escR t = _
                  have hl : (hexL acc).length = j + 1 := by rw [hh]; simp; omega
                  rw [escR_some (Hyes.out H59.out hv hp hh), hl]
                rw [← hh] at Hc
                obtain ⟨T, hT⟩ : ∃ T, T = (⟨(hexL acc).toArray⟩ : ByteArray) := ⟨_, rfl⟩
                rw [← hT] at Hc
                obtain ⟨X, hX⟩ : ∃ X, X = S.extract 0 (j + 1) := ⟨_, rfl⟩
                have hbe : (T.toList == (S.extract 0 (j + 1)).toList) = true := by rw [Hc]; simp
                have HH := fun q => Lib.hid (rhex_q acc (by omega) T hT w q)
                have hw1 : IntKind.i64.wrap ((j : Int) + 1 + 1) = (j : Int) + 1 + 1 := IntWalk.i64_in _ (by omega)
                clear hv hp hh hT Hc hX
                go_wp2_with fail
                refine wp_region_quiet_lit (by kernel_rfl) (by kernel_rfl) ?_
                repeat (go_big_quiet_step (first | (go_at_call 32; exact (HV _).out) | (go_at_call 39; exact (HP _).out) | (go_at_call 40; exact (HH _).out)))
                refine wpQuiet_nil ?_
                intro _ hw'
                obtain ⟨nq, hw''⟩ := hw'
                subst hw''
                go_wp2_with fail
                go_ret3
                exact ⟨(ret_esc Hr.out), by first | exact drawn_one _ _ | exact drawn_two _ _ _⟩
              · have Hno : Hid (escR t = (0, 0, false)) := escR_none (Hno59.out H59.out (.inr (.inr (.inr hh))))
                obtain ⟨T, hT⟩ : ∃ T, T = (⟨(hexL acc).toArray⟩ : ByteArray) := ⟨_, rfl⟩
                have HH := fun q => Lib.hid (rhex_q acc (by omega) T hT w q)
                obtain ⟨U, hU⟩ : ∃ U, U = (⟨(t.take (j + 1)).toArray⟩ : ByteArray) := ⟨_, rfl⟩
                rw [← hU] at Hc
                have hne : (T.toList == (S.extract 0 (j + 1)).toList) = false := by rw [Hc, hT, hU, ByteArray.toList_mk, ByteArray.toList_mk]; simpa using hh
                clear hv hp hh hT hU Hc
                go_wp2_with fail
                go_quiet (first | (go_at_call 32; exact (HV _).out) | (go_at_call 39; exact (HP _).out) | (go_at_call 40; exact (HH _).out))
                go_wp2_with fail
                go_ret3
                exact ⟨ret_esc Hno.out, by first | exact drawn_one _ _ | exact drawn_two _ _ _⟩
      · have hc59 : ((c.toNat : Int) == 59) = false := by
          have : c.toNat ≠ 59 := fun h => h59 (UInt8.toNat_inj.1 h)
          simp only [beq_eq_false_iff_ne, ne_eq]; omega
        have H59 := Lib.hid h59
        clear h59 Hno59 Hyes Hc
        by_cases h6 : k = 6
        · have Hno : Hid (escR t = (0, 0, false)) := escR_none (Hbad.out H59.out (.inr h6))
          subst h6
          go_wp2_with fail
          go_ret3
          exact ⟨ret_esc Hno.out, drawn_zero _⟩
        · have h6b : ((k : Int) == 6) = false := by simp only [beq_eq_false_iff_ne, ne_eq]; omega
          have hk5 : k ≤ 5 := by omega
          have hacc := Hx.out.less hk5
          clear h6
          have Hv : Hid (hexVal c = if c.toNat ≤ 57 then c.toNat - 48 else c.toNat - 87) := rfl
          have Hl : Hid (lowhexB c = (decide (48 ≤ c.toNat ∧ c.toNat ≤ 57) || decide (97 ≤ c.toNat ∧ c.toNat ≤ 102))) := rfl
          by_cases ha : 48 ≤ c.toNat ∧ c.toNat ≤ 57
          · obtain ⟨ha1, ha2⟩ := ha
            have Hs2 : Hid (HexTo t (k + 1) (acc * 16 + hexVal c)) := Hstep.out hk5 (by rw [Hl.out, decide_eq_true ⟨ha1, ha2⟩]; rfl)
            have Hv2 : Hid (hexVal c = c.toNat - 48) := by show hexVal c = _; rw [Hv.out, if_pos ha2]
            clear Hstep
            go_wp2_with fail
            go_roundw
            case rel => exact ⟨k + 1, acc * 16 + hexVal c, by go_num, by rw [Hv2.out]; congr 1; omega, Hs2.out, trivial⟩
            case measure => simp [intOf]; omega
          · have hb1 : c.toNat < 48 ∨ 57 < c.toNat := by omega
            by_cases hb : 97 ≤ c.toNat ∧ c.toNat ≤ 102
            · obtain ⟨hb2, hb3⟩ := hb
              have hb4 : decide ((c.toNat : Int) ≤ 57) = false := decide_eq_false (by omega)
              have Hs2 : Hid (HexTo t (k + 1) (acc * 16 + hexVal c)) := Hstep.out hk5 (by rw [Hl.out, decide_eq_true (show 97 ≤ c.toNat ∧ c.toNat ≤ 102 from ⟨hb2, hb3⟩)]; simp)
              have Hv2 : Hid (hexVal c = c.toNat - 87) := by show hexVal c = _; rw [Hv.out, if_neg (by omega)]
              clear Hstep ha hb1
              go_wp2_with fail
              go_roundw
              case rel => exact ⟨k + 1, acc * 16 + hexVal c, by go_num, by rw [Hv2.out]; congr 1; omega, Hs2.out, trivial⟩
              case measure => simp [intOf]; omega
            · have Hno : Hid (escR t = (0, 0, false)) := escR_none (Hbad.out H59.out (.inl (by rw [Hl.out, decide_eq_false ha, decide_eq_false hb]; rfl)))
              clear Hstep
              by_cases h1 : c.toNat < 48
              · have h2 : c.toNat < 97 := by omega
                clear ha hb hb1
                go_wp2_with fail
                go_ret3
                exact ⟨ret_esc Hno.out, drawn_zero _⟩
              · have h1' : 48 ≤ c.toNat := by omega
                have hb4 : decide ((c.toNat : Int) ≤ 57) = false := decide_eq_false (by omega)
                by_cases h2 : c.toNat < 97
                · clear ha hb hb1 h1
                  go_wp2_with fail
                  go_ret3
                  exact ⟨ret_esc Hno.out, drawn_zero _⟩
                · have h2' : 97 ≤ c.toNat := by omega
                  have hb5 : decide ((c.toNat : Int) ≤ 102) = false := decide_eq_false (by omega)
                  clear ha hb hb1 h1 h2
                  go_wp2_with fail
                  go_ret3
                  exact ⟨ret_esc Hno.out, drawn_zero _⟩
    · obtain rfl : k = t.length := by omega
      have Hno : Hid (escR t = (0, 0, false)) := escR_none (esc_end Hx.out)
      go_wp2_with fail
      go_ret3
      exact ⟨ret_esc Hno.out, drawn_zero _⟩

end Go.Proofs.YtdafbpjgjhfjmaaDoor
