/- Parts of the proof, one behind the other: RR8, RR9, RDG. -/
import Derived.Test.YtmhgbocejjnoaaaGreatDoorPC2
import Derived.Test.YtmhgbocejjnoaaaGreatDoorPC8
import Derived.Deep.QuietTactic
import Derived.BigQuiet
import Derived.Test.YtmhgbocejjnoaaaGreatDoorPC5
/- Walks: the reference's escape. -/
namespace Go.Proofs.YtmhgbocejjnoaaaGreatDoor
open Go.RowKit Go.Redl Go.BigFrame
set_option linter.unusedVariables false

theorem ret_esc {t : List UInt8} {a b : Int} {c : Bool} (h : escR t = (a, b, c)) : Ending.returned (.tuple #[.int .i32 a, .int .i64 b, .bool c]) = .returned (.tuple #[.int .i32 (escR t).1, .int .i64 (escR t).2.1, .bool (escR t).2.2]) := by rw [h]
theorem ris_q (c : Int) (b : Bool) (h : validB c = b) (w : World) (q : Nat) : Calls Tryz.prog 68 #[.int .i32 c] (w.drewN q) fun e w' => e = .returned (.bool b) ∧ ∃ m, w' = w.drewN m :=
  Calls.quiet_of_same ((ris_c c _).mono fun e w' h1 => ⟨by rw [h1.1, h], h1.2.symm⟩)
theorem rplain_q (c : Int) (b : Bool) (h : plainB c = b) (w : World) (q : Nat) : Calls Tryz.prog 55 #[.int .i32 c] (w.drewN q) fun e w' => e = .returned (.bool b) ∧ ∃ m, w' = w.drewN m :=
  Calls.quiet_of_same ((rplain_c c _).mono fun e w' h1 => ⟨by rw [h1.1, h], h1.2.symm⟩)
theorem rhex_q (n : Nat) (hn : n ≤ 2000000000) (S : ByteArray) (h : S = ⟨(hexL n).toArray⟩) (w : World) (q : Nat) : Calls Tryz.prog 69 #[.int .i32 n] (w.drewN q) fun e w' => e = .returned (.string S) ∧ ∃ m, w' = w.drewN m :=
  Calls.quiet_of_same ((rhex_c n _ hn).mono fun e w' h1 => ⟨by rw [h1.1, h], h1.2.symm⟩)

set_option maxRecDepth 100000 in
set_option maxHeartbeats 4000000 in
theorem escape_c (t : List UInt8) (w : World) (hn : t.length ≤ 1000000) :
    Calls Tryz.prog 54 #[.string ⟨t.toArray⟩] w fun e w' => e = .returned (.tuple #[.int .i32 (escR t).1, .int .i64 (escR t).2.1, .bool (escR t).2.2]) ∧ Drawn w w' := by
  have Hall : Hid (∀ (k : Nat) (x : UInt8), t[k]? = some x → ∀ h, (⟨t.toArray⟩ : ByteArray)[k]'h = x) := by
    show ∀ (k : Nat) (x : UInt8), t[k]? = some x → ∀ h, (⟨t.toArray⟩ : ByteArray)[k]'h = x
    intro k x hx h
    exact Option.some.inj ((List.getElem?_eq_getElem (l := t) h).symm.trans hx)
  have Hcut : Hid (∀ k, k ≤ t.length → (⟨t.toArray⟩ : ByteArray).extract 0 k = ⟨(t.take k).toArray⟩) := by
    show ∀ k, k ≤ t.length → (⟨t.toArray⟩ : ByteArray).extract 0 k = ⟨(t.take k).toArray⟩
    intro k hk
    rw [ByteArray.extract_mk]; simp
  have hsz : (⟨t.toArray⟩ : ByteArray).size = t.length := rfl
  generalize (⟨t.toArray⟩ : ByteArray) = S at Hall hsz Hcut ⊢
  go_enter Tryz.func54, Tryz.ntmps54
  go_wp2_with fail
  go_loopw [5, 10] (fun n i wr => ∃ k acc : Nat, i = .int .i64 k ∧ n = .int .i32 acc ∧ HexTo t k acc ∧ w = wr) (fun _ i _ => t.length - (intOf i).toNat)
  case atStart => exact ⟨0, 0, rfl, rfl, HexTo.zero t, rfl⟩
  case round =>
    obtain ⟨k, acc, rfl, rfl, hx, rfl⟩ := hrel
    have hkl := hx.le
    have hk6 := hx.six
    have hsm := hx.small
    have Hx := Lib.hid hx
    clear hx
    by_cases hlt : k < t.length
    · have hg := Hall.out k t[k] (List.getElem?_eq_getElem hlt)
      have hx8 := t[k].toNat_lt
      have Hbad := Lib.hid (fun h1 h2 => esc_bad Hx.out hlt h1 h2)
      have Hstep := Lib.hid (fun h1 h2 => Hx.out.step hlt h1 h2)
      have Hno59 := Lib.hid (fun h1 h2 => esc_no Hx.out hlt h1 h2)
      have Hyes := Lib.hid (fun h1 h2 h3 h4 => esc_yes Hx.out hlt h1 h2 h3 h4)
      have Hc := Hcut.out k hkl
      generalize t[k] = c at hg hx8 Hbad Hstep Hno59 Hyes
      by_cases h59 : c = 59
      · have hc59 : (c.toNat : Int) = 59 := by subst h59; rfl
        have H59 := Lib.hid h59
        clear h59 hx8 Hbad Hstep
        cases k with
        | zero =>
          have Hno : Hid (escR t = (0, 0, false)) := escR_none (Hno59.out H59.out (.inl rfl))
          clear Hc
          go_wp2_with fail
          go_quiet (fail)
          go_wp2_with fail
          go_ret3
          exact ⟨ret_esc Hno.out, by first | exact drawn_one _ _ | exact drawn_two _ _ _⟩
        | succ j =>
          have hj0 : (((j + 1 : Nat) : Int) == 0) = false := by simp only [beq_eq_false_iff_ne, ne_eq]; omega
          have hj1 : (((j : Int) + 1) == 0) = false := by simp only [beq_eq_false_iff_ne, ne_eq]; omega
          cases hv : validB acc with
          | false =>
            have Hno : Hid (escR t = (0, 0, false)) := escR_none (Hno59.out H59.out (.inr (.inl hv)))
            have HV := fun q => Lib.hid (ris_q acc false hv w q)
            clear Hc hv
            go_wp2_with fail
            go_quiet (first | (go_at_call 68; exact (HV _).out))
            go_wp2_with fail
            go_ret3
            exact ⟨ret_esc Hno.out, by first | exact drawn_one _ _ | exact drawn_two _ _ _⟩
          | true =>
            have HV := fun q => Lib.hid (ris_q acc true hv w q)
            cases hp : plainB acc with
            | true =>
              have Hno : Hid (escR t = (0, 0, false)) := escR_none (Hno59.out H59.out (.inr (.inr (.inl hp))))
              have HP := fun q => Lib.hid (rplain_q acc true hp w q)
              clear Hc hv hp
              go_wp2_with fail
              go_quiet (first | (go_at_call 68; exact (HV _).out) | (go_at_call 55; exact (HP _).out))
              go_wp2_with fail
              go_ret3
              exact ⟨ret_esc Hno.out, by first | exact drawn_one _ _ | exact drawn_two _ _ _⟩
            | false =>
              have HP := fun q => Lib.hid (rplain_q acc false hp w q)
              by_cases hh : hexL acc = t.take (j + 1)
              · have Hr : Hid (escR t = ((acc : Int), (((j + 1 : Nat) : Int) + 1), true)) := by
                  show escR t = _
                  have hl : (hexL acc).length = j + 1 := by rw [hh]; simp; omega
                  rw [escR_some (Hyes.out H59.out hv hp hh), hl]
                rw [← hh] at Hc
                obtain ⟨T, hT⟩ : ∃ T, T = (⟨(hexL acc).toArray⟩ : ByteArray) := ⟨_, rfl⟩
                rw [← hT] at Hc
                obtain ⟨X, hX⟩ : ∃ X, X = S.extract 0 (j + 1) := ⟨_, rfl⟩
                have hbe : (T.toList == (S.extract 0 (j + 1)).toList) = true := by rw [Hc]; simp
                have HH := fun q => Lib.hid (rhex_q acc (by omega) T hT w q)
                have hw1 : IntKind.i64.wrap ((j : Int) + 1 + 1) = (j : Int) + 1 + 1 := IntWalk.i64_in _ (by omega)
                clear hv hp hh hT Hc hX
                go_wp2_with fail
                refine wp_region_quiet_lit (by kernel_rfl) (by kernel_rfl) ?_
                repeat (go_big_quiet_step (first | (go_at_call 68; exact (HV _).out) | (go_at_call 55; exact (HP _).out) | (go_at_call 69; exact (HH _).out)))
                refine wpQuiet_nil ?_
                intro _ hw'
                obtain ⟨nq, hw''⟩ := hw'
                subst hw''
                go_wp2_with fail
                go_ret3
                exact ⟨(ret_esc Hr.out), by first | exact drawn_one _ _ | exact drawn_two _ _ _⟩
              · have Hno : Hid (escR t = (0, 0, false)) := escR_none (Hno59.out H59.out (.inr (.inr (.inr hh))))
                obtain ⟨T, hT⟩ : ∃ T, T = (⟨(hexL acc).toArray⟩ : ByteArray) := ⟨_, rfl⟩
                have HH := fun q => Lib.hid (rhex_q acc (by omega) T hT w q)
                obtain ⟨U, hU⟩ : ∃ U, U = (⟨(t.take (j + 1)).toArray⟩ : ByteArray) := ⟨_, rfl⟩
                rw [← hU] at Hc
                have hne : (T.toList == (S.extract 0 (j + 1)).toList) = false := by rw [Hc, hT, hU, ByteArray.toList_mk, ByteArray.toList_mk]; simpa using hh
                clear hv hp hh hT hU Hc
                go_wp2_with fail
                go_quiet (first | (go_at_call 68; exact (HV _).out) | (go_at_call 55; exact (HP _).out) | (go_at_call 69; exact (HH _).out))
                go_wp2_with fail
                go_ret3
                exact ⟨ret_esc Hno.out, by first | exact drawn_one _ _ | exact drawn_two _ _ _⟩
      · have hc59 : ((c.toNat : Int) == 59) = false := by
          have : c.toNat ≠ 59 := fun h => h59 (UInt8.toNat_inj.1 h)
          simp only [beq_eq_false_iff_ne, ne_eq]; omega
        have H59 := Lib.hid h59
        clear h59 Hno59 Hyes Hc
        by_cases h6 : k = 6
        · have Hno : Hid (escR t = (0, 0, false)) := escR_none (Hbad.out H59.out (.inr h6))
          subst h6
          go_wp2_with fail
          go_ret3
          exact ⟨ret_esc Hno.out, drawn_zero _⟩
        · have h6b : ((k : Int) == 6) = false := by simp only [beq_eq_false_iff_ne, ne_eq]; omega
          have hk5 : k ≤ 5 := by omega
          have hacc := Hx.out.less hk5
          clear h6
          have Hv : Hid (hexVal c = if c.toNat ≤ 57 then c.toNat - 48 else c.toNat - 87) := rfl
          have Hl : Hid (lowhexB c = (decide (48 ≤ c.toNat ∧ c.toNat ≤ 57) || decide (97 ≤ c.toNat ∧ c.toNat ≤ 102))) := rfl
          by_cases ha : 48 ≤ c.toNat ∧ c.toNat ≤ 57
          · obtain ⟨ha1, ha2⟩ := ha
            have Hs2 : Hid (HexTo t (k + 1) (acc * 16 + hexVal c)) := Hstep.out hk5 (by rw [Hl.out, decide_eq_true ⟨ha1, ha2⟩]; rfl)
            have Hv2 : Hid (hexVal c = c.toNat - 48) := by show hexVal c = _; rw [Hv.out, if_pos ha2]
            clear Hstep
            go_wp2_with fail
            go_roundw
            case rel => exact ⟨k + 1, acc * 16 + hexVal c, by go_num, by rw [Hv2.out]; congr 1; omega, Hs2.out, trivial⟩
            case measure => simp [intOf]; omega
          · have hb1 : c.toNat < 48 ∨ 57 < c.toNat := by omega
            by_cases hb : 97 ≤ c.toNat ∧ c.toNat ≤ 102
            · obtain ⟨hb2, hb3⟩ := hb
              have hb4 : decide ((c.toNat : Int) ≤ 57) = false := decide_eq_false (by omega)
              have Hs2 : Hid (HexTo t (k + 1) (acc * 16 + hexVal c)) := Hstep.out hk5 (by rw [Hl.out, decide_eq_true (show 97 ≤ c.toNat ∧ c.toNat ≤ 102 from ⟨hb2, hb3⟩)]; simp)
              have Hv2 : Hid (hexVal c = c.toNat - 87) := by show hexVal c = _; rw [Hv.out, if_neg (by omega)]
              clear Hstep ha hb1
              go_wp2_with fail
              go_roundw
              case rel => exact ⟨k + 1, acc * 16 + hexVal c, by go_num, by rw [Hv2.out]; congr 1; omega, Hs2.out, trivial⟩
              case measure => simp [intOf]; omega
            · have Hno : Hid (escR t = (0, 0, false)) := escR_none (Hbad.out H59.out (.inl (by rw [Hl.out, decide_eq_false ha, decide_eq_false hb]; rfl)))
              clear Hstep
              by_cases h1 : c.toNat < 48
              · have h2 : c.toNat < 97 := by omega
                clear ha hb hb1
                go_wp2_with fail
                go_ret3
                exact ⟨ret_esc Hno.out, drawn_zero _⟩
              · have h1' : 48 ≤ c.toNat := by omega
                have hb4 : decide ((c.toNat : Int) ≤ 57) = false := decide_eq_false (by omega)
                by_cases h2 : c.toNat < 97
                · clear ha hb hb1 h1
                  go_wp2_with fail
                  go_ret3
                  exact ⟨ret_esc Hno.out, drawn_zero _⟩
                · have h2' : 97 ≤ c.toNat := by omega
                  have hb5 : decide ((c.toNat : Int) ≤ 102) = false := decide_eq_false (by omega)
                  clear ha hb hb1 h1 h2
                  go_wp2_with fail
                  go_ret3
                  exact ⟨ret_esc Hno.out, drawn_zero _⟩
    · obtain rfl : k = t.length := by omega
      have Hno : Hid (escR t = (0, 0, false)) := escR_none (esc_end Hx.out)
      go_wp2_with fail
      go_ret3
      exact ⟨ret_esc Hno.out, drawn_zero _⟩

end Go.Proofs.YtmhgbocejjnoaaaGreatDoor
/- Walks: the reference's Unquote. -/
namespace Go.Proofs.YtmhgbocejjnoaaaGreatDoor
open Go.RowKit Go.Redl Go.BigFrame
set_option linter.unusedVariables false

set_option maxRecDepth 100000 in
set_option maxHeartbeats 2000000 in
theorem runquote_c (s : List UInt8) (w : World) (hn : s.length ≤ 1000000) :
    Calls Tryz.prog 37 #[.string ⟨s.toArray⟩] w (UnqP w (unqL s)) := by
  cases s with
  | nil =>
    go_enter Tryz.func37, Tryz.ntmps37
    go_wp2_with fail
    go_ret3
    exact UnqP.none (p := 0) rfl rfl (Below.refl _ _)
  | cons y r =>
    have hg0 : ∀ h, (⟨(y :: r).toArray⟩ : ByteArray)[0]'h = y := fun _ => rfl
    have hsz : (⟨(y :: r).toArray⟩ : ByteArray).size = r.length + 1 := rfl
    have Hall : Hid (∀ (k : Nat) (x : UInt8), (y :: r)[k]? = some x → ∀ h, (⟨(y :: r).toArray⟩ : ByteArray)[k]'h = x) := by
      show ∀ (k : Nat) (x : UInt8), (y :: r)[k]? = some x → ∀ h, (⟨(y :: r).toArray⟩ : ByteArray)[k]'h = x
      intro k x hx h
      exact Option.some.inj ((List.getElem?_eq_getElem (l := y :: r) h).symm.trans hx)
    have Hdrop : ∀ k, Hid (k ≤ (y :: r).length → (⟨(y :: r).toArray⟩ : ByteArray).extract k (⟨(y :: r).toArray⟩ : ByteArray).size = ⟨((y :: r).drop k).toArray⟩) := fun k => Lib.hid (drop_str _ k)
    have hne : ((⟨(y :: r).toArray⟩ : ByteArray).toList.isEmpty) = false := by rw [ByteArray.toList_mk]; rfl
    obtain ⟨S, hS⟩ : ∃ S, S = (⟨(y :: r).toArray⟩ : ByteArray) := ⟨_, rfl⟩
    rw [← hS] at hg0 hsz Hall hne ⊢
    simp only [← hS] at Hdrop
    clear hS
    by_cases hy : y = 34
    · subst hy
      have h34 : ((34 : UInt8).toNat : Int) = 34 := rfl
      have hl0 : (((r.length : Int) + 1) == 0) = false := by simp only [beq_eq_false_iff_ne, ne_eq]; omega
      go_enter Tryz.func37, Tryz.ntmps37
      go_wp2_with fail
      go_loopw [5, 6] (fun o i wr => UqR w (34 :: r) o i wr) (fun _ i _ => (34 :: r).length - (intOf i).toNat)
      case atStart => exact ⟨1, r.length + 1, [], Nat.le_refl _, by simp, rfl, by simp, by simp, rfl, World.ownsRow_nil _ _ _ _, Below.refl _ _⟩
      case round =>
        obtain ⟨k, f, zs, hk1, hk, rfl, hz, hf, hu, hown, hbel⟩ := hrel
        have hlen : (34 :: r).length = r.length + 1 := rfl
        rw [hlen] at hk hf hn
        have Hu := Lib.hid hu; have Ho := Lib.hid hown; have Hb := Lib.hid hbel
        clear hu hown hbel
        cases hd : (34 :: r).drop k with
        | nil =>
          have hke : k = r.length + 1 := by
            have := List.drop_eq_nil_iff.1 hd
            rw [hlen] at this; omega
          subst hke
          have Hd := Lib.hid hd
          clear hd hg0 hne
          go_wp2_with fail
          go_ret3
          refine UnqP.none (p := (r.length : Int) + 1) ?_ rfl Hb.out
          rw [← Hu.out, Hd.out, uq_nil]; rfl
        | cons x t =>
          have hkl : k < r.length + 1 := by
            have := congrArg List.length hd
            simp at this; omega
          obtain ⟨f, rfl⟩ : ∃ f', f = f' + 1 := ⟨f - 1, by omega⟩
          have hx : (34 :: r)[k]? = some x := by rw [← List.head?_drop, hd]; rfl
          have hgk := Hall.out k x hx
          have htl : t.length = r.length - k := by
            have := congrArg List.length hd
            simp at this; omega
          have Hd := Lib.hid hd
          clear hd hx hg0 hne
          by_cases hx : x = 34
          · subst hx
            by_cases ht : t = []
            · have hke : k = r.length := by rw [ht] at htl; simp at htl; omega
              subst hke
              go_wp2_with fail
              go_ret3
              have hU : unqL (34 :: r) = (zs, 0, 0) := by rw [← Hu.out, Hd.out, ht, uq_close]
              rw [hU]
              exact ⟨_, rfl, Ho.out, Hb.out⟩
            · have hke : k < r.length := by have := List.length_pos_iff.2 ht; omega
              go_wp2_with fail
              go_ret3
              refine UnqP.none (p := (k : Int) + 1) ?_ rfl Hb.out
              rw [← Hu.out, Hd.out, uq_far _ ht]
          · have hxb : ((x.toNat : Int) == 34) = false := by
              have : x.toNat ≠ 34 := fun h => hx (UInt8.toNat_inj.1 h)
              simp only [beq_eq_false_iff_ne, ne_eq]; omega
            have hw32 : wrap32 (x.toNat : Int) = x.toNat := IntWalk.wrap32_in _ (by have := x.toNat_lt; omega)
            have hw32' : IntKind.i32.wrap (x.toNat : Int) = x.toNat := IntWalk.i32_in _ (by have := x.toNat_lt; omega)
            have hx8 := x.toNat_lt
            have Hx := Lib.hid hx
            clear hx
            by_cases h92 : x = 92
            · subst h92
              have hex := (Hdrop (k + 1)).out (by rw [hlen]; omega)
              have hdt : (34 :: r).drop (k + 1) = t := by
                have := congrArg List.tail Hd.out
                rwa [List.tail_drop] at this
              rw [hdt, hsz] at hex
              have H92 : Hid (plainB 92 = false) := by show plainB 92 = false; decide
              have hx92 : (((92 : UInt8).toNat : Nat) : Int) = 92 := rfl
              have HE := Lib.hid (escape_c t wr (by omega))
              cases he : escN (92 :: t) with
              | none =>
                have Hf : Hid (firstS (92 :: t) = (0, 0)) := firstS_none H92.out he
                rw [escR_none he] at HE
                clear he hdt hw32 hw32' hxb
                go_wp2_with fail
                refine HE.out.mono ?_
                rintro e w1 ⟨rfl, hd⟩
                have Hb1 := Lib.hid (Drawn.trans_below Hb.out hd)
                clear hd HE
                go_wp2_with fail
                go_ret3
                refine UnqP.none (p := k) ?_ rfl Hb1.out
                rw [← Hu.out, Hd.out, uq_bad _ Hx.out (by rw [Hf.out])]
              | some n =>
                have Hf0 := firstS_some (x := 92) (r := t) H92.out he
                have hl2 : (escL n).length = (hexL n).length + 2 := by simp [escL]
                rw [hl2] at Hf0
                have Hf : Hid (firstS (92 :: t) = ((n : Int), (hexL n).length + 2)) := Hf0
                rw [escR_some he] at HE
                have hxl := hexL_len n
                have Hl2 := Lib.hid (firstS_long (t := 92 :: t) (by rw [Hf0]; simp))
                have hlb : (hexL n).length + 2 ≤ r.length + 1 - k := by
                  have h1 := Hl2.out
                  rw [Hf.out] at h1
                  simp only [List.length_cons] at h1; omega
                obtain ⟨m, hm⟩ : ∃ m, m = (hexL n).length := ⟨_, rfl⟩
                rw [← hm] at Hf HE hlb hxl
                clear he hdt hw32 hw32' hxb Hf0 hl2 Hl2 hm
                go_wp2_with fail
                refine HE.out.mono ?_
                rintro e w1 ⟨rfl, hd⟩
                have Hb1 := Lib.hid (Drawn.trans_below Hb.out hd)
                have Ho1 := Lib.hid (own_keep Ho.out (hd.below _))
                clear hd HE hex hgk hx92
                simp only
                go_wp2_with (at_builtin; refine wpList_app rfl _ _ 24 rfl w.heap.size 21 (.int .i32 0) 1 4 Tryz.underlying24 info_int32 rfl (by decide) _ _ _ rfl (Ho1.out.alloc _) (some ⟨w1.heap.size, 0, none⟩) 1 1 (w1.heap.size + 1) [.int .i32 n] rfl ?hr1 ?h631 ?hb1 ?hbase1 ?_)
                case hr1 => exact row_one _ _ _ _ rfl
                case h631 => unfold maxLen; omega
                case hb1 => omega
                case hbase1 => have := Hb1.out.size; simp; omega
                intro v' w2 hown' hgrow
                have hbel := ((Hb1.out.alloc (by have := Hb1.out.size; omega) _).grown hgrow (by have := Hb1.out.size; simp; omega) (fun k hk => (Ho1.out.lt k hk).1))
                have Ho2 := Lib.hid hown'; have Hb2 := Lib.hid hbel
                clear hown' hbel hgrow
                go_wp2_with fail
                go_roundw
                case rel =>
                  refine ⟨k + (m + 2), f, zs ++ [((n : Nat) : Int)], by omega, by rw [hlen]; omega, by go_num, by simp; omega, by rw [hlen]; omega, ?_, ?_, Hb2.out⟩
                  · have h1 := Hu.out
                    rw [Hd.out, uq_on f Hx.out (by rw [Hf.out]; simp), Hf.out, ← Hd.out, List.drop_drop] at h1
                    exact h1
                  · have := Ho2.out
                    simpa using this
                case measure => simp [intOf]; omega
            · have h92b : ((x.toNat : Int) == 92) = false := by
                have : x.toNat ≠ 92 := fun h => h92 (UInt8.toNat_inj.1 h)
                simp only [beq_eq_false_iff_ne, ne_eq]; omega
              have H92 := Lib.hid h92
              clear h92
              have HP := rplain_c (x.toNat : Int) wr
              cases hp : plainB x.toNat with
              | false =>
                rw [hp] at HP
                have Hf : Hid (firstS (x :: t) = (0, 0)) := firstS_none hp (escN_slash H92.out)
                have HP1 := Lib.hid HP
                clear HP hp
                go_wp2_with fail
                refine HP1.out.mono ?_
                rintro e w1 ⟨rfl, rfl⟩
                clear HP1
                go_wp2_with fail
                go_ret3
                refine UnqP.none (p := k) ?_ rfl Hb.out
                rw [← Hu.out, Hd.out, uq_bad _ Hx.out (by rw [Hf.out])]
              | true =>
                rw [hp] at HP
                have Hf : Hid (firstS (x :: t) = ((x.toNat : Int), 1)) := firstS_plain hp
                have HP1 := Lib.hid HP
                have Hb1 := Hb; have Ho1 := Ho
                clear HP hp
                go_wp2_with fail
                refine HP1.out.mono ?_
                rintro e w1 ⟨rfl, rfl⟩
                clear HP1
                go_wp2_with (at_builtin; refine wpList_app rfl _ _ 24 rfl w.heap.size 21 (.int .i32 0) 1 4 Tryz.underlying24 info_int32 rfl (by decide) _ _ _ rfl (Ho1.out.alloc _) (some ⟨wr.heap.size, 0, none⟩) 1 1 (wr.heap.size + 1) [.int .i32 x.toNat] rfl ?hr2 ?h632 ?hb2 ?hbase2 ?_)
                case hr2 => exact row_one _ _ _ _ rfl
                case h632 => unfold maxLen; omega
                case hb2 => omega
                case hbase2 => have := Hb1.out.size; simp; omega
                intro v' w2 hown' hgrow
                have hbel := ((Hb1.out.alloc (by have := Hb1.out.size; omega) _).grown hgrow (by have := Hb1.out.size; simp; omega) (fun k hk => (Ho1.out.lt k hk).1))
                have Ho2 := Lib.hid hown'; have Hb2 := Lib.hid hbel
                clear hown' hbel hgrow
                go_wp2_with fail
                go_roundw
                case rel =>
                  refine ⟨k + 1, f, zs ++ [((x.toNat : Nat) : Int)], by omega, by rw [hlen]; omega, by go_num, by simp; omega, by rw [hlen]; omega, ?_, ?_, Hb2.out⟩
                  · have h1 := Hu.out
                    rw [Hd.out, uq_on f Hx.out (by rw [Hf.out]; simp), Hf.out, ← Hd.out, List.drop_drop] at h1
                    exact h1
                  · have := Ho2.out
                    simpa using this
                case measure => simp [intOf]; omega
    · have hyb : ((y.toNat : Int) != 34) = true := by
        have : y.toNat ≠ 34 := fun h => hy (UInt8.toNat_inj.1 h)
        simp only [bne_iff_ne, ne_eq]; omega
      have Hy := Lib.hid hy
      clear hy
      go_enter Tryz.func37, Tryz.ntmps37
      go_wp2_with fail
      go_ret3
      refine UnqP.none (p := 0) ?_ rfl (Below.refl _ _)
      unfold unqL
      simp only
      rw [if_neg Hy.out]

end Go.Proofs.YtmhgbocejjnoaaaGreatDoor
/- Plain laws: a printed tree is read whole wherever it stands. -/
namespace Go.Proofs.YtmhgbocejjnoaaaGreatDoor
open Go.RowKit Go.Redl
set_option linter.unusedVariables false

theorem stands_at (pre post : List UInt8) (x c : UInt8) : standsB (pre ++ x :: post) pre.length c = (x == c) := by
  unfold standsB
  rw [List.getElem?_append_right (Nat.le_refl _)]
  simp
theorem stands_end (s : List UInt8) (c : UInt8) : standsB s s.length c = false := by
  unfold standsB
  rw [List.getElem?_eq_none (Nat.le_refl _)]; rfl
theorem drop_pre (pre post : List UInt8) : (pre ++ post).drop pre.length = post := by simp
theorem takeWhile_stop (p : UInt8 → Bool) : ∀ (l : List UInt8) (x : UInt8) (r : List UInt8), (∀ c ∈ l, p c = true) → p x = false → (l ++ x :: r).takeWhile p = l
  | [], x, r, _, hx => by simp [hx]
  | c :: l, x, r, h, hx => by
    rw [List.cons_append, List.takeWhile_cons_of_pos (h c (by simp)), takeWhile_stop p l x r (fun d hd => h d (by simp [hd])) hx]
theorem takeWhile_all (p : UInt8 → Bool) : ∀ (l : List UInt8), (∀ c ∈ l, p c = true) → l.takeWhile p = l
  | [], _ => rfl
  | c :: l, h => by rw [List.takeWhile_cons_of_pos (h c (by simp)), takeWhile_all p l (fun d hd => h d (by simp [hd]))]

theorem stands_pos {s pre post : List UInt8} {x c : UInt8} {k : Nat} (hs : s = pre ++ x :: post) (hk : k = pre.length) : standsB s k c = (x == c) := by subst hs; subst hk; exact stands_at pre post x c
theorem drop_pos {s pre post : List UInt8} {k : Nat} (hs : s = pre ++ post) (hk : k = pre.length) : s.drop k = post := by subst hs; subst hk; exact drop_pre pre post
theorem keyB_low {k : List UInt8} (h : keyB k = true) : k ≠ [] ∧ k.length ≤ 16 ∧ ∀ c ∈ k, lowB c = true := by
  unfold keyB at h
  simp only [Bool.and_eq_true, decide_eq_true_eq, List.all_eq_true] at h
  exact ⟨by intro e; rw [e] at h; simp at h, h.1.2, h.2⟩
theorem valB_c {k : List UInt8} (h : valB k = true) : k.length ≤ 32 ∧ ∀ c ∈ k, valcB c = true := by
  unfold valB at h
  simp only [Bool.and_eq_true, decide_eq_true_eq, List.all_eq_true] at h
  exact h
/-- Printed properties are read whole. -/
theorem rdP_print : ∀ (ps : List PropD) (pre post : List UInt8) (c : UInt8) (out : List PropD) (last : List UInt8) (f : Nat), ps ≠ [] → propsGo last ps = 0 → out.length + ps.length ≤ 16 → ps.length ≤ f →
    rdP f (pre ++ (propsC c ps ++ 125 :: post)) pre.length out last = .ok (out ++ ps) (pre.length + (propsC c ps).length + 1)
  | [], pre, post, c, out, last, f, h0, _, _, _ => absurd rfl h0
  | p :: qs, pre, post, c, out, last, f, _, hg, hl, hf => by
    obtain ⟨f, rfl⟩ : ∃ g, f = g + 1 := ⟨f - 1, by simp at hf; omega⟩
    simp only [propsGo] at hg
    have hkv : keyB p.1 = true ∧ valB p.2 = true ∧ leB p.1 last = false ∧ propsGo p.1 qs = 0 := by
      split at hg
      · rename_i h
        simp only [Bool.and_eq_true] at h
        split at hg
        · cases hg
        · rename_i h2; exact ⟨h.1, h.2, by simpa using h2, hg⟩
      · cases hg
    obtain ⟨hk, hv, hle, hgo⟩ := hkv
    obtain ⟨hk0, hk1, hk2⟩ := keyB_low hk
    obtain ⟨hv1, hv2⟩ := valB_c hv
    obtain ⟨s, hs⟩ : ∃ s, s = pre ++ (propsC c (p :: qs) ++ 125 :: post) := ⟨_, rfl⟩
    rw [← hs]
    have e1 : s = (pre ++ [c]) ++ (p.1 ++ 58 :: (p.2 ++ (propsC 44 qs ++ 125 :: post))) := by rw [hs]; simp [propsC, propL]
    have e2 : s = (pre ++ [c] ++ p.1) ++ 58 :: (p.2 ++ (propsC 44 qs ++ 125 :: post)) := by rw [e1]; simp
    have e3 : s = (pre ++ [c] ++ p.1 ++ [58]) ++ (p.2 ++ (propsC 44 qs ++ 125 :: post)) := by rw [e1]; simp
    have e4 : s = (pre ++ [c] ++ p.1 ++ [58] ++ p.2) ++ (propsC 44 qs ++ 125 :: post) := by rw [e1]; simp
    have hkey : keyAt s (pre.length + 1) = p.1 := by
      unfold keyAt
      rw [drop_pos e1 (by simp), takeWhile_stop _ _ _ _ hk2 (by decide)]
    have hval : valAt s (pre.length + 1 + p.1.length + 1) = p.2 := by
      unfold valAt
      rw [drop_pos e3 (by simp; omega)]
      cases qs with
      | nil => exact takeWhile_stop _ _ _ _ hv2 (by decide)
      | cons q qs => simp only [propsC, List.cons_append]; exact takeWhile_stop _ _ _ _ hv2 (by decide)
    rw [rdP_step f s pre.length out last p.1 p.2 hkey hval]
    rw [if_neg (by rw [stands_pos (c := 58) e2 (by simp; omega)]; simp [hk0]), if_neg (by simp at hl; omega), if_neg (by omega), if_neg (by rw [hle]; decide)]
    cases qs with
    | nil =>
      rw [if_pos (by rw [stands_pos (c := 125) (x := 125) (post := post) (pre := pre ++ [c] ++ p.1 ++ [58] ++ p.2) (by rw [e4]; simp [propsC]) (by simp; omega)]; rfl)]
      congr 1
      simp [propsC, propL]; omega
    | cons q qs =>
      have hh : ∀ x, standsB s (pre.length + 1 + p.1.length + 1 + p.2.length) x = ((44 : UInt8) == x) := fun x => stands_pos (post := propL q ++ propsC 44 qs ++ 125 :: post) (pre := pre ++ [c] ++ p.1 ++ [58] ++ p.2) (by rw [e4]; simp [propsC]) (by simp; omega)
      rw [if_neg (by rw [hh]; decide), if_neg (by rw [hh]; decide)]
      have hpl : pre.length + 1 + p.1.length + 1 + p.2.length = (pre ++ [c] ++ p.1 ++ [58] ++ p.2).length := by simp; omega
      have ih := rdP_print (q :: qs) (pre ++ [c] ++ p.1 ++ [58] ++ p.2) post 44 (out ++ [(p.1, p.2)]) p.1 f (by simp) hgo (by simp at hl ⊢; omega) (by simp at hf ⊢; omega)
      rw [hpl, e4, ih]
      congr 1
      · simp
      · simp [propsC, propL]; omega

theorem dig_not34 (n : Nat) (h : n < 16) : dig n ≠ 34 := by
  have : n = 0 ∨ n = 1 ∨ n = 2 ∨ n = 3 ∨ n = 4 ∨ n = 5 ∨ n = 6 ∨ n = 7 ∨ n = 8 ∨ n = 9 ∨ n = 10 ∨ n = 11 ∨ n = 12 ∨ n = 13 ∨ n = 14 ∨ n = 15 := by omega
  rcases this with rfl | rfl | rfl | rfl | rfl | rfl | rfl | rfl | rfl | rfl | rfl | rfl | rfl | rfl | rfl | rfl <;> decide
theorem hexF_not34 : ∀ (f n : Nat), ∀ c ∈ hexF f n, c ≠ 34
  | 0, n, c, h => by simp [hexF] at h
  | f + 1, n, c, h => by
    unfold hexF at h
    split at h
    · rename_i hn
      simp at h; subst h; exact dig_not34 n hn
    · simp only [List.mem_append, List.mem_singleton] at h
      rcases h with h | h
      · exact hexF_not34 f _ c h
      · subst h; exact dig_not34 _ (by omega)
theorem qb_not34 (z : Int) : ∀ c ∈ qb z, c ≠ 34 := by
  intro c hc
  unfold qb at hc
  split at hc
  · rename_i hp
    simp at hc
    subst hc
    unfold plainB at hp
    simp only [decide_eq_true_eq] at hp
    intro e
    have := congrArg UInt8.toNat e
    rw [UInt8.toNat_ofNat', Nat.mod_eq_of_lt (by omega)] at this
    have e34 : (34 : UInt8).toNat = 34 := rfl
    omega
  · unfold escL at hc
    simp only [List.mem_cons, List.mem_append, List.not_mem_nil, or_false] at hc
    rcases hc with rfl | hc | rfl
    · decide
    · exact hexF_not34 20 _ c hc
    · decide
theorem body_not34 (zs : List Int) : ∀ c ∈ bodyL zs, c ≠ 34 := by
  intro c hc
  unfold bodyL at hc
  obtain ⟨z, -, hz⟩ := List.mem_flatMap.1 hc
  exact qb_not34 z c hz
theorem index_at : ∀ (l : List UInt8) (c : UInt8) (r : List UInt8), (∀ x ∈ l, x ≠ c) → Lib.indexByte (l ++ c :: r) c = l.length
  | [], c, r, _ => by simp [Lib.indexByte]
  | b :: l, c, r, h => by
    have ih := index_at l c r (fun x hx => h x (by simp [hx]))
    rw [List.cons_append, Lib.indexByte, if_neg (by simpa using h b (by simp)), ih]
    simp
theorem index_no : ∀ (l : List UInt8) (c : UInt8), (∀ x ∈ l, x ≠ c) → Lib.indexByte l c = -1
  | [], c, _ => rfl
  | b :: l, c, h => by
    have ih := index_no l c (fun x hx => h x (by simp [hx]))
    rw [Lib.indexByte, if_neg (by simpa using h b (by simp)), ih]
    rfl
/-- A quoted text is read whole; without its last byte it fails at its end. -/
theorem rdL_print {zs : List Int} (hv : ∀ c ∈ zs, validB c = true) (pre post : List UInt8) : rdL (pre ++ (quoteL zs ++ post)) pre.length = .ok zs (pre.length + (quoteL zs).length) := by
  have hd : (pre ++ (quoteL zs ++ post)).drop (pre.length + 1) = bodyL zs ++ 34 :: post := drop_pos (pre := pre ++ [34]) (by simp [quoteL]) (by simp)
  have he : leafEnd (pre ++ (quoteL zs ++ post)) pre.length = pre.length + (quoteL zs).length := by
    unfold leafEnd
    rw [hd, index_at _ _ _ (body_not34 zs), if_pos (by omega)]
    simp [quoteL]; omega
  have ht : ((pre ++ (quoteL zs ++ post)).take (pre.length + (quoteL zs).length)).drop pre.length = quoteL zs := by
    rw [← List.append_assoc, List.take_left' (by simp)]
    exact drop_pre _ _
  have hu := unq_quote hv
  rw [← ht] at hu
  rw [rdL_eq he hu, if_pos rfl]
theorem rdL_less {zs : List Int} (hv : ∀ c ∈ zs, validB c = true) (pre : List UInt8) : rdL (pre ++ 34 :: bodyL zs) pre.length = .bad (pre.length + 1 + (bodyL zs).length) 11 := by
  have hd : (pre ++ 34 :: bodyL zs).drop (pre.length + 1) = bodyL zs := drop_pos (pre := pre ++ [34]) (by simp) (by simp)
  have he : leafEnd (pre ++ 34 :: bodyL zs) pre.length = (pre ++ 34 :: bodyL zs).length := by
    unfold leafEnd
    rw [hd, index_no _ _ (body_not34 zs), if_neg (by omega)]
  have ht : ((pre ++ 34 :: bodyL zs).take (pre ++ 34 :: bodyL zs).length).drop pre.length = 34 :: bodyL zs := by
    rw [List.take_length]
    exact drop_pre _ _
  have hu := unq_less hv
  rw [← ht] at hu
  rw [rdL_eq he hu, if_neg (by decide)]
  congr 1
  omega

theorem propsE_ok {ps : List PropD} (h : propsE ps = 0) : ps.length ≤ 16 ∧ propsGo [] ps = 0 := by
  unfold propsE at h
  split at h
  · cases h
  · exact ⟨by omega, h⟩
/-- Printed properties ahead of a node's text. -/
theorem rdH_print {ps : List PropD} (h : propsE ps = 0) (pre r : List UInt8) (x : UInt8) (hx : x ≠ 123) : rdH (pre ++ (propsL ps ++ x :: r)) pre.length = .ok ps (pre.length + (propsL ps).length) := by
  obtain ⟨hl, hg⟩ := propsE_ok h
  by_cases h0 : ps.length = 0
  · have : ps = [] := List.eq_nil_of_length_eq_zero h0
    subst this
    have e : propsL [] = [] := rfl
    unfold rdH
    rw [e, List.nil_append, stands_at, if_neg (by simpa using hx)]
    simp
  · have e : pre ++ (propsL ps ++ x :: r) = pre ++ (propsC 123 ps ++ 125 :: (x :: r)) := by unfold propsL; rw [if_neg h0]; simp
    have es : standsB (pre ++ (propsC 123 ps ++ 125 :: (x :: r))) pre.length 123 = true := by
      cases ps with
      | nil => exact absurd rfl h0
      | cons p ps =>
        simp only [propsC, List.cons_append]
        rw [stands_at]; rfl
    unfold rdH
    rw [e, if_pos es, rdP_print ps pre (x :: r) 123 [] [] _ (by intro e; rw [e] at h0; exact h0 rfl) hg (by simpa using hl) (by
      have := propsC_len ps 123
      have := propsWt_len ps
      simp only [List.length_append]; omega)]
    have el : (propsL ps).length = (propsC 123 ps).length + 1 := by unfold propsL; rw [if_neg h0]; simp
    rw [el, List.nil_append, Nat.add_assoc]

theorem ownE_ok {l : Bool} {ps : List PropD} {t : List Int} {m : Nat} (h : ownE l ps t m = 0) : propsE ps = 0 ∧ (∀ c ∈ t, validB c = true) ∧ (l = true → m = 0) ∧ (l = false → t = []) := by
  unfold ownE at h
  split at h
  · rename_i h1; exact absurd h h1
  · rename_i h1
    split at h
    · cases h
    · rename_i h2
      refine ⟨by simpa using h1, ?_, ?_, ?_⟩
      · intro c hc
        unfold checkE at h
        split at h
        · cases h
        · rename_i h3
          simp only [List.any_eq_true, Bool.not_eq_true', not_exists, not_and, Bool.not_eq_false] at h3
          exact h3 c hc
      · intro hl; subst hl; simp at h2; omega
      · intro hl; subst hl; simp at h2; exact h2
theorem nodeE_ok {l : Bool} {ps : List PropD} {t : List Int} {ks : List NodeD} (h : nodeE (.mk l ps t ks) = 0) : ownE l ps t ks.length = 0 ∧ kidsE ks = 0 := by
  unfold nodeE at h
  split at h
  · rename_i h1; exact absurd h h1
  · rename_i h1; exact ⟨by simpa using h1, h⟩
theorem kidsE_ok {k : NodeD} {ks : List NodeD} (h : kidsE (k :: ks) = 0) : nodeE k = 0 ∧ kidsE ks = 0 := by
  unfold kidsE at h
  split at h
  · rename_i h1; exact absurd h h1
  · rename_i h1; exact ⟨by simpa using h1, h⟩
theorem printL_head : ∀ n : NodeD, ∃ x r, printL n = x :: r ∧ x ≠ 93
  | .mk l ps t ks => by
    unfold printL
    cases ps with
    | nil =>
      cases l with
      | true => exact ⟨34, _, rfl, by decide⟩
      | false => exact ⟨91, _, rfl, by decide⟩
    | cons p ps => exact ⟨123, _, rfl, by decide⟩
mutual
/-- A printed tree is read whole wherever it stands. -/
theorem rdN_print : ∀ (n : NodeD) (pre post : List UInt8) (f : Nat), nodeE n = 0 → 2 * ((printL n).length + post.length) + 1 ≤ f → rdN f (pre ++ (printL n ++ post)) pre.length = .ok n (pre.length + (printL n).length)
  | .mk l ps t ks, pre, post, f, h, hf => by
    obtain ⟨f, rfl⟩ : ∃ g, f = g + 1 := ⟨f - 1, by omega⟩
    obtain ⟨ho, hk⟩ := nodeE_ok h
    obtain ⟨hp, ht, hl1, hl2⟩ := ownE_ok ho
    cases l with
    | true =>
      have hk0 : ks = [] := List.eq_nil_of_length_eq_zero (hl1 rfl)
      subst hk0
      have e : pre ++ (printL (.mk true ps t []) ++ post) = pre ++ (propsL ps ++ 34 :: (bodyL t ++ 34 :: post)) := by simp [printL, quoteL]
      have e2 : pre ++ (propsL ps ++ 34 :: (bodyL t ++ 34 :: post)) = (pre ++ propsL ps) ++ (quoteL t ++ post) := by simp [quoteL]
      have e3 : pre ++ (propsL ps ++ 34 :: (bodyL t ++ 34 :: post)) = (pre ++ propsL ps) ++ 34 :: (bodyL t ++ 34 :: post) := by simp
      have el : pre.length + (propsL ps).length = (pre ++ propsL ps).length := by simp
      rw [e]
      unfold rdN
      rw [rdH_print hp pre _ 34 (by decide)]
      simp only
      rw [if_pos (by rw [stands_pos e3 el]; rfl)]
      rw [e2, el, rdL_print ht]
      simp only
      congr 1
      simp [printL]; omega
    | false =>
      have ht0 := hl2 rfl
      subst ht0
      have e : pre ++ (printL (.mk false ps [] ks) ++ post) = pre ++ (propsL ps ++ 91 :: (printK ks ++ 93 :: post)) := by simp [printL]
      have e2 : pre ++ (propsL ps ++ 91 :: (printK ks ++ 93 :: post)) = (pre ++ propsL ps ++ [91]) ++ (printK ks ++ 93 :: post) := by simp
      have e3 : pre ++ (propsL ps ++ 91 :: (printK ks ++ 93 :: post)) = (pre ++ propsL ps) ++ 91 :: (printK ks ++ 93 :: post) := by simp
      have el : pre.length + (propsL ps).length = (pre ++ propsL ps).length := by simp
      have el2 : pre.length + (propsL ps).length + 1 = (pre ++ propsL ps ++ [91]).length := by simp; omega
      have hlen : (printL (.mk false ps [] ks)).length = (propsL ps).length + (printK ks).length + 2 := by simp [printL]; omega
      rw [e]
      unfold rdN
      rw [rdH_print hp pre _ 91 (by decide)]
      simp only
      rw [if_neg (by rw [stands_pos e3 el]; decide), if_neg (by rw [stands_pos e3 el]; decide)]
      rw [e2, el2, rdK_print ks _ post f [] hk (by omega)]
      simp only
      rw [hlen]
      congr 1
      simp; omega
theorem rdK_print : ∀ (ks : List NodeD) (pre post : List UInt8) (f : Nat) (out : List NodeD), kidsE ks = 0 → 2 * ((printK ks).length + 1 + post.length) + 2 ≤ f → rdK f (pre ++ (printK ks ++ 93 :: post)) pre.length out = .ok (out ++ ks) (pre.length + (printK ks).length + 1)
  | [], pre, post, f, out, h, hf => by
    obtain ⟨f, rfl⟩ : ∃ g, f = g + 1 := ⟨f - 1, by omega⟩
    unfold rdK
    rw [if_pos (by rw [stands_pos (pre := pre) (x := 93) (post := post) (by simp [printK]) rfl]; rfl)]
    simp [printK]
  | k :: ks, pre, post, f, out, h, hf => by
    obtain ⟨f, rfl⟩ : ∃ g, f = g + 1 := ⟨f - 1, by omega⟩
    obtain ⟨h1, h2⟩ := kidsE_ok h
    obtain ⟨x, r, hx, hne⟩ := printL_head k
    have e : pre ++ (printK (k :: ks) ++ 93 :: post) = pre ++ (printL k ++ (printK ks ++ 93 :: post)) := by simp [printK]
    have e2 : pre ++ (printL k ++ (printK ks ++ 93 :: post)) = (pre ++ printL k) ++ (printK ks ++ 93 :: post) := by simp
    have e3 : pre ++ (printL k ++ (printK ks ++ 93 :: post)) = pre ++ x :: (r ++ (printK ks ++ 93 :: post)) := by rw [hx]; simp
    have hlen : (printK (k :: ks)).length = (printL k).length + (printK ks).length := by simp [printK]
    have hkl : 1 ≤ (printL k).length := by rw [hx]; simp
    rw [e]
    unfold rdK
    rw [if_neg (by rw [stands_pos e3 rfl]; simpa using hne)]
    rw [rdN_print k pre (printK ks ++ 93 :: post) f h1 (by simp; omega)]
    simp only
    rw [e2, show pre.length + (printL k).length = (pre ++ printL k).length by simp, rdK_print ks (pre ++ printL k) post f (out ++ [k]) h2 (by omega)]
    rw [hlen]
    congr 1
    · simp
    · simp; omega
end

theorem rdN_end (s : List UInt8) (f : Nat) (hf : 1 ≤ f) : rdN f s s.length = .bad s.length 11 := by
  obtain ⟨f, rfl⟩ : ∃ g, f = g + 1 := ⟨f - 1, by omega⟩
  unfold rdN rdH
  rw [if_neg (by rw [stands_end]; decide)]
  simp only
  rw [if_neg (by rw [stands_end]; decide), if_pos (stands_end s 91)]
theorem rdK_less : ∀ (ks : List NodeD) (pre : List UInt8) (f : Nat) (out : List NodeD), kidsE ks = 0 → 2 * (printK ks).length + 2 ≤ f → rdK f (pre ++ printK ks) pre.length out = .bad (pre.length + (printK ks).length) 11
  | [], pre, f, out, h, hf => by
    obtain ⟨f, rfl⟩ : ∃ g, f = g + 1 := ⟨f - 1, by omega⟩
    have e : pre ++ printK [] = pre := by simp [printK]
    have el : (printK []).length = 0 := rfl
    rw [el] at hf
    rw [e, el]
    unfold rdK
    rw [if_neg (by rw [stands_end]; decide), rdN_end pre f (by omega)]
    rfl
  | k :: ks, pre, f, out, h, hf => by
    obtain ⟨f, rfl⟩ : ∃ g, f = g + 1 := ⟨f - 1, by omega⟩
    obtain ⟨h1, h2⟩ := kidsE_ok h
    obtain ⟨x, r, hx, hne⟩ := printL_head k
    have e : pre ++ printK (k :: ks) = pre ++ (printL k ++ printK ks) := by simp [printK]
    have e2 : pre ++ (printL k ++ printK ks) = (pre ++ printL k) ++ printK ks := by simp
    have e3 : pre ++ (printL k ++ printK ks) = pre ++ x :: (r ++ printK ks) := by rw [hx]; simp
    have hlen : (printK (k :: ks)).length = (printL k).length + (printK ks).length := by simp [printK]
    have hkl : 1 ≤ (printL k).length := by rw [hx]; simp
    rw [e]
    unfold rdK
    rw [if_neg (by rw [stands_pos e3 rfl]; simpa using hne)]
    rw [rdN_print k pre (printK ks) f h1 (by omega)]
    simp only
    rw [e2, show pre.length + (printL k).length = (pre ++ printL k).length by simp, rdK_less ks (pre ++ printL k) f (out ++ [k]) h2 (by omega)]
    rw [hlen]
    congr 1
    simp; omega
/-- A printed tree without its last byte fails at its end. -/
theorem rdN_less (n : NodeD) (f : Nat) (h : nodeE n = 0) (hf : 2 * ((printL n).length - 1) + 1 ≤ f) : rdN f (printL n).dropLast 0 = .bad ((printL n).length - 1) 11 := by
  obtain ⟨l, ps, t, ks⟩ := n
  obtain ⟨f, rfl⟩ : ∃ g, f = g + 1 := ⟨f - 1, by omega⟩
  obtain ⟨ho, hk⟩ := nodeE_ok h
  obtain ⟨hp, ht, hl1, hl2⟩ := ownE_ok ho
  cases l with
  | true =>
    have hpr : printL (.mk true ps t ks) = (propsL ps ++ 34 :: bodyL t) ++ [34] := by simp [printL, quoteL]
    rw [hpr, List.dropLast_concat]
    have e3 : propsL ps ++ 34 :: bodyL t = (propsL ps) ++ 34 :: (bodyL t) := rfl
    have hh := rdH_print hp [] (bodyL t) 34 (by decide)
    simp only [List.nil_append, List.length_nil, Nat.zero_add] at hh
    unfold rdN
    rw [hh]
    simp only
    rw [if_pos (by rw [stands_pos e3 rfl]; rfl), rdL_less ht (propsL ps)]
    simp only
    congr 1
    simp; omega
  | false =>
    have hpr : printL (.mk false ps t ks) = (propsL ps ++ 91 :: printK ks) ++ [93] := by simp [printL]
    have hlen : (printL (.mk false ps t ks)).length = (propsL ps).length + (printK ks).length + 2 := by simp [printL]; omega
    rw [hlen, hpr, List.dropLast_concat]
    have e3 : propsL ps ++ 91 :: printK ks = (propsL ps) ++ 91 :: (printK ks) := rfl
    have e4 : propsL ps ++ 91 :: printK ks = (propsL ps ++ [91]) ++ printK ks := by simp
    have hh := rdH_print hp [] (printK ks) 91 (by decide)
    simp only [List.nil_append, List.length_nil, Nat.zero_add] at hh
    unfold rdN
    rw [hh]
    simp only
    rw [if_neg (by rw [stands_pos e3 rfl]; decide), if_neg (by rw [stands_pos e3 rfl]; decide)]
    rw [e4, show (propsL ps).length + 1 = (propsL ps ++ [91]).length by simp, rdK_less ks _ f [] hk (by omega)]
    simp only
    congr 1
    simp; omega

end Go.Proofs.YtmhgbocejjnoaaaGreatDoor
