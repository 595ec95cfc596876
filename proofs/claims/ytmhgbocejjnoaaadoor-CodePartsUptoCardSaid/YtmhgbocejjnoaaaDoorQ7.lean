/- Parts of the proof, one behind the other: RPU, RS2, RPV, RS3, RQC, RB1, RQ1. -/
import Derived.Test.YtmhgbocejjnoaaaDoorQ2
import Derived.Test.YtmhgbocejjnoaaaDoorQ6
import Derived.Lib.ConvBytes
import Derived.Test.YtmhgbocejjnoaaaDoorQ3
import Derived.Deep.RegionWith
import Derived.Lib.IndexLaws
import Derived.Test.YtmhgbocejjnoaaaDoorQ1
import Derived.Deep.QuietTactic
import Derived.BigQuiet
import Derived.Deep.RegionLaw
import Derived.Lib.Builder
import Derived.Lib.AppendStr
/- Walks: strconv.ParseUint at base 16 and 32 bits. -/
namespace Go.Proofs.YtmhgbocejjnoaaaDoor
open Go.RowKit Go.Redl
set_option linter.unusedVariables false

set_option maxRecDepth 100000 in
set_option maxHeartbeats 1000000 in
theorem iparse_empty (w : World) :
    Calls Tryd.prog 103 #[.string ⟨#[]⟩, .int .i64 16, .int .i64 32] w fun e w' => e = .returned (.tuple #[.int .u64 0, .iface 137 (.int .i64 2)]) ∧ w = w' := by
  go_enter Tryd.func103, Tryd.ntmps103
  go_wp2_with fail
  go_ret2
  exact ⟨rfl, rfl⟩

theorem conv_bytes (s : List UInt8) (w : World) : ∃ cap wb, (convert 9 41 (.string ⟨s.toArray⟩)).run Tryd.prog w = .ok (.slice (some ⟨w.heap.size, 0, none⟩) s.length cap) wb ∧ Below w.heap.size w wb ∧
    ∀ j, j < s.length → wb.cell? ⟨w.heap.size, j, none⟩ = some (.int .u8 (s.getD j 0).toNat) := by
  refine ⟨_, _, Lib.run_convert_string_bytes w 9 41 5 ⟨s.toArray⟩ Tryd.underlying9 Tryd.underlying41 Tryd.underlying5, ?_, fun j hj => ?_⟩
  · exact ⟨rfl, rfl, rfl, by rw [Lib.bytesWorld_size]; omega, fun k hk => Lib.bytesWorld_at_old w _ _ k hk⟩
  · have := Lib.bytesWorld_cell w 5 ⟨s.toArray⟩ j hj
    simpa using this

theorem lower_c (c : UInt8) (w : World) : Calls Tryd.prog 109 #[.int .u8 (c.toNat : Int)] w fun e w' => e = .returned (.int .u8 ((c ||| 32).toNat : Int)) ∧ w = w' := by
  refine (Tryd.internal_strconv_lower c.toNat w).mono ?_
  rintro e w' ⟨rfl, rfl⟩
  refine ⟨?_, rfl⟩
  have h := u8_or_nat c.toNat 32 (UInt8.toNat_lt c) (by omega)
  rw [show ((32 : Nat) : Int) = 32 from rfl] at h
  rw [h]
  rfl

/-- What the inner ParseUint answers. -/
def ParsedI (w : World) (p : Option Nat) (x : Ending) (w' : World) : Prop :=
  Below w.heap.size w w' ∧ ((∃ m, p = some m ∧ x = .returned (.tuple #[.int .u64 m, .nilIface])) ∨ (p = none ∧ ∃ (m : Nat) (k : Int), (k = 1 ∨ k = 2) ∧ x = .returned (.tuple #[.int .u64 m, .iface 137 (.int .i64 k)])))
/-- Where the reading stands. -/
def PInv (s : List UInt8) (k acc : Nat) : Prop := acc ≤ 4294967295 ∧ parseP s 0 = parseP (s.drop k) acc
theorem pinv_start (s : List UInt8) : PInv s 0 0 := ⟨by omega, by simp⟩
theorem pinv_step {s : List UInt8} {k acc d : Nat} (h : PInv s k acc) (hk : k < s.length) (hd : digv s[k] = some d) (hlt : d < 16) (hb : acc * 16 + d ≤ 4294967295) : PInv s (k + 1) (acc * 16 + d) := by
  refine ⟨hb, ?_⟩
  rw [h.2, List.drop_eq_getElem_cons hk, parseP, hd]
  simp only
  rw [if_neg (by omega), if_neg (by omega)]
theorem pinv_bad {s : List UInt8} {k acc : Nat} (h : PInv s k acc) (hk : k < s.length) (hd : digv s[k] = none) : parseP s 0 = none := by
  rw [h.2, List.drop_eq_getElem_cons hk, parseP, hd]
theorem pinv_big {s : List UInt8} {k acc d : Nat} (h : PInv s k acc) (hk : k < s.length) (hd : digv s[k] = some d) (hb : 16 ≤ d ∨ 4294967295 < acc * 16 + d) : parseP s 0 = none := by
  rw [h.2, List.drop_eq_getElem_cons hk, parseP, hd]
  simp only
  split
  · rfl
  · rw [if_pos (by omega)]
theorem pinv_end {s : List UInt8} {acc : Nat} (h : PInv s s.length acc) : parseP s 0 = some acc := by
  rw [h.2, List.drop_of_length_le (Nat.le_refl _)]; rfl
theorem int_eq {k : IntKind} {a b : Int} (h : a = b) : Value.int k a = .int k b := by rw [h]

set_option maxRecDepth 100000 in
set_option maxHeartbeats 4000000 in
theorem iparse_c (s : List UInt8) (w : World) (h0 : s ≠ []) (hn : s.length ≤ 1000000) :
    Calls Tryd.prog 103 #[.string ⟨s.toArray⟩, .int .i64 16, .int .i64 32] w (ParsedI w (parseP s 0)) := by
  have he : s.isEmpty = false := by cases s <;> simp_all
  obtain ⟨cap, wb, hcv, hbel, hcell⟩ := conv_bytes s w
  have Hb := Lib.hid hbel; have Hc := Lib.hid hcell; have HP := Lib.hid (pinv_start s)
  obtain ⟨p, hp⟩ : ∃ p, parseP s 0 = p := ⟨_, rfl⟩
  rw [hp]
  have Hp := Lib.hid hp
  clear hbel hcell h0 hp
  go_enter Tryd.func103, Tryd.ntmps103
  go_wp2_with fail
  clear hcv he
  obtain ⟨cut, hcut, hcut2⟩ : ∃ cut : Int, cut = 1152921504606846976 ∧ 4294967296 ≤ cut := ⟨_, rfl, by omega⟩
  rw [← hcut]
  clear hcut
  go_loop [12, 13, 101] (fun u x i => u = .bool false ∧ ∃ k acc : Nat, k ≤ s.length ∧ i = .int .i64 k ∧ x = .int .u64 acc ∧ PInv s k acc) (fun _ _ i => s.length - (intOf i).toNat)
  case atStart => exact ⟨rfl, 0, 0, Nat.zero_le _, rfl, rfl, HP.out⟩
  case round =>
    obtain ⟨rfl, k, acc, hk, rfl, rfl, hi⟩ := hrel
    clear HP
    have hacc := hi.1
    have HI := Lib.hid hi
    clear hi
    by_cases hlt : k < s.length
    · have hcell := Hc.out k hlt
      rw [getD_of_lt hlt] at hcell
      obtain ⟨c, hc⟩ : ∃ c, s[k] = c := ⟨_, rfl⟩
      rw [hc] at hcell
      have HC := Lib.hid hc
      clear hc
      have hc256 := UInt8.toNat_lt c
      have hl256 := UInt8.toNat_lt (c ||| 32)
      by_cases hdig : 48 ≤ c.toNat ∧ c.toNat ≤ 57
      · obtain ⟨d1, d2⟩ := hdig
        have hd : digv c = some (c.toNat - 48) := by unfold digv; rw [if_pos ⟨d1, d2⟩]
        have HD := Lib.hid hd
        clear hd hl256
        obtain ⟨n, hn'⟩ : ∃ n, c.toNat = n := ⟨_, rfl⟩
        rw [hn'] at hcell d1 d2 HD hc256
        clear hn'
        have e95 : ((n : Int) == 95) = false := by simp; omega
        by_cases hbig : 4294967295 < acc * 16 + (n - 48)
        · have hb' : (4294967295 : Int) < (acc : Int) * 16 + ((n : Int) - 48) := by omega
          clear hbig
          go_wp2_with fail
          go_ret2
          refine ⟨Hb.out, .inr ⟨?_, 4294967295, 1, .inl rfl, rfl⟩⟩
          rw [← Hp.out]; exact pinv_big HI.out hlt (by rw [HC.out]; exact HD.out) (by omega)
        · have hb' : (acc : Int) * 16 + ((n : Int) - 48) ≤ 4294967295 := by omega
          clear hbig
          go_wp2_with fail
          go_round
          case rel => exact ⟨rfl, k + 1, acc * 16 + (n - 48), by omega, by go_num, int_eq (by omega), pinv_step HI.out hlt (by rw [HC.out]; exact HD.out) (by omega) (by omega)⟩
          case measure => simp [intOf]; omega
      · by_cases hlo : 97 ≤ (c ||| 32).toNat ∧ (c ||| 32).toNat ≤ 122
        · obtain ⟨l1, l2⟩ := hlo
          have hd : digv c = some ((c ||| 32).toNat - 87) := by unfold digv; rw [if_neg hdig, if_pos ⟨l1, l2⟩]
          have HD := Lib.hid hd
          have hne : c.toNat ≠ 95 := by
            intro h95
            have : c = 95 := by apply UInt8.toNat_inj.1; exact h95
            subst this
            revert l2; decide
          have HL := Lib.hid (lower_c c wb)
          clear hd
          obtain ⟨l, hl'⟩ : ∃ l, (c ||| 32).toNat = l := ⟨_, rfl⟩
          obtain ⟨n, hn'⟩ : ∃ n, c.toNat = n := ⟨_, rfl⟩
          rw [hl'] at l1 l2 HD HL hl256
          rw [hn'] at hcell hdig hc256 hne HL
          clear hn' hl'
          have e95 : ((n : Int) == 95) = false := by simp; omega
          rcases Nat.lt_or_ge n 48 with hn48 | hn48
          · clear hdig hne
            by_cases hbig : 16 ≤ l - 87
            · have hb' : (26 : Int) + 77 ≤ l := by omega
              clear hbig
              go_wp2_with fail
              refine HL.out.mono ?_
              rintro e w' ⟨rfl, rfl⟩
              go_wp2_with fail
              refine HL.out.mono ?_
              rintro e w' ⟨rfl, rfl⟩
              go_wp2_with fail
              refine HL.out.mono ?_
              rintro e w' ⟨rfl, rfl⟩
              go_wp2_with fail
              go_ret2
              refine ⟨Hb.out, .inr ⟨?_, 0, 2, .inr rfl, rfl⟩⟩
              rw [← Hp.out]; exact pinv_big HI.out hlt (by rw [HC.out]; exact HD.out) (by omega)
            · have hb' : (l : Int) ≤ 102 := by omega
              by_cases hbig2 : 4294967295 < acc * 16 + (l - 87)
              · have hb2 : (4294967295 : Int) < (acc : Int) * 16 + ((l : Int) - 97 + 10) := by omega
                clear hbig2 hbig
                go_wp2_with fail
                refine HL.out.mono ?_
                rintro e w' ⟨rfl, rfl⟩
                go_wp2_with fail
                refine HL.out.mono ?_
                rintro e w' ⟨rfl, rfl⟩
                go_wp2_with fail
                refine HL.out.mono ?_
                rintro e w' ⟨rfl, rfl⟩
                go_wp2_with fail
                go_ret2
                refine ⟨Hb.out, .inr ⟨?_, 4294967295, 1, .inl rfl, rfl⟩⟩
                rw [← Hp.out]; exact pinv_big HI.out hlt (by rw [HC.out]; exact HD.out) (by omega)
              · have hb2 : (acc : Int) * 16 + ((l : Int) - 97 + 10) ≤ 4294967295 := by omega
                clear hbig2 hbig
                go_wp2_with fail
                refine HL.out.mono ?_
                rintro e w' ⟨rfl, rfl⟩
                go_wp2_with fail
                refine HL.out.mono ?_
                rintro e w' ⟨rfl, rfl⟩
                go_wp2_with fail
                refine HL.out.mono ?_
                rintro e w' ⟨rfl, rfl⟩
                go_wp2_with fail
                go_round
                case rel => exact ⟨rfl, k + 1, acc * 16 + (l - 87), by omega, by go_num, int_eq (by omega), pinv_step HI.out hlt (by rw [HC.out]; exact HD.out) (by omega) (by omega)⟩
                case measure => simp [intOf]; omega
          · have hn57 : 57 < n := by omega
            clear hdig hne hn48
            by_cases hbig : 16 ≤ l - 87
            · have hb' : (26 : Int) + 77 ≤ l := by omega
              clear hbig
              go_wp2_with fail
              refine HL.out.mono ?_
              rintro e w' ⟨rfl, rfl⟩
              go_wp2_with fail
              refine HL.out.mono ?_
              rintro e w' ⟨rfl, rfl⟩
              go_wp2_with fail
              refine HL.out.mono ?_
              rintro e w' ⟨rfl, rfl⟩
              go_wp2_with fail
              go_ret2
              refine ⟨Hb.out, .inr ⟨?_, 0, 2, .inr rfl, rfl⟩⟩
              rw [← Hp.out]; exact pinv_big HI.out hlt (by rw [HC.out]; exact HD.out) (by omega)
            · have hb' : (l : Int) ≤ 102 := by omega
              by_cases hbig2 : 4294967295 < acc * 16 + (l - 87)
              · have hb2 : (4294967295 : Int) < (acc : Int) * 16 + ((l : Int) - 97 + 10) := by omega
                clear hbig2 hbig
                go_wp2_with fail
                refine HL.out.mono ?_
                rintro e w' ⟨rfl, rfl⟩
                go_wp2_with fail
                refine HL.out.mono ?_
                rintro e w' ⟨rfl, rfl⟩
                go_wp2_with fail
                refine HL.out.mono ?_
                rintro e w' ⟨rfl, rfl⟩
                go_wp2_with fail
                go_ret2
                refine ⟨Hb.out, .inr ⟨?_, 4294967295, 1, .inl rfl, rfl⟩⟩
                rw [← Hp.out]; exact pinv_big HI.out hlt (by rw [HC.out]; exact HD.out) (by omega)
              · have hb2 : (acc : Int) * 16 + ((l : Int) - 97 + 10) ≤ 4294967295 := by omega
                clear hbig2 hbig
                go_wp2_with fail
                refine HL.out.mono ?_
                rintro e w' ⟨rfl, rfl⟩
                go_wp2_with fail
                refine HL.out.mono ?_
                rintro e w' ⟨rfl, rfl⟩
                go_wp2_with fail
                refine HL.out.mono ?_
                rintro e w' ⟨rfl, rfl⟩
                go_wp2_with fail
                go_round
                case rel => exact ⟨rfl, k + 1, acc * 16 + (l - 87), by omega, by go_num, int_eq (by omega), pinv_step HI.out hlt (by rw [HC.out]; exact HD.out) (by omega) (by omega)⟩
                case measure => simp [intOf]; omega
        · have hd : digv c = none := by unfold digv; rw [if_neg hdig, if_neg hlo]
          have HD := Lib.hid hd
          have HL := Lib.hid (lower_c c wb)
          clear hd
          obtain ⟨l, hl'⟩ : ∃ l, (c ||| 32).toNat = l := ⟨_, rfl⟩
          obtain ⟨n, hn'⟩ : ∃ n, c.toNat = n := ⟨_, rfl⟩
          rw [hl'] at hlo HL hl256
          rw [hn'] at hcell hdig hc256 HL
          clear hn' hl'
          have hfin : ParsedI w p (.returned (.tuple #[.int .u64 (0 : Nat), .iface 137 (.int .i64 2)])) wb := ⟨Hb.out, .inr ⟨by rw [← Hp.out]; exact pinv_bad HI.out hlt (by rw [HC.out]; exact HD.out), 0, 2, .inr rfl, rfl⟩⟩
          have Hfin := Lib.hid hfin
          clear hfin
          rcases (show n < 48 ∨ (57 < n ∧ n ≠ 95) ∨ n = 95 by omega) with hn | hn | hn
          · have e95 : ((n : Int) == 95) = false := by simp; omega
            rcases (show l < 97 ∨ 122 < l by omega) with hl | hl
            · clear hlo hdig
              go_wp2_with fail
              refine HL.out.mono ?_
              rintro e w' ⟨rfl, rfl⟩
              go_wp2_with fail
              go_ret2
              exact Hfin.out
            · clear hlo hdig
              have hl' : ((97 : Int) ≤ l) := by omega
              go_wp2_with fail
              refine HL.out.mono ?_
              rintro e w' ⟨rfl, rfl⟩
              go_wp2_with fail
              refine HL.out.mono ?_
              rintro e w' ⟨rfl, rfl⟩
              go_wp2_with fail
              go_ret2
              exact Hfin.out
          · obtain ⟨hn1, hn2⟩ := hn
            have e95 : ((n : Int) == 95) = false := by simp; omega
            clear hn2
            rcases (show l < 97 ∨ 122 < l by omega) with hl | hl
            · clear hlo hdig
              go_wp2_with fail
              refine HL.out.mono ?_
              rintro e w' ⟨rfl, rfl⟩
              go_wp2_with fail
              go_ret2
              exact Hfin.out
            · clear hlo hdig
              have hl' : ((97 : Int) ≤ l) := by omega
              go_wp2_with fail
              refine HL.out.mono ?_
              rintro e w' ⟨rfl, rfl⟩
              go_wp2_with fail
              refine HL.out.mono ?_
              rintro e w' ⟨rfl, rfl⟩
              go_wp2_with fail
              go_ret2
              exact Hfin.out
          · subst hn
            rcases (show l < 97 ∨ 122 < l by omega) with hl | hl
            · clear hlo hdig
              go_wp2_with fail
              refine HL.out.mono ?_
              rintro e w' ⟨rfl, rfl⟩
              go_wp2_with fail
              go_ret2
              exact Hfin.out
            · clear hlo hdig
              have hl' : ((97 : Int) ≤ l) := by omega
              go_wp2_with fail
              refine HL.out.mono ?_
              rintro e w' ⟨rfl, rfl⟩
              go_wp2_with fail
              refine HL.out.mono ?_
              rintro e w' ⟨rfl, rfl⟩
              go_wp2_with fail
              go_ret2
              exact Hfin.out
    · have : k = s.length := by omega
      subst this
      have hpe := pinv_end HI.out
      rw [Hp.out] at hpe
      have Hpe := Lib.hid hpe
      clear hpe
      go_wp2_with fail
      go_ret2
      exact ⟨Hb.out, .inl ⟨acc, Hpe.out, rfl⟩⟩

end Go.Proofs.YtmhgbocejjnoaaaDoor
/- Plain laws: what is quoted is read again, and the other way round. No walk. -/
namespace Go.Redl
open Go.RowKit
set_option linter.unusedVariables false

theorem qb_pos (c : Int) : 1 ≤ (qb c).length := by unfold qb; split <;> simp [escL]
theorem qb_head {c : Int} (hv : validB c = true) : ∃ x r, qb c = x :: r ∧ x ≠ 34 := by
  unfold qb
  split
  · rename_i hp
    refine ⟨_, [], rfl, fun h => ?_⟩
    have h1 := congrArg UInt8.toNat h
    unfold plainB at hp
    simp at hp
    rw [UInt8.toNat_ofNat'] at h1
    have : (34 : UInt8).toNat = 34 := rfl
    rw [this] at h1
    omega
  · exact ⟨92, _, rfl, by decide⟩
theorem firstS_qb {c : Int} (hv : validB c = true) (t : List UInt8) : firstS (qb c ++ t) = (c, (qb c).length) := by
  cases hp : plainB c with
  | true =>
    have hq : qb c = [UInt8.ofNat c.toNat] := by unfold qb; rw [if_pos hp]
    obtain ⟨h0, h1⟩ := plain_bound hp
    have hc : (((UInt8.ofNat c.toNat).toNat : Nat) : Int) = c := by rw [UInt8.toNat_ofNat', Nat.mod_eq_of_lt (by omega)]; omega
    rw [hq]
    simp only [List.cons_append, List.nil_append, firstS, hc, hp, if_true, List.length_cons, List.length_nil]
  | false =>
    obtain ⟨h0, h1⟩ := valid_bound hv
    obtain ⟨n, rfl⟩ := Int.eq_ofNat_of_zero_le h0
    have hq : qb (n : Int) = escL n := by unfold qb; rw [if_neg (by simp [hp])]; simp
    rw [hq]
    have he : escN (escL n ++ t) = some n := escN_some.2 ⟨hv, hp, List.prefix_append _ _⟩
    have hp92 : plainB ((92 : UInt8).toNat : Int) = false := by decide
    unfold firstS
    simp only [escL, List.cons_append, List.append_assoc] at he ⊢
    rw [hp92]
    simp only [Bool.false_eq_true, if_false, he]
theorem firstS_ok {t : List UInt8} (h : (firstS t).2 ≠ 0) : validB (firstS t).1 = true ∧ t = qb (firstS t).1 ++ t.drop (firstS t).2 ∧ (firstS t).2 = (qb (firstS t).1).length := by
  cases t with
  | nil => exact absurd rfl h
  | cons x r =>
    cases hp : plainB x.toNat with
    | true =>
      have hf : firstS (x :: r) = ((x.toNat : Int), 1) := by simp [firstS, hp]
      rw [hf]
      obtain ⟨h0, h1⟩ := plain_bound hp
      have hq : qb (x.toNat : Int) = [x] := by unfold qb; rw [if_pos hp]; simp
      refine ⟨?_, by rw [hq]; simp, by rw [hq]; rfl⟩
      unfold validB; simp; omega
    | false =>
      cases he : escN (x :: r) with
      | none =>
        have hf : firstS (x :: r) = (0, 0) := by simp [firstS, hp, he]
        rw [hf] at h; exact absurd rfl h
      | some n =>
        have hf : firstS (x :: r) = ((n : Int), (escL n).length) := by simp [firstS, hp, he]
        obtain ⟨h1, h2, rest, h3⟩ := escN_some.1 he
        have hq : qb (n : Int) = escL n := by unfold qb; rw [if_neg (by simp [h2])]; simp
        rw [hf]
        refine ⟨h1, ?_, by rw [hq]⟩
        rw [hq]
        simp only
        rw [← h3]
        simp

theorem uq_body : ∀ (zs : List Int) (f : Nat) (t : List UInt8) (out : List Int) (at_ : Nat), (∀ c ∈ zs, validB c = true) → uq (f + zs.length) (bodyL zs ++ t) out at_ = uq f t (out ++ zs) (at_ + (bodyL zs).length)
  | [], f, t, out, at_, h => by simp [bodyL]
  | c :: zs, f, t, out, at_, h => by
    have hv := h c (by simp)
    have hb : bodyL (c :: zs) ++ t = qb c ++ (bodyL zs ++ t) := by simp [bodyL]
    obtain ⟨x, r, hq, hx⟩ := qb_head hv
    rw [hb]
    have h1 := firstS_qb hv (bodyL zs ++ t)
    have hpos := qb_pos c
    rw [show f + (c :: zs).length = (f + zs.length) + 1 by simp; omega]
    have hstep : uq ((f + zs.length) + 1) (qb c ++ (bodyL zs ++ t)) out at_ = uq (f + zs.length) ((qb c ++ (bodyL zs ++ t)).drop (qb c).length) (out ++ [c]) (at_ + (qb c).length) := by
      conv => lhs; rw [hq]
      simp only [List.cons_append, uq]
      rw [if_neg hx]
      rw [hq] at h1
      simp only [List.cons_append] at h1
      rw [h1]
      simp only
      rw [← hq, if_neg (by omega)]
      rw [hq]; rfl
    rw [hstep, List.drop_left, uq_body zs f t _ _ (fun d hd => h d (by simp [hd]))]
    have : (bodyL (c :: zs)).length = (qb c).length + (bodyL zs).length := by simp [bodyL]
    rw [this]
    simp [Nat.add_assoc]
theorem body_long : ∀ zs : List Int, zs.length ≤ (bodyL zs).length
  | [] => by simp
  | c :: zs => by
    have h1 := body_long zs
    have h2 := qb_pos c
    simp only [bodyL, List.flatMap_cons, List.length_append, List.length_cons] at *
    omega
/-- Behind a body: fuel there is. -/
theorem unq_body {zs : List Int} (hv : ∀ c ∈ zs, validB c = true) (t : List UInt8) : ∃ f, t.length ≤ f ∧ unqL (34 :: (bodyL zs ++ t)) = uq (f + 1) t zs (1 + (bodyL zs).length) := by
  have hl := body_long zs
  refine ⟨(bodyL zs).length - zs.length + t.length, by omega, ?_⟩
  have hf : (bodyL zs ++ t).length + 1 = ((bodyL zs).length - zs.length + t.length + 1) + zs.length := by simp; omega
  show uq ((bodyL zs ++ t).length + 1) (bodyL zs ++ t) [] 1 = _
  rw [hf, uq_body zs _ t [] 1 hv]
  simp
theorem unq_quote {zs : List Int} (hv : ∀ c ∈ zs, validB c = true) : unqL (quoteL zs) = (zs, 0, 0) := by
  obtain ⟨f, hf, h⟩ := unq_body hv [34]
  rw [show quoteL zs = 34 :: (bodyL zs ++ [34]) from rfl, h]
  simp [uq]
theorem unq_more {zs : List Int} (hv : ∀ c ∈ zs, validB c = true) (b : UInt8) : unqL (quoteL zs ++ [b]) = ([], ((quoteL zs).length : Int), 11) := by
  obtain ⟨f, hf, h⟩ := unq_body hv [34, b]
  have : quoteL zs ++ [b] = 34 :: (bodyL zs ++ [34, b]) := by simp [quoteL]
  rw [this, h]
  simp [uq, quoteL]
  omega
theorem unq_less {zs : List Int} (hv : ∀ c ∈ zs, validB c = true) : unqL (34 :: bodyL zs) = ([], (1 + (bodyL zs).length : Int), 11) := by
  obtain ⟨f, hf, h⟩ := unq_body hv []
  rw [List.append_nil] at h
  rw [h]
  simp [uq]
theorem uq_cases : ∀ (f : Nat) (t : List UInt8) (out : List Int) (at_ : Nat), t.length ≤ f →
    (∃ zs, (∀ c ∈ zs, validB c = true) ∧ t = bodyL zs ++ [34] ∧ uq (f + 1) t out at_ = (out ++ zs, 0, 0)) ∨ ∃ p : Nat, p ≤ at_ + t.length ∧ uq (f + 1) t out at_ = ([], (p : Int), 11)
  | f, [], out, at_, h => .inr ⟨at_, by simp, by simp [uq]⟩
  | 0, x :: r, out, at_, h => by simp at h
  | f + 1, x :: r, out, at_, h => by
    by_cases hx : x = 34
    · subst hx
      by_cases hr : r = []
      · subst hr
        exact .inl ⟨[], by simp, by simp [bodyL], by simp [uq]⟩
      · refine .inr ⟨at_ + 1, ?_, by simp [uq, hr]⟩
        have : 0 < r.length := List.length_pos_iff.2 hr
        simp only [List.length_cons]; omega
    · by_cases h0 : (firstS (x :: r)).2 = 0
      · refine .inr ⟨at_, by simp, ?_⟩
        simp only [uq]
        rw [if_neg hx, if_pos h0]
      · obtain ⟨h1, h2, h3⟩ := firstS_ok h0
        generalize hc : firstS (x :: r) = q at *
        obtain ⟨c, l⟩ := q
        simp only at h0 h1 h2 h3
        have hl : ((x :: r).drop l).length ≤ f := by
          have := congrArg List.length h2
          simp at this h ⊢
          omega
        have hs : uq (f + 1 + 1) (x :: r) out at_ = uq (f + 1) ((x :: r).drop l) (out ++ [c]) (at_ + l) := by
          rw [uq]
          rw [if_neg hx, hc]
          simp only
          rw [if_neg h0]
        rcases uq_cases f ((x :: r).drop l) (out ++ [c]) (at_ + l) hl with ⟨zs, z1, z2, z3⟩ | ⟨p, p1, p2⟩
        · refine .inl ⟨c :: zs, ?_, ?_, ?_⟩
          · intro d hd
            rcases List.mem_cons.1 hd with rfl | hd
            · exact h1
            · exact z1 d hd
          · rw [h2, z2]; simp [bodyL]
          · rw [hs, z3]; simp
        · refine .inr ⟨p, ?_, by rw [hs, p2]⟩
          have := congrArg List.length h2
          simp at this p1 ⊢
          omega
/-- Whatever is read: it is what some text is quoted as, or none. -/
theorem unq_cases (s : List UInt8) : (∃ zs, (∀ c ∈ zs, validB c = true) ∧ s = quoteL zs ∧ unqL s = (zs, 0, 0)) ∨ ∃ p : Nat, p ≤ s.length ∧ unqL s = ([], (p : Int), 11) := by
  cases s with
  | nil => exact .inr ⟨0, by simp, rfl⟩
  | cons x r =>
    by_cases hx : x = 34
    · subst hx
      have hu : unqL (34 :: r) = uq (r.length + 1) r [] 1 := rfl
      rcases uq_cases r.length r [] 1 (Nat.le_refl _) with ⟨zs, z1, z2, z3⟩ | ⟨p, p1, p2⟩
      · exact .inl ⟨zs, z1, by rw [z2]; rfl, by rw [hu, z3]; simp⟩
      · exact .inr ⟨p, by simp; omega, by rw [hu, p2]⟩
    · exact .inr ⟨0, by simp, by unfold unqL; simp only; rw [if_neg hx]; rfl⟩
theorem unq_ahead {zs : List Int} (b : UInt8) : unqL (b :: quoteL zs) = if b = 34 then ([], 2, 11) else ([], 0, 11) := by
  unfold unqL
  simp only
  split
  · simp [quoteL, uq]
  · rfl

end Go.Redl
/- Walks: strconv.ParseUint as it is called, glyph.first. -/
namespace Go.Proofs.YtmhgbocejjnoaaaDoor
open Go.RowKit Go.Redl
set_option linter.unusedVariables false

/-- The library's two errors are there. -/
def ErrsAt (w : World) : Prop := (∃ te pe, w.cell? ⟨4, 0, none⟩ = some (.iface te pe)) ∧ (∃ te pe, w.cell? ⟨5, 0, none⟩ = some (.iface te pe)) ∧ 4 < w.heap.size ∧ 5 < w.heap.size
theorem ErrsAt.keep {w w' : World} (h : ErrsAt w) (hb : Below w.heap.size w w') : ErrsAt w' := by
  obtain ⟨⟨te, pe, h1⟩, ⟨te', pe', h2⟩, h3, h4⟩ := h
  exact ⟨⟨te, pe, by rw [hb.cell (p := ⟨_, 0, none⟩) h3]; exact h1⟩, ⟨te', pe', by rw [hb.cell (p := ⟨_, 0, none⟩) h4]; exact h2⟩, Nat.lt_of_lt_of_le h3 hb.size, Nat.lt_of_lt_of_le h4 hb.size⟩

/-- What ParseUint answers. -/
def ParsedP (w : World) (p : Option Nat) (x : Ending) (w' : World) : Prop :=
  Below w.heap.size w w' ∧ ((∃ m, p = some m ∧ x = .returned (.tuple #[.int .u64 m, .nilIface])) ∨ (p = none ∧ ∃ (m : Nat) (t : TypeId) (v : Value), x = .returned (.tuple #[.int .u64 m, .iface t v])))

set_option maxRecDepth 100000 in
set_option maxHeartbeats 1000000 in
theorem parse_c (s : List UInt8) (w : World) (hn : s.length ≤ 1000000) (he : ErrsAt w) :
    Calls Tryd.prog 93 #[.string ⟨s.toArray⟩, .int .i64 16, .int .i64 32] w (ParsedP w (if s = [] then none else parseP s 0)) := by
  have HI : Calls Tryd.prog 103 #[.string ⟨s.toArray⟩, .int .i64 16, .int .i64 32] w (ParsedI w (if s = [] then none else parseP s 0)) := by
    by_cases h0 : s = []
    · subst h0
      rw [if_pos rfl]
      refine (iparse_empty w).mono ?_
      rintro e w' ⟨rfl, rfl⟩
      exact ⟨Below.refl _ _, .inr ⟨rfl, 0, 2, .inr rfl, rfl⟩⟩
    · rw [if_neg h0]
      exact iparse_c s w h0 hn
  obtain ⟨p, hp⟩ : ∃ p, (if s = [] then none else parseP s 0) = p := ⟨_, rfl⟩
  rw [hp] at HI ⊢
  clear hp
  have HX := Lib.hid HI
  have He := Lib.hid he
  clear HI he
  go_enter Tryd.func93, Tryd.ntmps93
  go_wp2_with fail
  refine HX.out.mono ?_
  rintro e w1 ⟨hb, h⟩
  have Hb := Lib.hid hb
  clear hb
  rcases h with ⟨m, hp, rfl⟩ | ⟨hp, m, k, hk, rfl⟩
  · have Hp := Lib.hid hp
    clear hp
    go_wp2_with fail
    go_ret2
    exact ⟨Hb.out, .inl ⟨m, Hp.out, rfl⟩⟩
  · have Hp := Lib.hid hp
    clear hp
    obtain ⟨⟨te, pe, h1⟩, ⟨te', pe', h2⟩, h3, h4⟩ := He.out.keep Hb.out
    rcases hk with rfl | rfl
    · have HT := fun fn => Lib.hid (Tryd.strconv_toError_range fn ⟨s.toArray⟩ 16 32 _ w1 (by show s.length ≤ _; omega) h2 (.inr ⟨te', pe', rfl⟩))
      clear h1 h2 h3 h4
      go_wp2_with fail
      refine (HT _).out.mono ?_
      rintro e w2 ⟨N, rfl, -, -, hb2⟩
      have Hb2 := Lib.hid (Hb.out.trans (hb2.mono Hb.out.size))
      clear hb2
      go_wp2_with fail
      go_ret2
      exact ⟨Hb2.out, .inr ⟨Hp.out, m, _, _, rfl⟩⟩
    · have HT := fun fn => Lib.hid (Tryd.strconv_toError_syntax fn ⟨s.toArray⟩ 16 32 _ w1 (by show s.length ≤ _; omega) h1 (.inr ⟨te, pe, rfl⟩))
      clear h1 h2 h3 h4
      go_wp2_with fail
      refine (HT _).out.mono ?_
      rintro e w2 ⟨N, rfl, -, -, hb2⟩
      have Hb2 := Lib.hid (Hb.out.trans (hb2.mono Hb.out.size))
      clear hb2
      go_wp2_with fail
      go_ret2
      exact ⟨Hb2.out, .inr ⟨Hp.out, m, _, _, rfl⟩⟩

end Go.Proofs.YtmhgbocejjnoaaaDoor
/- Plain laws: what stands first in a text, case by case. No walk. -/
namespace Go.Redl
open Go.RowKit
set_option linter.unusedVariables false

theorem escN_slash {x : UInt8} {r : List UInt8} (h : x ≠ 92) : escN (x :: r) = none := by
  cases he : escN (x :: r) with
  | none => rfl
  | some n =>
    obtain ⟨-, -, rest, h3⟩ := escN_some.1 he
    simp only [escL, List.cons_append, List.cons.injEq] at h3
    exact absurd h3.1.symm h
theorem escN_no59 {t : List UInt8} (h : ∀ c ∈ t, c ≠ 59) : escN t = none := by
  cases he : escN t with
  | none => rfl
  | some n =>
    obtain ⟨-, -, rest, h3⟩ := escN_some.1 he
    have : (59 : UInt8) ∈ t := by rw [← h3]; simp [escL]
    exact absurd rfl (h _ this)
theorem hex_pre {xs ds r1 r2 : List UInt8} (hx : ∀ c ∈ xs, c ≠ 59) (hd : ∀ c ∈ ds, c ≠ 59) (h : xs ++ 59 :: r1 = ds ++ 59 :: r2) : xs = ds := by
  have h1 : (xs ++ 59 :: r1).takeWhile (fun c => c != 59) = xs := by
    rw [List.takeWhile_append_of_pos (by intro c hc; simpa using hx c hc)]; simp
  have h2 : (ds ++ 59 :: r2).takeWhile (fun c => c != 59) = ds := by
    rw [List.takeWhile_append_of_pos (by intro c hc; simpa using hd c hc)]; simp
  rw [← h1, h, h2]
theorem escN_at {ds rest : List UInt8} (hd : ∀ c ∈ ds, c ≠ 59) {n : Nat} (h : escN (92 :: (ds ++ 59 :: rest)) = some n) : validB n = true ∧ plainB n = false ∧ hexL n = ds ∧ parseP ds 0 = some n ∧ ds ≠ [] := by
  obtain ⟨h1, h2, r, h3⟩ := escN_some.1 h
  have hb := valid_bound h1
  simp only [escL, List.cons_append, List.append_assoc, List.cons.injEq, true_and, List.nil_append] at h3
  have := hex_pre (hexL_not59 n) hd h3
  refine ⟨h1, h2, this, ?_, ?_⟩
  · rw [← this]; exact parseP_hexL n (by omega)
  · rintro rfl
    have hp := parseP_hexL n (by omega)
    rw [this] at hp
    simp only [parseP, Option.some.injEq] at hp
    subst hp
    exact absurd this (by decide)
theorem escN_yes {ds rest : List UInt8} {n : Nat} (hv : validB n = true) (hp : plainB n = false) (h : escL n = 92 :: (ds ++ [59])) : escN (92 :: (ds ++ 59 :: rest)) = some n :=
  escN_some.2 ⟨hv, hp, ⟨rest, by rw [h]; simp⟩⟩
theorem firstS_plain {x : UInt8} {r : List UInt8} (h : plainB x.toNat = true) : firstS (x :: r) = ((x.toNat : Int), 1) := by simp [firstS, h]
theorem firstS_none {x : UInt8} {r : List UInt8} (h : plainB x.toNat = false) (he : escN (x :: r) = none) : firstS (x :: r) = (0, 0) := by simp [firstS, h, he]
theorem firstS_some {x : UInt8} {r : List UInt8} {n : Nat} (h : plainB x.toNat = false) (he : escN (x :: r) = some n) : firstS (x :: r) = ((n : Int), (escL n).length) := by simp [firstS, h, he]
/-- Where the first semicolon stands. -/
theorem semi_cases (t : List UInt8) : (Lib.indexByte t 59 = -1 ∧ ∀ c ∈ t, c ≠ 59) ∨ ∃ ds rest, t = ds ++ 59 :: rest ∧ (∀ c ∈ ds, c ≠ 59) ∧ Lib.indexByte t 59 = ds.length := by
  by_cases h : Lib.indexByte t 59 = -1
  · refine .inl ⟨h, fun c hc h59 => ?_⟩
    obtain ⟨k, hk⟩ := List.getElem?_of_mem hc
    exact Lib.indexByte_none h k (by rw [hk, h59])
  · obtain ⟨o, ho⟩ : ∃ o : Nat, Lib.indexByte t 59 = o := by
      have := Lib.indexByte_ge t 59
      exact ⟨(Lib.indexByte t 59).toNat, by omega⟩
    obtain ⟨h1, h2⟩ := Lib.indexByte_some ho
    have hlt : o < t.length := by
      rcases Nat.lt_or_ge o t.length with h | h
      · exact h
      · rw [List.getElem?_eq_none h] at h1; cases h1
    have h3 : t[o] = 59 := by rw [List.getElem?_eq_getElem hlt] at h1; exact Option.some.inj h1
    refine .inr ⟨t.take o, t.drop (o + 1), ?_, ?_, ?_⟩
    · conv => lhs; rw [← List.take_append_drop o t, List.drop_eq_getElem_cons hlt, h3]
    · intro c hc h59
      obtain ⟨k, hk⟩ := List.getElem?_of_mem hc
      have hk2 : k < o := by
        rcases Nat.lt_or_ge k (t.take o).length with h | h
        · simp at h; omega
        · rw [List.getElem?_eq_none h] at hk; cases hk
      rw [List.getElem?_take_of_lt hk2] at hk
      exact h2 k hk2 (by rw [hk, h59])
    · rw [ho, List.length_take, Nat.min_eq_left (Nat.le_of_lt hlt)]

end Go.Redl
/- A region that draws its order, walked once, in a class of worlds: its callees may make memory. -/
namespace Go.Redl
open Go Go.RowKit
set_option linter.unusedVariables false

/-- ONE WALK FOR EVERY ORDER, in the class of the worlds that S lets in, written as W i. -/
theorem wp_region_class {P : Program} {id : Nat} {Q : Exit → Act → World → Prop} {a : Act} {w : World} {l : List Oper} (S : World → Prop) (hm : P.follows .mixedOrders = true) (hB : Region.lexB .any l.toArray = true) (hS : S w.drew)
    (h : ∀ (ι : Type) [Inhabited ι] (W : ι → World), (∀ i, S (W i)) → (∀ w', S w' → ∃ i, w' = W i) →
      wpQuiet P l.toArray (fun w' => ∃ i, w' = W i) (fun a' => ∀ w', (∃ i, w' = W i) → Q .normal a' w') l a) : (Code.region id l.toArray true).wp P Q a w := by
  have : Inhabited {w' // S w'} := ⟨⟨w.drew, hS⟩⟩
  exact wp_region_quiet (C := fun w' => ∃ i : {w' // S w'}, w' = i.1) hm hB ⟨⟨w.drew, hS⟩, rfl⟩ (by simpa using h {w' // S w'} (fun i => i.1) (fun i => i.2) (fun w' hw => ⟨⟨w', hw⟩, rfl⟩))

end Go.Redl
/- Walks: strings.Builder (made by the call itself, only written, then read once). After the shelf's own walks of these methods. -/
namespace Go.Proofs.YtmhgbocejjnoaaaDoor
open Go.RowKit Go.Redl
set_option linter.unusedVariables false

theorem info_u8 : (Tryd.prog.info? 5).map (fun i => (i.zero, i.size, i.bytes)) = some (some (.int .u8 0), 1, 1) := by kernel_rfl
theorem size_builder : (Tryd.prog.info? 52).map (·.size) = some 2 := by kernel_rfl
theorem lies_builder : liesAt Tryd.prog Tryd.prog.depth 52 (2 / Tryd.prog.cellsOf 52) 0 52 1 = true := by kernel_rfl

/-- Block b, from B on, is a builder that holds the bytes l. -/
def Bld (w : World) (B b : Nat) (l : List UInt8) : Prop := Lib.IsBuilder 52 5 B b (Lib.byteCells l) w
/-- .. and has been written. -/
def BldU (w : World) (B b : Nat) (l : List UInt8) : Prop := Lib.BuilderAt 52 5 B b (.pointer (some ⟨b, 0, none⟩)) (Lib.byteCells l) w
theorem BldU.bld {w : World} {B b : Nat} {l : List UInt8} (h : BldU w B b l) : Bld w B b l := .inr h

set_option maxRecDepth 100000 in
set_option maxHeartbeats 400000 in
theorem copyCheck_old (b : Nat) (w : World) (h0 : w.cell? ⟨b, 0, none⟩ = some (.pointer (some ⟨b, 0, none⟩))) :
    Calls Tryd.prog 52 #[.pointer (some ⟨b, 0, none⟩)] w fun e w' => e = .returned (.tuple #[]) ∧ w = w' := by
  obtain ⟨j, hj, _⟩ := Option.map_eq_some_iff.1 size_builder
  go_enter Tryd.func52, Tryd.ntmps52
  go_wp2_with fail
  rw [Lib.run_neq_ptr_same w _ Tryd.underlying50 hj]
  go_wp2_with fail
  go_end0
  exact ⟨rfl, rfl⟩

set_option maxRecDepth 100000 in
set_option maxHeartbeats 400000 in
theorem copyCheck_new (b : Nat) (w : World) (h0 : w.cell? ⟨b, 0, none⟩ = some (.pointer none)) (hsh : w.shape? b = some (52, 2)) (hfz : w.frozen? ⟨b, 0, none⟩ = false) :
    Calls Tryd.prog 52 #[.pointer (some ⟨b, 0, none⟩)] w fun e w' => e = .returned (.tuple #[]) ∧ w.setCell ⟨b, 0, none⟩ (.pointer (some ⟨b, 0, none⟩)) = w' := by
  obtain ⟨j, hj, hjs⟩ := Option.map_eq_some_iff.1 size_builder
  go_enter Tryd.func52, Tryd.ntmps52
  go_wp2_with fail
  rw [Lib.run_to_unsafe w ⟨b, 0, none⟩ Tryd.underlying50 Tryd.underlying96 hj (by rw [hjs]; decide) hsh (Nat.zero_lt_succ 1)]
  simp only [Result.andThen]
  rw [Oper.upon_value]
  go_wp2_with fail
  rw [run_callFunc_extern Tryd.func68 (by kernel_rfl) (by kernel_rfl) (by kernel_rfl) (e := Extern.AbiNoEscape.same) (by kernel_rfl)]
  rw [Lib.run_noEscape]
  simp only [Result.andThen]
  rw [Oper.upon_value]
  go_wp2_with fail
  rw [Lib.run_from_unsafe w ⟨b, 0, none⟩ Tryd.underlying96 Tryd.underlying50 hj hsh lies_builder]
  simp only [Result.andThen]
  rw [Oper.upon_value]
  go_wp2_with fail
  go_end0
  exact ⟨rfl, rfl⟩

theorem copyCheck_c (B b : Nat) (l : List UInt8) (w : World) (h : Bld w B b l) :
    Calls Tryd.prog 52 #[.pointer (some ⟨b, 0, none⟩)] w fun e w' => e = .returned (.tuple #[]) ∧ BldU w' B b l ∧ Below B w w' := by
  rcases h with h | h
  · refine (copyCheck_new b w h.cell0 h.shape h.frozen0).mono ?_
    rintro e w' ⟨rfl, rfl⟩
    exact ⟨rfl, h.used _, (Below.refl B w).setCell (p := ⟨b, 0, none⟩) h.1 _⟩
  · refine (copyCheck_old b w h.cell0).mono ?_
    rintro e w' ⟨rfl, rfl⟩
    exact ⟨rfl, h, Below.refl B _⟩

/-- What a writing method leaves. -/
def Wrote (w : World) (B b : Nat) (l : List UInt8) (v : Value) (e : Ending) (w' : World) : Prop := e = .returned v ∧ BldU w' B b l ∧ Below B w w'

set_option maxRecDepth 100000 in
set_option maxHeartbeats 1000000 in
theorem writeByte_c (B b : Nat) (l : List UInt8) (c : UInt8) (w : World) (h : Bld w B b l) (hlen : l.length ≤ 100000000) (hBw : B ≤ w.heap.size) :
    Calls Tryd.prog 28 #[.pointer (some ⟨b, 0, none⟩), .int .u8 c.toNat] w (Wrote w B b (l ++ [c]) .nilIface) := by
  have H := Lib.hid (copyCheck_c B b l w h)
  clear h
  go_enter Tryd.func28, Tryd.ntmps28
  go_wp2_with fail
  refine H.out.mono ?_
  rintro e w1 ⟨rfl, h1, hb1⟩
  obtain ⟨hB, v, hbk, hown, hne⟩ := h1
  have hlenc : (Lib.byteCells l).length = l.length := by simp [Lib.byteCells]
  have c0 : w1.cell? ⟨b, 0, none⟩ = some (.pointer (some ⟨b, 0, none⟩)) := by rw [Lib.cell_of_heap hbk]; rfl
  have c1 : w1.cell? ⟨b, 1, none⟩ = some v := by rw [Lib.cell_of_heap hbk]; rfl
  have hlt : b < w1.heap.size := (Array.getElem?_eq_some_iff.1 hbk).1
  have Hbk := Lib.hid hbk; have Ho := Lib.hid hown; have Hne := Lib.hid hne; have Hb1 := Lib.hid hb1; have Hlc := Lib.hid hlenc
  clear hbk hown hne hb1 hlenc H
  go_wp2_with (at_builtin; refine wpList_app rfl _ _ 41 rfl B 5 (.int .u8 0) 1 1 Tryd.underlying41 info_u8 rfl (by decide) _ _ _ rfl (Ho.out.alloc _) (some ⟨w1.heap.size, 0, none⟩) 1 1 (w1.heap.size + 1) [.int .u8 c.toNat] rfl ?hr ?c3 ?c4 ?c5 ?_)
  case hr => exact row_one _ _ _ _ rfl
  case c3 => rw [Hlc.out]; unfold maxLen; omega
  case c4 => rw [Hlc.out]; omega
  case c5 => have := Hb1.out.size; simp; omega
  intro v' w2 hown' hgrow
  have hb2 : w2.heap[b]? = some (.cells #[.pointer (some ⟨b, 0, none⟩), v] 52 (0, 0)) := by
    rw [hgrow.block b (by simp; omega) (fun e => Hne.out e.symm), Lib.alloc_old w1 _ b hlt]
    exact Hbk.out
  have d0 : w2.cell? ⟨b, 0, none⟩ = some (.pointer (some ⟨b, 0, none⟩)) := by rw [Lib.cell_of_heap hb2]; rfl
  have d1 : w2.cell? ⟨b, 1, none⟩ = some v := by rw [Lib.cell_of_heap hb2]; rfl
  have f1 : w2.frozen? ⟨b, 1, none⟩ = false := Lib.frozen_of_heap hb2 1
  obtain ⟨ao, n', cap, rfl⟩ : ∃ ao n' cap, v' = .slice ao n' cap := by
    rcases hown'.2 with ⟨hv, _⟩ | ⟨g, cap, cur, hv, _⟩
    · exact ⟨_, _, _, hv⟩
    · exact ⟨_, _, _, hv⟩
  have hbel := (((Hb1.out.alloc (by have := Hb1.out.size; omega) _).grown hgrow (by have := Hb1.out.size; simp; omega) (fun k hk => (Ho.out.lt k hk).1)).setCell (p := ⟨b, 1, none⟩) hB (.slice ao n' cap))
  have Ho2 := Lib.hid hown'; have Hb2 := Lib.hid hb2; have Hbel := Lib.hid hbel
  clear hown' hb2 hgrow hbel
  go_wp2_with fail
  go_ret
  refine ⟨rfl, ?_, Hbel.out⟩
  have := Ho2.out
  refine Lib.BuilderAt.put (T := 52) (e := 5) hB Hb2.out ?_ (by decide)
  have e : Lib.byteCells (l ++ [c]) = Lib.byteCells l ++ [.int .u8 c.toNat] := by simp [Lib.byteCells]
  rw [e, List.length_append]
  exact this

set_option maxRecDepth 100000 in
set_option maxHeartbeats 1000000 in
theorem writeString_c (B b : Nat) (l s : List UInt8) (w : World) (h : Bld w B b l) (hlen : l.length + s.length ≤ 100000000) (hBw : B ≤ w.heap.size) :
    Calls Tryd.prog 31 #[.pointer (some ⟨b, 0, none⟩), .string ⟨s.toArray⟩] w (Wrote w B b (l ++ s) (.tuple #[.int .i64 s.length, .nilIface])) := by
  obtain ⟨i0, hi, hz0, hz1, hz2⟩ := info_parts info_u8
  have H := Lib.hid (copyCheck_c B b l w h)
  clear h
  have Hi := Lib.hid hi; have Hz0 := Lib.hid hz0; have Hz1 := Lib.hid hz1; have Hz2 := Lib.hid hz2
  clear hi hz0 hz1 hz2
  go_enter Tryd.func31, Tryd.ntmps31
  go_wp2_with fail
  refine H.out.mono ?_
  rintro e w1 ⟨rfl, h1, hb1⟩
  obtain ⟨hB, v, hbk, hown, hne⟩ := h1
  have hlenc : (Lib.byteCells l).length = l.length := by simp [Lib.byteCells]
  have c0 : w1.cell? ⟨b, 0, none⟩ = some (.pointer (some ⟨b, 0, none⟩)) := by rw [Lib.cell_of_heap hbk]; rfl
  have c1 : w1.cell? ⟨b, 1, none⟩ = some v := by rw [Lib.cell_of_heap hbk]; rfl
  have hlt : b < w1.heap.size := (Array.getElem?_eq_some_iff.1 hbk).1
  have Hbk := Lib.hid hbk; have Ho := Lib.hid hown; have Hne := Lib.hid hne; have Hb1 := Lib.hid hb1; have Hlc := Lib.hid hlenc
  clear hbk hown hne hb1 hlenc H
  go_wp2_with (at_builtin; refine Lib.wpList_append_own_string _ rfl _ _ 41 9 rfl B 5 i0 Tryd.underlying41 Tryd.underlying9 Hi.out Hz0.out Hz1.out Hz2.out _ _ _ rfl Ho.out ⟨s.toArray⟩ rfl ?c3 ?c4 ?c5 ?_)
  case c3 => rw [Hlc.out]; unfold maxLen; simp [ByteArray.size]; omega
  case c4 => rw [Hlc.out]; simp [ByteArray.size]; omega
  case c5 => have := Hb1.out.size; omega
  intro v' w2 hown' hgrow _
  have hb2 : w2.heap[b]? = some (.cells #[.pointer (some ⟨b, 0, none⟩), v] 52 (0, 0)) := by
    rw [hgrow.block b hlt (fun e => Hne.out e.symm)]
    exact Hbk.out
  have d0 : w2.cell? ⟨b, 0, none⟩ = some (.pointer (some ⟨b, 0, none⟩)) := by rw [Lib.cell_of_heap hb2]; rfl
  have d1 : w2.cell? ⟨b, 1, none⟩ = some v := by rw [Lib.cell_of_heap hb2]; rfl
  have f1 : w2.frozen? ⟨b, 1, none⟩ = false := Lib.frozen_of_heap hb2 1
  obtain ⟨ao, n', cap, rfl⟩ : ∃ ao n' cap, v' = .slice ao n' cap := by
    rcases hown'.2 with ⟨hv, _⟩ | ⟨g, cap, cur, hv, _⟩
    · exact ⟨_, _, _, hv⟩
    · exact ⟨_, _, _, hv⟩
  have hbel := ((Hb1.out.grown hgrow (by have := Hb1.out.size; omega) (fun k hk => (Ho.out.lt k hk).1)).setCell (p := ⟨b, 1, none⟩) hB (.slice ao n' cap))
  have Ho2 := Lib.hid hown'; have Hb2 := Lib.hid hb2; have Hbel := Lib.hid hbel
  clear hown' hb2 hgrow hbel
  go_wp2_with fail
  go_ret2
  refine ⟨?_, ?_, Hbel.out⟩
  · simp
  have := Ho2.out
  refine Lib.BuilderAt.put (T := 52) (e := 5) hB Hb2.out ?_ (by decide)
  have e : Lib.byteCells (l ++ s) = Lib.byteCells l ++ Lib.strCells ⟨s.toArray⟩ := by simp [Lib.byteCells, Lib.strCells]
  rw [e, List.length_append, Lib.strCells_length]
  exact this

set_option maxRecDepth 100000 in
set_option maxHeartbeats 1000000 in
theorem string_c (B b : Nat) (l : List UInt8) (w : World) (h : Bld w B b l) (h0 : l ≠ []) :
    Calls Tryd.prog 20 #[.pointer (some ⟨b, 0, none⟩)] w fun e w' => e = .returned (.string ⟨l.toArray⟩) ∧ Below B w w' := by
  obtain ⟨p, hB, v, hbk, hown, hne⟩ : ∃ p, Lib.BuilderAt 52 5 B b p (Lib.byteCells l) w := by
    rcases h with h | h
    · exact ⟨_, h⟩
    · exact ⟨_, h⟩
  have hl0 : l.length ≠ 0 := by simpa using h0
  rw [Lib.byteCells_length] at hown
  obtain ⟨g, cap, cur, rfl, hbg, hg, hnc, hcm, hcs, htake⟩ : ∃ g cap cur, v = .slice (some ⟨g, 0, none⟩) l.length cap ∧ B ≤ g ∧ w.heap[g]? = some (.cells cur 5 (0, 0)) ∧ l.length ≤ cap ∧ cap ≤ maxLen ∧ cur.size = cap * 1 ∧ cur.toList.take (l.length * 1) = Lib.byteCells l := by
    rcases hown.2 with ⟨_, hz⟩ | ⟨g, cap, cur, hv, r⟩
    · exact absurd hz hl0
    · exact ⟨g, cap, cur, hv, r⟩
  have c1 : w.drew.cell? ⟨b, 1, none⟩ = some (.slice (some ⟨g, 0, none⟩) l.length cap) := by
    have : w.drew.heap[b]? = some (.cells #[p, .slice (some ⟨g, 0, none⟩) l.length cap] 52 (0, 0)) := hbk
    rw [Lib.cell_of_heap this]; rfl
  have hSD : (Builtin.unsafeSliceData_ #[41] 79 #[.slice (some ⟨g, 0, none⟩) l.length cap]).run Tryd.prog w.drew = .ok (.pointer (some ⟨g, 0, none⟩)) w.drew :=
    Lib.run_unsafeSliceData_row _ _ _ _ _ _ (by omega)
  have hUS : (Builtin.unsafeString_ #[79, 3] 9 #[.pointer (some ⟨g, 0, none⟩), .int .i64 l.length]).run Tryd.prog w.drew = .ok (.string ⟨l.toArray⟩) (w.drew.freeze ⟨g, 0, none⟩ l.length) := by
    refine Lib.run_unsafeString_row w.drew 79 3 9 5 Tryd.underlying79 (by kernel_rfl) g cur.size (by have hg' : w.drew.heap[g]? = some (.cells cur 5 (0, 0)) := hg; simp [World.shape?, hg']) l h0 (by omega) (by unfold maxLen at hcm; omega) ?_
    intro j x hx
    have := hown.cells (g := g) rfl j (.int .u8 x.toNat) (by simp [Lib.byteCells, hx])
    exact this
  clear hne hown hl0 h0 hcs htake hg hbk h
  go_enter Tryd.func20, Tryd.ntmps20
  go_wp2_with fail
  go_region
  all_goals (go_wp2_with fail; go_ret; exact ⟨rfl, Lib.below_freeze (Below.drew (Below.refl B w)) (p := ⟨g, 0, none⟩) hbg _⟩)

set_option maxRecDepth 100000 in
set_option maxHeartbeats 1000000 in
theorem appendRune_c (B n : Nat) (v : Value) (cs : List Value) (c : Int) (w : World) (hown : w.ownsRow B 5 1 v n cs) (hB : B ≤ w.heap.size) (h0 : 0 ≤ c) (h1 : c ≤ 127) (hn : n ≤ 100000000) :
    Calls Tryd.prog 53 #[v, .int .i32 c] w fun e w' => ∃ v', e = .returned v' ∧ w'.ownsRow B 5 1 v' (n + 1) (cs ++ [.int .u8 c]) ∧ w.grownBy w' v.ownBlock := by
  have Ho := Lib.hid hown
  clear hown
  go_enter Tryd.func53, Tryd.ntmps53
  go_wp2_with (at_builtin; refine wpList_app rfl _ _ 41 rfl B 5 (.int .u8 0) 1 1 Tryd.underlying41 info_u8 rfl (by decide) _ _ _ rfl (Ho.out.alloc _) (some ⟨w.heap.size, 0, none⟩) 1 1 (w.heap.size + 1) [.int .u8 c] rfl ?hr ?c3 ?c4 ?c5 ?_)
  case hr => exact row_one _ _ _ _ rfl
  case c3 => unfold maxLen; omega
  case c4 => omega
  case c5 => simp; omega
  intro v' w2 hown' hgrow
  have Ho2 := Lib.hid hown'; have Hg := Lib.hid hgrow
  clear hown' hgrow
  go_wp2_with fail
  go_ret
  exact ⟨v', rfl, Ho2.out, grownBy_trans (World.grownBy_alloc w _ _) Hg.out⟩

set_option maxRecDepth 100000 in
set_option maxHeartbeats 1000000 in
theorem writeRune_c (B b : Nat) (l : List UInt8) (c : Int) (w : World) (h : Bld w B b l) (hlen : l.length ≤ 100000000) (hBw : B ≤ w.heap.size) (h0 : 0 ≤ c) (h1 : c ≤ 127) :
    Calls Tryd.prog 30 #[.pointer (some ⟨b, 0, none⟩), .int .i32 c] w (Wrote w B b (l ++ [UInt8.ofNat c.toNat]) (.tuple #[.int .i64 1, .nilIface])) := by
  have H := Lib.hid (copyCheck_c B b l w h)
  clear h
  go_enter Tryd.func30, Tryd.ntmps30
  go_wp2_with fail
  refine H.out.mono ?_
  rintro e w1 ⟨rfl, h1, hb1⟩
  obtain ⟨hB, v, hbk, hown, hne⟩ := h1
  have hlenc : (Lib.byteCells l).length = l.length := by simp [Lib.byteCells]
  rw [hlenc] at hown
  obtain ⟨ao, cap, rfl, hr⟩ := row_of_own hown (by simp [Lib.byteCells]; intro a _; rfl)
  have hmx := hr.max; have hle := hr.le
  unfold maxLen at hmx
  have c0 : w1.cell? ⟨b, 0, none⟩ = some (.pointer (some ⟨b, 0, none⟩)) := by rw [Lib.cell_of_heap hbk]; rfl
  have c1 : w1.cell? ⟨b, 1, none⟩ = some (.slice ao l.length cap) := by rw [Lib.cell_of_heap hbk]; rfl
  have hlt : b < w1.heap.size := (Array.getElem?_eq_some_iff.1 hbk).1
  have HA := Lib.hid (appendRune_c B l.length _ _ c w1 hown (Nat.le_trans hBw hb1.size) h0 h1 hlen)
  have Hbk := Lib.hid hbk; have Ho := Lib.hid hown; have Hne := Lib.hid hne; have Hb1 := Lib.hid hb1
  clear hbk hown hne hb1 hlenc H hr
  go_wp2_with fail
  refine HA.out.mono ?_
  rintro e w2 ⟨v', rfl, hown', hgrow⟩
  have hb2 : w2.heap[b]? = some (.cells #[.pointer (some ⟨b, 0, none⟩), .slice ao l.length cap] 52 (0, 0)) := by
    rw [hgrow.block b hlt (fun e => Hne.out e.symm)]
    exact Hbk.out
  have d0 : w2.cell? ⟨b, 0, none⟩ = some (.pointer (some ⟨b, 0, none⟩)) := by rw [Lib.cell_of_heap hb2]; rfl
  have d1 : w2.cell? ⟨b, 1, none⟩ = some (.slice ao l.length cap) := by rw [Lib.cell_of_heap hb2]; rfl
  have f1 : w2.frozen? ⟨b, 1, none⟩ = false := Lib.frozen_of_heap hb2 1
  obtain ⟨ao', n', cap', rfl, hn'⟩ : ∃ ao n' cap, v' = .slice ao n' cap ∧ n' = l.length + 1 := by
    rcases hown'.2 with ⟨hv, h0⟩ | ⟨g, cap, cur, hv, _⟩
    · omega
    · exact ⟨_, _, _, hv, rfl⟩
  subst hn'
  have hbel := ((Hb1.out.grown hgrow (by have := Hb1.out.size; omega) (fun k hk => (Ho.out.lt k hk).1)).setCell (p := ⟨b, 1, none⟩) hB (.slice ao' (l.length + 1) cap'))
  have Ho2 := Lib.hid hown'; have Hb2 := Lib.hid hb2; have Hbel := Lib.hid hbel
  clear hown' hb2 hgrow hbel HA
  go_wp2_with fail
  go_ret2
  refine ⟨?_, ?_, Hbel.out⟩
  · have e : ((l.length + 1 : Nat) : Int) - (l.length : Int) = 1 := by omega
    simp
    try omega
  have := Ho2.out
  refine Lib.BuilderAt.put (T := 52) (e := 5) hB Hb2.out ?_ (by decide)
  have hc : (((UInt8.ofNat c.toNat).toNat : Nat) : Int) = c := by
    have : (UInt8.ofNat c.toNat).toNat = c.toNat := by rw [UInt8.toNat_ofNat']; exact Nat.mod_eq_of_lt (by omega)
    rw [this]; omega
  have e : Lib.byteCells (l ++ [UInt8.ofNat c.toNat]) = Lib.byteCells l ++ [.int .u8 c] := by simp only [Lib.byteCells, List.map_append, List.map_cons, List.map_nil, hc]
  rw [e, List.length_append, Lib.byteCells_length]
  exact this

end Go.Proofs.YtmhgbocejjnoaaaDoor
/- Walks: glyph.Quote. -/
namespace Go.Proofs.YtmhgbocejjnoaaaDoor
open Go.RowKit Go.Redl
set_option linter.unusedVariables false

theorem BldU.keep {w w' : World} {B b : Nat} {l : List UInt8} (h : BldU w B b l) (hb : Below w.heap.size w w') : BldU w' B b l := by
  obtain ⟨hB, v, hbk, hown, hne⟩ := h
  have hlt : b < w.heap.size := (Array.getElem?_eq_some_iff.1 hbk).1
  exact ⟨hB, v, (hb.block b hlt).trans hbk, own_keep hown hb, hne⟩
theorem BldU.cast {w : World} {B b : Nat} {l l' : List UInt8} (h : BldU w B b l) (e : l = l') : BldU w B b l' := e ▸ h
theorem TabAt.keep {w w' : World} {B : Nat} (h : TabAt w) (hb : Below B w w') (hg : 3 < B) : TabAt w' := by
  unfold TabAt at *; rw [← h]; exact hb.cell (p := ⟨_, 15, none⟩) hg

theorem check_valid {zs : List Int} (h : checkE zs = 0) : ∀ c ∈ zs, validB c = true := by
  intro c hc
  unfold checkE at h
  cases hv : validB c with
  | true => rfl
  | false =>
    have : (zs.any fun c => !validB c) = true := List.any_eq_true.2 ⟨c, hc, by simp [hv]⟩
    rw [this] at h
    cases h

theorem writeByte_n (B b : Nat) (l : List UInt8) (c : UInt8) (n : Int) (hc : (c.toNat : Int) = n) (w : World) (h : Bld w B b l) (hlen : l.length ≤ 100000000) (hBw : B ≤ w.heap.size) :
    Calls Tryd.prog 28 #[.pointer (some ⟨b, 0, none⟩), .int .u8 n] w (Wrote w B b (l ++ [c]) .nilIface) := by
  subst hc; exact writeByte_c B b l c w h hlen hBw

set_option maxRecDepth 100000 in
set_option maxHeartbeats 1000000 in
theorem quote_no (v : Value) (B : Nat) (zs : List Int) (w : World) (hv : Ints .i32 w B v zs) (he : checkE zs ≠ 0) :
    Calls Tryd.prog 12 #[v] w fun e w' => e = .returned (.tuple #[.string ⟨#[]⟩, .int .i64 4]) ∧ w = w' := by
  have H := check_c v B zs w hv
  have h4 : checkE zs = 4 := by unfold checkE at *; split <;> simp_all
  rw [h4] at H
  have H := Lib.hid H
  clear he h4 hv
  go_enter Tryd.func12, Tryd.ntmps12
  go_wp2_with fail
  refine H.out.mono ?_
  rintro e w' ⟨rfl, rfl⟩
  go_wp2_with fail
  go_ret2
  exact ⟨rfl, rfl⟩

set_option maxRecDepth 100000 in
set_option maxHeartbeats 1000000 in
theorem quote_ok (v : Value) (B : Nat) (zs : List Int) (w : World) (hv : Ints .i32 w B v zs) (hB : B ≤ w.heap.size) (he : checkE zs = 0) (hn : zs.length ≤ 2000000) (ht : TabAt w) (hg : 3 < w.heap.size) :
    Calls Tryd.prog 12 #[v] w fun e w' => e = .returned (.tuple #[.string ⟨(quoteL zs).toArray⟩, .int .i64 0]) ∧ Below w.heap.size w w' := by
  have H := check_c v B zs w hv
  rw [he] at H
  have Hc := Lib.hid H
  have Hval := Lib.hid (check_valid he)
  obtain ⟨⟨a, cap, rfl, hr⟩, -⟩ := hv
  have Ht := Lib.hid ht
  clear H he ht
  go_enter Tryd.func12, Tryd.ntmps12
  go_wp2_with fail
  refine Hc.out.mono ?_
  rintro e w' ⟨rfl, rfl⟩
  have HW := Lib.hid (writeByte_n w.heap.size w.heap.size [] 34 34 rfl (w.alloc (Obj.cells #[Value.pointer none, Value.slice none 0 0] 52)) (Lib.fresh_isBuilder 52 5 w) (by simp) (by simp))
  go_wp2_with fail
  refine HW.out.mono ?_
  rintro e w1 ⟨rfl, hbld, hbel⟩
  have hbel' := ((Below.refl w.heap.size w).alloc (Nat.le_refl _) (Obj.cells #[Value.pointer none, Value.slice none 0 0] 52)).trans hbel
  have Hbld := Lib.hid hbld; have Hb := Lib.hid hbel'
  clear HW hbld hbel hbel'
  go_wp2_with fail
  go_loopw [16] (fun i wr => ∃ k : Nat, k ≤ zs.length ∧ i = .int .i64 k ∧ BldU wr w.heap.size w.heap.size (34 :: bodyL (zs.take k)) ∧ Below w.heap.size w wr) (fun i _ => zs.length - (intOf i).toNat)
  case atStart => exact ⟨0, Nat.zero_le _, rfl, Hbld.out.cast (by simp [bodyL]), Hb.out⟩
  case round =>
    obtain ⟨k, hk, rfl, hbld, hbel⟩ := hrel
    clear Hbld Hb
    have hr2 := hr.keep (hbel.mono hB) (Nat.le_refl _)
    have hbl := body_len (zs.take k)
    have hlen : (34 :: bodyL (zs.take k)).length ≤ 44000001 := by simp at hbl ⊢; omega
    have Hlen := Lib.hid hlen
    have Hbld := Lib.hid hbld; have Hb := Lib.hid hbel
    clear hbld hbel hbl hlen
    by_cases hlt : k < zs.length
    · have hsucc := Lib.hid (body_succ zs k hlt)
      have hval := Hval.out zs[k] (List.getElem_mem hlt)
      obtain ⟨b, off, rfl, hb, hall⟩ := hr2.int_at k hlt
      have hcell := hall k hlt
      clear hall
      rw [getD_of_lt hlt] at hcell
      obtain ⟨c, hc⟩ : ∃ c, zs[k] = c := ⟨_, rfl⟩
      rw [hc] at hcell hval hsucc
      clear hc
      have HP := plain_c c wr
      cases hp : plainB c
      · rw [hp] at HP
        obtain ⟨hv0, hv1⟩ := valid_bound hval
        obtain ⟨n, rfl⟩ := Int.eq_ofNat_of_zero_le hv0
        have hq : qb (n : Int) = escL n := by unfold qb; rw [if_neg (by simp [hp])]; simp
        rw [hq] at hsucc
        have HP1 := Lib.hid HP
        have HE := Lib.hid (escaped_c n wr (by omega) (Ht.out.keep Hb.out hg) (Nat.lt_of_lt_of_le hg Hb.out.size))
        have Hs := Lib.hid hsucc
        clear hval hp hq hsucc HP hv0
        go_wp2_with fail
        refine HP1.out.mono ?_
        rintro e w' ⟨rfl, rfl⟩
        go_wp2_with fail
        refine HE.out.mono ?_
        rintro e w2 ⟨rfl, hbel2⟩
        have hlen2 := escL_len n
        have HR := Lib.hid (writeString_c w.heap.size w.heap.size _ (escL n) w2 (Hbld.out.keep hbel2).bld (by have := Hlen.out; omega) (Nat.le_trans Hb.out.size hbel2.size))
        have Hb2 := Lib.hid (Hb.out.trans (hbel2.mono Hb.out.size))
        clear hbel2 hlen2
        go_wp2_with fail
        refine HR.out.mono ?_
        rintro e w3 ⟨rfl, hbld3, hbel3⟩
        have Hbld3 := Lib.hid hbld3; have Hb3 := Lib.hid (Hb2.out.trans hbel3)
        clear hbld3 hbel3
        go_wp2_with fail
        go_roundw
        case rel => exact ⟨k + 1, by omega, by go_num, Hbld3.out.cast (by rw [Hs.out]; simp), Hb3.out⟩
        case measure => simp [intOf]; omega
      · rw [hp] at HP
        have hq : qb c = [UInt8.ofNat c.toNat] := by unfold qb; rw [if_pos hp]
        rw [hq] at hsucc
        obtain ⟨hp0, hp1⟩ := plain_bound hp
        have HP1 := Lib.hid HP
        clear HP
        have HR := Lib.hid (writeRune_c w.heap.size w.heap.size _ c wr Hbld.out.bld (by have := Hlen.out; omega) Hb.out.size hp0 hp1)
        have Hs := Lib.hid hsucc
        clear hval hp hq hsucc
        go_wp2_with fail
        refine HP1.out.mono ?_
        rintro e w' ⟨rfl, rfl⟩
        go_wp2_with fail
        refine HR.out.mono ?_
        rintro e w2 ⟨rfl, hbld2, hbel2⟩
        have Hbld2 := Lib.hid hbld2; have Hb2 := Lib.hid (Hb.out.trans hbel2)
        clear hbld2 hbel2
        go_wp2_with fail
        go_roundw
        case rel => exact ⟨k + 1, by omega, by go_num, Hbld2.out.cast (by rw [Hs.out]; simp), Hb2.out⟩
        case measure => simp [intOf]; omega
    · have : k = zs.length := by omega
      subst this
      have HW := Lib.hid (writeByte_n w.heap.size w.heap.size _ 34 34 rfl wr Hbld.out.bld (by have := Hlen.out; omega) Hb.out.size)
      go_wp2_with fail
      refine HW.out.mono ?_
      rintro e w2 ⟨rfl, hbld2, hbel2⟩
      have HS := Lib.hid (string_c w.heap.size w.heap.size _ w2 hbld2.bld (by simp))
      have Hb2 := Lib.hid (Hb.out.trans hbel2)
      clear hbld2 hbel2 HW
      go_wp2_with fail
      refine HS.out.mono ?_
      rintro e w3 ⟨rfl, hbel3⟩
      have Hb3 := Lib.hid (Hb2.out.trans hbel3)
      clear hbel3 HS
      go_wp2_with fail
      go_ret2
      exact ⟨rfl, Hb3.out⟩

end Go.Proofs.YtmhgbocejjnoaaaDoor
