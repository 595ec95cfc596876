/- Walks: strconv.ParseUint at base 16 and 32 bits. -/
import Derived.Test.YtmhgbocejjnoaaaDoorRG1
import Derived.Test.YtmhgbocejjnoaaaDoorRS1
import Derived.Test.YtmhgbocejjnoaaaDoorRShelf
import Derived.Lib.ConvBytes
namespace Go.Proofs.YtmhgbocejjnoaaaDoor
open Go.RowKit Go.Redl
set_option linter.unusedVariables false

set_option maxRecDepth 100000 in
set_option maxHeartbeats 1000000 in
theorem iparse_empty (w : World) :
    Calls Tryd.prog 103 #[.string ⟨#[]⟩, .int .i64 16, .int .i64 32] w fun e w' => e = .returned (.tuple #[.int .u64 0, .iface 137 (.int .i64 2)]) ∧ w = w' := by
  go_enter Tryd.func103, Tryd.ntmps103
  go_wp2_with fail
  go_ret2
  exact ⟨rfl, rfl⟩

theorem conv_bytes (s : List UInt8) (w : World) : ∃ cap wb, (convert 9 41 (.string ⟨s.toArray⟩)).run Tryd.prog w = .ok (.slice (some ⟨w.heap.size, 0, none⟩) s.length cap) wb ∧ Below w.heap.size w wb ∧
    ∀ j, j < s.length → wb.cell? ⟨w.heap.size, j, none⟩ = some (.int .u8 (s.getD j 0).toNat) := by
  refine ⟨_, _, Lib.run_convert_string_bytes w 9 41 5 ⟨s.toArray⟩ Tryd.underlying9 Tryd.underlying41 Tryd.underlying5, ?_, fun j hj => ?_⟩
  · exact ⟨rfl, rfl, rfl, by rw [Lib.bytesWorld_size]; omega, fun k hk => Lib.bytesWorld_at_old w _ _ k hk⟩
  · have := Lib.bytesWorld_cell w 5 ⟨s.toArray⟩ j hj
    simpa using this

theorem lower_c (c : UInt8) (w : World) : Calls Tryd.prog 109 #[.int .u8 (c.toNat : Int)] w fun e w' => e = .returned (.int .u8 ((c ||| 32).toNat : Int)) ∧ w = w' := by
  refine (Tryd.internal_strconv_lower c.toNat w).mono ?_
  rintro e w' ⟨rfl, rfl⟩
  refine ⟨?_, rfl⟩
  have h := u8_or_nat c.toNat 32 (UInt8.toNat_lt c) (by omega)
  rw [show ((32 : Nat) : Int) = 32 from rfl] at h
  rw [h]
  rfl

/-- What the inner ParseUint answers. -/
def ParsedI (w : World) (p : Option Nat) (x : Ending) (w' : World) : Prop :=
  Below w.heap.size w w' ∧ ((∃ m, p = some m ∧ x = .returned (.tuple #[.int .u64 m, .nilIface])) ∨ (p = none ∧ ∃ (m : Nat) (k : Int), (k = 1 ∨ k = 2) ∧ x = .returned (.tuple #[.int .u64 m, .iface 137 (.int .i64 k)])))
/-- Where the reading stands. -/
def PInv (s : List UInt8) (k acc : Nat) : Prop := acc ≤ 4294967295 ∧ parseP s 0 = parseP (s.drop k) acc
theorem pinv_start (s : List UInt8) : PInv s 0 0 := ⟨by omega, by simp⟩
theorem pinv_step {s : List UInt8} {k acc d : Nat} (h : PInv s k acc) (hk : k < s.length) (hd : digv s[k] = some d) (hlt : d < 16) (hb : acc * 16 + d ≤ 4294967295) : PInv s (k + 1) (acc * 16 + d) := by
  refine ⟨hb, ?_⟩
  rw [h.2, List.drop_eq_getElem_cons hk, parseP, hd]
  simp only
  rw [if_neg (by omega), if_neg (by omega)]
theorem pinv_bad {s : List UInt8} {k acc : Nat} (h : PInv s k acc) (hk : k < s.length) (hd : digv s[k] = none) : parseP s 0 = none := by
  rw [h.2, List.drop_eq_getElem_cons hk, parseP, hd]
theorem pinv_big {s : List UInt8} {k acc d : Nat} (h : PInv s k acc) (hk : k < s.length) (hd : digv s[k] = some d) (hb : 16 ≤ d ∨ 4294967295 < acc * 16 + d) : parseP s 0 = none := by
  rw [h.2, List.drop_eq_getElem_cons hk, parseP, hd]
  simp only
  split
  · rfl
  · rw [if_pos (by omega)]
theorem pinv_end {s : List UInt8} {acc : Nat} (h : PInv s s.length acc) : parseP s 0 = some acc := by
  rw [h.2, List.drop_of_length_le (Nat.le_refl _)]; rfl
theorem int_eq {k : IntKind} {a b : Int} (h : a = b) : Value.int k a = .int k b := by rw [h]

set_option maxRecDepth 100000 in
set_option maxHeartbeats 4000000 in
theorem iparse_c (s : List UInt8) (w : World) (h0 : s ≠ []) (hn : s.length ≤ 1000000) :
    Calls Tryd.prog 103 #[.string ⟨s.toArray⟩, .int .i64 16, .int .i64 32] w (ParsedI w (parseP s 0)) := by
  have he : s.isEmpty = false := by cases s <;> simp_all
  obtain ⟨cap, wb, hcv, hbel, hcell⟩ := conv_bytes s w
  have Hb := Lib.hid hbel; have Hc := Lib.hid hcell; have HP := Lib.hid (pinv_start s)
  obtain ⟨p, hp⟩ : ∃ p, parseP s 0 = p := ⟨_, rfl⟩
  rw [hp]
  have Hp := Lib.hid hp
  clear hbel hcell h0 hp
  go_enter Tryd.func103, Tryd.ntmps103
  go_wp2_with fail
  clear hcv he
  obtain ⟨cut, hcut, hcut2⟩ : ∃ cut : Int, cut = 1152921504606846976 ∧ 4294967296 ≤ cut := ⟨_, rfl, by omega⟩
  rw [← hcut]
  clear hcut
  go_loop [12, 13, 101] (fun u x i => u = .bool false ∧ ∃ k acc : Nat, k ≤ s.length ∧ i = .int .i64 k ∧ x = .int .u64 acc ∧ PInv s k acc) (fun _ _ i => s.length - (intOf i).toNat)
  case atStart => exact ⟨rfl, 0, 0, Nat.zero_le _, rfl, rfl, HP.out⟩
  case round =>
    obtain ⟨rfl, k, acc, hk, rfl, rfl, hi⟩ := hrel
    clear HP
    have hacc := hi.1
    have HI := Lib.hid hi
    clear hi
    by_cases hlt : k < s.length
    · have hcell := Hc.out k hlt
      rw [getD_of_lt hlt] at hcell
      obtain ⟨c, hc⟩ : ∃ c, s[k] = c := ⟨_, rfl⟩
      rw [hc] at hcell
      have HC := Lib.hid hc
      clear hc
      have hc256 := UInt8.toNat_lt c
      have hl256 := UInt8.toNat_lt (c ||| 32)
      by_cases hdig : 48 ≤ c.toNat ∧ c.toNat ≤ 57
      · obtain ⟨d1, d2⟩ := hdig
        have hd : digv c = some (c.toNat - 48) := by unfold digv; rw [if_pos ⟨d1, d2⟩]
        have HD := Lib.hid hd
        clear hd hl256
        obtain ⟨n, hn'⟩ : ∃ n, c.toNat = n := ⟨_, rfl⟩
        rw [hn'] at hcell d1 d2 HD hc256
        clear hn'
        have e95 : ((n : Int) == 95) = false := by simp; omega
        by_cases hbig : 4294967295 < acc * 16 + (n - 48)
        · have hb' : (4294967295 : Int) < (acc : Int) * 16 + ((n : Int) - 48) := by omega
          clear hbig
          go_wp2_with fail
          go_ret2
          refine ⟨Hb.out, .inr ⟨?_, 4294967295, 1, .inl rfl, rfl⟩⟩
          rw [← Hp.out]; exact pinv_big HI.out hlt (by rw [HC.out]; exact HD.out) (by omega)
        · have hb' : (acc : Int) * 16 + ((n : Int) - 48) ≤ 4294967295 := by omega
          clear hbig
          go_wp2_with fail
          go_round
          case rel => exact ⟨rfl, k + 1, acc * 16 + (n - 48), by omega, by go_num, int_eq (by omega), pinv_step HI.out hlt (by rw [HC.out]; exact HD.out) (by omega) (by omega)⟩
          case measure => simp [intOf]; omega
      · by_cases hlo : 97 ≤ (c ||| 32).toNat ∧ (c ||| 32).toNat ≤ 122
        · obtain ⟨l1, l2⟩ := hlo
          have hd : digv c = some ((c ||| 32).toNat - 87) := by unfold digv; rw [if_neg hdig, if_pos ⟨l1, l2⟩]
          have HD := Lib.hid hd
          have hne : c.toNat ≠ 95 := by
            intro h95
            have : c = 95 := by apply UInt8.toNat_inj.1; exact h95
            subst this
            revert l2; decide
          have HL := Lib.hid (lower_c c wb)
          clear hd
          obtain ⟨l, hl'⟩ : ∃ l, (c ||| 32).toNat = l := ⟨_, rfl⟩
          obtain ⟨n, hn'⟩ : ∃ n, c.toNat = n := ⟨_, rfl⟩
          rw [hl'] at l1 l2 HD HL hl256
          rw [hn'] at hcell hdig hc256 hne HL
          clear hn' hl'
          have e95 : ((n : Int) == 95) = false := by simp; omega
          rcases Nat.lt_or_ge n 48 with hn48 | hn48
          · clear hdig hne
            by_cases hbig : 16 ≤ l - 87
            · have hb' : (26 : Int) + 77 ≤ l := by omega
              clear hbig
              go_wp2_with fail
              refine HL.out.mono ?_
              rintro e w' ⟨rfl, rfl⟩
              go_wp2_with fail
              refine HL.out.mono ?_
              rintro e w' ⟨rfl, rfl⟩
              go_wp2_with fail
              refine HL.out.mono ?_
              rintro e w' ⟨rfl, rfl⟩
              go_wp2_with fail
              go_ret2
              refine ⟨Hb.out, .inr ⟨?_, 0, 2, .inr rfl, rfl⟩⟩
              rw [← Hp.out]; exact pinv_big HI.out hlt (by rw [HC.out]; exact HD.out) (by omega)
            · have hb' : (l : Int) ≤ 102 := by omega
              by_cases hbig2 : 4294967295 < acc * 16 + (l - 87)
              · have hb2 : (4294967295 : Int) < (acc : Int) * 16 + ((l : Int) - 97 + 10) := by omega
                clear hbig2 hbig
                go_wp2_with fail
                refine HL.out.mono ?_
                rintro e w' ⟨rfl, rfl⟩
                go_wp2_with fail
                refine HL.out.mono ?_
                rintro e w' ⟨rfl, rfl⟩
                go_wp2_with fail
                refine HL.out.mono ?_
                rintro e w' ⟨rfl, rfl⟩
                go_wp2_with fail
                go_ret2
                refine ⟨Hb.out, .inr ⟨?_, 4294967295, 1, .inl rfl, rfl⟩⟩
                rw [← Hp.out]; exact pinv_big HI.out hlt (by rw [HC.out]; exact HD.out) (by omega)
              · have hb2 : (acc : Int) * 16 + ((l : Int) - 97 + 10) ≤ 4294967295 := by omega
                clear hbig2 hbig
                go_wp2_with fail
                refine HL.out.mono ?_
                rintro e w' ⟨rfl, rfl⟩
                go_wp2_with fail
                refine HL.out.mono ?_
                rintro e w' ⟨rfl, rfl⟩
                go_wp2_with fail
                refine HL.out.mono ?_
                rintro e w' ⟨rfl, rfl⟩
                go_wp2_with fail
                go_round
                case rel => exact ⟨rfl, k + 1, acc * 16 + (l - 87), by omega, by go_num, int_eq (by omega), pinv_step HI.out hlt (by rw [HC.out]; exact HD.out) (by omega) (by omega)⟩
                case measure => simp [intOf]; omega
          · have hn57 : 57 < n := by omega
            clear hdig hne hn48
            by_cases hbig : 16 ≤ l - 87
            · have hb' : (26 : Int) + 77 ≤ l := by omega
              clear hbig
              go_wp2_with fail
              refine HL.out.mono ?_
              rintro e w' ⟨rfl, rfl⟩
              go_wp2_with fail
              refine HL.out.mono ?_
              rintro e w' ⟨rfl, rfl⟩
              go_wp2_with fail
              refine HL.out.mono ?_
              rintro e w' ⟨rfl, rfl⟩
              go_wp2_with fail
              go_ret2
              refine ⟨Hb.out, .inr ⟨?_, 0, 2, .inr rfl, rfl⟩⟩
              rw [← Hp.out]; exact pinv_big HI.out hlt (by rw [HC.out]; exact HD.out) (by omega)
            · have hb' : (l : Int) ≤ 102 := by omega
              by_cases hbig2 : 4294967295 < acc * 16 + (l - 87)
              · have hb2 : (4294967295 : Int) < (acc : Int) * 16 + ((l : Int) - 97 + 10) := by omega
                clear hbig2 hbig
                go_wp2_with fail
                refine HL.out.mono ?_
                rintro e w' ⟨rfl, rfl⟩
                go_wp2_with fail
                refine HL.out.mono ?_
                rintro e w' ⟨rfl, rfl⟩
                go_wp2_with fail
                refine HL.out.mono ?_
                rintro e w' ⟨rfl, rfl⟩
                go_wp2_with fail
                go_ret2
                refine ⟨Hb.out, .inr ⟨?_, 4294967295, 1, .inl rfl, rfl⟩⟩
                rw [← Hp.out]; exact pinv_big HI.out hlt (by rw [HC.out]; exact HD.out) (by omega)
              · have hb2 : (acc : Int) * 16 + ((l : Int) - 97 + 10) ≤ 4294967295 := by omega
                clear hbig2 hbig
                go_wp2_with fail
                refine HL.out.mono ?_
                rintro e w' ⟨rfl, rfl⟩
                go_wp2_with fail
                refine HL.out.mono ?_
                rintro e w' ⟨rfl, rfl⟩
                go_wp2_with fail
                refine HL.out.mono ?_
                rintro e w' ⟨rfl, rfl⟩
                go_wp2_with fail
                go_round
                case rel => exact ⟨rfl, k + 1, acc * 16 + (l - 87), by omega, by go_num, int_eq (by omega), pinv_step HI.out hlt (by rw [HC.out]; exact HD.out) (by omega) (by omega)⟩
                case measure => simp [intOf]; omega
        · have hd : digv c = none := by unfold digv; rw [if_neg hdig, if_neg hlo]
          have HD := Lib.hid hd
          have HL := Lib.hid (lower_c c wb)
          clear hd
          obtain ⟨l, hl'⟩ : ∃ l, (c ||| 32).toNat = l := ⟨_, rfl⟩
          obtain ⟨n, hn'⟩ : ∃ n, c.toNat = n := ⟨_, rfl⟩
          rw [hl'] at hlo HL hl256
          rw [hn'] at hcell hdig hc256 HL
          clear hn' hl'
          have hfin : ParsedI w p (.returned (.tuple #[.int .u64 (0 : Nat), .iface 137 (.int .i64 2)])) wb := ⟨Hb.out, .inr ⟨by rw [← Hp.out]; exact pinv_bad HI.out hlt (by rw [HC.out]; exact HD.out), 0, 2, .inr rfl, rfl⟩⟩
          have Hfin := Lib.hid hfin
          clear hfin
          rcases (show n < 48 ∨ (57 < n ∧ n ≠ 95) ∨ n = 95 by omega) with hn | hn | hn
          · have e95 : ((n : Int) == 95) = false := by simp; omega
            rcases (show l < 97 ∨ 122 < l by omega) with hl | hl
            · clear hlo hdig
              go_wp2_with fail
              refine HL.out.mono ?_
              rintro e w' ⟨rfl, rfl⟩
              go_wp2_with fail
              go_ret2
              exact Hfin.out
            · clear hlo hdig
              have hl' : ((97 : Int) ≤ l) := by omega
              go_wp2_with fail
              refine HL.out.mono ?_
              rintro e w' ⟨rfl, rfl⟩
              go_wp2_with fail
              refine HL.out.mono ?_
              rintro e w' ⟨rfl, rfl⟩
              go_wp2_with fail
              go_ret2
              exact Hfin.out
          · obtain ⟨hn1, hn2⟩ := hn
            have e95 : ((n : Int) == 95) = false := by simp; omega
            clear hn2
            rcases (show l < 97 ∨ 122 < l by omega) with hl | hl
            · clear hlo hdig
              go_wp2_with fail
              refine HL.out.mono ?_
              rintro e w' ⟨rfl, rfl⟩
              go_wp2_with fail
              go_ret2
              exact Hfin.out
            · clear hlo hdig
              have hl' : ((97 : Int) ≤ l) := by omega
              go_wp2_with fail
              refine HL.out.mono ?_
              rintro e w' ⟨rfl, rfl⟩
              go_wp2_with fail
              refine HL.out.mono ?_
              rintro e w' ⟨rfl, rfl⟩
              go_wp2_with fail
              go_ret2
              exact Hfin.out
          · subst hn
            rcases (show l < 97 ∨ 122 < l by omega) with hl | hl
            · clear hlo hdig
              go_wp2_with fail
              refine HL.out.mono ?_
              rintro e w' ⟨rfl, rfl⟩
              go_wp2_with fail
              go_ret2
              exact Hfin.out
            · clear hlo hdig
              have hl' : ((97 : Int) ≤ l) := by omega
              go_wp2_with fail
              refine HL.out.mono ?_
              rintro e w' ⟨rfl, rfl⟩
              go_wp2_with fail
              refine HL.out.mono ?_
              rintro e w' ⟨rfl, rfl⟩
              go_wp2_with fail
              go_ret2
              exact Hfin.out
    · have : k = s.length := by omega
      subst this
      have hpe := pinv_end HI.out
      rw [Hp.out] at hpe
      have Hpe := Lib.hid hpe
      clear hpe
      go_wp2_with fail
      go_ret2
      exact ⟨Hb.out, .inl ⟨acc, Hpe.out, rfl⟩⟩

end Go.Proofs.YtmhgbocejjnoaaaDoor
