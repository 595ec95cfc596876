/- Walks: the reference of glyph: how a text is written. -/
import Derived.Test.YtmhgbocejjnoaaaDoorRG4
import Derived.Test.YtmhgbocejjnoaaaDoorRF1
namespace Go.Proofs.YtmhgbocejjnoaaaDoor
open Go.RowKit Go.Redl
set_option linter.unusedVariables false

theorem check_valid' {zs : List Int} (h : checkE zs = 0) : ∀ c ∈ zs, validB c = true := by
  intro c hc
  unfold checkE at h
  cases hv : validB c with
  | true => rfl
  | false =>
    have : (zs.any fun c => !validB c) = true := List.any_eq_true.2 ⟨c, hc, by simp [hv]⟩
    rw [this] at h
    cases h

set_option maxRecDepth 100000 in
set_option maxHeartbeats 400000 in
theorem rplain_c (c : Int) (w : World) :
    Calls Tryd.prog 65 #[.int .i32 c] w fun e w' => e = .returned (.bool (plainB c)) ∧ w = w' := by
  by_cases h1 : 32 ≤ c
  · by_cases h2 : c ≤ 126
    · by_cases h3 : c = 34
      · subst h3
        go_enter Tryd.func65, Tryd.ntmps65
        go_wp2_with fail
        go_ret
        exact ⟨ret_bool (by decide), rfl⟩
      · have b3 : (c != 34) = true := by simp [h3]
        by_cases h4 : c = 92
        · subst h4
          go_enter Tryd.func65, Tryd.ntmps65
          go_wp2_with fail
          go_ret
          exact ⟨ret_bool (by decide), rfl⟩
        · have b4 : (c != 92) = true := by simp [h4]
          have Hp : Hid (plainB c = true) := by show plainB c = true; unfold plainB; simp; omega
          clear h3 h4
          go_enter Tryd.func65, Tryd.ntmps65
          go_wp2_with fail
          go_ret
          exact ⟨ret_bool Hp.out.symm, rfl⟩
    · have Hp : Hid (plainB c = false) := by show plainB c = false; unfold plainB; simp; omega
      go_enter Tryd.func65, Tryd.ntmps65
      go_wp2_with fail
      go_ret
      exact ⟨ret_bool Hp.out.symm, rfl⟩
  · have Hp : Hid (plainB c = false) := by show plainB c = false; unfold plainB; simp; omega
    go_enter Tryd.func65, Tryd.ntmps65
    go_wp2_with fail
    go_ret
    exact ⟨ret_bool Hp.out.symm, rfl⟩


theorem dig16 (m : Nat) (hm : m < 16) : (⟨#[48, 49, 50, 51, 52, 53, 54, 55, 56, 57, 97, 98, 99, 100, 101, 102]⟩ : ByteArray).extract m (m + 1) = ⟨[dig m].toArray⟩ := by
  have : m = 0 ∨ m = 1 ∨ m = 2 ∨ m = 3 ∨ m = 4 ∨ m = 5 ∨ m = 6 ∨ m = 7 ∨ m = 8 ∨ m = 9 ∨ m = 10 ∨ m = 11 ∨ m = 12 ∨ m = 13 ∨ m = 14 ∨ m = 15 := by omega
  rcases this with rfl | rfl | rfl | rfl | rfl | rfl | rfl | rfl | rfl | rfl | rfl | rfl | rfl | rfl | rfl | rfl <;> rfl

set_option maxRecDepth 100000 in
set_option maxHeartbeats 1000000 in
theorem rhexF_c (f : Nat) : ∀ (n : Nat) (w : World), n < 16 ^ f → n ≤ 2000000000 → 1 ≤ f → f ≤ 100 →
    Calls Tryd.prog 66 #[.int .i32 n] w fun e w' => e = .returned (.string ⟨(hexF f n).toArray⟩) ∧ w = w' := by
  induction f with
  | zero => intro n w _ _ h _; omega
  | succ f ih =>
    intro n w hn hm _ hf100
    have hd := dig16 (n % 16) (Nat.mod_lt _ (by decide))
    have hlt16 : n % 16 < 16 := Nat.mod_lt _ (by decide)
    have Hh : Hid (hexF (f + 1) n = if n < 16 then [dig n] else hexF f (n / 16) ++ [dig (n % 16)]) := rfl
    by_cases hs : n < 16
    · have Hd := Lib.hid hd
      clear hd ih
      go_enter Tryd.func66, Tryd.ntmps66
      go_wp2_with fail
      go_ret
      refine ⟨congrArg (fun s => Ending.returned (Value.string s)) ?_, rfl⟩
      rw [Hd.out, Hh.out, if_pos hs, Nat.mod_eq_of_lt hs]
    · have hf : 1 ≤ f := by
        rcases Nat.eq_zero_or_pos f with rfl | h
        · simp at hn; omega
        · exact h
      have HI := Lib.hid (ih (n / 16) w (by rw [Nat.pow_succ] at hn; omega) (by omega) hf (by omega))
      have hlen := hexF_len f (n / 16)
      have hq : (n : Int) / 16 = ((n / 16 : Nat) : Int) := by omega
      have Hq := Lib.hid hq
      have Hd := Lib.hid hd
      clear hd ih hq hn hf
      go_enter Tryd.func66, Tryd.ntmps66
      go_wp2_with fail
      rw [Hq.out]
      refine HI.out.mono ?_
      rintro e w1 ⟨rfl, rfl⟩
      go_wp2_with fail
      go_ret
      refine ⟨congrArg (fun s => Ending.returned (Value.string s)) ?_, rfl⟩
      rw [Hd.out, Hh.out, if_neg hs, bytes_append]

theorem rhex_c (n : Nat) (w : World) (h : n ≤ 2000000000) : Calls Tryd.prog 66 #[.int .i32 n] w fun e w' => e = .returned (.string ⟨(hexL n).toArray⟩) ∧ w = w' :=
  rhexF_c 20 n w (Nat.lt_of_le_of_lt h (by decide)) h (by decide) (by decide)

set_option maxRecDepth 100000 in
set_option maxHeartbeats 1000000 in
theorem rquote_no (v : Value) (B : Nat) (zs : List Int) (w : World) (hv : Ints .i32 w B v zs) (he : checkE zs ≠ 0) :
    Calls Tryd.prog 43 #[v] w fun e w' => e = .returned (.tuple #[.string ⟨#[]⟩, .int .i64 4]) ∧ w = w' := by
  have H := rcheck_c v B zs w hv
  have h4 : checkE zs = 4 := by unfold checkE at *; split <;> simp_all
  rw [h4] at H
  have H := Lib.hid H
  clear he h4 hv
  go_enter Tryd.func43, Tryd.ntmps43
  go_wp2_with fail
  refine H.out.mono ?_
  rintro e w' ⟨rfl, rfl⟩
  go_wp2_with fail
  go_ret2
  exact ⟨rfl, rfl⟩

theorem one_byte8 (w : World) (b : Nat) (hb : b < 256) : (convert 41 9 (.slice (some ⟨w.heap.size, 0, none⟩) 1 1)).run Tryd.prog (w.alloc (.cells #[.int .u8 b] 5)) = .ok (.string ⟨[UInt8.ofNat b].toArray⟩) (w.alloc (.cells #[.int .u8 b] 5)) := by
  refine bytes_string Tryd.underlying41 Tryd.underlying5 Tryd.underlying9 w.heap.size 0 1 1 [UInt8.ofNat b] rfl fun j hj => ?_
  have : j = 0 := by simpa using hj
  subst this
  simp only [World.cell?, World.alloc, Array.getElem?_push_size]
  simp [Nat.mod_eq_of_lt hb]

set_option maxRecDepth 100000 in
set_option maxHeartbeats 2000000 in
theorem rquote_ok (v : Value) (B : Nat) (zs : List Int) (w : World) (hv : Ints .i32 w B v zs) (hB : B ≤ w.heap.size) (he : checkE zs = 0) (hn : zs.length ≤ 2000000) :
    Calls Tryd.prog 43 #[v] w fun e w' => e = .returned (.tuple #[.string ⟨(quoteL zs).toArray⟩, .int .i64 0]) ∧ Below w.heap.size w w' := by
  have H := rcheck_c v B zs w hv
  rw [he] at H
  have Hc := Lib.hid H
  have Hval := Lib.hid (check_valid' he)
  obtain ⟨⟨a, cap, rfl, hr⟩, -⟩ := hv
  clear H he
  go_enter Tryd.func43, Tryd.ntmps43
  go_wp2_with fail
  refine Hc.out.mono ?_
  rintro e w' ⟨rfl, rfl⟩
  go_wp2_with fail
  go_loopw [5, 15] (fun s i wr => ∃ k : Nat, k ≤ zs.length ∧ i = .int .i64 k ∧ s = .string ⟨(34 :: bodyL (zs.take k)).toArray⟩ ∧ Below w.heap.size w wr) (fun _ i _ => zs.length - (intOf i).toNat)
  case atStart => exact ⟨0, Nat.zero_le _, rfl, by simp [bodyL], Below.refl _ _⟩
  case round =>
    obtain ⟨k, hk, rfl, rfl, hbel⟩ := hrel
    have hr2 := hr.keep (hbel.mono hB) (Nat.le_refl _)
    have Hb := Lib.hid hbel
    clear hbel
    by_cases hlt : k < zs.length
    · have hsucc := Lib.hid (body_succ zs k hlt)
      have hval := Hval.out zs[k] (List.getElem_mem hlt)
      obtain ⟨b, off, rfl, hb, hall⟩ := hr2.int_at k hlt
      have hcell := hall k hlt
      clear hall
      rw [getD_of_lt hlt] at hcell
      obtain ⟨c, hc⟩ : ∃ c, zs[k] = c := ⟨_, rfl⟩
      rw [hc] at hcell hval hsucc
      clear hc
      have HP := rplain_c c wr
      obtain ⟨T, hT⟩ : ∃ T, T = 34 :: bodyL (zs.take k) := ⟨_, rfl⟩
      rw [← hT]
      have HT := Lib.hid hT
      have hTl : T.length ≤ 46000000 := by
        have := body_len (zs.take k)
        rw [hT]
        simp only [List.length_cons, List.length_take] at *
        omega
      clear hT
      cases hp : plainB c
      · rw [hp] at HP
        obtain ⟨hv0, hv1⟩ := valid_bound hval
        obtain ⟨n, rfl⟩ := Int.eq_ofNat_of_zero_le hv0
        have hq : qb (n : Int) = escL n := by unfold qb; rw [if_neg (by simp [hp])]; simp
        rw [hq] at hsucc
        have HP1 := Lib.hid HP
        have HE := Lib.hid (rhex_c n wr (by omega))
        have hXl := hexL_len n
        have Hs := Lib.hid hsucc
        clear hval hp hq hsucc HP hv0
        go_wp2_with fail
        refine HP1.out.mono ?_
        rintro e w' ⟨rfl, rfl⟩
        go_wp2_with fail
        refine HE.out.mono ?_
        rintro e w2 ⟨rfl, rfl⟩
        go_wp2_with fail
        go_roundw
        case rel => exact ⟨k + 1, by omega, by go_num, by rw [Hs.out, ← List.cons_append, ← HT.out, esc_string, bytes_append], Hb.out⟩
        case measure => simp [intOf]; omega
      · rw [hp] at HP
        have hq : qb c = [UInt8.ofNat c.toNat] := by unfold qb; rw [if_pos hp]
        rw [hq] at hsucc
        obtain ⟨hp0, hp1⟩ := plain_bound hp
        obtain ⟨n, rfl⟩ := Int.eq_ofNat_of_zero_le hp0
        have HP1 := Lib.hid HP
        have hw8 : IntKind.u8.wrap (n : Int) = n := IntWalk.u8_in _ (by omega)
        have hcv := one_byte8 wr n (by omega)
        have Hs := Lib.hid hsucc
        clear hval hp hq hsucc HP
        go_wp2_with fail
        refine HP1.out.mono ?_
        rintro e w' ⟨rfl, rfl⟩
        go_wp2_with fail
        go_roundw
        case rel => exact ⟨k + 1, by omega, by go_num, by rw [Hs.out, ← List.cons_append, ← HT.out, bytes_append]; rfl, (Hb.out.alloc Hb.out.size _)⟩
        case measure => simp [intOf]; omega
    · have : k = zs.length := by omega
      subst this
      have hTl : (34 :: bodyL (zs.take zs.length)).length ≤ 46000000 := by
        have := body_len (zs.take zs.length)
        simp only [List.length_cons, List.length_take] at *
        omega
      obtain ⟨T, hT⟩ : ∃ T, T = 34 :: bodyL (zs.take zs.length) := ⟨_, rfl⟩
      rw [← hT] at hTl ⊢
      have HT := Lib.hid hT
      clear hT
      go_wp2_with fail
      go_ret2
      refine ⟨?_, Hb.out⟩
      refine congrArg (fun s => Ending.returned (Value.tuple #[Value.string s, Value.int .i64 0])) ?_
      rw [quoteL_eq, ← HT.out, show (⟨#[34]⟩ : ByteArray) = ⟨[34].toArray⟩ from rfl, bytes_append]

end Go.Proofs.YtmhgbocejjnoaaaDoor
