/- Walks: the reference of prop: Key, Val, Check. -/
import Derived.Test.YtmhgbocejjnoaaaDoorRN3
namespace Go.Proofs.YtmhgbocejjnoaaaDoor
open Go.RowKit Go.Redl
set_option linter.unusedVariables false

theorem all_upto {α : Type} {p : α → Bool} {l : List α} (h : Upto (fun c => !p c) l l.length) : l.all p = true := by
  rw [List.all_eq_true]
  intro x hx
  have := h x (by simpa using hx)
  simpa using this
theorem all_not {α : Type} {p : α → Bool} {l : List α} {k : Nat} (hk : k < l.length) (h : p l[k] = false) : l.all p = false := by
  rw [List.all_eq_false]
  exact ⟨l[k], List.getElem_mem hk, by simp [h]⟩

set_option maxRecDepth 100000 in
set_option maxHeartbeats 1000000 in
theorem rkey_c (s : List UInt8) (w : World) (hn : s.length ≤ 1000000000) :
    Calls Tryd.prog 77 #[.string ⟨s.toArray⟩] w fun e w' => e = .returned (.bool (keyB s)) ∧ w = w' := by
  have Hall : Hid (∀ (k : Nat) (x : UInt8), s[k]? = some x → ∀ h, (⟨s.toArray⟩ : ByteArray)[k]'h = x) := by
    show ∀ (k : Nat) (x : UInt8), s[k]? = some x → ∀ h, (⟨s.toArray⟩ : ByteArray)[k]'h = x
    intro k x hx h
    exact Option.some.inj ((List.getElem?_eq_getElem (l := s) h).symm.trans hx)
  have hsz : (⟨s.toArray⟩ : ByteArray).size = s.length := rfl
  generalize (⟨s.toArray⟩ : ByteArray) = S at Hall hsz ⊢
  go_enter Tryd.func77, Tryd.ntmps77
  go_wp2_with fail
  go_loop [6] (fun i => ∃ k : Nat, k ≤ s.length ∧ i = .int .i64 k ∧ Upto (fun c => !lowB c) s k) (fun i => s.length - (intOf i).toNat)
  case atStart => exact ⟨0, Nat.zero_le _, rfl, upto_zero _ s⟩
  case round =>
    obtain ⟨k, hk, rfl, hp⟩ := hrel
    have Hp := Lib.hid hp; clear hp
    by_cases hlt : k < s.length
    · have hg := Hall.out k s[k] (List.getElem?_eq_getElem hlt)
      have hx := s[k].toNat_lt
      have Hn1 : Hid (lowB s[k] = decide (97 ≤ s[k].toNat ∧ s[k].toNat ≤ 122)) := rfl
      have Hno := Lib.hid (fun h => all_not (p := lowB) (l := s) hlt h)
      have Hok := Lib.hid (fun (h : lowB s[k] = true) => upto_succ Hp.out hlt (show (!lowB s[k]) = false by rw [h]; rfl))
      generalize s[k] = x at hg hx Hn1 Hno Hok
      by_cases h1 : x.toNat < 97
      · go_wp2_with fail
        go_ret
        exact ⟨ret_bool (by unfold keyB; rw [Hno.out (by rw [Hn1.out]; simp; omega)]; simp), rfl⟩
      · by_cases h2 : 122 < x.toNat
        · go_wp2_with fail
          go_ret
          exact ⟨ret_bool (by unfold keyB; rw [Hno.out (by rw [Hn1.out]; simp; omega)]; simp), rfl⟩
        · go_wp2_with fail
          go_round
          case rel => exact ⟨k + 1, by omega, by go_num, Hok.out (by rw [Hn1.out]; simp; omega)⟩
          case measure => simp [intOf]; omega
    · obtain rfl : k = s.length := by omega
      have Ha := Lib.hid (all_upto Hp.out)
      have Hk : Hid (keyB s = (decide (1 ≤ s.length ∧ s.length ≤ 16) && s.all lowB)) := rfl
      have Hs := Lib.hid hsz
      by_cases h1 : 1 ≤ s.length
      · have H1 := Lib.hid h1
        by_cases h2 : s.length ≤ 16
        · go_wp2_with fail
          go_ret
          exact ⟨ret_bool (by rw [Hk.out, Ha.out, Bool.and_true]; first | exact decide_eq_decide.2 (by omega) | exact (decide_eq_false (by omega)).symm), rfl⟩
        · go_wp2_with fail
          go_ret
          exact ⟨ret_bool (by rw [Hk.out, Ha.out, Bool.and_true]; first | exact decide_eq_decide.2 (by omega) | exact (decide_eq_false (by omega)).symm), rfl⟩
      · go_wp2_with fail
        go_ret
        exact ⟨ret_bool (by rw [Hk.out, Ha.out, Bool.and_true]; first | exact decide_eq_decide.2 (by omega) | exact (decide_eq_false (by omega)).symm), rfl⟩

set_option maxRecDepth 100000 in
set_option maxHeartbeats 1000000 in
theorem rval_c (s : List UInt8) (w : World) (hn : s.length ≤ 1000000000) :
    Calls Tryd.prog 78 #[.string ⟨s.toArray⟩] w fun e w' => e = .returned (.bool (valB s)) ∧ w = w' := by
  have Hall : Hid (∀ (k : Nat) (x : UInt8), s[k]? = some x → ∀ h, (⟨s.toArray⟩ : ByteArray)[k]'h = x) := by
    show ∀ (k : Nat) (x : UInt8), s[k]? = some x → ∀ h, (⟨s.toArray⟩ : ByteArray)[k]'h = x
    intro k x hx h
    exact Option.some.inj ((List.getElem?_eq_getElem (l := s) h).symm.trans hx)
  have hsz : (⟨s.toArray⟩ : ByteArray).size = s.length := rfl
  generalize (⟨s.toArray⟩ : ByteArray) = S at Hall hsz ⊢
  go_enter Tryd.func78, Tryd.ntmps78
  go_wp2_with fail
  go_loop [7] (fun i => ∃ k : Nat, k ≤ s.length ∧ i = .int .i64 k ∧ Upto (fun c => !valcB c) s k) (fun i => s.length - (intOf i).toNat)
  case atStart => exact ⟨0, Nat.zero_le _, rfl, upto_zero _ s⟩
  case round =>
    obtain ⟨k, hk, rfl, hp⟩ := hrel
    have Hp := Lib.hid hp; clear hp
    by_cases hlt : k < s.length
    · have hg := Hall.out k s[k] (List.getElem?_eq_getElem hlt)
      have hx := s[k].toNat_lt
      have Hn1 : Hid (valcB s[k] = (decide (97 ≤ s[k].toNat ∧ s[k].toNat ≤ 122) || decide (48 ≤ s[k].toNat ∧ s[k].toNat ≤ 57) || s[k] == 45)) := rfl
      have Hno := Lib.hid (fun h => all_not (p := valcB) (l := s) hlt h)
      have Hok := Lib.hid (fun (h : valcB s[k] = true) => upto_succ Hp.out hlt (show (!valcB s[k]) = false by rw [h]; rfl))
      generalize s[k] = x at hg hx Hn1 Hno Hok
      have H45 : Hid ((x == 45) = decide (x.toNat = 45)) := by
        show (x == 45) = decide (x.toNat = 45)
        rw [Bool.eq_iff_iff]; simp [← UInt8.toNat_inj]
      have Hbad : Hid (valcB x = false → valB s = false) := by
        show valcB x = false → valB s = false
        intro h; unfold valB; rw [Hno.out h]; simp
      by_cases hv : valcB x = true
      · have HV := Lib.hid (Hok.out hv)
        rw [Hn1.out, H45.out] at hv
        simp only [Bool.or_eq_true, decide_eq_true_eq] at hv
        rcases hv with (h | h) | h
        · obtain ⟨ha, hb⟩ := h
          go_wp2_with fail
          go_round
          case rel => exact ⟨k + 1, by omega, by go_num, HV.out⟩
          case measure => simp [intOf]; omega
        · obtain ⟨ha, hb⟩ := h
          have hc : x.toNat < 97 := by omega
          go_wp2_with fail
          go_round
          case rel => exact ⟨k + 1, by omega, by go_num, HV.out⟩
          case measure => simp [intOf]; omega
        · have hd : (x.toNat : Int) = 45 := by omega
          clear h hx
          go_wp2_with fail
          go_round
          case rel => exact ⟨k + 1, by omega, by go_num, HV.out⟩
          case measure => simp [intOf]; omega
      · have Hv2 := Lib.hid (Hbad.out (by simpa using hv))
        rw [Hn1.out, H45.out] at hv
        simp only [Bool.or_eq_true, decide_eq_true_eq, not_or] at hv
        obtain ⟨⟨h1, h2⟩, h3⟩ := hv
        have h45 : ((x.toNat : Int) == 45) = false := by simp only [beq_eq_false_iff_ne, ne_eq]; omega
        clear h3
        by_cases ha : 97 ≤ x.toNat
        · have hb : decide ((x.toNat : Int) ≤ 122) = false := decide_eq_false (by omega)
          clear h1
          by_cases hc : 48 ≤ x.toNat
          · have hd : decide ((x.toNat : Int) ≤ 57) = false := decide_eq_false (by omega)
            clear h2
            go_wp2_with fail
            go_ret
            exact ⟨ret_bool Hv2.out.symm, rfl⟩
          · omega
        · clear h1
          have ha2 : x.toNat < 97 := by omega
          by_cases hc : 48 ≤ x.toNat
          · have hd : decide ((x.toNat : Int) ≤ 57) = false := decide_eq_false (by omega)
            clear h2
            go_wp2_with fail
            go_ret
            exact ⟨ret_bool Hv2.out.symm, rfl⟩
          · clear h2
            have hc2 : x.toNat < 48 := by omega
            clear hc ha
            go_wp2_with fail
            go_ret
            exact ⟨ret_bool Hv2.out.symm, rfl⟩
    · obtain rfl : k = s.length := by omega
      have Ha := Lib.hid (all_upto Hp.out)
      have Hk : Hid (valB s = (decide (s.length ≤ 32) && s.all valcB)) := rfl
      go_wp2_with fail
      go_ret
      exact ⟨ret_bool (by rw [Hk.out, Ha.out]; simp <;> omega), rfl⟩

end Go.Proofs.YtmhgbocejjnoaaaDoor
