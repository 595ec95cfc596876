/- Walks: code's wrong, stands, run. -/
import Derived.Test.YtmhgbocejjnoaaaDoorRN3
import Derived.Test.YtmhgbocejjnoaaaDoorRR2
namespace Go.Proofs.YtmhgbocejjnoaaaDoor
open Go.RowKit Go.Redl
set_option linter.unusedVariables false

def standsB (s : List UInt8) (at_ : Nat) (c : UInt8) : Bool := s[at_]? == some c

set_option maxRecDepth 100000 in
set_option maxHeartbeats 1000000 in
theorem wrong_c (a : Int) (W : World) : Calls Tryd.prog 34 #[.int .i64 a] W fun e w' => e = .returned (.agg #[.int .i64 a, .int .i64 11]) ∧ Below W.heap.size W w' := by
  go_enter Tryd.func34, Tryd.ntmps34
  go_wp2_with fail
  exact bodyPost_ret (v := .agg #[.int .i64 a, .int .i64 11]) (by simp [results, Tryd.results34, go_sem]) rfl ⟨rfl, (Below.refl _ _).alloc (Nat.le_refl _) _⟩

set_option maxRecDepth 100000 in
set_option maxHeartbeats 1000000 in
theorem stands_c (s : List UInt8) (k : Nat) (c : UInt8) (n : Int) (hc : (c.toNat : Int) = n) (W : World) (hn : s.length ≤ 1000000000) :
    Calls Tryd.prog 55 #[.string ⟨s.toArray⟩, .int .i64 k, .int .u8 n] W fun e w' => e = .returned (.bool (standsB s k c)) ∧ W = w' := by
  subst hc
  have hall : ∀ x : UInt8, s[k]? = some x → ∀ h, (⟨s.toArray⟩ : ByteArray)[k]'h = x := by
    intro x hx h
    exact Option.some.inj ((List.getElem?_eq_getElem (l := s) h).symm.trans hx)
  have hsz : (⟨s.toArray⟩ : ByteArray).size = s.length := rfl
  have Hs : Hid (standsB s k c = (s[k]? == some c)) := rfl
  generalize (⟨s.toArray⟩ : ByteArray) = S at hall hsz ⊢
  by_cases hlt : k < s.length
  · have hg := hall s[k] (List.getElem?_eq_getElem hlt)
    have hk : s[k]? = some s[k] := List.getElem?_eq_getElem hlt
    generalize s[k] = x at hg hk
    have Hr : Hid (standsB s k c = (x == c)) := by
      show standsB s k c = _
      rw [Hs.out, hk]
      simp
    have Hx : Hid ((x == c) = ((x.toNat : Int) == (c.toNat : Int))) := by
      show (x == c) = _
      rw [Bool.eq_iff_iff]; simp [← UInt8.toNat_inj]
      omega
    clear hk hall Hs
    go_enter Tryd.func55, Tryd.ntmps55
    go_wp2_with fail
    go_ret
    exact ⟨ret_bool (by rw [Hr.out, Hx.out]), rfl⟩
  · have Hr : Hid (standsB s k c = false) := by
      show standsB s k c = _
      rw [Hs.out, List.getElem?_eq_none (by omega)]; rfl
    clear hall Hs
    go_enter Tryd.func55, Tryd.ntmps55
    go_wp2_with fail
    go_ret
    exact ⟨ret_bool Hr.out.symm, rfl⟩

/-- How far a run of such bytes goes. -/
def runN (p : UInt8 → Bool) (s : List UInt8) (at_ : Nat) : Nat := ((s.drop at_).takeWhile p).length
theorem runN_at {p : UInt8 → Bool} {s : List UInt8} {a k : Nat} (h : Upto (fun c => !p c) (s.drop a) k) (hk : a + k ≤ s.length) (he : a + k = s.length ∨ ∃ x, s[a + k]? = some x ∧ p x = false) : runN p s a = k := by
  unfold runN
  have hl : (s.drop a).take k ++ (s.drop a).drop k = s.drop a := List.take_append_drop _ _
  have ha : ∀ c ∈ (s.drop a).take k, p c = true := fun c hc => by simpa using h c hc
  rw [← hl, List.takeWhile_append_of_pos ha, List.drop_drop]
  have hz : (s.drop (a + k)).takeWhile p = [] := by
    rcases he with he | ⟨x, hx, hp⟩
    · rw [he]; simp
    · have hlt : a + k < s.length := by
        rcases Nat.lt_or_ge (a + k) s.length with h | h
        · exact h
        · rw [List.getElem?_eq_none h] at hx; cases hx
      rw [List.drop_eq_getElem_cons hlt, List.takeWhile_cons_of_neg]
      rw [List.getElem?_eq_getElem hlt] at hx
      rw [Option.some.inj hx, hp]; simp
  rw [hz]
  simp; omega

set_option maxRecDepth 100000 in
set_option maxHeartbeats 4000000 in
theorem run_c (s : List UInt8) (a : Nat) (more : Bool) (W : World) (hn : s.length ≤ 1000000000) (ha : a ≤ s.length) :
    Calls Tryd.prog 71 #[.string ⟨s.toArray⟩, .int .i64 a, .bool more] W fun e w' => e = .returned (.int .i64 (runN (if more then valcB else lowB) s a)) ∧ W = w' := by
  have Hall : Hid (∀ (k : Nat) (x : UInt8), s[k]? = some x → ∀ h, (⟨s.toArray⟩ : ByteArray)[k]'h = x) := by
    show ∀ (k : Nat) (x : UInt8), s[k]? = some x → ∀ h, (⟨s.toArray⟩ : ByteArray)[k]'h = x
    intro k x hx h
    exact Option.some.inj ((List.getElem?_eq_getElem (l := s) h).symm.trans hx)
  have hsz : (⟨s.toArray⟩ : ByteArray).size = s.length := rfl
  generalize (⟨s.toArray⟩ : ByteArray) = S at Hall hsz ⊢
  obtain ⟨p, hp⟩ : ∃ p : UInt8 → Bool, p = if more then valcB else lowB := ⟨_, rfl⟩
  rw [← hp]
  have Hp := Lib.hid hp
  clear hp
  go_enter Tryd.func71, Tryd.ntmps71
  go_wp2_with fail
  go_loopw [7] (fun i wr => ∃ k : Nat, a + k ≤ s.length ∧ i = .int .i64 k ∧ Upto (fun c => !p c) (s.drop a) k ∧ W = wr) (fun i _ => s.length - (intOf i).toNat)
  case atStart => exact ⟨0, by omega, rfl, upto_zero _ _, rfl⟩
  case round =>
    obtain ⟨k, hk, rfl, hu, rfl⟩ := hrel
    have Hu := Lib.hid hu
    clear hu
    by_cases hlt : a + k < s.length
    · have hx0 : s[a + k]? = some s[a + k] := List.getElem?_eq_getElem hlt
      have hg := Hall.out (a + k) s[a + k] hx0
      have hdl : k < (s.drop a).length := by simp; omega
      have hde : (s.drop a)[k] = s[a + k] := by simp
      have Hnext := Lib.hid (fun h => upto_succ (p := fun c => !p c) Hu.out hdl h)
      rw [hde] at Hnext
      have Hstop := Lib.hid (fun h => runN_at Hu.out hk (.inr ⟨_, hx0, h⟩))
      have hx8 := s[a + k].toNat_lt
      generalize s[a + k] = x at hg Hnext Hstop hx8
      clear hx0 hdl hde
      have HL : Hid (lowB x = decide (97 ≤ x.toNat ∧ x.toNat ≤ 122)) := rfl
      have HV : Hid (valcB x = (lowB x || decide (48 ≤ x.toNat ∧ x.toNat ≤ 57) || x == 45)) := rfl
      by_cases hl : 97 ≤ x.toNat ∧ x.toNat ≤ 122
      · obtain ⟨h1, h2⟩ := hl
        have Hok : Hid (Upto (fun c => !p c) (s.drop a) (k + 1)) := Hnext.out (by
          have : lowB x = true := by rw [HL.out, decide_eq_true ⟨h1, h2⟩]
          rw [Hp.out]; cases more <;> simp [this, HV.out])
        have h45 : ((x.toNat : Int) == 45) = false := by simp only [beq_eq_false_iff_ne, ne_eq]; omega
        have h57 : decide ((x.toNat : Int) ≤ 57) = false := decide_eq_false (by omega)
        clear Hnext Hstop
        go_wp2_with fail
        go_roundw
        case rel => exact ⟨k + 1, by omega, by go_num, Hok.out, trivial⟩
        case measure => simp [intOf]; omega
      · have Hl0 : Hid (lowB x = false) := by show lowB x = false; rw [HL.out, decide_eq_false hl]
        by_cases hd : 48 ≤ x.toNat ∧ x.toNat ≤ 57 ∨ x.toNat = 45
        · have Hv1 : Hid (valcB x = true) := by
            show valcB x = true
            rw [HV.out]
            rcases hd with h | h
            · rw [decide_eq_true h]; simp
            · have : x = 45 := UInt8.toNat_inj.1 h
              subst this; decide
          cases more with
          | false =>
            have Hr : Hid (runN p s a = k) := Hstop.out (by rw [Hp.out]; exact Hl0.out)
            clear Hnext Hstop hl
            rcases hd with ⟨h1, h2⟩ | h
            · have h45 : ((x.toNat : Int) == 45) = false := by simp only [beq_eq_false_iff_ne, ne_eq]; omega
              go_wp2_with fail
              go_ret
              exact ⟨ret_int (by rw [Hr.out]), rfl⟩
            · have h45 : ((x.toNat : Int)) = 45 := by omega
              clear h hx8
              go_wp2_with fail
              go_ret
              exact ⟨ret_int (by rw [Hr.out]), rfl⟩
          | true =>
            have Hok : Hid (Upto (fun c => !p c) (s.drop a) (k + 1)) := Hnext.out (by rw [Hp.out]; simp [Hv1.out])
            clear Hnext Hstop hl
            rcases hd with ⟨h1, h2⟩ | h
            · have h45 : ((x.toNat : Int) == 45) = false := by simp only [beq_eq_false_iff_ne, ne_eq]; omega
              go_wp2_with fail
              go_roundw
              case rel => exact ⟨k + 1, by omega, by go_num, Hok.out, trivial⟩
              case measure => simp [intOf]; omega
            · have h45 : ((x.toNat : Int)) = 45 := by omega
              clear h hx8
              go_wp2_with fail
              go_roundw
              case rel => exact ⟨k + 1, by omega, by go_num, Hok.out, trivial⟩
              case measure => simp [intOf]; omega
        · have Hr : Hid (runN p s a = k) := Hstop.out (by
            have hv : valcB x = false := by
              rw [HV.out, Hl0.out, decide_eq_false (fun h => hd (.inl h))]
              have : x ≠ 45 := fun h => hd (.inr (by rw [h]; rfl))
              simpa using this
            rw [Hp.out]; cases more <;> simp [Hl0.out, hv])
          have h45 : ((x.toNat : Int) == 45) = false := by simp only [beq_eq_false_iff_ne, ne_eq]; omega
          clear Hnext Hstop
          by_cases h1 : x.toNat < 48
          · have h2 : x.toNat < 97 := by omega
            clear hl hd
            go_wp2_with fail
            go_ret
            exact ⟨ret_int (by rw [Hr.out]), rfl⟩
          · have h1' : 48 ≤ x.toNat := by omega
            have h57 : decide ((x.toNat : Int) ≤ 57) = false := decide_eq_false (by omega)
            by_cases h2 : x.toNat < 97
            · clear hl hd h1
              go_wp2_with fail
              go_ret
              exact ⟨ret_int (by rw [Hr.out]), rfl⟩
            · have h2' : 97 ≤ x.toNat := by omega
              have h122 : decide ((x.toNat : Int) ≤ 122) = false := decide_eq_false (by omega)
              clear hl hd h1 h2
              go_wp2_with fail
              go_ret
              exact ⟨ret_int (by rw [Hr.out]), rfl⟩
    · have hke : a + k = s.length := by omega
      have Hr : Hid (runN p s a = k) := runN_at Hu.out hk (.inl hke)
      clear hke
      go_wp2_with fail
      go_ret
      exact ⟨ret_int (by rw [Hr.out]), rfl⟩

end Go.Proofs.YtmhgbocejjnoaaaDoor
