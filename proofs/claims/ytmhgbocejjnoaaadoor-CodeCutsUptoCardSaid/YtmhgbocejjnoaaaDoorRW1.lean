/- Walks: prop's key, val. -/
import Derived.Test.YtmhgbocejjnoaaaDoorRTrim
import Derived.Test.YtmhgbocejjnoaaaDoorRR3
import Derived.Lib.SlTrimSet
namespace Go.Proofs.YtmhgbocejjnoaaaDoor
open Go.RowKit Go.Redl
set_option linter.unusedVariables false

theorem dropWhile_all {α : Type} {p : α → Bool} : ∀ {l : List α}, (∀ x ∈ l.dropWhile p, p x = true) → ∀ x ∈ l, p x = true
  | [], _ => by simp
  | a :: l, h => by
    cases ha : p a with
    | true =>
      rw [List.dropWhile_cons_of_pos ha] at h
      intro x hx
      rcases List.mem_cons.1 hx with rfl | hx
      · exact ha
      · exact dropWhile_all h x hx
    | false =>
      rw [List.dropWhile_cons_of_neg (by simp [ha])] at h
      have := h a (by simp)
      rw [ha] at this; cases this
theorem dropWhile_none {α : Type} {p : α → Bool} : ∀ {l : List α}, (∀ x ∈ l, p x = true) → l.dropWhile p = []
  | [], _ => rfl
  | a :: l, h => by
    rw [List.dropWhile_cons_of_pos (h a (by simp))]
    exact dropWhile_none fun x hx => h x (by simp [hx])
theorem trim_nil (l cs : List UInt8) : Lib.trimS l cs = [] ↔ l.all (cs.contains ·) = true := by
  unfold Lib.trimS Lib.trimLeftS Lib.trimRightS
  rw [List.all_eq_true]
  constructor
  · intro h
    have h1 : ∀ x ∈ (l.reverse.dropWhile (cs.contains ·)).reverse, cs.contains x = true := dropWhile_all (by rw [h]; simp)
    have h2 : ∀ x ∈ l.reverse, cs.contains x = true := dropWhile_all fun x hx => h1 x (List.mem_reverse.2 hx)
    exact fun x hx => h2 x (by simpa using hx)
  · intro h
    rw [dropWhile_none (l := l.reverse) fun x hx => h x (by simpa using hx)]
    rfl
def lowSet : List UInt8 := [97, 98, 99, 100, 101, 102, 103, 104, 105, 106, 107, 108, 109, 110, 111, 112, 113, 114, 115, 116, 117, 118, 119, 120, 121, 122]
def valSet : List UInt8 := [97, 98, 99, 100, 101, 102, 103, 104, 105, 106, 107, 108, 109, 110, 111, 112, 113, 114, 115, 116, 117, 118, 119, 120, 121, 122, 48, 49, 50, 51, 52, 53, 54, 55, 56, 57, 45]
theorem low_set (c : UInt8) : lowSet.contains c = lowB c := by
  have h : ∀ n : Fin 256, lowSet.contains (UInt8.ofNat n.1) = lowB (UInt8.ofNat n.1) := by decide +kernel
  have := h ⟨c.toNat, c.toNat_lt⟩
  simpa using this
theorem val_set (c : UInt8) : valSet.contains c = valcB c := by
  have h : ∀ n : Fin 256, valSet.contains (UInt8.ofNat n.1) = valcB (UInt8.ofNat n.1) := by decide +kernel
  have := h ⟨c.toNat, c.toNat_lt⟩
  simpa using this
theorem all_set {s cs : List UInt8} {p : UInt8 → Bool} (h : ∀ c, cs.contains c = p c) : s.all (cs.contains ·) = s.all p := by
  congr 1; funext c; exact h c
/-- strings.Trim, at such a set: is nothing left? -/
theorem trim_c (s cs : List UInt8) (p : UInt8 → Bool) (hp : ∀ c, cs.contains c = p c) (hc : cs.length ≤ 1000) (ha : cs.all (fun b => decide (b.toNat < 128)) = true) (w : World) (hn : s.length ≤ 1000000000) :
    (s.all p = true → Calls Tryd.prog 86 #[.string ⟨s.toArray⟩, .string ⟨cs.toArray⟩] w fun e w' => e = .returned (.string ⟨#[]⟩) ∧ Below w.heap.size w w') ∧
    (s.all p = false → ∃ y ys, Calls Tryd.prog 86 #[.string ⟨s.toArray⟩, .string ⟨cs.toArray⟩] w fun e w' => e = .returned (.string ⟨(y :: ys).toArray⟩) ∧ Below w.heap.size w w') := by
  have h := Tryd.strings_Trim_set ⟨s.toArray⟩ ⟨cs.toArray⟩ w (by show s.length ≤ _; omega) (by show cs.length < _; omega) (fun j b hj => by
    rw [List.all_eq_true] at ha
    have : b ∈ cs := List.mem_of_getElem? (by simpa using hj)
    simpa using ha b this)
  have h0 := trim_nil s cs
  rw [all_set hp] at h0
  constructor
  · intro hs
    have : Lib.trimS (⟨s.toArray⟩ : ByteArray).data.toList (⟨cs.toArray⟩ : ByteArray).data.toList = [] := by simpa using h0.2 hs
    rw [this] at h
    exact h
  · intro hs
    have hne : Lib.trimS (⟨s.toArray⟩ : ByteArray).data.toList (⟨cs.toArray⟩ : ByteArray).data.toList ≠ [] := by
      intro he
      have := h0.1 (by simpa using he)
      rw [hs] at this; cases this
    obtain ⟨y, ys, hy⟩ := List.exists_cons_of_ne_nil hne
    rw [hy] at h
    exact ⟨y, ys, h⟩

set_option maxRecDepth 100000 in
set_option maxHeartbeats 1000000 in
theorem key_c (s : List UInt8) (w : World) (hn : s.length ≤ 1000000000) :
    Calls Tryd.prog 75 #[.string ⟨s.toArray⟩] w fun e w' => e = .returned (.bool (keyB s)) ∧ Below w.heap.size w w' := by
  have Hk : Hid (keyB s = (decide (1 ≤ s.length ∧ s.length ≤ 16) && s.all lowB)) := rfl
  obtain ⟨hT, hF⟩ := trim_c s lowSet lowB low_set (by decide) (by decide +kernel) w hn
  have HT := Lib.hid hT; have HF := Lib.hid hF
  clear hT hF
  cases s with
  | nil =>
    go_enter Tryd.func75, Tryd.ntmps75
    go_wp2_with fail
    go_ret
    exact ⟨ret_bool (by rw [Hk.out]; rfl), Below.refl _ _⟩
  | cons c r =>
    have hsz : (⟨(c :: r).toArray⟩ : ByteArray).size = r.length + 1 := rfl
    have hne : ((⟨(c :: r).toArray⟩ : ByteArray).toList.isEmpty) = false := by rw [ByteArray.toList_mk]; rfl
    have hne2 : (!(⟨(c :: r).toArray⟩ : ByteArray).toList.isEmpty) = true := by rw [ByteArray.toList_mk]; rfl
    obtain ⟨S, hS⟩ : ∃ S, S = (⟨(c :: r).toArray⟩ : ByteArray) := ⟨_, rfl⟩
    rw [← hS] at hsz hne hne2 HT HF ⊢
    by_cases h16 : 16 < r.length + 1
    · have Hz : Hid (keyB (c :: r) = false) := by
        show keyB _ = false
        rw [Hk.out, decide_eq_false (by simp only [List.length_cons]; omega)]; rfl
      clear hS HT HF
      go_enter Tryd.func75, Tryd.ntmps75
      go_wp2_with fail
      go_ret
      exact ⟨ret_bool Hz.out.symm, Below.refl _ _⟩
    · have Hk2 : Hid (keyB (c :: r) = (c :: r).all lowB) := by
        show keyB _ = _
        rw [Hk.out, decide_eq_true (by simp only [List.length_cons]; omega)]; simp
      cases hall : (c :: r).all lowB with
      | true =>
        have HC := Lib.hid (HT.out hall)
        rw [hall] at Hk2
        clear hS HT HF hall
        go_enter Tryd.func75, Tryd.ntmps75
        go_wp2_with fail
        refine HC.out.mono ?_
        rintro e w1 ⟨rfl, hb⟩
        have Hb := Lib.hid hb
        clear hb
        go_wp2_with fail
        go_ret
        exact ⟨ret_bool Hk2.out.symm, Hb.out⟩
      | false =>
        obtain ⟨y, ys, hC⟩ := HF.out hall
        have HC := Lib.hid hC
        rw [hall] at Hk2
        have hn2 : ((⟨(y :: ys).toArray⟩ : ByteArray).toList.isEmpty) = false := by rw [ByteArray.toList_mk]; rfl
        clear hS HT HF hall hC
        go_enter Tryd.func75, Tryd.ntmps75
        go_wp2_with fail
        refine HC.out.mono ?_
        rintro e w1 ⟨rfl, hb⟩
        have Hb := Lib.hid hb
        clear hb
        go_wp2_with fail
        go_ret
        exact ⟨ret_bool Hk2.out.symm, Hb.out⟩

set_option maxRecDepth 100000 in
set_option maxHeartbeats 1000000 in
theorem val_c (s : List UInt8) (w : World) (hn : s.length ≤ 1000000000) :
    Calls Tryd.prog 76 #[.string ⟨s.toArray⟩] w fun e w' => e = .returned (.bool (valB s)) ∧ Below w.heap.size w w' := by
  have Hk : Hid (valB s = (decide (s.length ≤ 32) && s.all valcB)) := rfl
  obtain ⟨hT, hF⟩ := trim_c s valSet valcB val_set (by decide) (by decide +kernel) w hn
  have HT := Lib.hid hT; have HF := Lib.hid hF
  have hsz : (⟨s.toArray⟩ : ByteArray).size = s.length := rfl
  clear hT hF
  obtain ⟨S, hS⟩ : ∃ S, S = (⟨s.toArray⟩ : ByteArray) := ⟨_, rfl⟩
  rw [← hS] at hsz HT HF ⊢
  clear hS
  by_cases h32 : 32 < s.length
  · have Hz : Hid (valB s = false) := by
      show valB _ = false
      rw [Hk.out, decide_eq_false (by omega)]; rfl
    clear HT HF
    go_enter Tryd.func76, Tryd.ntmps76
    go_wp2_with fail
    go_ret
    exact ⟨ret_bool Hz.out.symm, Below.refl _ _⟩
  · have Hk2 : Hid (valB s = s.all valcB) := by
      show valB _ = _
      rw [Hk.out, decide_eq_true (by omega)]; simp
    cases hall : s.all valcB with
    | true =>
      have HC := Lib.hid (HT.out hall)
      rw [hall] at Hk2
      clear HT HF hall
      go_enter Tryd.func76, Tryd.ntmps76
      go_wp2_with fail
      refine HC.out.mono ?_
      rintro e w1 ⟨rfl, hb⟩
      have Hb := Lib.hid hb
      clear hb
      go_wp2_with fail
      go_ret
      exact ⟨ret_bool Hk2.out.symm, Hb.out⟩
    | false =>
      obtain ⟨y, ys, hC⟩ := HF.out hall
      have HC := Lib.hid hC
      rw [hall] at Hk2
      have hn2 : ((⟨(y :: ys).toArray⟩ : ByteArray).toList.isEmpty) = false := by rw [ByteArray.toList_mk]; rfl
      clear HT HF hall hC
      go_enter Tryd.func76, Tryd.ntmps76
      go_wp2_with fail
      refine HC.out.mono ?_
      rintro e w1 ⟨rfl, hb⟩
      have Hb := Lib.hid hb
      clear hb
      go_wp2_with fail
      go_ret
      exact ⟨ret_bool Hk2.out.symm, Hb.out⟩

end Go.Proofs.YtmhgbocejjnoaaaDoor
