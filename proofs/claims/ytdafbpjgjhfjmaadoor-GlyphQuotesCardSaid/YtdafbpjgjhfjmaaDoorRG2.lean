/- Walks: glyph.asked, Insert, Remove, Cut, Same. -/
import Derived.Test.YtdafbpjgjhfjmaaDoorRG1
import Derived.Deep.RegionWith
namespace Go.Proofs.YtdafbpjgjhfjmaaDoor
open Go.RowKit Go.Redl
set_option linter.unusedVariables false

/-- Why a place of a text can not be asked for, or a text of it. -/
def askedE (r : List Int) (at_ : Int) (s : List Int) : Int := if checkE r ≠ 0 ∨ checkE s ≠ 0 then 4 else if at_ < 0 ∨ (r.length : Int) < at_ then 8 else 0

theorem asked_zero {r s : List Int} {at_ : Int} (h : askedE r at_ s = 0) : checkE r = 0 ∧ checkE s = 0 := by
  unfold askedE at h
  split at h
  · cases h
  · rename_i hn; exact ⟨Classical.byContradiction fun h1 => hn (.inl h1), Classical.byContradiction fun h1 => hn (.inr h1)⟩

theorem asked_cases {r s : List Int} {at_ : Int} (h : askedE r at_ s ≠ 0) : (checkE r ≠ 0 ∧ askedE r at_ s = 4) ∨ (checkE r = 0 ∧ checkE s ≠ 0 ∧ askedE r at_ s = 4) ∨
    (checkE r = 0 ∧ checkE s = 0 ∧ at_ < 0 ∧ askedE r at_ s = 8) ∨ (checkE r = 0 ∧ checkE s = 0 ∧ ¬ at_ < 0 ∧ (r.length : Int) < at_ ∧ askedE r at_ s = 8) := by
  unfold askedE at *
  by_cases c1 : checkE r = 0
  · by_cases c2 : checkE s = 0
    · by_cases c3 : at_ < 0
      · simp [c1, c2, c3]
      · by_cases c4 : (r.length : Int) < at_
        · simp [c1, c2, c3, c4]
        · simp [c1, c2, c3, c4] at h
    · simp [c1, c2]
  · simp [c1]

set_option maxRecDepth 100000 in
set_option maxHeartbeats 400000 in
theorem asked_c (v1 v2 : Value) (B : Nat) (r s : List Int) (at_ : Int) (w : World) (h1 : Ints .i32 w B v1 r) (h2 : Ints .i32 w B v2 s) :
    Calls Tryd.prog 25 #[v1, .int .i64 at_, v2] w fun e w' => e = .returned (.int .i64 (askedE r at_ s)) ∧ w = w' := by
  have H1 := Lib.hid (check_c v1 B r w h1)
  have H2 := Lib.hid (check_c v2 B s w h2)
  obtain ⟨⟨a, cap, rfl, hr⟩, -⟩ := h1
  have Hx : Hid (askedE r at_ s = if checkE r ≠ 0 ∨ checkE s ≠ 0 then 4 else if at_ < 0 ∨ (r.length : Int) < at_ then 8 else 0) := rfl
  clear hr h2
  by_cases c1 : checkE r = 0
  · have b1 : (checkE r != 0) = false := by simp [c1]
    by_cases c2 : checkE s = 0
    · have b2 : (checkE s != 0) = false := by simp [c2]
      have C1 := Lib.hid c1; have C2 := Lib.hid c2; clear c1 c2
      by_cases c3 : at_ < 0
      · go_enter Tryd.func25, Tryd.ntmps25
        go_wp2_with fail
        refine H1.out.mono ?_
        rintro e w' ⟨rfl, rfl⟩
        go_wp2_with fail
        refine H2.out.mono ?_
        rintro e w' ⟨rfl, rfl⟩
        go_wp2_with fail
        go_ret
        exact ⟨ret_int (by rw [Hx.out]; simp [C1.out, C2.out, c3]), rfl⟩
      · by_cases c4 : (r.length : Int) < at_
        · go_enter Tryd.func25, Tryd.ntmps25
          go_wp2_with fail
          refine H1.out.mono ?_
          rintro e w' ⟨rfl, rfl⟩
          go_wp2_with fail
          refine H2.out.mono ?_
          rintro e w' ⟨rfl, rfl⟩
          go_wp2_with fail
          go_ret
          exact ⟨ret_int (by rw [Hx.out]; simp [C1.out, C2.out, c4]), rfl⟩
        · go_enter Tryd.func25, Tryd.ntmps25
          go_wp2_with fail
          refine H1.out.mono ?_
          rintro e w' ⟨rfl, rfl⟩
          go_wp2_with fail
          refine H2.out.mono ?_
          rintro e w' ⟨rfl, rfl⟩
          go_wp2_with fail
          go_ret
          exact ⟨ret_int (by rw [Hx.out]; simp only [C1.out, C2.out]; simp; omega), rfl⟩
    · have b2 : (checkE s != 0) = true := by simp [c2]
      have C2 := Lib.hid c2; have C1 := Lib.hid c1; clear c1 c2
      go_enter Tryd.func25, Tryd.ntmps25
      go_wp2_with fail
      refine H1.out.mono ?_
      rintro e w' ⟨rfl, rfl⟩
      go_wp2_with fail
      refine H2.out.mono ?_
      rintro e w' ⟨rfl, rfl⟩
      go_wp2_with fail
      go_ret
      exact ⟨ret_int (by rw [Hx.out]; simp [C2.out]), rfl⟩
  · have b1 : (checkE r != 0) = true := by simp [c1]
    have C1 := Lib.hid c1; clear c1
    go_enter Tryd.func25, Tryd.ntmps25
    go_wp2_with fail
    refine H1.out.mono ?_
    rintro e w' ⟨rfl, rfl⟩
    go_wp2_with fail
    go_ret
    exact ⟨ret_int (by rw [Hx.out]; simp [C1.out]), rfl⟩

/-- A text with runes put in. -/
def insL (r : List Int) (k : Nat) (s : List Int) : List Int := r.take k ++ s ++ r.drop k

set_option maxRecDepth 100000 in
set_option maxHeartbeats 400000 in
theorem insert_ok (v1 v2 : Value) (B k : Nat) (r s : List Int) (w : World) (h1 : Ints .i32 w B v1 r) (h2 : Ints .i32 w B v2 s) (hB : B ≤ w.heap.size)
    (he : askedE r k s = 0) (hn : r.length + s.length ≤ 1000000) (hk : k ≤ r.length) :
    Calls Tryd.prog 10 #[v1, .int .i64 k, v2] w (MadeE .i32 w 21 (insL r k s) 0) := by
  have H0 := asked_c v1 v2 B r s k w h1 h2
  rw [he] at H0
  have H1 := Lib.hid H0
  clear H0
  obtain ⟨⟨a, cap, rfl, hr⟩, -⟩ := h1
  obtain ⟨⟨a2, cap2, rfl, hr2⟩, -⟩ := h2
  have hle := hr.le
  have hmx := hr.max
  unfold maxLen at hmx
  obtain ⟨a3, c3, hs3, hr3⟩ := hr.cut_h 22 21 Tryd.underlying22 (fun W => by kernel_rfl) k hk
  obtain ⟨a4, c4, hs4, hr4⟩ := hr.cut_l 22 21 Tryd.underlying22 (fun W => by kernel_rfl) k hk
  have hp := (Parts.cons hr3 (Parts.cons hr2 (Parts.cons hr4 (Parts.nil w B)))).keep (Below.refl _ _) hB
  have hpl := hp.lit 22 (by simp)
  have HC := Lib.hid (concat_rune _ _ _ _ _ _ hpl.1 hpl.2.1 hpl.2.2 (by simp; omega))
  clear hr hr2 hr3 hr4 hp hpl
  go_enter Tryd.func10, Tryd.ntmps10
  go_wp2_with fail
  refine H1.out.mono ?_
  rintro e w' ⟨rfl, rfl⟩
  go_wp2_with fail
  go_region_with (go_at_call 26; refine HC.out.mono ?_; rintro e w1 ⟨v, rfl, hown, hbel⟩; have Ho := Lib.hid hown; have Hb := Lib.hid hbel; clear hown hbel)
  go_wp2_with fail
  go_ret2
  refine ⟨v, rfl, own_ints (own_mono Ho.out (base := w.heap.size) (by simp)) (by simp [insL, List.map_take, List.map_drop]), (((Below.refl _ _).alloc (Nat.le_refl _) _).drew).trans (Hb.out.mono (by simp))⟩

set_option maxRecDepth 100000 in
set_option maxHeartbeats 400000 in
theorem insert_no (v1 v2 : Value) (B : Nat) (r s : List Int) (at_ : Int) (w : World) (h1 : Ints .i32 w B v1 r) (h2 : Ints .i32 w B v2 s) (he : askedE r at_ s ≠ 0) :
    Calls Tryd.prog 10 #[v1, .int .i64 at_, v2] w (MadeE .i32 w 21 [] (askedE r at_ s)) := by
  have H1 := Lib.hid (asked_c v1 v2 B r s at_ w h1 h2)
  obtain ⟨x, hx⟩ : ∃ x, askedE r at_ s = x := ⟨_, rfl⟩
  rw [hx] at H1 he ⊢
  have hb : (x != 0) = true := by simpa using he
  clear hx he h1 h2
  go_enter Tryd.func10, Tryd.ntmps10
  go_wp2_with fail
  refine H1.out.mono ?_
  rintro e w' ⟨rfl, rfl⟩
  go_wp2_with fail
  go_ret2
  exact ⟨_, rfl, World.ownsRow_nil _ _ _ _, Below.refl _ _⟩

/-- Remove's answer. -/
def remOk (r : List Int) (k : Nat) (s : List Int) : Bool := decide ((r.drop k).take s.length = s)
def remL (r : List Int) (k : Nat) (s : List Int) : List Int := r.take k ++ r.drop (k + s.length)
def remR (r : List Int) (k : Nat) (s : List Int) : List Int × Int := if remOk r k s then (remL r k s, 0) else ([], 9)
theorem remR_yes {r s : List Int} {k : Nat} (h : ((r.drop k).take s.length = s)) : remR r k s = (remL r k s, 0) := by simp [remR, remOk, h]
theorem remR_no {r s : List Int} {k : Nat} (h : ¬ ((r.drop k).take s.length = s)) : remR r k s = ([], 9) := by simp [remR, remOk, h]
theorem rem_cut {r s : List Int} {k m : Nat} (hm : m = min (k + s.length) r.length) (hk : k ≤ r.length) : (r.take m).drop k = (r.drop k).take s.length := by
  rw [List.drop_take]
  by_cases h : k + s.length ≤ r.length
  · have : m - k = s.length := by omega
    rw [this]
  · rw [List.take_of_length_le (i := m - k) (by simp; omega), List.take_of_length_le (i := s.length) (by simp; omega)]
theorem rem_back {r s : List Int} {k m : Nat} (hm : m = min (k + s.length) r.length) : r.drop m = r.drop (k + s.length) := by
  by_cases h : k + s.length ≤ r.length
  · have : m = k + s.length := by omega
    rw [this]
  · rw [List.drop_of_length_le (by omega), List.drop_of_length_le (by omega)]

set_option maxRecDepth 100000 in
set_option maxHeartbeats 400000 in
theorem remove_no (v1 v2 : Value) (B : Nat) (r s : List Int) (at_ : Int) (w : World) (h1 : Ints .i32 w B v1 r) (h2 : Ints .i32 w B v2 s) (he : askedE r at_ s ≠ 0) :
    Calls Tryd.prog 11 #[v1, .int .i64 at_, v2] w (MadeE .i32 w 21 [] (askedE r at_ s)) := by
  have H1 := Lib.hid (asked_c v1 v2 B r s at_ w h1 h2)
  obtain ⟨x, hx⟩ : ∃ x, askedE r at_ s = x := ⟨_, rfl⟩
  rw [hx] at H1 he ⊢
  have hb : (x != 0) = true := by simpa using he
  clear hx he h1 h2
  go_enter Tryd.func11, Tryd.ntmps11
  go_wp2_with fail
  refine H1.out.mono ?_
  rintro e w' ⟨rfl, rfl⟩
  go_wp2_with fail
  go_ret2
  exact ⟨_, rfl, World.ownsRow_nil _ _ _ _, Below.refl _ _⟩

theorem ints_of_row {k : IntKind} {w : World} {B n cap : Nat} {a : Option Addr} {cs : List Value} {zs : List Int} (h : RowA w B 1 a n cap cs) (hc : cs = zs.map (Value.int k)) (hw : ∀ z ∈ zs, (Lit.int k z).wf = true) :
    Ints k w B (.slice a n cap) zs := by
  subst hc
  have : n = zs.length := by simpa using h.len.symm
  subst this
  exact ⟨⟨a, cap, rfl, h⟩, hw⟩

set_option maxRecDepth 100000 in
set_option maxHeartbeats 400000 in
theorem remove_ok (v1 v2 : Value) (B k : Nat) (r s : List Int) (w : World) (h1 : Ints .i32 w B v1 r) (h2 : Ints .i32 w B v2 s) (hB : B ≤ w.heap.size)
    (he : askedE r k s = 0) (hn : r.length + s.length ≤ 1000000) (hk : k ≤ r.length) :
    Calls Tryd.prog 11 #[v1, .int .i64 k, v2] w (MadeE .i32 w 21 (remR r k s).1 (remR r k s).2) := by
  have H0 := asked_c v1 v2 B r s k w h1 h2
  rw [he] at H0
  have H1 := Lib.hid H0
  clear H0
  have hw := h1.wf
  have h2' := h2
  obtain ⟨⟨a, cap, rfl, hr⟩, -⟩ := h1
  obtain ⟨⟨a2, cap2, rfl, hr2⟩, -⟩ := h2
  have hle := hr.le
  have hmx := hr.max
  unfold maxLen at hmx
  obtain ⟨m, hm⟩ : ∃ m : Nat, m = min (k + s.length) r.length := ⟨_, rfl⟩
  have hkm : k ≤ m := by omega
  have hmr : m ≤ r.length := by omega
  obtain ⟨a3, c3, hs3, hr3⟩ := hr.cut_h 22 21 Tryd.underlying22 (fun W => by kernel_rfl) k hk
  obtain ⟨a4, c4, hs4, hr4⟩ := hr.cut_l 22 21 Tryd.underlying22 (fun W => by kernel_rfl) m hmr
  obtain ⟨a5, c5, hs5, hr5⟩ := hr.cut_lh 22 21 Tryd.underlying22 (fun W => by kernel_rfl) k m hkm hmr
  have HE := Lib.hid (equal_rune _ _ B ((r.take m).drop k) s w (ints_of_row hr5 (by simp [List.map_take, List.map_drop]) (fun z hz => hw z (List.mem_of_mem_take (List.mem_of_mem_drop hz)))) h2')
  have hp := fun q => (Parts.cons hr3 (Parts.cons hr4 (Parts.nil w B))).keep (w' := w.drewN q) (below_drewN (Below.refl _ _) q) hB
  have hcut := rem_cut hm hk
  have hback := rem_back hm
  rw [hcut] at HE
  clear hr hr2 hr3 hr4 hr5 h2' hw he hcut
  have Hback := Lib.hid hback
  have Hp := Lib.hid hp
  clear hback hp
  by_cases hsame : (r.drop k).take s.length = s
  · rw [remR_yes hsame]
    have hb : decide ((r.drop k).take s.length = s) = true := by simp [hsame]
    rw [hb] at HE
    clear hsame hb
    have HC := fun q => Lib.hid (concat_rune _ _ _ _ _ _ ((Hp.out q).litp 22 (by simp)).1 ((Hp.out q).litp 22 (by simp)).2.1 ((Hp.out q).litp 22 (by simp)).2.2 (by simp; omega))
    rcases Nat.lt_or_ge r.length (k + s.length) with hlt | hlt
    · obtain rfl : m = r.length := by omega
      simp only [Nat.sub_self] at hs4 HC
      clear hm Hp
      go_enter Tryd.func11, Tryd.ntmps11
      go_wp2_with fail
      refine H1.out.mono ?_
      rintro e w' ⟨rfl, rfl⟩
      go_wp2_with fail
      refine HE.out.mono ?_
      rintro e w' ⟨rfl, q, rfl⟩
      go_wp2_with fail
      go_region_with (go_at_call 26; refine (HC (q + 1)).out.mono ?_; rintro e w1 ⟨v, rfl, hown, hbel⟩; have Ho := Lib.hid hown; have Hb := Lib.hid hbel; clear hown hbel)
      go_wp2_with fail
      go_ret2
      refine ⟨v, rfl, own_ints (own_mono Ho.out (base := w.heap.size) (by simp)) ?_, ((below_drewN (Below.refl _ _) _).alloc (by simp) _).trans (Hb.out.mono (by simp))⟩
      simp [remL, List.map_take, ← Hback.out]
    · obtain rfl : m = k + s.length := by omega
      simp only [Nat.add_sub_cancel_left, Int.natCast_add] at hs4 hs5 HE
      clear hm Hp
      go_enter Tryd.func11, Tryd.ntmps11
      go_wp2_with fail
      refine H1.out.mono ?_
      rintro e w' ⟨rfl, rfl⟩
      go_wp2_with fail
      refine HE.out.mono ?_
      rintro e w' ⟨rfl, q, rfl⟩
      go_wp2_with fail
      go_region_with (go_at_call 26; refine (HC (q + 1)).out.mono ?_; rintro e w1 ⟨v, rfl, hown, hbel⟩; have Ho := Lib.hid hown; have Hb := Lib.hid hbel; clear hown hbel)
      go_wp2_with fail
      go_ret2
      refine ⟨v, rfl, own_ints (own_mono Ho.out (base := w.heap.size) (by simp)) ?_, ((below_drewN (Below.refl _ _) _).alloc (by simp) _).trans (Hb.out.mono (by simp))⟩
      simp [remL, List.map_take, List.map_drop]
  · rw [remR_no hsame]
    have hb : decide ((r.drop k).take s.length = s) = false := by simp [hsame]
    rw [hb] at HE
    clear hsame hb
    rcases Nat.lt_or_ge r.length (k + s.length) with hlt | hlt
    · obtain rfl : m = r.length := by omega
      clear hm
      go_enter Tryd.func11, Tryd.ntmps11
      go_wp2_with fail
      refine H1.out.mono ?_
      rintro e w' ⟨rfl, rfl⟩
      go_wp2_with fail
      refine HE.out.mono ?_
      rintro e w' ⟨rfl, q, rfl⟩
      go_wp2_with fail
      go_ret2
      exact ⟨_, rfl, World.ownsRow_nil _ _ _ _, below_drewN (Below.refl _ _) q⟩
    · obtain rfl : m = k + s.length := by omega
      simp only [Nat.add_sub_cancel_left, Int.natCast_add] at hs4 hs5 HE
      clear hm
      go_enter Tryd.func11, Tryd.ntmps11
      go_wp2_with fail
      refine H1.out.mono ?_
      rintro e w' ⟨rfl, rfl⟩
      go_wp2_with fail
      refine HE.out.mono ?_
      rintro e w' ⟨rfl, q, rfl⟩
      go_wp2_with fail
      go_ret2
      exact ⟨_, rfl, World.ownsRow_nil _ _ _ _, below_drewN (Below.refl _ _) q⟩

end Go.Proofs.YtdafbpjgjhfjmaaDoor
