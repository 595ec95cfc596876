/- Walks: the reference of glyph: Remove, Cut. -/
import Derived.Test.YtdafbpjgjhfjmaaDoorRG5
namespace Go.Proofs.YtdafbpjgjhfjmaaDoor
open Go.RowKit Go.Redl
set_option linter.unusedVariables false

set_option maxRecDepth 100000 in
set_option maxHeartbeats 400000 in
theorem rremove_ok (v1 v2 : Value) (B k : Nat) (r s : List Int) (w : World) (h1 : Ints .i32 w B v1 r) (h2 : Ints .i32 w B v2 s) (hB : B ≤ w.heap.size)
    (he : askedE r k s = 0) (hn : r.length + s.length ≤ 1000000) (hk : k ≤ r.length) :
    Calls Tryd.prog 17 #[v1, .int .i64 k, v2] w (MadeE .i32 w 21 (remR r k s).1 (remR r k s).2) := by
  have H1 := rcheck_c v1 B r w h1
  have H2 := rcheck_c v2 B s w h2
  obtain ⟨c1, c2⟩ := asked_zero he
  rw [c1] at H1
  rw [c2] at H2
  have h2' := h2
  have hw := h1.wf
  have X1 := Lib.hid H1
  have X2 := Lib.hid H2
  obtain ⟨⟨a, cap, rfl, hr⟩, -⟩ := h1
  obtain ⟨⟨a2, cap2, rfl, hr2⟩, -⟩ := h2
  have hle := hr.le
  have hmx := hr.max
  unfold maxLen at hmx
  clear H1 H2 he c1 c2
  rcases Nat.lt_or_ge (r.length - k) s.length with hlt | hge
  · have hbig : (r.length : Int) - (k : Int) < (s.length : Int) := by omega
    have hne : ¬ ((r.drop k).take s.length = s) := by
      intro h
      have := congrArg List.length h
      simp at this
      omega
    rw [remR_no hne]
    clear hr hr2 h2' hw hne
    go_enter Tryd.func17, Tryd.ntmps17
    go_wp2_with fail
    refine X1.out.mono ?_
    rintro e w' ⟨rfl, rfl⟩
    go_wp2_with fail
    refine X2.out.mono ?_
    rintro e w' ⟨rfl, rfl⟩
    go_wp2_with fail
    go_ret2
    exact ⟨_, rfl, World.ownsRow_nil _ _ _ _, Below.refl _ _⟩
  · have hbig : (s.length : Int) ≤ (r.length : Int) - (k : Int) := by omega
    obtain ⟨a3, c3, hs3, hr3⟩ := hr.cut_h 22 21 Tryd.underlying22 (fun W => by kernel_rfl) k hk
    obtain ⟨a4, c4, hs4, hr4⟩ := hr.cut_l 22 21 Tryd.underlying22 (fun W => by kernel_rfl) (k + s.length) (by omega)
    obtain ⟨a5, c5, hs5, hr5⟩ := hr.cut_lh 22 21 Tryd.underlying22 (fun W => by kernel_rfl) k (k + s.length) (by omega) (by omega)
    have HE := rsame_c _ _ B ((r.take (k + s.length)).drop k) s w (ints_of_row hr5 (by simp [List.map_take, List.map_drop]) (fun z hz => hw z (List.mem_of_mem_take (List.mem_of_mem_drop hz)))) h2'
    have hcut : (r.take (k + s.length)).drop k = (r.drop k).take s.length := by rw [List.drop_take]; congr 1; omega
    rw [hcut] at HE
    have HE := Lib.hid HE
    simp only [Nat.add_sub_cancel_left, Int.natCast_add] at hs4 hs5 HE
    have R3 := Lib.hid hr3
    have R4 := Lib.hid hr4
    clear hr hr2 hr3 hr4 hr5 h2' hw hcut
    by_cases hsame : (r.drop k).take s.length = s
    · rw [remR_yes hsame]
      have hb : decide ((r.drop k).take s.length = s) = true := by simp [hsame]
      rw [hb] at HE
      clear hsame hb
      go_enter Tryd.func17, Tryd.ntmps17
      go_wp2_with fail
      refine X1.out.mono ?_
      rintro e w' ⟨rfl, rfl⟩
      go_wp2_with fail
      refine X2.out.mono ?_
      rintro e w' ⟨rfl, rfl⟩
      go_wp2_with fail
      refine HE.out.mono ?_
      rintro e w' ⟨rfl, q, rfl⟩
      go_wp2_with fail
      have hws : IntKind.i64.wrap ((k : Int) + (s.length : Int)) = (k : Int) + (s.length : Int) := IntWalk.i64_in _ (by omega)
      go_region_law (first
        | (refine step_call rfl 15 _ _ rfl rcopy_ent [Value.slice a3 k c3] ?_ _ (rcopy_c B k a3 c3 _ _ (R3.out.keep ?_ (Nat.le_refl _)) ?_ ?_) ?_
           · go_simp
           · exact (below_drewN (Below.refl _ _) q).drew
           · exact hB
           · omega
           rintro e w1 ⟨v, rfl, hown, hbel⟩
           refine ⟨v, rfl, ?_⟩
           have Ho := Lib.hid hown; have Hb := Lib.hid (((below_drewN (Below.refl w.heap.size w) q).drew).trans hbel); clear hown hbel)
        | (refine step_app rfl _ _ 22 rfl w.heap.size 21 (.int .i32 0) 1 4 Tryd.underlying22 info_int32 rfl (by decide) v k _ ?_ Ho.out a4 (r.length - (k + s.length)) c4 B _ ?_ (R4.out.keep ?_ (Nat.le_refl _)) ?_ ?_ ?_ ?_
           · go_simp
           · go_simp
           · exact Hb.out.mono hB
           · unfold maxLen; omega
           · omega
           · exact Hb.out.size
           intro v' w2 hown hgrow
           have Ho2 := Lib.hid hown; have Hb2 := Lib.hid (Hb.out.grown hgrow Hb.out.size (fun j hj => (Ho.out.lt j hj).1)); clear hown hgrow))
      go_wp2_with fail
      go_ret2
      exact ⟨v', rfl, own_ints Ho2.out (by simp [remL, List.map_take, List.map_drop]), Hb2.out⟩
    · rw [remR_no hsame]
      have hb : decide ((r.drop k).take s.length = s) = false := by simp [hsame]
      rw [hb] at HE
      clear hsame hb
      go_enter Tryd.func17, Tryd.ntmps17
      go_wp2_with fail
      refine X1.out.mono ?_
      rintro e w' ⟨rfl, rfl⟩
      go_wp2_with fail
      refine X2.out.mono ?_
      rintro e w' ⟨rfl, rfl⟩
      go_wp2_with fail
      refine HE.out.mono ?_
      rintro e w' ⟨rfl, q, rfl⟩
      go_wp2_with fail
      go_ret2
      exact ⟨_, rfl, World.ownsRow_nil _ _ _ _, below_drewN (Below.refl _ _) q⟩

theorem asked_cases0 {r : List Int} {at_ : Int} (h : askedE r at_ [] ≠ 0) : (checkE r ≠ 0 ∧ askedE r at_ [] = 4) ∨
    (checkE r = 0 ∧ at_ < 0 ∧ askedE r at_ [] = 8) ∨ (checkE r = 0 ∧ ¬ at_ < 0 ∧ (r.length : Int) < at_ ∧ askedE r at_ [] = 8) := by
  rcases asked_cases h with h | ⟨_, h, _⟩ | ⟨h1, _, h2, h3⟩ | ⟨h1, _, h2, h3, h4⟩
  · exact .inl h
  · exact absurd rfl h
  · exact .inr (.inl ⟨h1, h2, h3⟩)
  · exact .inr (.inr ⟨h1, h2, h3, h4⟩)
theorem checkE_cases (r : List Int) : checkE r = 0 ∨ checkE r = 4 := by unfold checkE; split <;> simp

set_option maxRecDepth 100000 in
set_option maxHeartbeats 400000 in
theorem rcut_no (v1 : Value) (B : Nat) (r : List Int) (at_ : Int) (w : World) (h1 : Ints .i32 w B v1 r) (he : askedE r at_ [] ≠ 0) :
    Calls Tryd.prog 18 #[v1, .int .i64 at_] w (MadeEE .i32 w 21 [] [] (askedE r at_ [])) := by
  have H1 := Lib.hid (rcheck_c v1 B r w h1)
  obtain ⟨⟨a, cap, rfl, hr⟩, -⟩ := h1
  clear hr
  rcases asked_cases0 he with ⟨c1, hx⟩ | ⟨c1, c3, hx⟩ | ⟨c1, c3, c4, hx⟩
  · have c1 : checkE r = 4 := by rcases checkE_cases r with h | h; exact absurd h c1; exact h
    rw [c1] at H1
    rw [hx]
    clear c1 hx he
    go_enter Tryd.func18, Tryd.ntmps18
    go_wp2_with fail
    refine H1.out.mono ?_
    rintro e w' ⟨rfl, rfl⟩
    go_wp2_with fail
    go_ret3
    exact ⟨_, _, rfl, World.ownsRow_nil _ _ _ _, World.ownsRow_nil _ _ _ _, .inl rfl, Below.refl _ _⟩
  · rw [c1] at H1
    rw [hx]
    clear c1 hx he
    go_enter Tryd.func18, Tryd.ntmps18
    go_wp2_with fail
    refine H1.out.mono ?_
    rintro e w' ⟨rfl, rfl⟩
    go_wp2_with fail
    go_ret3
    exact ⟨_, _, rfl, World.ownsRow_nil _ _ _ _, World.ownsRow_nil _ _ _ _, .inl rfl, Below.refl _ _⟩
  · rw [c1] at H1
    rw [hx]
    clear c1 hx he
    go_enter Tryd.func18, Tryd.ntmps18
    go_wp2_with fail
    refine H1.out.mono ?_
    rintro e w' ⟨rfl, rfl⟩
    go_wp2_with fail
    go_ret3
    exact ⟨_, _, rfl, World.ownsRow_nil _ _ _ _, World.ownsRow_nil _ _ _ _, .inl rfl, Below.refl _ _⟩

set_option maxRecDepth 100000 in
set_option maxHeartbeats 400000 in
theorem rcut_ok (v1 : Value) (B k : Nat) (r : List Int) (w : World) (h1 : Ints .i32 w B v1 r) (hB : B ≤ w.heap.size)
    (he : askedE r k [] = 0) (hn : r.length ≤ 1000000) (hk : k ≤ r.length) :
    Calls Tryd.prog 18 #[v1, .int .i64 k] w (MadeEE .i32 w 21 (r.take k) (r.drop k) 0) := by
  have H1 := rcheck_c v1 B r w h1
  obtain ⟨c1, c2⟩ := asked_zero he
  rw [c1] at H1
  have H1 := Lib.hid H1
  obtain ⟨⟨a, cap, rfl, hr⟩, -⟩ := h1
  have hle := hr.le
  have hmx := hr.max
  unfold maxLen at hmx
  obtain ⟨a3, c3, hs3, hr3⟩ := hr.cut_h 22 21 Tryd.underlying22 (fun W => by kernel_rfl) k hk
  obtain ⟨a4, c4, hs4, hr4⟩ := hr.cut_l 22 21 Tryd.underlying22 (fun W => by kernel_rfl) k hk
  have HC1 := fun (W : World) (h : Below w.heap.size w W) => Lib.hid (rcopy_c W.heap.size k a3 c3 _ W (hr3.keep (h.mono hB) (Nat.le_trans hB h.size)) (Nat.le_refl _) (by omega))
  have HC2 := fun (W : World) (h : Below w.heap.size w W) => Lib.hid (rcopy_c W.heap.size (r.length - k) a4 c4 _ W (hr4.keep (h.mono hB) (Nat.le_trans hB h.size)) (Nat.le_refl _) (by omega))
  clear hr hr3 hr4 he c1 c2
  have X1 := Lib.hid HC1
  have X2 := Lib.hid HC2
  clear HC1 HC2
  go_enter Tryd.func18, Tryd.ntmps18
  go_wp2_with fail
  refine H1.out.mono ?_
  rintro e w' ⟨rfl, rfl⟩
  go_wp2_with fail
  go_region_with (first
    | (go_at_call_of 15 (Value.slice a3 k c3); refine (X1.out _ ?_).out.mono ?_; exact (Below.refl _ _).drew; rintro e w1 ⟨v, rfl, hown, hbel⟩; have Ho := Lib.hid hown; have Hb := Lib.hid hbel; clear hown hbel)
    | (go_at_call_of 15 (Value.slice a4 (r.length - k) c4); refine (X2.out _ ?_).out.mono ?_; exact ((Below.refl _ _).drew).trans Hb.out; rintro e w2 ⟨u, rfl, hown, hbel⟩; have Ho2 := Lib.hid hown; have Hb2 := Lib.hid hbel; clear hown hbel))
  go_wp2_with fail
  go_ret3
  have hz : w.heap.size ≤ w1.heap.size := Hb.out.size
  refine ⟨v, u, rfl, own_keep (own_ints (own_mono Ho.out (base := w.heap.size) (by simp)) (by simp [List.map_take])) Hb2.out, own_ints (own_mono Ho2.out hz) (by simp [List.map_drop]), own_apart Ho.out Ho2.out (Nat.le_refl _), ?_⟩
  exact (((Below.refl _ _).drew).trans Hb.out).trans (Hb2.out.mono hz)

end Go.Proofs.YtdafbpjgjhfjmaaDoor
