/- Walks: glyph.first. -/
import Derived.Test.YtmhgbocejjnoaaaDoorRPV
import Derived.Test.YtmhgbocejjnoaaaDoorRS3
import Derived.Test.YtmhgbocejjnoaaaDoorRQC
import Derived.Test.YtmhgbocejjnoaaaDoorRQ1
import Derived.Deep.QuietTactic
import Derived.BigQuiet
namespace Go.Proofs.YtmhgbocejjnoaaaDoor
open Go.RowKit Go.Redl Go.BigFrame
set_option linter.unusedVariables false

/-- What stands first. -/
def FirstP (B : Nat) (w : World) (c : Int) (l : Nat) (e : Ending) (w' : World) : Prop := e = .returned (.tuple #[.int .i32 c, .int .i64 l]) ∧ Below B w w'

theorem u8_i32 (x : UInt8) : IntKind.i32.wrap (x.toNat : Int) = x.toNat := IntWalk.i32_in _ (by have := x.toNat_lt; omega)

set_option maxRecDepth 100000 in
set_option maxHeartbeats 1000000 in
theorem first_plain (x : UInt8) (r : List UInt8) (w : World) (hp : plainB x.toNat = true) :
    Calls Tryd.prog 85 #[.string ⟨(x :: r).toArray⟩] w (FirstP w.heap.size w x.toNat 1) := by
  have hg : ∀ h, (⟨(x :: r).toArray⟩ : ByteArray)[0]'h = x := fun _ => rfl
  have hsz : (⟨(x :: r).toArray⟩ : ByteArray).size = r.length + 1 := rfl
  generalize (⟨(x :: r).toArray⟩ : ByteArray) = s at hg hsz ⊢
  have hw : wrap32 (x.toNat : Int) = x.toNat := IntWalk.wrap32_in _ (by have := x.toNat_lt; omega)
  have hp' := hp
  clear hp
  have hx := x.toNat_lt
  go_enter Tryd.func85, Tryd.ntmps85
  go_wp2_with fail
  refine (plain_c _ _).mono ?_
  rintro e w1 ⟨rfl, rfl⟩
  rw [hp']
  go_wp2_with fail
  go_ret2
  exact ⟨rfl, Below.refl _ _⟩

set_option maxRecDepth 100000 in
set_option maxHeartbeats 1000000 in
theorem first_other (x : UInt8) (r : List UInt8) (w : World) (hp : plainB x.toNat = false) (hx : x ≠ 92) :
    Calls Tryd.prog 85 #[.string ⟨(x :: r).toArray⟩] w (FirstP w.heap.size w 0 0) := by
  have hg : ∀ h, (⟨(x :: r).toArray⟩ : ByteArray)[0]'h = x := fun _ => rfl
  have hsz : (⟨(x :: r).toArray⟩ : ByteArray).size = r.length + 1 := rfl
  generalize (⟨(x :: r).toArray⟩ : ByteArray) = s at hg hsz ⊢
  have hw : wrap32 (x.toNat : Int) = x.toNat := IntWalk.wrap32_in _ (by have := x.toNat_lt; omega)
  have hp' := hp
  clear hp
  have h92 : ((x.toNat : Int) != 92) = true := by
    have : x.toNat ≠ 92 := fun h => hx (UInt8.toNat_inj.1 h)
    simp only [bne_iff_ne, ne_eq]; omega
  clear hx
  have hx := x.toNat_lt
  go_enter Tryd.func85, Tryd.ntmps85
  go_wp2_with fail
  refine (plain_c _ _).mono ?_
  rintro e w1 ⟨rfl, rfl⟩
  rw [hp']
  go_wp2_with fail
  refine (Tryd.strings_IndexByte _ 59 _).mono ?_
  rintro e w1 ⟨rfl, rfl⟩
  go_wp2_with fail
  go_ret2
  exact ⟨rfl, Below.refl _ _⟩

set_option maxRecDepth 100000 in
set_option maxHeartbeats 1000000 in
theorem first_open (r : List UInt8) (w : World) (hn : Lib.indexByte (92 :: r) 59 = -1) :
    Calls Tryd.prog 85 #[.string ⟨((92 : UInt8) :: r).toArray⟩] w (FirstP w.heap.size w 0 0) := by
  have hg : ∀ h, (⟨((92 : UInt8) :: r).toArray⟩ : ByteArray)[0]'h = 92 := fun _ => rfl
  have hsz : (⟨((92 : UInt8) :: r).toArray⟩ : ByteArray).size = r.length + 1 := rfl
  have h92 : ((92 : UInt8).toNat : Int) = 92 := rfl
  have hp' : plainB 92 = false := by decide
  have hi : Lib.indexByte (⟨((92 : UInt8) :: r).toArray⟩ : ByteArray).data.toList (59 : Int).toNat.toUInt8 = -1 := hn
  clear hn
  generalize (⟨((92 : UInt8) :: r).toArray⟩ : ByteArray) = s at hg hsz hi ⊢
  go_enter Tryd.func85, Tryd.ntmps85
  go_wp2_with fail
  refine (plain_c _ _).mono ?_
  rintro e w1 ⟨rfl, rfl⟩
  rw [hp']
  go_wp2_with fail
  refine (Tryd.strings_IndexByte _ 59 _).mono ?_
  rintro e w1 ⟨rfl, rfl⟩
  rw [hi]
  go_wp2_with fail
  go_ret2
  exact ⟨rfl, Below.refl _ _⟩

theorem Drawn.trans_below {B : Nat} {w w1 w2 : World} (h : Below B w w1) (hd : Drawn w1 w2) : Below B w w2 := by
  obtain ⟨q, rfl⟩ := hd
  exact below_drewN h q

/-- What comes of a number that was read. -/
def firstM (n : Nat) (ds : List UInt8) : Int × Nat := if validB n && !plainB n && decide (escL n = 92 :: (ds ++ [59])) then ((n : Int), ds.length + 2) else (0, 0)
theorem firstM_no {n : Nat} {ds : List UInt8} (h : validB n = false ∨ plainB n = true ∨ escL n ≠ 92 :: (ds ++ [59])) : firstM n ds = (0, 0) := by
  unfold firstM
  rw [if_neg]
  rcases h with h | h | h <;> simp [h]
theorem firstM_yes {n : Nat} {ds : List UInt8} (h1 : validB n = true) (h2 : plainB n = false) (h3 : escL n = 92 :: (ds ++ [59])) : firstM n ds = ((n : Int), ds.length + 2) := by
  unfold firstM
  rw [if_pos (by simp [h1, h2, h3])]
attribute [irreducible] firstM

/-- The text's cuts. -/
theorem esc_cut (ds rest : List UInt8) : (⟨(92 :: (ds ++ 59 :: rest)).toArray⟩ : ByteArray).extract 1 (ds.length + 1) = ⟨ds.toArray⟩ ∧ (⟨(92 :: (ds ++ 59 :: rest)).toArray⟩ : ByteArray).extract 0 (ds.length + 2) = ⟨(92 :: (ds ++ [59])).toArray⟩ := by
  constructor
  · rw [ByteArray.extract_mk]; simp
  · rw [ByteArray.extract_mk]
    simp only [List.drop_zero, Nat.sub_zero, List.take_succ_cons]
    rw [show ds.length + 1 = (ds ++ [59]).length by simp, show ds ++ 59 :: rest = (ds ++ [59]) ++ rest by simp, List.take_left]

set_option maxRecDepth 100000 in
set_option maxHeartbeats 1000000 in
theorem first_bad (ds rest : List UInt8) (w : World) (hn : ds.length ≤ 1000000) (he : ErrsAt w) (hd : ∀ c ∈ ds, c ≠ 59) (hi : Lib.indexByte (92 :: (ds ++ 59 :: rest)) 59 = (ds.length + 1 : Nat)) (hp : (if ds = [] then none else parseP ds 0) = none) :
    Calls Tryd.prog 85 #[.string ⟨((92 : UInt8) :: (ds ++ 59 :: rest)).toArray⟩] w (FirstP w.heap.size w 0 0) := by
  have hg : ∀ h, (⟨((92 : UInt8) :: (ds ++ 59 :: rest)).toArray⟩ : ByteArray)[0]'h = 92 := fun _ => rfl
  have hsz : (⟨((92 : UInt8) :: (ds ++ 59 :: rest)).toArray⟩ : ByteArray).size = ds.length + 2 + rest.length := by
    show (92 :: (ds ++ 59 :: rest)).length = _
    simp; omega
  have h92 : ((92 : UInt8).toNat : Int) = 92 := rfl
  have hp' : plainB 92 = false := by decide
  have hi' : Lib.indexByte (⟨((92 : UInt8) :: (ds ++ 59 :: rest)).toArray⟩ : ByteArray).data.toList (59 : Int).toNat.toUInt8 = (ds.length + 1 : Nat) := hi
  clear hi
  have hc := (esc_cut ds rest).1
  generalize (⟨((92 : UInt8) :: (ds ++ 59 :: rest)).toArray⟩ : ByteArray) = s at hg hsz hi' hc ⊢
  have HX := Lib.hid (parse_c ds w hn he)
  rw [hp] at HX
  clear hp he hd
  go_enter Tryd.func85, Tryd.ntmps85
  go_wp2_with fail
  refine (plain_c _ _).mono ?_
  rintro e w1 ⟨rfl, rfl⟩
  rw [hp']
  go_wp2_with fail
  refine (Tryd.strings_IndexByte _ 59 _).mono ?_
  rintro e w1 ⟨rfl, rfl⟩
  rw [hi']
  go_wp2_with fail
  refine HX.out.mono ?_
  rintro e w2 ⟨hb, h⟩
  have Hb := Lib.hid hb
  clear hb
  rcases h with ⟨m, hp, rfl⟩ | ⟨-, m, t, v, rfl⟩
  · cases hp
  clear hc hi' hg
  go_wp2_with fail
  go_quiet (fail)
  go_wp2_with fail
  first | go_ret2 | go_ret3
  exact ⟨rfl, Drawn.trans_below Hb.out (by first | exact drawn_one _ _ | exact drawn_two _ _ _)⟩

set_option maxRecDepth 100000 in
set_option maxHeartbeats 1000000 in
theorem first_parsed (ds rest : List UInt8) (w : World) (hn : ds.length ≤ 1000000) (he : ErrsAt w) (hd : ∀ c ∈ ds, c ≠ 59) (hi : Lib.indexByte (92 :: (ds ++ 59 :: rest)) 59 = (ds.length + 1 : Nat)) (n : Nat) (hp : (if ds = [] then none else parseP ds 0) = some n) (ht : TabAt w) (hgt : 3 < w.heap.size) :
    Calls Tryd.prog 85 #[.string ⟨((92 : UInt8) :: (ds ++ 59 :: rest)).toArray⟩] w (FirstP w.heap.size w (firstM n ds).1 (firstM n ds).2) := by
  have hg : ∀ h, (⟨((92 : UInt8) :: (ds ++ 59 :: rest)).toArray⟩ : ByteArray)[0]'h = 92 := fun _ => rfl
  have hsz : (⟨((92 : UInt8) :: (ds ++ 59 :: rest)).toArray⟩ : ByteArray).size = ds.length + 2 + rest.length := by
    show (92 :: (ds ++ 59 :: rest)).length = _
    simp; omega
  have h92 : ((92 : UInt8).toNat : Int) = 92 := rfl
  have hp' : plainB 92 = false := by decide
  have hi' : Lib.indexByte (⟨((92 : UInt8) :: (ds ++ 59 :: rest)).toArray⟩ : ByteArray).data.toList (59 : Int).toNat.toUInt8 = (ds.length + 1 : Nat) := hi
  clear hi
  have hc := (esc_cut ds rest).1
  have hc2 := (esc_cut ds rest).2
  generalize (⟨((92 : UInt8) :: (ds ++ 59 :: rest)).toArray⟩ : ByteArray) = s at hg hsz hi' hc hc2 ⊢
  have HX := Lib.hid (parse_c ds w hn he)
  rw [hp] at HX
  have Hc2 := Lib.hid hc2
  have Ht := Lib.hid ht
  have Hgt := Lib.hid hgt
  clear hp he hd hc2 ht hgt
  generalize hq : firstM n ds = q
  obtain ⟨c, l⟩ := q
  show Calls Tryd.prog 85 #[.string s] w (FirstP w.heap.size w c l)
  have Hq := Lib.hid hq
  clear hq
  go_enter Tryd.func85, Tryd.ntmps85
  go_wp2_with fail
  refine (plain_c _ _).mono ?_
  rintro e w1 ⟨rfl, rfl⟩
  rw [hp']
  go_wp2_with fail
  refine (Tryd.strings_IndexByte _ 59 _).mono ?_
  rintro e w1 ⟨rfl, rfl⟩
  rw [hi']
  go_wp2_with fail
  refine HX.out.mono ?_
  rintro e w2 ⟨hb, h⟩
  have Hb := Lib.hid hb
  clear hb
  rcases h with ⟨m, hp, rfl⟩ | ⟨hp, -⟩
  case inr => cases hp
  cases hp
  clear hi' hg
  go_wp2_with fail
  clear hc hp' h92
  by_cases h1 : (1114111 : Int) < n
  · have hq : (c, l) = (0, 0) := by
      rw [← Hq.out]; exact firstM_no (.inl (by unfold validB; simp; omega))
    go_quiet (fail)
    go_wp2_with fail
    first | go_ret2 | go_ret3
    cases hq
    exact ⟨rfl, Drawn.trans_below Hb.out (by first | exact drawn_one _ _ | exact drawn_two _ _ _)⟩
  · have hw : IntKind.i32.wrap (n : Int) = n := IntWalk.i32_in _ (by omega)
    have hw32 : wrap32 (n : Int) = n := IntWalk.wrap32_in _ (by omega)
    cases h2 : validB n with
    | false =>
      have Hz : Hid ((c, l) = (0, 0)) := by
        show (c, l) = (0, 0)
        rw [← Hq.out]; exact firstM_no (.inl h2)
      have HV : ∀ q, Hid (Calls Tryd.prog 51 #[.int .i32 n] (w2.drewN q) fun e w' => e = .returned (.bool false) ∧ ∃ m, w' = w2.drewN m) := fun q =>
        Lib.hid (Calls.quiet_of_same ((valid_c n _).mono fun e w' h => ⟨by rw [h.1, h2], h.2.symm⟩))
      clear h2
      go_quiet (first | (go_at_call 51; exact (HV _).out))
      go_wp2_with fail
      first | go_ret2 | go_ret3
      cases Hz.out
      exact ⟨rfl, Drawn.trans_below Hb.out (by first | exact drawn_one _ _ | exact drawn_two _ _ _)⟩
    | true =>
      have HV : ∀ q, Hid (Calls Tryd.prog 51 #[.int .i32 n] (w2.drewN q) fun e w' => e = .returned (.bool true) ∧ ∃ m, w' = w2.drewN m) := fun q =>
        Lib.hid (Calls.quiet_of_same ((valid_c n _).mono fun e w' h => ⟨by rw [h.1, h2], h.2.symm⟩))
      cases h3 : plainB n with
      | true =>
        have Hz : Hid ((c, l) = (0, 0)) := by
          show (c, l) = (0, 0)
          rw [← Hq.out]; exact firstM_no (.inr (.inl h3))
        have HP : ∀ q, Hid (Calls Tryd.prog 29 #[.int .i32 n] (w2.drewN q) fun e w' => e = .returned (.bool true) ∧ ∃ m, w' = w2.drewN m) := fun q =>
          Lib.hid (Calls.quiet_of_same ((plain_c n _).mono fun e w' h => ⟨by rw [h.1, h3], h.2.symm⟩))
        clear h2 h3
        go_quiet (first | (go_at_call 51; exact (HV _).out) | (go_at_call 29; exact (HP _).out))
        go_wp2_with fail
        first | go_ret2 | go_ret3
        cases Hz.out
        exact ⟨rfl, Drawn.trans_below Hb.out (by first | exact drawn_one _ _ | exact drawn_two _ _ _)⟩
      | false =>
        have H2 := Lib.hid h2
        have H3 := Lib.hid h3
        have hws : wrap64 ((ds.length : Int) + 1 + 1) = ds.length + 2 := by rw [IntWalk.wrap64_in _ (by omega)]; omega
        have hww : IntKind.i64.wrap ((ds.length : Int) + 1 + 1) = ds.length + 2 := by rw [IntWalk.i64_in _ (by omega)]; omega
        obtain ⟨t2, ht2⟩ : ∃ t, t = (⟨(92 :: (ds ++ [59])).toArray⟩ : ByteArray) := ⟨_, rfl⟩
        obtain ⟨t1, ht1⟩ : ∃ t, t = (⟨(escL n).toArray⟩ : ByteArray) := ⟨_, rfl⟩
        have hc2 := Hc2.out
        rw [← ht2] at hc2
        have Hq2 : Hid ((c, l) = if (t1.toList == t2.toList) = true then ((n : Int), ds.length + 2) else (0, 0)) := by
          show (c, l) = _
          rw [← Hq.out, ht1, ht2, ByteArray.toList_mk, ByteArray.toList_mk]
          by_cases h4 : escL n = 92 :: (ds ++ [59])
          · rw [firstM_yes h2 h3 h4, if_pos (by rw [h4]; exact beq_self_eq_true _)]
          · rw [firstM_no (.inr (.inr h4)), if_neg (fun h => h4 (eq_of_beq h))]
        refine wp_region_class (fun w' => Below w1.heap.size w1 w') (by kernel_rfl) (by kernel_rfl) (below_drewN Hb.out 1) ?_
        intro ι inst W hin hall
        have Hin := Lib.hid hin
        have HV : ∀ i, Hid (Calls Tryd.prog 51 #[.int .i32 n] (W i) fun e w' => e = .returned (.bool true) ∧ ∃ j, w' = W j) := fun i =>
          Lib.hid ((valid_c n _).mono fun e w' h => ⟨by rw [h.1, h2], i, h.2.symm⟩)
        have HP : ∀ i, Hid (Calls Tryd.prog 29 #[.int .i32 n] (W i) fun e w' => e = .returned (.bool false) ∧ ∃ j, w' = W j) := fun i =>
          Lib.hid ((plain_c n _).mono fun e w' h => ⟨by rw [h.1, h3], i, h.2.symm⟩)
        have HE : ∀ i, Hid (Calls Tryd.prog 32 #[.int .i32 n] (W i) fun e w' => e = .returned (.string t1) ∧ ∃ j, w' = W j) := fun i =>
          Lib.hid ((escaped_c n _ (by omega) (TabAt.keep Ht.out (hin i) Hgt.out) (Nat.lt_of_lt_of_le Hgt.out (hin i).size)).mono fun e w' h => ⟨by rw [h.1, ht1], hall w' ((hin i).trans (h.2.mono (hin i).size))⟩)
        clear h2 h3 Hc2 ht1 ht2 HX hin hall Hq
        repeat (go_big_quiet_step (first | (go_at_call 51; exact (HV _).out) | (go_at_call 29; exact (HP _).out) | (go_at_call 32; exact (HE _).out)))
        refine wpQuiet_nil ?_
        intro _ hw'
        obtain ⟨nq, hw''⟩ := hw'
        subst hw''
        have Hw3 := Lib.hid (Hin.out nq)
        clear HV HP HE Hin
        generalize W nq = w3 at Hw3 ⊢
        clear nq W inst ι hc2 hww
        generalize (t1.toList == t2.toList) = b at Hq2 ⊢
        clear HV
        cases b <;> simp only [Bool.not_false, Bool.not_true]
        · have Hz : Hid ((c, l) = ((0 : Int), 0)) := Hq2
          clear Hq2 hws
          go_wp2_with fail
          first | go_ret2 | go_ret3
          cases Hz.out
          exact ⟨rfl, Hw3.out⟩
        · have Hz : Hid ((c, l) = ((n : Int), ds.length + 2)) := Hq2
          clear Hq2 hws
          go_wp2_with fail
          first | go_ret2 | go_ret3
          cases Hz.out
          have h2 : (ds.length : Int) + 1 + 1 = ((ds.length + 2 : Nat) : Int) := by omega
          exact ⟨congrArg (fun k => Ending.returned (Value.tuple #[Value.int .i32 n, Value.int .i64 k])) h2, Hw3.out⟩

/-- glyph.first. -/
theorem first_c (t : List UInt8) (w : World) (h0 : t ≠ []) (hn : t.length ≤ 1000000) (he : ErrsAt w) (ht : TabAt w) (hg : 3 < w.heap.size) :
    Calls Tryd.prog 85 #[.string ⟨t.toArray⟩] w (FirstP w.heap.size w (firstS t).1 (firstS t).2) := by
  obtain ⟨x, r, rfl⟩ := List.exists_cons_of_ne_nil h0
  cases hp : plainB x.toNat with
  | true => rw [firstS_plain hp]; exact first_plain x r w hp
  | false =>
    by_cases hx : x = 92
    · subst hx
      rcases semi_cases (92 :: r) with ⟨h1, h2⟩ | ⟨ds', rest, h1, h2, h3⟩
      · rw [firstS_none hp (escN_no59 h2)]; exact first_open r w h1
      · cases ds' with
        | nil => simp at h1
        | cons y ds =>
          simp only [List.cons_append, List.cons.injEq] at h1
          obtain ⟨rfl, rfl⟩ := h1
          have hd : ∀ c ∈ ds, c ≠ 59 := fun c hc => h2 c (by simp [hc])
          have hl : ds.length ≤ 1000000 := by simp at hn; omega
          cases hq : (if ds = [] then none else parseP ds 0) with
          | none =>
            have hnone : escN (92 :: (ds ++ 59 :: rest)) = none := by
              cases he : escN (92 :: (ds ++ 59 :: rest)) with
              | none => rfl
              | some n =>
                obtain ⟨-, -, -, h4, h5⟩ := escN_at hd he
                rw [if_neg h5, h4] at hq; cases hq
            rw [firstS_none hp hnone]
            exact first_bad ds rest w hl he hd h3 hq
          | some n =>
            have hM : firstM n ds = firstS (92 :: (ds ++ 59 :: rest)) := by
              have h5 : ds ≠ [] := by rintro rfl; simp at hq
              rw [if_neg h5] at hq
              by_cases hall : validB n = true ∧ plainB n = false ∧ escL n = 92 :: (ds ++ [59])
              · obtain ⟨a1, a2, a3⟩ := hall
                rw [firstM_yes a1 a2 a3, firstS_some hp (escN_yes a1 a2 a3), a3]
                simp
              · have h6 : validB n = false ∨ plainB n = true ∨ escL n ≠ 92 :: (ds ++ [59]) := by
                  cases hv : validB n <;> cases hpl : plainB n <;> simp_all
                rw [firstM_no h6, firstS_none hp]
                cases he : escN (92 :: (ds ++ 59 :: rest)) with
                | none => rfl
                | some m =>
                  obtain ⟨b1, b2, b3, b4, -⟩ := escN_at hd he
                  rw [hq] at b4
                  cases b4
                  exact absurd ⟨b1, b2, by simp [escL, b3]⟩ hall
            rw [← hM]
            exact first_parsed ds rest w hl he hd h3 n hq ht hg
    · rw [firstS_none hp (escN_slash hx)]; exact first_other x r w hp hx

end Go.Proofs.YtmhgbocejjnoaaaDoor
