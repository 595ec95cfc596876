/- Parts of the proof, one behind the other: RT1, RT2, RDC, RDD. -/
import Derived.Test.YtmhgbocejjnoaaaDoorQ7
import Derived.Deep.QuietTactic
import Derived.BigQuiet
import Derived.Test.YtmhgbocejjnoaaaDoorQ6
/- Walks: glyph.first. -/
namespace Go.Proofs.YtmhgbocejjnoaaaDoor
open Go.RowKit Go.Redl Go.BigFrame
set_option linter.unusedVariables false

/-- What stands first. -/
def FirstP (B : Nat) (w : World) (c : Int) (l : Nat) (e : Ending) (w' : World) : Prop := e = .returned (.tuple #[.int .i32 c, .int .i64 l]) ∧ Below B w w'

theorem u8_i32 (x : UInt8) : IntKind.i32.wrap (x.toNat : Int) = x.toNat := IntWalk.i32_in _ (by have := x.toNat_lt; omega)

set_option maxRecDepth 100000 in
set_option maxHeartbeats 1000000 in
theorem first_plain (x : UInt8) (r : List UInt8) (w : World) (hp : plainB x.toNat = true) :
    Calls Tryd.prog 85 #[.string ⟨(x :: r).toArray⟩] w (FirstP w.heap.size w x.toNat 1) := by
  have hg : ∀ h, (⟨(x :: r).toArray⟩ : ByteArray)[0]'h = x := fun _ => rfl
  have hsz : (⟨(x :: r).toArray⟩ : ByteArray).size = r.length + 1 := rfl
  generalize (⟨(x :: r).toArray⟩ : ByteArray) = s at hg hsz ⊢
  have hw : wrap32 (x.toNat : Int) = x.toNat := IntWalk.wrap32_in _ (by have := x.toNat_lt; omega)
  have hp' := hp
  clear hp
  have hx := x.toNat_lt
  go_enter Tryd.func85, Tryd.ntmps85
  go_wp2_with fail
  refine (plain_c _ _).mono ?_
  rintro e w1 ⟨rfl, rfl⟩
  rw [hp']
  go_wp2_with fail
  go_ret2
  exact ⟨rfl, Below.refl _ _⟩

set_option maxRecDepth 100000 in
set_option maxHeartbeats 1000000 in
theorem first_other (x : UInt8) (r : List UInt8) (w : World) (hp : plainB x.toNat = false) (hx : x ≠ 92) :
    Calls Tryd.prog 85 #[.string ⟨(x :: r).toArray⟩] w (FirstP w.heap.size w 0 0) := by
  have hg : ∀ h, (⟨(x :: r).toArray⟩ : ByteArray)[0]'h = x := fun _ => rfl
  have hsz : (⟨(x :: r).toArray⟩ : ByteArray).size = r.length + 1 := rfl
  generalize (⟨(x :: r).toArray⟩ : ByteArray) = s at hg hsz ⊢
  have hw : wrap32 (x.toNat : Int) = x.toNat := IntWalk.wrap32_in _ (by have := x.toNat_lt; omega)
  have hp' := hp
  clear hp
  have h92 : ((x.toNat : Int) != 92) = true := by
    have : x.toNat ≠ 92 := fun h => hx (UInt8.toNat_inj.1 h)
    simp only [bne_iff_ne, ne_eq]; omega
  clear hx
  have hx := x.toNat_lt
  go_enter Tryd.func85, Tryd.ntmps85
  go_wp2_with fail
  refine (plain_c _ _).mono ?_
  rintro e w1 ⟨rfl, rfl⟩
  rw [hp']
  go_wp2_with fail
  refine (Tryd.strings_IndexByte _ 59 _).mono ?_
  rintro e w1 ⟨rfl, rfl⟩
  go_wp2_with fail
  go_ret2
  exact ⟨rfl, Below.refl _ _⟩

set_option maxRecDepth 100000 in
set_option maxHeartbeats 1000000 in
theorem first_open (r : List UInt8) (w : World) (hn : Lib.indexByte (92 :: r) 59 = -1) :
    Calls Tryd.prog 85 #[.string ⟨((92 : UInt8) :: r).toArray⟩] w (FirstP w.heap.size w 0 0) := by
  have hg : ∀ h, (⟨((92 : UInt8) :: r).toArray⟩ : ByteArray)[0]'h = 92 := fun _ => rfl
  have hsz : (⟨((92 : UInt8) :: r).toArray⟩ : ByteArray).size = r.length + 1 := rfl
  have h92 : ((92 : UInt8).toNat : Int) = 92 := rfl
  have hp' : plainB 92 = false := by decide
  have hi : Lib.indexByte (⟨((92 : UInt8) :: r).toArray⟩ : ByteArray).data.toList (59 : Int).toNat.toUInt8 = -1 := hn
  clear hn
  generalize (⟨((92 : UInt8) :: r).toArray⟩ : ByteArray) = s at hg hsz hi ⊢
  go_enter Tryd.func85, Tryd.ntmps85
  go_wp2_with fail
  refine (plain_c _ _).mono ?_
  rintro e w1 ⟨rfl, rfl⟩
  rw [hp']
  go_wp2_with fail
  refine (Tryd.strings_IndexByte _ 59 _).mono ?_
  rintro e w1 ⟨rfl, rfl⟩
  rw [hi]
  go_wp2_with fail
  go_ret2
  exact ⟨rfl, Below.refl _ _⟩

theorem Drawn.trans_below {B : Nat} {w w1 w2 : World} (h : Below B w w1) (hd : Drawn w1 w2) : Below B w w2 := by
  obtain ⟨q, rfl⟩ := hd
  exact below_drewN h q

/-- What comes of a number that was read. -/
def firstM (n : Nat) (ds : List UInt8) : Int × Nat := if validB n && !plainB n && decide (escL n = 92 :: (ds ++ [59])) then ((n : Int), ds.length + 2) else (0, 0)
theorem firstM_no {n : Nat} {ds : List UInt8} (h : validB n = false ∨ plainB n = true ∨ escL n ≠ 92 :: (ds ++ [59])) : firstM n ds = (0, 0) := by
  unfold firstM
  rw [if_neg]
  rcases h with h | h | h <;> simp [h]
theorem firstM_yes {n : Nat} {ds : List UInt8} (h1 : validB n = true) (h2 : plainB n = false) (h3 : escL n = 92 :: (ds ++ [59])) : firstM n ds = ((n : Int), ds.length + 2) := by
  unfold firstM
  rw [if_pos (by simp [h1, h2, h3])]
attribute [irreducible] firstM

/-- The text's cuts. -/
theorem esc_cut (ds rest : List UInt8) : (⟨(92 :: (ds ++ 59 :: rest)).toArray⟩ : ByteArray).extract 1 (ds.length + 1) = ⟨ds.toArray⟩ ∧ (⟨(92 :: (ds ++ 59 :: rest)).toArray⟩ : ByteArray).extract 0 (ds.length + 2) = ⟨(92 :: (ds ++ [59])).toArray⟩ := by
  constructor
  · rw [ByteArray.extract_mk]; simp
  · rw [ByteArray.extract_mk]
    simp only [List.drop_zero, Nat.sub_zero, List.take_succ_cons]
    rw [show ds.length + 1 = (ds ++ [59]).length by simp, show ds ++ 59 :: rest = (ds ++ [59]) ++ rest by simp, List.take_left]

set_option maxRecDepth 100000 in
set_option maxHeartbeats 1000000 in
theorem first_bad (ds rest : List UInt8) (w : World) (hn : ds.length ≤ 1000000) (he : ErrsAt w) (hd : ∀ c ∈ ds, c ≠ 59) (hi : Lib.indexByte (92 :: (ds ++ 59 :: rest)) 59 = (ds.length + 1 : Nat)) (hp : (if ds = [] then none else parseP ds 0) = none) :
    Calls Tryd.prog 85 #[.string ⟨((92 : UInt8) :: (ds ++ 59 :: rest)).toArray⟩] w (FirstP w.heap.size w 0 0) := by
  have hg : ∀ h, (⟨((92 : UInt8) :: (ds ++ 59 :: rest)).toArray⟩ : ByteArray)[0]'h = 92 := fun _ => rfl
  have hsz : (⟨((92 : UInt8) :: (ds ++ 59 :: rest)).toArray⟩ : ByteArray).size = ds.length + 2 + rest.length := by
    show (92 :: (ds ++ 59 :: rest)).length = _
    simp; omega
  have h92 : ((92 : UInt8).toNat : Int) = 92 := rfl
  have hp' : plainB 92 = false := by decide
  have hi' : Lib.indexByte (⟨((92 : UInt8) :: (ds ++ 59 :: rest)).toArray⟩ : ByteArray).data.toList (59 : Int).toNat.toUInt8 = (ds.length + 1 : Nat) := hi
  clear hi
  have hc := (esc_cut ds rest).1
  generalize (⟨((92 : UInt8) :: (ds ++ 59 :: rest)).toArray⟩ : ByteArray) = s at hg hsz hi' hc ⊢
  have HX := Lib.hid (parse_c ds w hn he)
  rw [hp] at HX
  clear hp he hd
  go_enter Tryd.func85, Tryd.ntmps85
  go_wp2_with fail
  refine (plain_c _ _).mono ?_
  rintro e w1 ⟨rfl, rfl⟩
  rw [hp']
  go_wp2_with fail
  refine (Tryd.strings_IndexByte _ 59 _).mono ?_
  rintro e w1 ⟨rfl, rfl⟩
  rw [hi']
  go_wp2_with fail
  refine HX.out.mono ?_
  rintro e w2 ⟨hb, h⟩
  have Hb := Lib.hid hb
  clear hb
  rcases h with ⟨m, hp, rfl⟩ | ⟨-, m, t, v, rfl⟩
  · cases hp
  clear hc hi' hg
  go_wp2_with fail
  go_quiet (fail)
  go_wp2_with fail
  first | go_ret2 | go_ret3
  exact ⟨rfl, Drawn.trans_below Hb.out (by first | exact drawn_one _ _ | exact drawn_two _ _ _)⟩

set_option maxRecDepth 100000 in
set_option maxHeartbeats 1000000 in
theorem first_parsed (ds rest : List UInt8) (w : World) (hn : ds.length ≤ 1000000) (he : ErrsAt w) (hd : ∀ c ∈ ds, c ≠ 59) (hi : Lib.indexByte (92 :: (ds ++ 59 :: rest)) 59 = (ds.length + 1 : Nat)) (n : Nat) (hp : (if ds = [] then none else parseP ds 0) = some n) (ht : TabAt w) (hgt : 3 < w.heap.size) :
    Calls Tryd.prog 85 #[.string ⟨((92 : UInt8) :: (ds ++ 59 :: rest)).toArray⟩] w (FirstP w.heap.size w (firstM n ds).1 (firstM n ds).2) := by
  have hg : ∀ h, (⟨((92 : UInt8) :: (ds ++ 59 :: rest)).toArray⟩ : ByteArray)[0]'h = 92 := fun _ => rfl
  have hsz : (⟨((92 : UInt8) :: (ds ++ 59 :: rest)).toArray⟩ : ByteArray).size = ds.length + 2 + rest.length := by
    show (92 :: (ds ++ 59 :: rest)).length = _
    simp; omega
  have h92 : ((92 : UInt8).toNat : Int) = 92 := rfl
  have hp' : plainB 92 = false := by decide
  have hi' : Lib.indexByte (⟨((92 : UInt8) :: (ds ++ 59 :: rest)).toArray⟩ : ByteArray).data.toList (59 : Int).toNat.toUInt8 = (ds.length + 1 : Nat) := hi
  clear hi
  have hc := (esc_cut ds rest).1
  have hc2 := (esc_cut ds rest).2
  generalize (⟨((92 : UInt8) :: (ds ++ 59 :: rest)).toArray⟩ : ByteArray) = s at hg hsz hi' hc hc2 ⊢
  have HX := Lib.hid (parse_c ds w hn he)
  rw [hp] at HX
  have Hc2 := Lib.hid hc2
  have Ht := Lib.hid ht
  have Hgt := Lib.hid hgt
  clear hp he hd hc2 ht hgt
  generalize hq : firstM n ds = q
  obtain ⟨c, l⟩ := q
  show Calls Tryd.prog 85 #[.string s] w (FirstP w.heap.size w c l)
  have Hq := Lib.hid hq
  clear hq
  go_enter Tryd.func85, Tryd.ntmps85
  go_wp2_with fail
  refine (plain_c _ _).mono ?_
  rintro e w1 ⟨rfl, rfl⟩
  rw [hp']
  go_wp2_with fail
  refine (Tryd.strings_IndexByte _ 59 _).mono ?_
  rintro e w1 ⟨rfl, rfl⟩
  rw [hi']
  go_wp2_with fail
  refine HX.out.mono ?_
  rintro e w2 ⟨hb, h⟩
  have Hb := Lib.hid hb
  clear hb
  rcases h with ⟨m, hp, rfl⟩ | ⟨hp, -⟩
  case inr => cases hp
  cases hp
  clear hi' hg
  go_wp2_with fail
  clear hc hp' h92
  by_cases h1 : (1114111 : Int) < n
  · have hq : (c, l) = (0, 0) := by
      rw [← Hq.out]; exact firstM_no (.inl (by unfold validB; simp; omega))
    go_quiet (fail)
    go_wp2_with fail
    first | go_ret2 | go_ret3
    cases hq
    exact ⟨rfl, Drawn.trans_below Hb.out (by first | exact drawn_one _ _ | exact drawn_two _ _ _)⟩
  · have hw : IntKind.i32.wrap (n : Int) = n := IntWalk.i32_in _ (by omega)
    have hw32 : wrap32 (n : Int) = n := IntWalk.wrap32_in _ (by omega)
    cases h2 : validB n with
    | false =>
      have Hz : Hid ((c, l) = (0, 0)) := by
        show (c, l) = (0, 0)
        rw [← Hq.out]; exact firstM_no (.inl h2)
      have HV : ∀ q, Hid (Calls Tryd.prog 51 #[.int .i32 n] (w2.drewN q) fun e w' => e = .returned (.bool false) ∧ ∃ m, w' = w2.drewN m) := fun q =>
        Lib.hid (Calls.quiet_of_same ((valid_c n _).mono fun e w' h => ⟨by rw [h.1, h2], h.2.symm⟩))
      clear h2
      go_quiet (first | (go_at_call 51; exact (HV _).out))
      go_wp2_with fail
      first | go_ret2 | go_ret3
      cases Hz.out
      exact ⟨rfl, Drawn.trans_below Hb.out (by first | exact drawn_one _ _ | exact drawn_two _ _ _)⟩
    | true =>
      have HV : ∀ q, Hid (Calls Tryd.prog 51 #[.int .i32 n] (w2.drewN q) fun e w' => e = .returned (.bool true) ∧ ∃ m, w' = w2.drewN m) := fun q =>
        Lib.hid (Calls.quiet_of_same ((valid_c n _).mono fun e w' h => ⟨by rw [h.1, h2], h.2.symm⟩))
      cases h3 : plainB n with
      | true =>
        have Hz : Hid ((c, l) = (0, 0)) := by
          show (c, l) = (0, 0)
          rw [← Hq.out]; exact firstM_no (.inr (.inl h3))
        have HP : ∀ q, Hid (Calls Tryd.prog 29 #[.int .i32 n] (w2.drewN q) fun e w' => e = .returned (.bool true) ∧ ∃ m, w' = w2.drewN m) := fun q =>
          Lib.hid (Calls.quiet_of_same ((plain_c n _).mono fun e w' h => ⟨by rw [h.1, h3], h.2.symm⟩))
        clear h2 h3
        go_quiet (first | (go_at_call 51; exact (HV _).out) | (go_at_call 29; exact (HP _).out))
        go_wp2_with fail
        first | go_ret2 | go_ret3
        cases Hz.out
        exact ⟨rfl, Drawn.trans_below Hb.out (by first | exact drawn_one _ _ | exact drawn_two _ _ _)⟩
      | false =>
        have H2 := Lib.hid h2
        have H3 := Lib.hid h3
        have hws : wrap64 ((ds.length : Int) + 1 + 1) = ds.length + 2 := by rw [IntWalk.wrap64_in _ (by omega)]; omega
        have hww : IntKind.i64.wrap ((ds.length : Int) + 1 + 1) = ds.length + 2 := by rw [IntWalk.i64_in _ (by omega)]; omega
        obtain ⟨t2, ht2⟩ : ∃ t, t = (⟨(92 :: (ds ++ [59])).toArray⟩ : ByteArray) := ⟨_, rfl⟩
        obtain ⟨t1, ht1⟩ : ∃ t, t = (⟨(escL n).toArray⟩ : ByteArray) := ⟨_, rfl⟩
        have hc2 := Hc2.out
        rw [← ht2] at hc2
        have Hq2 : Hid ((c, l) = if (t1.toList == t2.toList) = true then ((n : Int), ds.length + 2) else (0, 0)) := by
          show (c, l) = _
          rw [← Hq.out, ht1, ht2, ByteArray.toList_mk, ByteArray.toList_mk]
          by_cases h4 : escL n = 92 :: (ds ++ [59])
          · rw [firstM_yes h2 h3 h4, if_pos (by rw [h4]; exact beq_self_eq_true _)]
          · rw [firstM_no (.inr (.inr h4)), if_neg (fun h => h4 (eq_of_beq h))]
        refine wp_region_class (fun w' => Below w1.heap.size w1 w') (by kernel_rfl) (by kernel_rfl) (below_drewN Hb.out 1) ?_
        intro ι inst W hin hall
        have Hin := Lib.hid hin
        have HV : ∀ i, Hid (Calls Tryd.prog 51 #[.int .i32 n] (W i) fun e w' => e = .returned (.bool true) ∧ ∃ j, w' = W j) := fun i =>
          Lib.hid ((valid_c n _).mono fun e w' h => ⟨by rw [h.1, h2], i, h.2.symm⟩)
        have HP : ∀ i, Hid (Calls Tryd.prog 29 #[.int .i32 n] (W i) fun e w' => e = .returned (.bool false) ∧ ∃ j, w' = W j) := fun i =>
          Lib.hid ((plain_c n _).mono fun e w' h => ⟨by rw [h.1, h3], i, h.2.symm⟩)
        have HE : ∀ i, Hid (Calls Tryd.prog 32 #[.int .i32 n] (W i) fun e w' => e = .returned (.string t1) ∧ ∃ j, w' = W j) := fun i =>
          Lib.hid ((escaped_c n _ (by omega) (TabAt.keep Ht.out (hin i) Hgt.out) (Nat.lt_of_lt_of_le Hgt.out (hin i).size)).mono fun e w' h => ⟨by rw [h.1, ht1], hall w' ((hin i).trans (h.2.mono (hin i).size))⟩)
        clear h2 h3 Hc2 ht1 ht2 HX hin hall Hq
        repeat (go_big_quiet_step (first | (go_at_call 51; exact (HV _).out) | (go_at_call 29; exact (HP _).out) | (go_at_call 32; exact (HE _).out)))
        refine wpQuiet_nil ?_
        intro _ hw'
        obtain ⟨nq, hw''⟩ := hw'
        subst hw''
        have Hw3 := Lib.hid (Hin.out nq)
        clear HV HP HE Hin
        generalize W nq = w3 at Hw3 ⊢
        clear nq W inst ι hc2 hww
        generalize (t1.toList == t2.toList) = b at Hq2 ⊢
        clear HV
        cases b <;> simp only [Bool.not_false, Bool.not_true]
        · have Hz : Hid ((c, l) = ((0 : Int), 0)) := Hq2
          clear Hq2 hws
          go_wp2_with fail
          first | go_ret2 | go_ret3
          cases Hz.out
          exact ⟨rfl, Hw3.out⟩
        · have Hz : Hid ((c, l) = ((n : Int), ds.length + 2)) := Hq2
          clear Hq2 hws
          go_wp2_with fail
          first | go_ret2 | go_ret3
          cases Hz.out
          have h2 : (ds.length : Int) + 1 + 1 = ((ds.length + 2 : Nat) : Int) := by omega
          exact ⟨congrArg (fun k => Ending.returned (Value.tuple #[Value.int .i32 n, Value.int .i64 k])) h2, Hw3.out⟩

/-- glyph.first. -/
theorem first_c (t : List UInt8) (w : World) (h0 : t ≠ []) (hn : t.length ≤ 1000000) (he : ErrsAt w) (ht : TabAt w) (hg : 3 < w.heap.size) :
    Calls Tryd.prog 85 #[.string ⟨t.toArray⟩] w (FirstP w.heap.size w (firstS t).1 (firstS t).2) := by
  obtain ⟨x, r, rfl⟩ := List.exists_cons_of_ne_nil h0
  cases hp : plainB x.toNat with
  | true => rw [firstS_plain hp]; exact first_plain x r w hp
  | false =>
    by_cases hx : x = 92
    · subst hx
      rcases semi_cases (92 :: r) with ⟨h1, h2⟩ | ⟨ds', rest, h1, h2, h3⟩
      · rw [firstS_none hp (escN_no59 h2)]; exact first_open r w h1
      · cases ds' with
        | nil => simp at h1
        | cons y ds =>
          simp only [List.cons_append, List.cons.injEq] at h1
          obtain ⟨rfl, rfl⟩ := h1
          have hd : ∀ c ∈ ds, c ≠ 59 := fun c hc => h2 c (by simp [hc])
          have hl : ds.length ≤ 1000000 := by simp at hn; omega
          cases hq : (if ds = [] then none else parseP ds 0) with
          | none =>
            have hnone : escN (92 :: (ds ++ 59 :: rest)) = none := by
              cases he : escN (92 :: (ds ++ 59 :: rest)) with
              | none => rfl
              | some n =>
                obtain ⟨-, -, -, h4, h5⟩ := escN_at hd he
                rw [if_neg h5, h4] at hq; cases hq
            rw [firstS_none hp hnone]
            exact first_bad ds rest w hl he hd h3 hq
          | some n =>
            have hM : firstM n ds = firstS (92 :: (ds ++ 59 :: rest)) := by
              have h5 : ds ≠ [] := by rintro rfl; simp at hq
              rw [if_neg h5] at hq
              by_cases hall : validB n = true ∧ plainB n = false ∧ escL n = 92 :: (ds ++ [59])
              · obtain ⟨a1, a2, a3⟩ := hall
                rw [firstM_yes a1 a2 a3, firstS_some hp (escN_yes a1 a2 a3), a3]
                simp
              · have h6 : validB n = false ∨ plainB n = true ∨ escL n ≠ 92 :: (ds ++ [59]) := by
                  cases hv : validB n <;> cases hpl : plainB n <;> simp_all
                rw [firstM_no h6, firstS_none hp]
                cases he : escN (92 :: (ds ++ 59 :: rest)) with
                | none => rfl
                | some m =>
                  obtain ⟨b1, b2, b3, b4, -⟩ := escN_at hd he
                  rw [hq] at b4
                  cases b4
                  exact absurd ⟨b1, b2, by simp [escL, b3]⟩ hall
            rw [← hM]
            exact first_parsed ds rest w hl he hd h3 n hq ht hg
    · rw [firstS_none hp (escN_slash hx)]; exact first_other x r w hp hx

end Go.Proofs.YtmhgbocejjnoaaaDoor
/- Walks: glyph.Unquote. -/
namespace Go.Proofs.YtmhgbocejjnoaaaDoor
open Go.RowKit Go.Redl Go.BigFrame
set_option linter.unusedVariables false

/-- What Unquote answers. -/
def UnqP (w : World) (U : List Int × Int × Int) (e : Ending) (w' : World) : Prop :=
  ∃ v, e = .returned (.tuple #[v, .int .i64 U.2.1, .int .i64 U.2.2]) ∧ w'.ownsRow w.heap.size 21 1 v U.1.length (U.1.map (Value.int .i32)) ∧ Below w.heap.size w w'
theorem UnqP.none {w w' : World} {U : List Int × Int × Int} {p : Int} {e : Ending} (hU : U = ([], p, 11)) (he : e = .returned (.tuple #[.slice none 0 0, .int .i64 p, .int .i64 11])) (hb : Below w.heap.size w w') : UnqP w U e w' := by
  subst hU; subst he
  exact ⟨_, rfl, World.ownsRow_nil _ _ _ _, hb⟩

/-- The loop's relation. -/
def UqR (w : World) (s : List UInt8) (o i : Value) (wr : World) : Prop :=
  ∃ (k f : Nat) (zs : List Int), 1 ≤ k ∧ k ≤ s.length ∧ i = .int .i64 k ∧ zs.length ≤ k ∧ s.length < f + k ∧ uq f (s.drop k) zs k = unqL s ∧ wr.ownsRow w.heap.size 21 1 o zs.length (zs.map (Value.int .i32)) ∧ Below w.heap.size w wr

theorem drop_str (s : List UInt8) (k : Nat) (hk : k ≤ s.length) : (⟨s.toArray⟩ : ByteArray).extract k (⟨s.toArray⟩ : ByteArray).size = ⟨(s.drop k).toArray⟩ := by
  rw [ByteArray.extract_mk, List.take_of_length_le]
  show (s.drop k).length ≤ s.length - k
  simp

theorem uq_nil (f : Nat) (zs : List Int) (k : Nat) : uq f [] zs k = ([], (k : Int), 11) := by cases f <;> simp [uq]
theorem uq_close (f : Nat) (zs : List Int) (k : Nat) : uq (f + 1) [34] zs k = (zs, 0, 0) := by simp [uq]
theorem uq_far (f : Nat) {r : List UInt8} (hr : r ≠ []) (zs : List Int) (k : Nat) : uq (f + 1) (34 :: r) zs k = ([], (k : Int) + 1, 11) := by simp [uq, hr]
theorem uq_bad (f : Nat) {x : UInt8} {r : List UInt8} (hx : x ≠ 34) (h : (firstS (x :: r)).2 = 0) (zs : List Int) (k : Nat) : uq (f + 1) (x :: r) zs k = ([], (k : Int), 11) := by
  simp only [uq]; rw [if_neg hx, if_pos h]
theorem uq_on (f : Nat) {x : UInt8} {r : List UInt8} (hx : x ≠ 34) (h : (firstS (x :: r)).2 ≠ 0) (zs : List Int) (k : Nat) : uq (f + 1) (x :: r) zs k = uq f ((x :: r).drop (firstS (x :: r)).2) (zs ++ [(firstS (x :: r)).1]) (k + (firstS (x :: r)).2) := by
  conv => lhs; rw [uq]
  rw [if_neg hx, if_neg h]
theorem firstS_long {t : List UInt8} (h : (firstS t).2 ≠ 0) : (firstS t).2 ≤ t.length := by
  obtain ⟨-, h2, h3⟩ := firstS_ok h
  rw [h3]
  conv => rhs; rw [h2]
  simp

set_option maxRecDepth 100000 in
set_option maxHeartbeats 2000000 in
theorem unquote_c (s : List UInt8) (w : World) (hn : s.length ≤ 1000000) (he : ErrsAt w) (ht : TabAt w) (hg : 3 < w.heap.size) :
    Calls Tryd.prog 73 #[.string ⟨s.toArray⟩] w (UnqP w (unqL s)) := by
  have He := Lib.hid he; have Ht := Lib.hid ht; have Hg := Lib.hid hg
  clear he ht hg
  cases s with
  | nil =>
    go_enter Tryd.func73, Tryd.ntmps73
    go_wp2_with fail
    go_ret3
    exact UnqP.none (p := 0) rfl rfl (Below.refl _ _)
  | cons y r =>
    have hg0 : ∀ h, (⟨(y :: r).toArray⟩ : ByteArray)[0]'h = y := fun _ => rfl
    have hsz : (⟨(y :: r).toArray⟩ : ByteArray).size = r.length + 1 := rfl
    have Hall : Hid (∀ (k : Nat) (x : UInt8), (y :: r)[k]? = some x → ∀ h, (⟨(y :: r).toArray⟩ : ByteArray)[k]'h = x) := by
      show ∀ (k : Nat) (x : UInt8), (y :: r)[k]? = some x → ∀ h, (⟨(y :: r).toArray⟩ : ByteArray)[k]'h = x
      intro k x hx h
      exact Option.some.inj ((List.getElem?_eq_getElem (l := y :: r) h).symm.trans hx)
    have Hdrop : ∀ k, Hid (k ≤ (y :: r).length → (⟨(y :: r).toArray⟩ : ByteArray).extract k (⟨(y :: r).toArray⟩ : ByteArray).size = ⟨((y :: r).drop k).toArray⟩) := fun k => Lib.hid (drop_str _ k)
    have hne : ((⟨(y :: r).toArray⟩ : ByteArray).toList.isEmpty) = false := by rw [ByteArray.toList_mk]; rfl
    obtain ⟨S, hS⟩ : ∃ S, S = (⟨(y :: r).toArray⟩ : ByteArray) := ⟨_, rfl⟩
    rw [← hS] at hg0 hsz Hall hne ⊢
    simp only [← hS] at Hdrop
    clear hS
    by_cases hy : y = 34
    · subst hy
      have h34 : ((34 : UInt8).toNat : Int) = 34 := rfl
      go_enter Tryd.func73, Tryd.ntmps73
      go_wp2_with fail
      go_loopw [5, 6] (fun o i wr => UqR w (34 :: r) o i wr) (fun _ i _ => (34 :: r).length - (intOf i).toNat)
      case atStart => exact ⟨1, r.length + 1, [], Nat.le_refl _, by simp, rfl, by simp, by simp, rfl, World.ownsRow_nil _ _ _ _, Below.refl _ _⟩
      case round =>
        obtain ⟨k, f, zs, hk1, hk, rfl, hz, hf, hu, hown, hbel⟩ := hrel
        have hlen : (34 :: r).length = r.length + 1 := rfl
        rw [hlen] at hk hf hn
        have Hu := Lib.hid hu; have Ho := Lib.hid hown; have Hb := Lib.hid hbel
        clear hu hown hbel
        cases hd : (34 :: r).drop k with
        | nil =>
          have hke : k = r.length + 1 := by
            have := List.drop_eq_nil_iff.1 hd
            rw [hlen] at this; omega
          subst hke
          have Hd := Lib.hid hd
          clear hd hg0 hne
          go_wp2_with fail
          go_ret3
          refine UnqP.none (p := (r.length : Int) + 1) ?_ rfl Hb.out
          rw [← Hu.out, Hd.out, uq_nil]; rfl
        | cons x t =>
          have hkl : k < r.length + 1 := by
            have := congrArg List.length hd
            simp at this; omega
          obtain ⟨f, rfl⟩ : ∃ f', f = f' + 1 := ⟨f - 1, by omega⟩
          have hx : (34 :: r)[k]? = some x := by rw [← List.head?_drop, hd]; rfl
          have hgk := Hall.out k x hx
          have htl : t.length = r.length - k := by
            have := congrArg List.length hd
            simp at this; omega
          have Hd := Lib.hid hd
          clear hd hx hg0 hne
          by_cases hx : x = 34
          · subst hx
            by_cases ht : t = []
            · have hke : k = r.length := by rw [ht] at htl; simp at htl; omega
              subst hke
              go_wp2_with fail
              go_ret3
              have hU : unqL (34 :: r) = (zs, 0, 0) := by rw [← Hu.out, Hd.out, ht, uq_close]
              rw [hU]
              exact ⟨_, rfl, Ho.out, Hb.out⟩
            · have hke : k < r.length := by have := List.length_pos_iff.2 ht; omega
              go_wp2_with fail
              go_ret3
              refine UnqP.none (p := (k : Int) + 1) ?_ rfl Hb.out
              rw [← Hu.out, Hd.out, uq_far _ ht]
          · have hxb : ((x.toNat : Int) == 34) = false := by
              have : x.toNat ≠ 34 := fun h => hx (UInt8.toNat_inj.1 h)
              simp only [beq_eq_false_iff_ne, ne_eq]; omega
            have hex := (Hdrop k).out (by rw [hlen]; omega)
            rw [Hd.out, hsz] at hex
            have HF := Lib.hid (first_c (x :: t) wr (by simp) (by simp; omega) (He.out.keep Hb.out) (TabAt.keep Ht.out Hb.out Hg.out) (Nat.lt_of_lt_of_le Hg.out Hb.out.size))
            obtain ⟨c, hc⟩ : ∃ c, (firstS (x :: t)).1 = c := ⟨_, rfl⟩
            obtain ⟨l, hl⟩ : ∃ l, (firstS (x :: t)).2 = l := ⟨_, rfl⟩
            rw [hc, hl] at HF
            have Hc := Lib.hid hc; have Hl := Lib.hid hl; have Hx := Lib.hid hx
            clear hc hl hx
            go_wp2_with fail
            refine HF.out.mono ?_
            rintro e w1 ⟨rfl, hb⟩
            have Hb1 := Lib.hid (Hb.out.trans (hb.mono Hb.out.size))
            have Ho1 := Lib.hid (own_keep Ho.out hb)
            clear hb HF hex hgk
            by_cases hl0 : l = 0
            · subst hl0
              go_wp2_with fail
              go_ret3
              refine UnqP.none (p := k) ?_ rfl Hb1.out
              rw [← Hu.out, Hd.out, uq_bad _ Hx.out Hl.out]
            · have Hl2 := Lib.hid (firstS_long (t := x :: t) (by rw [Hl.out]; exact hl0))
              have hlb : l ≤ r.length + 1 - k := by
                have h1 := Hl2.out
                rw [Hl.out] at h1
                simp only [List.length_cons] at h1; omega
              have hl1 : ((l : Int) == 0) = false := by simp only [beq_eq_false_iff_ne, ne_eq]; omega
              go_wp2_with (at_builtin; refine wpList_app rfl _ _ 23 rfl w.heap.size 21 (.int .i32 0) 1 4 Tryd.underlying23 info_int32 rfl (by decide) _ _ _ rfl (Ho1.out.alloc _) (some ⟨w1.heap.size, 0, none⟩) 1 1 (w1.heap.size + 1) [.int .i32 c] rfl ?hr ?h63 ?hb ?hbase ?_)
              case hr => exact row_one _ _ _ _ rfl
              case h63 => unfold maxLen; omega
              case hb => omega
              case hbase => have := Hb1.out.size; simp; omega
              intro v' w2 hown' hgrow
              have hbel := ((Hb1.out.alloc (by have := Hb1.out.size; omega) _).grown hgrow (by have := Hb1.out.size; simp; omega) (fun k hk => (Ho1.out.lt k hk).1))
              have Ho2 := Lib.hid hown'; have Hb2 := Lib.hid hbel
              clear hown' hbel hgrow
              go_wp2_with fail
              go_roundw
              case rel =>
                refine ⟨k + l, f, zs ++ [c], by omega, by rw [hlen]; omega, by go_num, by simp; omega, by rw [hlen]; omega, ?_, ?_, Hb2.out⟩
                · have h1 := Hu.out
                  rw [Hd.out, uq_on f Hx.out (by rw [Hl.out]; exact hl0), Hc.out, Hl.out, ← Hd.out, List.drop_drop] at h1
                  exact h1
                · have := Ho2.out
                  simpa using this
              case measure => simp [intOf]; omega
    · have hyb : ((y.toNat : Int) != 34) = true := by
        have : y.toNat ≠ 34 := fun h => hy (UInt8.toNat_inj.1 h)
        simp only [bne_iff_ne, ne_eq]; omega
      have Hy := Lib.hid hy
      clear hy
      go_enter Tryd.func73, Tryd.ntmps73
      go_wp2_with fail
      go_ret3
      refine UnqP.none (p := 0) ?_ rfl (Below.refl _ _)
      unfold unqL
      simp only
      rw [if_neg Hy.out]

end Go.Proofs.YtmhgbocejjnoaaaDoor
/- Walks: code's leaf. -/
namespace Go.Proofs.YtmhgbocejjnoaaaDoor
open Go.RowKit Go.Redl
set_option linter.unusedVariables false

/-- Where a quoted text ends. -/
def leafEnd (s : List UInt8) (a : Nat) : Nat := if 0 ≤ Lib.indexByte (s.drop (a + 1)) 34 then a + (Lib.indexByte (s.drop (a + 1)) 34).toNat + 2 else s.length
/-- A quoted text. -/
def rdL (s : List UInt8) (a : Nat) : Rd (List Int) :=
  if (unqL ((s.take (leafEnd s a)).drop a)).2.2 = 0 then .ok (unqL ((s.take (leafEnd s a)).drop a)).1 (leafEnd s a) else .bad (a + (unqL ((s.take (leafEnd s a)).drop a)).2.1.toNat) (unqL ((s.take (leafEnd s a)).drop a)).2.2
theorem rdL_eq {s : List UInt8} {a e : Nat} {zs : List Int} {p er : Int} (he : leafEnd s a = e) (hu : unqL ((s.take e).drop a) = (zs, p, er)) : rdL s a = if er = 0 then .ok zs e else .bad (a + p.toNat) er := by
  unfold rdL; rw [he, hu]
def LeafR (W : World) (R : Rd (List Int)) (e : Ending) (w' : World) : Prop :=
  match R with
  | .ok zs n => ∃ v, e = .returned (.tuple #[v, .int .i64 n, .agg #[.int .i64 0, .int .i64 0]]) ∧ w'.ownsRow W.heap.size 21 1 v zs.length (zs.map (Value.int .i32)) ∧ Below W.heap.size W w'
  | .bad a er => e = .returned (.tuple #[.slice none 0 0, .int .i64 0, .agg #[.int .i64 a, .int .i64 er]]) ∧ Below W.heap.size W w'
theorem cut_mid (s : List UInt8) (a b : Nat) (h : a ≤ b) (hb : b ≤ s.length) : (⟨s.toArray⟩ : ByteArray).extract a b = ⟨((s.take b).drop a).toArray⟩ := by
  rw [ByteArray.extract_mk, List.drop_take]
theorem leafEnd_le (s : List UInt8) (a : Nat) (ha : a < s.length) : a + 1 ≤ leafEnd s a ∧ leafEnd s a ≤ s.length := by
  unfold leafEnd
  split
  · rename_i h
    obtain ⟨o, ho⟩ : ∃ o : Nat, Lib.indexByte (s.drop (a + 1)) 34 = o := ⟨(Lib.indexByte (s.drop (a + 1)) 34).toNat, by omega⟩
    obtain ⟨h1, -⟩ := Lib.indexByte_some ho
    have hlt : o < (s.drop (a + 1)).length := by
      rcases Nat.lt_or_ge o (s.drop (a + 1)).length with h | h
      · exact h
      · rw [List.getElem?_eq_none h] at h1; cases h1
    simp only [List.length_drop] at hlt
    rw [ho]; simp; omega
  · omega

set_option maxRecDepth 100000 in
set_option maxHeartbeats 2000000 in
theorem leaf_q (s : List UInt8) (a : Nat) (W : World) (hn : s.length ≤ 1000000) (ha : a < s.length) (hE : ErrsAt W) (hT : TabAt W) (hg : 3 < W.heap.size) :
    Calls Tryd.prog 57 #[.string ⟨s.toArray⟩, .int .i64 a] W (LeafR W (rdL s a)) := by
  obtain ⟨hl1, hl2⟩ := leafEnd_le s a ha
  have hsz : (⟨s.toArray⟩ : ByteArray).size = s.length := rfl
  have hex1 := drop_str s (a + 1) (by omega)
  have hex2 := cut_mid s a (leafEnd s a) (by omega) hl2
  have hIx : (⟨(s.drop (a + 1)).toArray⟩ : ByteArray).data.toList = s.drop (a + 1) := by simp
  have HI := fun W => Lib.hid (Tryd.strings_IndexByte ⟨(s.drop (a + 1)).toArray⟩ 34 W)
  rw [hIx] at HI
  have HU := fun W' (hb : Below W.heap.size W W') => Lib.hid (unquote_c ((s.take (leafEnd s a)).drop a) W' (by simp; omega) (hE.keep hb) (hT.keep hb hg) (Nat.lt_of_lt_of_le hg hb.size))
  have Hcase := Lib.hid (unq_cases ((s.take (leafEnd s a)).drop a))
  obtain ⟨e, he⟩ : ∃ e, leafEnd s a = e := ⟨_, rfl⟩
  have Heq := fun zs p er => Lib.hid (rdL_eq (zs := zs) (p := p) (er := er) he)
  have Hle : Hid (leafEnd s a = if 0 ≤ Lib.indexByte (s.drop (a + 1)) 34 then a + (Lib.indexByte (s.drop (a + 1)) 34).toNat + 2 else s.length) := rfl
  rw [he] at hl1 hl2 hex2 HU Hcase Hle
  rw [hsz] at hex1
  obtain ⟨X, hX⟩ : ∃ X, X = (⟨(s.drop (a + 1)).toArray⟩ : ByteArray) := ⟨_, rfl⟩
  obtain ⟨Y, hY⟩ : ∃ Y, Y = (⟨((s.take e).drop a).toArray⟩ : ByteArray) := ⟨_, rfl⟩
  rw [← hX] at HI hex1
  rw [← hY] at HU hex2
  obtain ⟨i, hi⟩ : ∃ i, Lib.indexByte (s.drop (a + 1)) 34 = i := ⟨_, rfl⟩
  have e34 : ((34 : Int).toNat.toUInt8) = 34 := rfl
  rw [e34, hi] at HI
  rw [hi] at Hle
  obtain ⟨S, hS⟩ : ∃ S, S = (⟨s.toArray⟩ : ByteArray) := ⟨_, rfl⟩
  rw [← hS] at hsz hex1 hex2 ⊢
  have HU := Lib.hid HU
  obtain ⟨zs, p, er, hu, hcase⟩ : ∃ zs p er, unqL ((s.take e).drop a) = (zs, p, er) ∧ (er = 0 ∧ p = 0 ∨ er = 11 ∧ zs = [] ∧ ∃ q : Nat, p = q ∧ q ≤ s.length) := by
    rcases Hcase.out with ⟨zs, -, -, h⟩ | ⟨q, hq, h⟩
    · exact ⟨_, _, _, h, .inl ⟨rfl, rfl⟩⟩
    · refine ⟨_, _, _, h, .inr ⟨rfl, rfl, q, rfl, ?_⟩⟩
      have : ((s.take e).drop a).length ≤ s.length := by simp; omega
      omega
  have HR := Lib.hid ((Heq zs p er).out hu)
  obtain ⟨R, hR⟩ : ∃ R, R = rdL s a := ⟨_, rfl⟩
  rw [← hR] at HR ⊢
  have Hu := Lib.hid hu
  clear hIx Hcase Heq he hX hY hi e34 hS hE hT hu hR
  have hend : 0 ≤ i ∧ (e : Int) = a + i + 2 ∨ i < 0 ∧ e = s.length := by
    have := Hle.out
    split at this
    · left; omega
    · right; omega
  clear Hle
  rcases hend with ⟨h0, h1⟩ | ⟨h0, h1⟩
  · obtain ⟨j, rfl⟩ := Int.eq_ofNat_of_zero_le h0
    obtain rfl : e = a + j + 2 := by omega
    clear h0 h1
    have HU1 := HU.out (W.alloc (Obj.cells #[.int .i64 0, .int .i64 0] 71)) ((Below.refl _ _).alloc (Nat.le_refl _) _)
    rw [Hu.out] at HU1
    rcases hcase with ⟨rfl, rfl⟩ | ⟨rfl, rfl, q, rfl, hq⟩
    · have HRb : Hid (R = .ok zs (a + j + 2)) := by show R = _; rw [HR.out, if_pos rfl]
      go_enter Tryd.func57, Tryd.ntmps57
      go_wp2_with fail
      refine (HI _).out.mono ?_
      rintro e' w1 ⟨rfl, rfl⟩
      clear HI
      go_wp2_with fail
      refine HU1.out.mono ?_
      rintro e' w2 ⟨v, rfl, hown, hbel⟩
      have hb2 := below_box hbel
      obtain ⟨va, vc, rfl, -⟩ := row_of_own hown (ints_one .i32 zs)
      have Ho := Lib.hid hown
      obtain ⟨y0, y1, f0, f1⟩ := box2f hb2
      have Hb2 := Lib.hid hb2
      clear hown hbel hb2 HU1
      go_wp2_with fail
      refine bodyPost_ret (v := .tuple #[.slice va zs.length vc, .int .i64 ((a : Int) + j + 2), .agg #[.int .i64 0, .int .i64 0]]) (by simp [results, Tryd.results57, go_sem, y0, y1]) rfl ?_
      rw [HRb.out]
      refine ⟨_, rfl, ?_, ((below_unbox Hb2.out).setCell (p := ⟨W.heap.size, 0, none⟩) (Nat.le_refl _) _).setCell (p := ⟨W.heap.size, 1, none⟩) (Nat.le_refl _) _⟩
      have hh := Ho.out
      have hsz1 : (W.alloc (Obj.cells #[.int .i64 0, .int .i64 0] 71)).heap.size = W.heap.size + 1 := by simp
      rw [hsz1] at hh
      exact own_mono (own_set (off := 1) (u := .int .i64 0) (own_set (b := W.heap.size) (off := 0) (u := .int .i64 0) hh (by omega)) (b := W.heap.size) (by omega)) (Nat.le_succ _)
    · have HRb : Hid (R = .bad (a + q) 11) := by show R = _; rw [HR.out, if_neg (by decide)]; simp
      go_enter Tryd.func57, Tryd.ntmps57
      go_wp2_with fail
      refine (HI _).out.mono ?_
      rintro e' w1 ⟨rfl, rfl⟩
      clear HI
      go_wp2_with fail
      refine HU1.out.mono ?_
      rintro e' w2 ⟨v, rfl, -, hbel⟩
      have hb2 := below_box hbel
      obtain ⟨y0, y1, f0, f1⟩ := box2f hb2
      have Hb2 := Lib.hid hb2
      clear hbel hb2 HU1
      go_wp2_with fail
      refine bodyPost_ret (v := .tuple #[.slice none 0 0, .int .i64 0, .agg #[.int .i64 ((a : Int) + q), .int .i64 11]]) (by simp [results, Tryd.results57, go_sem, y0, y1]) rfl ?_
      rw [HRb.out]
      exact ⟨rfl, ((below_unbox Hb2.out).setCell (p := ⟨W.heap.size, 0, none⟩) (Nat.le_refl _) _).setCell (p := ⟨W.heap.size, 1, none⟩) (Nat.le_refl _) _⟩
  · subst h1
    have HU1 := HU.out (W.alloc (Obj.cells #[.int .i64 0, .int .i64 0] 71)) ((Below.refl _ _).alloc (Nat.le_refl _) _)
    rw [Hu.out] at HU1
    rcases hcase with ⟨rfl, rfl⟩ | ⟨rfl, rfl, q, rfl, hq⟩
    · have HRb : Hid (R = .ok zs s.length) := by show R = _; rw [HR.out, if_pos rfl]
      go_enter Tryd.func57, Tryd.ntmps57
      go_wp2_with fail
      refine (HI _).out.mono ?_
      rintro e' w1 ⟨rfl, rfl⟩
      clear HI
      go_wp2_with fail
      refine HU1.out.mono ?_
      rintro e' w2 ⟨v, rfl, hown, hbel⟩
      have hb2 := below_box hbel
      obtain ⟨va, vc, rfl, -⟩ := row_of_own hown (ints_one .i32 zs)
      have Ho := Lib.hid hown
      obtain ⟨y0, y1, f0, f1⟩ := box2f hb2
      have Hb2 := Lib.hid hb2
      clear hown hbel hb2 HU1
      go_wp2_with fail
      refine bodyPost_ret (v := .tuple #[.slice va zs.length vc, .int .i64 (s.length : Int), .agg #[.int .i64 0, .int .i64 0]]) (by simp [results, Tryd.results57, go_sem, y0, y1]) rfl ?_
      rw [HRb.out]
      refine ⟨_, rfl, ?_, ((below_unbox Hb2.out).setCell (p := ⟨W.heap.size, 0, none⟩) (Nat.le_refl _) _).setCell (p := ⟨W.heap.size, 1, none⟩) (Nat.le_refl _) _⟩
      have hh := Ho.out
      have hsz1 : (W.alloc (Obj.cells #[.int .i64 0, .int .i64 0] 71)).heap.size = W.heap.size + 1 := by simp
      rw [hsz1] at hh
      exact own_mono (own_set (off := 1) (u := .int .i64 0) (own_set (b := W.heap.size) (off := 0) (u := .int .i64 0) hh (by omega)) (b := W.heap.size) (by omega)) (Nat.le_succ _)
    · have HRb : Hid (R = .bad (a + q) 11) := by show R = _; rw [HR.out, if_neg (by decide)]; simp
      go_enter Tryd.func57, Tryd.ntmps57
      go_wp2_with fail
      refine (HI _).out.mono ?_
      rintro e' w1 ⟨rfl, rfl⟩
      clear HI
      go_wp2_with fail
      refine HU1.out.mono ?_
      rintro e' w2 ⟨v, rfl, -, hbel⟩
      have hb2 := below_box hbel
      obtain ⟨y0, y1, f0, f1⟩ := box2f hb2
      have Hb2 := Lib.hid hb2
      clear hbel hb2 HU1
      go_wp2_with fail
      refine bodyPost_ret (v := .tuple #[.slice none 0 0, .int .i64 0, .agg #[.int .i64 ((a : Int) + q), .int .i64 11]]) (by simp [results, Tryd.results57, go_sem, y0, y1]) rfl ?_
      rw [HRb.out]
      exact ⟨rfl, ((below_unbox Hb2.out).setCell (p := ⟨W.heap.size, 0, none⟩) (Nat.le_refl _) _).setCell (p := ⟨W.heap.size, 1, none⟩) (Nat.le_refl _) _⟩

end Go.Proofs.YtmhgbocejjnoaaaDoor
/- What reading a tree answers: plain functions and their laws. -/
namespace Go.Proofs.YtmhgbocejjnoaaaDoor
open Go.RowKit Go.Redl
set_option linter.unusedVariables false

/-- A node's properties. -/
def rdH (s : List UInt8) (a : Nat) : Rd (List PropD) := if standsB s a 123 = true then rdP (s.length + 1) s a [] [] else .ok [] a
mutual
/-- A node; its kids. -/
def rdN : Nat → List UInt8 → Nat → Rd NodeD
  | 0, _, a => .bad a 11
  | f + 1, s, a =>
    match rdH s a with
    | .bad p er => .bad p er
    | .ok ps a1 =>
      if standsB s a1 34 = true then (match rdL s a1 with
        | .bad p er => .bad p er
        | .ok t e => .ok (.mk true ps t []) e)
      else if standsB s a1 91 = false then .bad a1 11
      else (match rdK f s (a1 + 1) [] with
        | .bad p er => .bad p er
        | .ok ks e => .ok (.mk false ps [] ks) e)
def rdK : Nat → List UInt8 → Nat → List NodeD → Rd (List NodeD)
  | 0, _, a, _ => .bad a 11
  | f + 1, s, a, out =>
    if standsB s a 93 = true then .ok out (a + 1)
    else (match rdN f s a with
      | .bad p er => .bad p er
      | .ok k e => rdK f s e (out ++ [k]))
end
theorem rdP_pos : ∀ (f : Nat) (s : List UInt8) (a : Nat) (out : List PropD) (last : List UInt8) (ps : List PropD) (e : Nat), a < s.length → rdP f s a out last = .ok ps e → a < e ∧ e ≤ s.length
  | 0, s, a, out, last, ps, e, ha, h => by unfold rdP at h; cases h
  | f + 1, s, a, out, last, ps, e, ha, h => by
    have hk := keyAt_len s (a + 1) (by omega)
    unfold rdP at h
    generalize keyAt s (a + 1) = key at h hk
    by_cases c1 : key = [] ∨ standsB s (a + 1 + key.length) 58 = false
    · rw [if_pos c1] at h; cases h
    rw [if_neg c1] at h
    have h58 := stands_lt (s := s) (a := a + 1 + key.length) (c := 58) (by
      cases hh : standsB s (a + 1 + key.length) 58 with
      | true => rfl
      | false => exact absurd (.inr hh) c1)
    have hv := valAt_len s (a + 1 + key.length + 1) (by omega)
    generalize valAt s (a + 1 + key.length + 1) = val at h hv
    by_cases c2 : out.length = 16
    · rw [if_pos c2] at h; cases h
    rw [if_neg c2] at h
    by_cases c3 : 16 < key.length ∨ 32 < val.length
    · rw [if_pos c3] at h; cases h
    rw [if_neg c3] at h
    by_cases c4 : leB key last = true
    · rw [if_pos c4] at h; cases h
    rw [if_neg c4] at h
    by_cases c5 : standsB s (a + 1 + key.length + 1 + val.length) 125 = true
    · rw [if_pos c5] at h
      have := stands_lt c5
      injection h with h1 h2
      omega
    rw [if_neg c5] at h
    by_cases c6 : standsB s (a + 1 + key.length + 1 + val.length) 44 = false
    · rw [if_pos c6] at h; cases h
    rw [if_neg c6] at h
    have h44 := stands_lt (s := s) (a := a + 1 + key.length + 1 + val.length) (c := 44) (by simpa using c6)
    have := rdP_pos f s _ _ _ ps e h44 h
    omega
theorem rdH_pos {s : List UInt8} {a e : Nat} {ps : List PropD} (ha : a ≤ s.length) (h : rdH s a = .ok ps e) : a ≤ e ∧ e ≤ s.length := by
  unfold rdH at h
  by_cases c : standsB s a 123 = true
  · rw [if_pos c] at h
    have := rdP_pos _ s a [] [] ps e (stands_lt c) h
    omega
  · rw [if_neg c] at h
    injection h with h1 h2
    omega
theorem rdL_pos {s : List UInt8} {a e : Nat} {t : List Int} (ha : a < s.length) (h : rdL s a = .ok t e) : a < e ∧ e ≤ s.length := by
  have := leafEnd_le s a ha
  unfold rdL at h
  split at h
  · injection h with h1 h2; omega
  · cases h
mutual
theorem rdN_pos : ∀ (f : Nat) (s : List UInt8) (a : Nat) (n : NodeD) (e : Nat), a ≤ s.length → rdN f s a = .ok n e → a < e ∧ e ≤ s.length
  | 0, s, a, n, e, ha, h => by unfold rdN at h; cases h
  | f + 1, s, a, n, e, ha, h => by
    unfold rdN at h
    cases hh : rdH s a with
    | bad p er => rw [hh] at h; cases h
    | ok ps a1 =>
      have h1 := rdH_pos ha hh
      rw [hh] at h
      simp only at h
      by_cases c1 : standsB s a1 34 = true
      · rw [if_pos c1] at h
        cases hl : rdL s a1 with
        | bad p er => rw [hl] at h; cases h
        | ok t e' =>
          have := rdL_pos (stands_lt c1) hl
          rw [hl] at h
          injection h with h1 h2; omega
      rw [if_neg c1] at h
      by_cases c2 : standsB s a1 91 = false
      · rw [if_pos c2] at h; cases h
      rw [if_neg c2] at h
      have h91 := stands_lt (s := s) (a := a1) (c := 91) (by simpa using c2)
      cases hk : rdK f s (a1 + 1) [] with
      | bad p er => rw [hk] at h; cases h
      | ok ks e' =>
        have := rdK_pos f s (a1 + 1) [] ks e' (by omega) hk
        rw [hk] at h
        injection h with h1 h2; omega
theorem rdK_pos : ∀ (f : Nat) (s : List UInt8) (a : Nat) (out ks : List NodeD) (e : Nat), a ≤ s.length → rdK f s a out = .ok ks e → a < e ∧ e ≤ s.length
  | 0, s, a, out, ks, e, ha, h => by unfold rdK at h; cases h
  | f + 1, s, a, out, ks, e, ha, h => by
    unfold rdK at h
    by_cases c1 : standsB s a 93 = true
    · rw [if_pos c1] at h
      have := stands_lt c1
      injection h with h1 h2; omega
    rw [if_neg c1] at h
    cases hn : rdN f s a with
    | bad p er => rw [hn] at h; cases h
    | ok k e' =>
      have h1 := rdN_pos f s a k e' ha hn
      rw [hn] at h
      have := rdK_pos f s e' _ ks e h1.2 h
      omega
end
theorem rdL_wf {s : List UInt8} {a e : Nat} {t : List Int} (h : rdL s a = .ok t e) : ∀ z ∈ t, validB z = true := by
  unfold rdL at h
  generalize (s.take (leafEnd s a)).drop a = q at h
  rcases unq_cases q with ⟨zs, hz, -, hu⟩ | ⟨p, -, hu⟩
  · rw [hu] at h
    simp only [if_pos] at h
    injection h with h1 h2
    subst h1; exact hz
  · rw [hu] at h
    rw [if_neg (by show ¬ ((11 : Int) = 0); decide)] at h
    cases h
theorem rdP_len : ∀ (f : Nat) (s : List UInt8) (a : Nat) (out : List PropD) (last : List UInt8) (ps : List PropD) (e : Nat), out.length ≤ 16 → rdP f s a out last = .ok ps e → ps.length ≤ 16
  | 0, s, a, out, last, ps, e, ho, h => by unfold rdP at h; cases h
  | f + 1, s, a, out, last, ps, e, ho, h => by
    unfold rdP at h
    generalize keyAt s (a + 1) = key at h
    generalize valAt s (a + 1 + key.length + 1) = val at h
    by_cases c1 : key = [] ∨ standsB s (a + 1 + key.length) 58 = false
    · rw [if_pos c1] at h; cases h
    rw [if_neg c1] at h
    by_cases c2 : out.length = 16
    · rw [if_pos c2] at h; cases h
    rw [if_neg c2] at h
    by_cases c3 : 16 < key.length ∨ 32 < val.length
    · rw [if_pos c3] at h; cases h
    rw [if_neg c3] at h
    by_cases c4 : leB key last = true
    · rw [if_pos c4] at h; cases h
    rw [if_neg c4] at h
    by_cases c5 : standsB s (a + 1 + key.length + 1 + val.length) 125 = true
    · rw [if_pos c5] at h
      injection h with h1 h2
      subst h1; simp; omega
    rw [if_neg c5] at h
    by_cases c6 : standsB s (a + 1 + key.length + 1 + val.length) 44 = false
    · rw [if_pos c6] at h; cases h
    rw [if_neg c6] at h
    exact rdP_len f s _ _ _ ps e (by simp; omega) h

end Go.Proofs.YtmhgbocejjnoaaaDoor
