/- Walk: GlyphChanges. -/
import Derived.Test.YtdafbpjgjhfjmaaDoorRL2
namespace Go.Proofs.YtdafbpjgjhfjmaaDoor
open Go.RowKit Go.Redl
set_option linter.unusedVariables false

set_option maxRecDepth 100000 in
set_option maxHeartbeats 1000000 in
theorem changes_big (a1 a2 : Option Addr) (c1 c2 : Nat) (r s : List Int) (at_ : Int) (w : World) (ht : TabAt w) (hg : 5 < w.heap.size) (hb : 200 < r.length ∨ 200 < s.length) (m1 : r.length ≤ maxLen) (m2 : s.length ≤ maxLen) :
    Calls Tryd.prog 5 #[.slice a1 r.length c1, .int .i64 at_, .slice a2 s.length c2] w fun e w' => e = .returned (.bool true) ∧ Below w.heap.size w w' := by
  have HL := Lib.hid (live_c w ht hg)
  unfold maxLen at m1 m2
  clear ht
  by_cases h1 : 200 < r.length
  · clear hb
    go_enter Tryd.func5, Tryd.ntmps5
    go_wp2_with fail
    refine HL.out.mono ?_
    rintro e w1 ⟨rfl, hbel⟩
    have Hb := Lib.hid hbel
    clear hbel
    go_wp2_with fail
    go_ret
    exact ⟨rfl, Hb.out⟩
  · have h2 : 200 < s.length := by omega
    clear hb
    go_enter Tryd.func5, Tryd.ntmps5
    go_wp2_with fail
    refine HL.out.mono ?_
    rintro e w1 ⟨rfl, hbel⟩
    have Hb := Lib.hid hbel
    clear hbel
    go_wp2_with fail
    go_ret
    exact ⟨rfl, Hb.out⟩

theorem rcopy_ints (v : Value) (zs : List Int) (w : World) (h : Ints .i32 w w.heap.size v zs) (hn : zs.length ≤ 1000000) :
    Calls Tryd.prog 15 #[v] w fun e w' => ∃ a cap, e = .returned (.slice a zs.length cap) ∧ Ints .i32 w' w'.heap.size (.slice a zs.length cap) zs ∧ Below w.heap.size w w' := by
  obtain ⟨⟨a, cap, rfl, hr⟩, hw⟩ := h
  refine (rcopy_c w.heap.size zs.length a cap _ w hr (Nat.le_refl _) hn).mono ?_
  rintro e w' ⟨v, rfl, hown, hb⟩
  obtain ⟨a', cap', rfl, hr'⟩ := row_of_own hown (ints_one .i32 zs)
  exact ⟨a', cap', rfl, ⟨⟨a', cap', rfl, hr'⟩, hw⟩, hb⟩

theorem ints_drawn {w W : World} {v : Value} {zs : List Int} (h : Ints .i32 w w.heap.size v zs) (hd : Drawn w W) : Ints .i32 W w.heap.size v zs := h.keep (hd.below _) (Nat.le_refl _)

set_option maxRecDepth 100000 in
set_option maxHeartbeats 4000000 in
theorem changes_small (a1 a2 : Option Addr) (c1 c2 : Nat) (r s : List Int) (at_ : Int) (w : World) (ht : TabAt w) (hg : 5 < w.heap.size)
    (i1 : Ints .i32 w w.heap.size (.slice a1 r.length c1) r) (i2 : Ints .i32 w w.heap.size (.slice a2 s.length c2) s) (n1 : r.length ≤ 200) (n2 : s.length ≤ 200) :
    Calls Tryd.prog 5 #[.slice a1 r.length c1, .int .i64 at_, .slice a2 s.length c2] w fun e w' => e = .returned (.bool true) ∧ Below w.heap.size w w' := by
  have wr := i1.wf
  have ws := i2.wf
  have wA : ∀ z ∈ (insR r at_ s).1, (Lit.int .i32 z).wf = true := fun z hz => (insR_mem z hz).elim (wr z) (ws z)
  have wC : ∀ z ∈ (remRR r at_ s).1, (Lit.int .i32 z).wf = true := fun z hz => wr z (remRR_mem z hz)
  have wX : ∀ z ∈ (cutR r at_).1, (Lit.int .i32 z).wf = true := fun z hz => wr z (cutR_mem.1 z hz)
  have wY : ∀ z ∈ (cutR r at_).2.1, (Lit.int .i32 z).wf = true := fun z hz => wr z (cutR_mem.2 z hz)
  have lA := @insR_len r s at_
  have lC := @remRR_len r s at_
  have lX := (@cutR_len r at_).1
  have lY := (@cutR_len r at_).2
  have HL := Lib.hid (live_c w ht hg)
  have HI := fun (W : World) (h : Below w.heap.size w W) => insert_c _ _ W.heap.size r s at_ W (i1.keep h h.size) (i2.keep h h.size) (Nat.le_refl _) (by omega)
  have HI' := fun (W : World) (h : Below w.heap.size w W) => rinsert_c _ _ W.heap.size r s at_ W (i1.keep h h.size) (i2.keep h h.size) (Nat.le_refl _) (by omega)
  have HR := fun (W : World) (h : Below w.heap.size w W) => remove_c _ _ W.heap.size r s at_ W (i1.keep h h.size) (i2.keep h h.size) (Nat.le_refl _) (by omega)
  have HR' := fun (W : World) (h : Below w.heap.size w W) => rremove_c _ _ W.heap.size r s at_ W (i1.keep h h.size) (i2.keep h h.size) (Nat.le_refl _) (by omega)
  have HC := fun (W : World) (h : Below w.heap.size w W) => cut_c _ W.heap.size r at_ W (i1.keep h h.size) (Nat.le_refl _) (by omega)
  have HC' := fun (W : World) (h : Below w.heap.size w W) => rcut_c _ W.heap.size r at_ W (i1.keep h h.size) (Nat.le_refl _) (by omega)
  have HW := fun (W : World) (h : Below w.heap.size w W) => rcopy_ints _ r W (i1.keep h h.size) (by omega)
  have HK := fun (W : World) (h : Below w.heap.size w W) => check_c _ W.heap.size r W (i1.keep h h.size)
  have HK' := fun (W : World) (h : Below w.heap.size w W) => rcheck_c _ W.heap.size r W (i1.keep h h.size)
  have HE := fun (W : World) (h : Below w.heap.size w W) => same_c _ _ W.heap.size r s W (i1.keep h h.size) (i2.keep h h.size)
  have HE' := fun (W : World) (h : Below w.heap.size w W) => rsame_c _ _ W.heap.size r s W (i1.keep h h.size) (i2.keep h h.size)
  have HS := fun (zs : List Int) (W : World) (B : Nat) (v u : Value) (i : Ints .i32 W B v zs) (j : Ints .i32 W B u zs) => rsame_c v u B zs zs W i j
  have HF := fun (W : World) (u : Value) (h : Below w.heap.size w W) (j : Ints .i32 W W.heap.size u r) => rsame_c _ u W.heap.size r r W (i1.keep h h.size) j
  simp only [decide_true] at HS HF
  obtain ⟨A, hA⟩ : ∃ A, insR r at_ s = A := ⟨_, rfl⟩
  obtain ⟨C, hC⟩ : ∃ C, remRR r at_ s = C := ⟨_, rfl⟩
  obtain ⟨X, hX⟩ : ∃ X, cutR r at_ = X := ⟨_, rfl⟩
  rw [hA] at HI HI' wA lA
  rw [hC] at HR HR' wC lC
  rw [hX] at HC HC' wX wY lX lY
  clear hA hC hX
  obtain ⟨A, ae⟩ := A
  obtain ⟨C, ce⟩ := C
  obtain ⟨X, Y, xe⟩ := X
  obtain ⟨ck, hck⟩ : ∃ ck, checkE r = ck := ⟨_, rfl⟩
  rw [hck] at HK HK'
  obtain ⟨sm, hsm⟩ : ∃ sm, decide (r = s) = sm := ⟨_, rfl⟩
  rw [hsm] at HE HE'
  have XI := Lib.hid HI; have XI' := Lib.hid HI'; have XR := Lib.hid HR; have XR' := Lib.hid HR'; have XC := Lib.hid HC; have XC' := Lib.hid HC'
  have XW := Lib.hid HW; have XK := Lib.hid HK; have XK' := Lib.hid HK'; have XE := Lib.hid HE; have XE' := Lib.hid HE'; have XS := Lib.hid HS; have XF := Lib.hid HF
  have WA := Lib.hid wA; have WC := Lib.hid wC; have WX := Lib.hid wX; have WY := Lib.hid wY; have Wr := Lib.hid wr
  have ea : (ae == ae) = true := by simp
  have ec : (ce == ce) = true := by simp
  have ex : (xe == xe) = true := by simp
  have ek : (ck == ck) = true := by simp
  have es : (sm == sm) = true := by simp
  clear ht i1 i2 HI HI' HR HR' HC HC' HW HK HK' HE HE' HS HF wA wC wX wY wr ws hck hsm
  simp only at lA lC lX lY
  go_enter Tryd.func5, Tryd.ntmps5
  go_wp2_with fail
  refine HL.out.mono ?_
  rintro e w1 ⟨rfl, hbel⟩
  have B1 := Lib.hid hbel
  clear hbel
  go_wp2_with fail
  refine (XW.out _ B1.out).mono ?_
  rintro e w2 ⟨aW, cW, rfl, hi, hbel⟩
  have IW := Lib.hid hi
  have B2 := Lib.hid (B1.out.trans (hbel.mono B1.out.size))
  clear hi hbel
  go_wp2_with fail
  refine (XI.out _ B2.out).mono ?_
  intro e w3 hm
  obtain ⟨aA, cA, rfl, hi, hbel, hrow⟩ := MadeE.open2 hm WA.out (by omega)
  have IA := Lib.hid hi; have RA := Lib.hid hrow; have D3 := Lib.hid hbel
  have B3 := Lib.hid (B2.out.trans (hbel.mono B2.out.size))
  clear hm hi hbel hrow
  go_wp2_with fail
  refine (XI'.out _ B3.out).mono ?_
  intro e w4 hm
  obtain ⟨aB, cB, rfl, hi, hbel, hrow⟩ := MadeE.open2 hm WA.out (by omega)
  have IB := Lib.hid hi; have D4 := Lib.hid hbel
  have B4 := Lib.hid (B3.out.trans (hbel.mono B3.out.size))
  clear hm hi hbel hrow
  go_wp2_with fail
  refine (XR.out _ B4.out).mono ?_
  intro e w5 hm
  obtain ⟨aC, cC, rfl, hi, hbel, hrow⟩ := MadeE.open2 hm WC.out (by omega)
  have IC := Lib.hid hi; have RC := Lib.hid hrow; have D5 := Lib.hid hbel
  have B5 := Lib.hid (B4.out.trans (hbel.mono B4.out.size))
  clear hm hi hbel hrow
  go_wp2_with fail
  refine (XR'.out _ B5.out).mono ?_
  intro e w6 hm
  obtain ⟨aD, cD, rfl, hi, hbel, hrow⟩ := MadeE.open2 hm WC.out (by omega)
  have ID := Lib.hid hi; have D6 := Lib.hid hbel
  have B6 := Lib.hid (B5.out.trans (hbel.mono B5.out.size))
  clear hm hi hbel hrow
  go_wp2_with fail
  refine (XC.out _ B6.out).mono ?_
  intro e w7 hm
  obtain ⟨aX, cX, aY, cY, rfl, hi, hj, hbel, hrow, hrow'⟩ := MadeEE.open2 hm WX.out WY.out (by omega) (by omega)
  have IX := Lib.hid hi; have IY := Lib.hid hj; have RX := Lib.hid hrow; have RY := Lib.hid hrow'; have D7 := Lib.hid hbel
  have B7 := Lib.hid (B6.out.trans (hbel.mono B6.out.size))
  clear hm hi hj hbel hrow hrow'
  go_wp2_with fail
  refine (XC'.out _ B7.out).mono ?_
  intro e w8 hm
  obtain ⟨aV, cV, aU, cU, rfl, hi, hj, hbel, hrow, hrow'⟩ := MadeEE.open2 hm WX.out WY.out (by omega) (by omega)
  have IV := Lib.hid hi; have IU := Lib.hid hj; have D8 := Lib.hid hbel
  have B8 := Lib.hid (B7.out.trans (hbel.mono B7.out.size))
  clear hm hi hj hbel hrow hrow'
  have E78 := D8.out
  have E68 := D7.out.trans (E78.mono D7.out.size)
  have E58 := D6.out.trans (E68.mono D6.out.size)
  have E48 := D5.out.trans (E58.mono D5.out.size)
  have E38 := D4.out.trans (E48.mono D4.out.size)
  have E28 := D3.out.trans (E38.mono D3.out.size)
  have JA := Lib.hid (IA.out.keep E38 E38.size); have JB := Lib.hid (IB.out.keep E48 E48.size)
  have JC := Lib.hid (IC.out.keep E58 E58.size); have JD := Lib.hid (ID.out.keep E68 E68.size)
  have JX := Lib.hid (IX.out.keep E78 E78.size); have JY := Lib.hid (IY.out.keep E78 E78.size)
  have JV := Lib.hid IV.out; have JU := Lib.hid IU.out
  have QA := Lib.hid (RA.out.keep E38 E38.size)
  have s24 := Nat.le_trans D3.out.size D4.out.size
  have s26 := Nat.le_trans s24 (Nat.le_trans D5.out.size D6.out.size)
  have QC := Lib.hid ((RC.out.keep E58 E58.size).mono s24)
  have QX := Lib.hid ((RX.out.keep E78 E78.size).mono s26)
  have QY := Lib.hid ((RY.out.keep E78 E78.size).mono s26)
  have F28 := Lib.hid E28
  clear s24 s26 E78 E68 E58 E48 E38 E28 IA IB IC ID IX IY IV IU RA RC RX RY
  go_wp2_with fail
  refine (XS.out _ _ w8.heap.size _ _ (ints_drawn JA.out ?_) (ints_drawn JB.out ?_)).mono ?_
  · first | exact drawn_zero _ | exact drawn_one _ _
  · first | exact drawn_zero _ | exact drawn_one _ _
  rintro e w9 ⟨rfl, q1, rfl⟩
  go_wp2_with fail
  refine (XS.out _ _ w8.heap.size _ _ (ints_drawn JC.out ?_) (ints_drawn JD.out ?_)).mono ?_
  · first | exact drawn_zero _ | exact drawn_one _ _ | exact drawn_two _ _ _
  · first | exact drawn_zero _ | exact drawn_one _ _ | exact drawn_two _ _ _
  rintro e w9 ⟨rfl, q2, rfl⟩
  go_wp2_with fail
  refine (XS.out _ _ w8.heap.size _ _ (ints_drawn JX.out ?_) (ints_drawn JV.out ?_)).mono ?_
  · first | exact drawn_zero _ | exact drawn_one _ _ | exact drawn_two _ _ _
  · first | exact drawn_zero _ | exact drawn_one _ _ | exact drawn_two _ _ _
  rintro e w9 ⟨rfl, q3, rfl⟩
  go_wp2_with fail
  refine (XS.out _ _ w8.heap.size _ _ (ints_drawn JY.out ?_) (ints_drawn JU.out ?_)).mono ?_
  · first | exact drawn_zero _ | exact drawn_one _ _ | exact drawn_two _ _ _
  · first | exact drawn_zero _ | exact drawn_one _ _ | exact drawn_two _ _ _
  rintro e w9 ⟨rfl, q4, rfl⟩
  go_wp2_with fail
  refine (XK.out _ ?_).mono ?_
  · first | exact below_drewN B8.out _ | exact below_drewN (below_drewN B8.out _) _
  rintro e w9 ⟨rfl, rfl⟩
  go_wp2_with fail
  refine (XK'.out _ ?_).mono ?_
  · first | exact below_drewN B8.out _ | exact below_drewN (below_drewN B8.out _) _
  rintro e w9 ⟨rfl, rfl⟩
  go_wp2_with fail
  refine (XE.out _ ?_).mono ?_
  · first | exact below_drewN B8.out _ | exact below_drewN (below_drewN B8.out _) _
  rintro e w9 ⟨rfl, q5, rfl⟩
  go_wp2_with fail
  refine (XE'.out _ ?_).mono ?_
  · first | exact below_drewN B8.out _ | exact below_drewN (below_drewN B8.out _) _
  rintro e w9 ⟨rfl, q6, rfl⟩
  go_wp2_with fail
  have hstart : Mut 21 22 w2 w2.heap.size w8.heap.size [.slice aA A.length cA, .slice aC C.length cC, .slice aX X.length cX, .slice aY Y.length cY]
      ((w8.drewN (q1 + q2 + q3 + q4 + q5 + q6)).alloc (Obj.cells #[Value.slice aA A.length cA, Value.slice aC C.length cC, Value.slice aX X.length cX, Value.slice aY Y.length cY] 22)) := by
    have hk : Below w8.heap.size w8 ((w8.drewN (q1 + q2 + q3 + q4 + q5 + q6)).alloc (Obj.cells #[Value.slice aA A.length cA, Value.slice aC C.length cC, Value.slice aX X.length cX, Value.slice aY Y.length cY] 22)) := (below_drewN (Below.refl _ _) _).alloc (Nat.le_refl _) _
    refine ⟨heap_alloc_new (w8.drewN (q1 + q2 + q3 + q4 + q5 + q6)) _, fun v hv => ?_, F28.out.trans (hk.mono F28.out.size)⟩
    simp only [List.mem_cons, List.not_mem_nil, or_false] at hv
    rcases hv with rfl | rfl | rfl | rfl
    · exact QA.out.keep hk (Nat.le_refl _)
    · exact QC.out.keep hk (Nat.le_refl _)
    · exact QX.out.keep hk (Nat.le_refl _)
    · exact QY.out.keep hk (Nat.le_refl _)
  obtain ⟨vs, h4, hstart'⟩ : ∃ vs : List Value, vs.length = 4 ∧ Mut 21 22 w2 w2.heap.size w8.heap.size vs _ := ⟨_, rfl, hstart⟩
  have HM := Lib.hid hstart'
  have H4 := Lib.hid h4
  clear h4 hstart' hstart QA QC QX QY JA JB JC JD JX JY JV JU XI XI' XR XR' XC XC' XW XK XK' XE XE' XS WA WC WX WY D3 D4 D5 D6 D7 D8 B3 B4 B5 B6 B7
  go_loopw [135] (fun i wr => ∃ k : Nat, k ≤ 4 ∧ i = .int .i64 k ∧ Mut 21 22 w2 w2.heap.size w8.heap.size vs wr) (fun i _ => 4 - (intOf i).toNat)
  case atStart => exact ⟨0, by omega, rfl, HM.out⟩
  case round =>
    obtain ⟨k, hk, rfl, hm⟩ := hrel
    clear HM
    by_cases hlt : k < 4
    · obtain ⟨a, n, cap, hv, hn, hcell⟩ := hm.row k (by rw [H4.out]; exact hlt)
      have hmem : Value.slice a n cap ∈ vs := hv ▸ List.getElem_mem _
      have Hmem := Lib.hid hmem; have HM := Lib.hid hm
      clear hv hmem hm
      go_wp2_with fail
      obtain ⟨wo, hwo⟩ : ∃ wo : World, wo = wr := ⟨_, rfl⟩
      go_loopw [141] (fun j wi => ∃ m : Nat, m ≤ n ∧ j = .int .i64 m ∧ Mut 21 22 w2 w2.heap.size w8.heap.size vs wi) (fun j _ => n - (intOf j).toNat)
      case atStart => exact ⟨0, Nat.zero_le _, rfl, HM.out⟩
      case round =>
        obtain ⟨m, hm, rfl, hmu⟩ := hrel
        clear HM hcell hwo
        by_cases hlt2 : m < n
        · obtain ⟨g, z, rfl, hg1, hg2, hcell, hfz⟩ := hmu.at_ Hmem.out m hlt2
          have HM := Lib.hid hmu
          clear hmu
          go_wp2_with fail
          go_roundw
          case rel => exact ⟨m + 1, by omega, by go_num, HM.out.set g m _ hg1 hg2⟩
          case measure => simp [intOf]; omega
        · have HM := Lib.hid hmu
          clear hmu
          go_wp2_with fail
          go_roundw
          case rel => exact ⟨k + 1, by omega, by go_num, HM.out⟩
          case measure => simp [intOf]; omega
    · have hbel := hm.below
      have HF2 := Lib.hid (XF.out wr _ (B2.out.trans (hbel.mono B2.out.size)) (IW.out.keep hbel hbel.size))
      have HB := Lib.hid (B2.out.trans (hbel.mono B2.out.size))
      clear hm hbel
      go_wp2_with fail
      refine HF2.out.mono ?_
      rintro e w10 ⟨rfl, q7, rfl⟩
      go_wp2_with fail
      go_ret
      exact ⟨rfl, below_drewN HB.out q7⟩

theorem changes_walk (a1 a2 : Option Addr) (c1 c2 : Nat) (r s : List Int) (at_ : Int) (w : World) (ht : TabAt w) (hg : 5 < w.heap.size)
    (i1 : Ints .i32 w w.heap.size (.slice a1 r.length c1) r) (i2 : Ints .i32 w w.heap.size (.slice a2 s.length c2) s) :
    Calls Tryd.prog 5 #[.slice a1 r.length c1, .int .i64 at_, .slice a2 s.length c2] w fun e w' => e = .returned (.bool true) ∧ Below w.heap.size w w' := by
  by_cases hb : 200 < r.length ∨ 200 < s.length
  · obtain ⟨⟨b1, d1, h1, r1⟩, -⟩ := i1
    obtain ⟨⟨b2, d2, h2, r2⟩, -⟩ := i2
    exact changes_big a1 a2 c1 c2 r s at_ w ht hg hb (Nat.le_trans r1.le r1.max) (Nat.le_trans r2.le r2.max)
  · exact changes_small a1 a2 c1 c2 r s at_ w ht hg i1 i2 (by omega) (by omega)

end Go.Proofs.YtdafbpjgjhfjmaaDoor
