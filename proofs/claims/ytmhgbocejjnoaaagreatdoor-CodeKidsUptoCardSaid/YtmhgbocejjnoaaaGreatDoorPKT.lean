/- CodeKids' card, where what is read is of bulk at most 1048576: for every two trees the law returns true; its row lists tables and errors of the library. Conditions: the bulk, and the row's own. -/
import Derived.Test.YtmhgbocejjnoaaaGreatDoorPK7
namespace Go.Proofs.YtmhgbocejjnoaaaGreatDoor
open Go.ChangeShapes Go.WideShapes Go.ChangeAt Go.RowKit Go.Redl
open Go.ChangeMaps (open_string shut_string)
set_option linter.unusedVariables false
set_option maxRecDepth 100000
theorem laidK_tab {W : World} (h : laidMetH Tryz.prog Rows.codeKidsUptoRow.laid W) : TabAt W ∧ 7 < W.heap.size ∧ ErrsAt W := by
  rw [MakeChecks.laidMetH_plain _ _ _ (by kernel_rfl)] at h
  have t1 := laidMet.tail (show laidMet Tryz.prog (_ :: _) W from h)
  have t2 := laidMet.tail (show laidMet Tryz.prog (_ :: _) W from t1)
  have t3 := laidMet.tail (show laidMet Tryz.prog (_ :: _) W from t2)
  have t4 := laidMet.tail (show laidMet Tryz.prog (_ :: _) W from t3)
  have t5 := laidMet.tail (show laidMet Tryz.prog (_ :: _) W from t4)
  have h1 := Lib.tabIs_of_head (k := .u8) (zs := dB64) (g := 7) (t := 149) (e := 5) (n := 64) (by kernel_rfl) (by kernel_rfl) Tryz.underlying149 Tryz.underlying5 (by kernel_rfl) (by kernel_rfl) t1
  have h2 := h1.cell (g := 7) (by kernel_rfl) 15 (by decide)
  obtain ⟨a1, s1, hv1, hc1, ht1, _⟩ := laid_sentinel (g := 3) (show laidMet Tryz.prog (_ :: _) W from t4) (by kernel_rfl) (by kernel_rfl) Tryz.underlying76 row_err Tryz.underlying145 Tryz.underlying147 rfl rfl Tryz.underlying9 (by kernel_rfl) (by kernel_rfl)
  have c1 := err_at (g := 3) (by kernel_rfl) hv1
  obtain ⟨a0, s0, hv0, hc0, ht0, _⟩ := laid_sentinel (g := 2) (show laidMet Tryz.prog (_ :: _) W from t5) (by kernel_rfl) (by kernel_rfl) Tryz.underlying76 row_err Tryz.underlying145 Tryz.underlying147 rfl rfl Tryz.underlying9 (by kernel_rfl) (by kernel_rfl)
  have c0 := err_at (g := 2) (by kernel_rfl) hv0
  exact ⟨h2, World.block_lt_of_cell? W _ h2, ⟨_, _, c0⟩, ⟨_, _, c1⟩, World.block_lt_of_cell? W _ c0, World.block_lt_of_cell? W _ c1⟩


theorem codeKids_reads (os : Os) {H : Type} (enc : TypeId × Value → H) : ∃ places, DataW.whole enc Tryz.prog ((World.laidAll Tryz.prog os Rows.codeKidsUptoRow.laid).forCall (fun _ _ => 0) ⟨#[], #[.agg #[.bool false, .slice none 0 0, .slice none 0 0, .slice none 0 0], .agg #[.bool false, .slice none 0 0, .slice none 0 0, .slice none 0 0]], []⟩).memory Tryz.f5.params.toList Rows.codeKidsSpec.vars false (#[.agg #[.bool false, .slice none 0 0, .slice none 0 0, .slice none 0 0], .agg #[.bool false, .slice none 0 0, .slice none 0 0, .slice none 0 0]] : Array Value).toList 8 = some ([.agg [.lit (.bool false), .nil, .nil, .nil], .agg [.lit (.bool false), .nil, .nil, .nil]], [], places) :=
  ⟨[], by kernel_rfl⟩

theorem codeKids_contract (H : Type) (enc : TypeId × Value → H) (W : World) (base : Nat) (args : Array Value) (ds gs : List (DataW H)) (before : List MemPlace)
    (hval0 : ∀ (j : Nat) t v, Tryz.f5.params[j]? = some t → args[j]? = some v → Value.okWide Tryz.prog W .any base t v)
    (hW : DataW.Whole enc Tryz.prog Tryz.f5.params.toList Rows.codeKidsSpec.vars false W args.toList ds gs before) (hk : Rows.uptoSmall H (ds ++ gs) = true) (hL : laidMetH Tryz.prog Rows.codeKidsUptoRow.laid W) :
    Calls Tryz.prog 5 args W fun e W' => ∃ v, e = .returned v ∧ Rows.codeKidsSpec.post enc Tryz.prog Tryz.f5 false true false false W args v W' := by
  have hval : ∀ (j : Nat) t v, Tryz.f5.params[j]? = some t → args[j]? = some v → Value.okWide Tryz.prog W .any base t v := hval0
  have hW' := hW
  obtain ⟨p, q, hA0, hV, rfl, hfz, hnd⟩ := hW
  have hA : DataW.TrodAll enc Tryz.prog W 0 (fun _ => true) true Tryz.f5.params.toList args.toList ds p := hA0
  rw [Tryz.params5] at hA hval
  obtain ⟨v0, vs0, d0, ds0, p0, q0, hargs, rfl, rfl, h0, r0⟩ := trodAll_cons hA
  obtain ⟨v1, vs1, d1, ds1, p1, q1, rfl, rfl, rfl, h1, r1⟩ := trodAll_cons r0
  obtain ⟨rfl, rfl, rfl⟩ := trodAll_nil r1
  obtain rfl : args = #[v0, v1] := by cases args; simp_all
  obtain ⟨rfl, rfl⟩ := trodVars_none hV
  obtain ⟨cs0, rfl, hsz0⟩ := okWide_struct Tryz.underlying27 (hval 0 27 v0 rfl rfl)
  have k0 := h0
  have lt0 : ∀ x ∈ p0, x.block < W.heap.size := by obtain ⟨m, hm⟩ := k0; exact DataW.trod_lt m _ _ _ hm
  obtain ⟨n0, i0, u0⟩ : ∃ n, NodeV W W.heap.size n (.agg cs0) ∧ n.wt ≤ Rows.uptoBulk d0 := by
    obtain ⟨fuel, hf⟩ := h0
    obtain ⟨n, h1, h2⟩ := node_of_trod fuel _ _ hf
    exact ⟨n, ⟨cs0.toList, by simp, h1⟩, h2⟩
  obtain ⟨cs1, rfl, hsz1⟩ := okWide_struct Tryz.underlying27 (hval 1 27 v1 rfl rfl)
  have k1 := h1
  have lt1 : ∀ x ∈ p1, x.block < W.heap.size := by obtain ⟨m, hm⟩ := k1; exact DataW.trod_lt m _ _ _ hm
  obtain ⟨n1, i1, u1⟩ : ∃ n, NodeV W W.heap.size n (.agg cs1) ∧ n.wt ≤ Rows.uptoBulk d1 := by
    obtain ⟨fuel, hf⟩ := h1
    obtain ⟨n, h1, h2⟩ := node_of_trod fuel _ _ hf
    exact ⟨n, ⟨cs1.toList, by simp, h1⟩, h2⟩
  have hb : Rows.uptoBulkAll _ ≤ 1048576 := of_decide_eq_true hk
  simp only [List.append_nil, Rows.uptoBulkAll, Nat.add_zero] at hb
  have hT := laidK_tab hL
  clear hA0 hval0
  refine (ckids_walk n0 n1 _ _ W (Nat.le_trans u0 (by omega)) (Nat.le_trans u1 (by omega)) i0 i1 hT).mono fun e W' ⟨he, bel⟩ => ?_
  subst he
  exact ⟨_, rfl, _, _, _, [], _, [], hW', trodAll_mk1 (shut_bool Tryz.underlying4 _), (trodAll_cons_mk (Below.trod laidOut (by kernel_rfl) (of_decide_eq_true (by kernel_rfl)) k0 bel lt0) (trodAll_cons_mk (Below.trod laidOut (by kernel_rfl) (of_decide_eq_true (by kernel_rfl)) k1 bel lt1) trodAll_mk0)), rfl, bel.frame _, fun h => by cases h⟩

theorem codeKids_lifted (os : Os) (started : os.Started) (H : Type) (enc : TypeId × Value → H) (F : Stop.Interp) :
    ReturnsInHanded {} Tryz.checked os 5 .any ((Rows.OpenSpec.upto Rows.codeKidsSpec).preRow enc Tryz.prog Tryz.f5 Rows.codeKidsUptoRow.domain false Rows.codeKidsUptoRow.laid) (((Rows.OpenSpec.upto Rows.codeKidsSpec).at F).post enc Tryz.prog Tryz.f5 false true false false) := by
  obtain ⟨places, hx⟩ := codeKids_reads os enc
  refine returnsInHanded_of_row (C := Tryz.checked) (s := Rows.OpenSpec.upto Rows.codeKidsSpec) own started (by kernel_rfl) Tryz.func5
    (witness_row_atRef (enc := enc) (C := Tryz.checked) false (World.laidAll Tryz.prog os Rows.codeKidsUptoRow.laid) #[.agg #[.bool false, .slice none 0 0, .slice none 0 0, .slice none 0 0], .agg #[.bool false, .slice none 0 0, .slice none 0 0, .slice none 0 0]] (World.laidAll_os _ _ _) (by kernel_rfl) (by kernel_rfl) (by kernel_rfl)
      (OpenSpec.preRow_of_cond 8 hx (by kernel_rfl) (fun k hk => by cases hk; kernel_rfl) (by kernel_rfl) (by rw [MakeChecks.laidMetH_plain _ _ _ (by kernel_rfl)]; exact laidMet_laidAll _ (by kernel_rfl) (by kernel_rfl)))) ?_
  intro W base args ds gs before hval hW _ hcond _ hL _ _
  exact codeKids_contract H enc W base args ds gs before hval hW (hcond _ rfl) hL

theorem codeKids_said : Rows.CodeKidsUptoSaid :=
  OpenClaim.holds_of_cond 5 Tryz.f5 rfl rfl rfl rfl rfl rfl rfl ⟨rfl, rfl, rfl, rfl, rfl⟩ rfl rfl rfl rfl rfl (by kernel_rfl) Tryz.func5 (by kernel_rfl)
    (of_decide_eq_true (by kernel_rfl)) (by unfold Func.isWrapper; rw [if_neg (by decide +kernel)]; exact ⟨rfl, rfl⟩)
    (fun os started H enc _ F => by rw [OpenClaim.pre_eq_preRow]; exact codeKids_lifted os started H enc F)

/-- The statement. -/
theorem codeKids_card : Rows.CodeKidsUptoCardSaid :=
  Claim7.holds_tied_plain_at .later [] _ _ _ _ codeKids_said (fun _ h => by cases h) (by kernel_rfl) (fun _ h => by cases h) codeKidsUpto_row_tie rfl ⟨rfl, rfl⟩ (by kernel_rfl) rfl
    (fun f fn hf hfn => by
      obtain rfl : f = 5 := Option.some.inj ((show Tryz.prog.funcNamed Rows.codeKidsUptoRow.func = some 5 by kernel_rfl).symm.trans hf) |>.symm
      obtain rfl : fn = Tryz.f5 := (Option.some.inj (Tryz.func5.symm.trans hfn)).symm
      exact ⟨by kernel_rfl, fun j t ht => by
        rw [Tryz.params5] at ht
        have hm : t ∈ [27, 27] := by simpa using Array.mem_of_getElem? ht
        have hall : ([27, 27].all fun u => !Tryz.prog.wantsStandIn u) = true := by kernel_rfl
        exact (show Tryz.prog.wantsStandIn t = false by simpa using List.all_eq_true.1 hall t hm)⟩)
    (by kernel_rfl)
#print axioms codeKids_card

end Go.Proofs.YtmhgbocejjnoaaaGreatDoor
