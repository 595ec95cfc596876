/- CodeParses' card, where what is read is of bulk at most 1048576: for every text the law returns true; its row lists tables and errors of the library. Conditions: the bulk, and the row's own. -/
import Derived.Test.YtmhgbocejjnoaaaGreatDoorPC13
namespace Go.Proofs.YtmhgbocejjnoaaaGreatDoor
open Go.ChangeShapes Go.WideShapes Go.ChangeAt Go.RowKit Go.Redl
open Go.ChangeMaps (open_string shut_string)
set_option linter.unusedVariables false
set_option maxRecDepth 100000
theorem parses_walk' (s : ByteArray) (w : World) (hT : TabAt w ∧ 7 < w.heap.size ∧ ErrsAt w) :
    Calls Tryz.prog 3 #[.string s] w fun e w' => e = .returned (.bool true) ∧ Below w.heap.size w w' := by
  have h := parses_walk s.data.toList w hT.1 hT.2.2 hT.2.1
  rwa [list_string] at h
theorem laidS_tab {W : World} (h : laidMetH Tryz.prog Rows.codeParsesUptoRow.laid W) : TabAt W ∧ 7 < W.heap.size ∧ ErrsAt W := by
  rw [MakeChecks.laidMetH_plain _ _ _ (by kernel_rfl)] at h
  have t1 := laidMet.tail (show laidMet Tryz.prog (_ :: _) W from h)
  have t2 := laidMet.tail (show laidMet Tryz.prog (_ :: _) W from t1)
  have t3 := laidMet.tail (show laidMet Tryz.prog (_ :: _) W from t2)
  have t4 := laidMet.tail (show laidMet Tryz.prog (_ :: _) W from t3)
  have t5 := laidMet.tail (show laidMet Tryz.prog (_ :: _) W from t4)
  have h1 := Lib.tabIs_of_head (k := .u8) (zs := dB64) (g := 7) (t := 149) (e := 5) (n := 64) (by kernel_rfl) (by kernel_rfl) Tryz.underlying149 Tryz.underlying5 (by kernel_rfl) (by kernel_rfl) t1
  have h2 := h1.cell (g := 7) (by kernel_rfl) 15 (by decide)
  obtain ⟨a1, s1, hv1, hc1, ht1, _⟩ := laid_sentinel (g := 3) (show laidMet Tryz.prog (_ :: _) W from t4) (by kernel_rfl) (by kernel_rfl) Tryz.underlying76 row_err Tryz.underlying145 Tryz.underlying147 rfl rfl Tryz.underlying9 (by kernel_rfl) (by kernel_rfl)
  have c1 := err_at (g := 3) (by kernel_rfl) hv1
  obtain ⟨a0, s0, hv0, hc0, ht0, _⟩ := laid_sentinel (g := 2) (show laidMet Tryz.prog (_ :: _) W from t5) (by kernel_rfl) (by kernel_rfl) Tryz.underlying76 row_err Tryz.underlying145 Tryz.underlying147 rfl rfl Tryz.underlying9 (by kernel_rfl) (by kernel_rfl)
  have c0 := err_at (g := 2) (by kernel_rfl) hv0
  exact ⟨h2, World.block_lt_of_cell? W _ h2, ⟨_, _, c0⟩, ⟨_, _, c1⟩, World.block_lt_of_cell? W _ c0, World.block_lt_of_cell? W _ c1⟩


theorem codeParses_reads (os : Os) {H : Type} (enc : TypeId × Value → H) : ∃ places, DataW.whole enc Tryz.prog ((World.laidAll Tryz.prog os Rows.codeParsesUptoRow.laid).forCall (fun _ _ => 0) ⟨#[], #[.string ⟨#[]⟩], []⟩).memory Tryz.f3.params.toList Rows.codeParsesSpec.vars false (#[.string ⟨#[]⟩] : Array Value).toList 8 = some ([.lit (.string [])], [], places) :=
  ⟨[], by kernel_rfl⟩

theorem codeParses_contract (H : Type) (enc : TypeId × Value → H) (W : World) (base : Nat) (args : Array Value) (ds gs : List (DataW H)) (before : List MemPlace)
    (hval0 : ∀ (j : Nat) t v, Tryz.f3.params[j]? = some t → args[j]? = some v → Value.okWide Tryz.prog W .any base t v)
    (hW : DataW.Whole enc Tryz.prog Tryz.f3.params.toList Rows.codeParsesSpec.vars false W args.toList ds gs before) (hk : Rows.uptoSmall H (ds ++ gs) = true) (hL : laidMetH Tryz.prog Rows.codeParsesUptoRow.laid W) :
    Calls Tryz.prog 3 args W fun e W' => ∃ v, e = .returned v ∧ Rows.codeParsesSpec.post enc Tryz.prog Tryz.f3 false true false false W args v W' := by
  have hval : ∀ (j : Nat) t v, Tryz.f3.params[j]? = some t → args[j]? = some v → Value.okWide Tryz.prog W .any base t v := hval0
  have hW' := hW
  obtain ⟨p, q, hA0, hV, rfl, hfz, hnd⟩ := hW
  have hA : DataW.TrodAll enc Tryz.prog W 0 (fun _ => true) true Tryz.f3.params.toList args.toList ds p := hA0
  rw [Tryz.params3] at hA hval
  obtain ⟨v0, vs0, d0, ds0, p0, q0, hargs, rfl, rfl, h0, r0⟩ := trodAll_cons hA
  obtain ⟨rfl, rfl, rfl⟩ := trodAll_nil r0
  obtain rfl : args = #[v0] := by cases args; simp_all
  obtain ⟨rfl, rfl⟩ := trodVars_none hV
  obtain ⟨a0, rfl, rfl, rfl, w0⟩ := open_string Tryz.underlying9 (hval 0 9 v0 rfl rfl) h0
  have hb : Rows.uptoBulkAll _ ≤ 1048576 := of_decide_eq_true hk
  simp only [List.append_nil, Rows.uptoBulkAll, Nat.add_zero] at hb
  have hT := laidS_tab hL
  clear hA0 hval0
  refine (parses_walk' a0 W hT).mono fun e W' ⟨he, bel⟩ => ?_
  subst he
  exact ⟨_, rfl, _, _, _, [], _, [], hW', trodAll_mk1 (shut_bool Tryz.underlying4 _), (trodAll_cons_mk (shut_string Tryz.underlying9 w0) trodAll_mk0), rfl, bel.frame _, fun h => by cases h⟩

theorem codeParses_lifted (os : Os) (started : os.Started) (H : Type) (enc : TypeId × Value → H) (F : Stop.Interp) :
    ReturnsInHanded {} Tryz.checked os 3 .any ((Rows.OpenSpec.upto Rows.codeParsesSpec).preRow enc Tryz.prog Tryz.f3 Rows.codeParsesUptoRow.domain false Rows.codeParsesUptoRow.laid) (((Rows.OpenSpec.upto Rows.codeParsesSpec).at F).post enc Tryz.prog Tryz.f3 false true false false) := by
  obtain ⟨places, hx⟩ := codeParses_reads os enc
  refine returnsInHanded_of_row (C := Tryz.checked) (s := Rows.OpenSpec.upto Rows.codeParsesSpec) own started (by kernel_rfl) Tryz.func3
    (witness_row_atRef (enc := enc) (C := Tryz.checked) false (World.laidAll Tryz.prog os Rows.codeParsesUptoRow.laid) #[.string ⟨#[]⟩] (World.laidAll_os _ _ _) (by kernel_rfl) (by kernel_rfl) (by kernel_rfl)
      (OpenSpec.preRow_of_cond 8 hx (by kernel_rfl) (fun k hk => by cases hk; kernel_rfl) (by kernel_rfl) (by rw [MakeChecks.laidMetH_plain _ _ _ (by kernel_rfl)]; exact laidMet_laidAll _ (by kernel_rfl) (by kernel_rfl)))) ?_
  intro W base args ds gs before hval hW _ hcond _ hL _ _
  exact codeParses_contract H enc W base args ds gs before hval hW (hcond _ rfl) hL

theorem codeParses_said : Rows.CodeParsesUptoSaid :=
  OpenClaim.holds_of_cond 3 Tryz.f3 rfl rfl rfl rfl rfl rfl rfl ⟨rfl, rfl, rfl, rfl, rfl⟩ rfl rfl rfl rfl rfl (by kernel_rfl) Tryz.func3 (by kernel_rfl)
    (of_decide_eq_true (by kernel_rfl)) (by unfold Func.isWrapper; rw [if_neg (by decide +kernel)]; exact ⟨rfl, rfl⟩)
    (fun os started H enc _ F => by rw [OpenClaim.pre_eq_preRow]; exact codeParses_lifted os started H enc F)

/-- The statement. -/
theorem codeParses_card : Rows.CodeParsesUptoCardSaid :=
  Claim7.holds_tied_plain_at .later [] _ _ _ _ codeParses_said (fun _ h => by cases h) (by kernel_rfl) (fun _ h => by cases h) codeParsesUpto_row_tie rfl ⟨rfl, rfl⟩ (by kernel_rfl) rfl
    (fun f fn hf hfn => by
      obtain rfl : f = 3 := Option.some.inj ((show Tryz.prog.funcNamed Rows.codeParsesUptoRow.func = some 3 by kernel_rfl).symm.trans hf) |>.symm
      obtain rfl : fn = Tryz.f3 := (Option.some.inj (Tryz.func3.symm.trans hfn)).symm
      exact ⟨by kernel_rfl, fun j t ht => by
        rw [Tryz.params3] at ht
        have hm : t ∈ [9] := by simpa using Array.mem_of_getElem? ht
        have hall : ([9].all fun u => !Tryz.prog.wantsStandIn u) = true := by kernel_rfl
        exact (show Tryz.prog.wantsStandIn t = false by simpa using List.all_eq_true.1 hall t hm)⟩)
    (by kernel_rfl)
#print axioms codeParses_card

end Go.Proofs.YtmhgbocejjnoaaaGreatDoor
