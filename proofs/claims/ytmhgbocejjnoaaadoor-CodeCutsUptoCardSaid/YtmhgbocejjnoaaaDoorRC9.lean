/- CodeCuts' card, where what is read is of bulk at most 1048576: for every tree and byte the law returns true; its row lists tables and errors of the library. Conditions: the bulk, and the row's own. -/
import Derived.Test.YtmhgbocejjnoaaaDoorRDK
import Derived.Test.YtmhgbocejjnoaaaDoorRFE
namespace Go.Proofs.YtmhgbocejjnoaaaDoor
open Go.ChangeShapes Go.WideShapes Go.ChangeAt Go.RowKit Go.Redl
open Go.ChangeMaps (open_string shut_string)
set_option linter.unusedVariables false
set_option maxRecDepth 100000
theorem u8_bounds {b : Int} (h : (Lit.int .u8 b).wf = true) : 0 ≤ b ∧ b ≤ 255 := by
  have h1 : IntKind.u8.min = 0 := by decide
  have h2 : IntKind.u8.max = 255 := by decide
  simp only [Lit.wf, Bool.and_eq_true, decide_eq_true_eq, h1, h2] at h
  exact h
theorem cuts_walk' (n : NodeD) (v : Value) (b : Int) (w : World) (hn : n.wt ≤ 1048576) (hv : NodeV w w.heap.size n v) (hT : TabAt w ∧ 3 < w.heap.size ∧ ErrsAt w) (hb : 0 ≤ b ∧ b ≤ 255) :
    Calls Tryd.prog 5 #[v, .int .u8 b] w fun e w' => e = .returned (.bool true) ∧ Below w.heap.size w w' := by
  have h := cuts_walk n v (UInt8.ofNat b.toNat) w hn hv hT.1 hT.2.2 hT.2.1
  have e : (((UInt8.ofNat b.toNat).toNat : Nat) : Int) = b := by rw [UInt8.toNat_ofNat', Nat.mod_eq_of_lt (by omega)]; omega
  rwa [e] at h
theorem laidC_tab {W : World} (h : laidMetH Tryd.prog Rows.codeCutsUptoRow.laid W) : TabAt W ∧ 3 < W.heap.size ∧ ErrsAt W := by
  rw [MakeChecks.laidMetH_plain _ _ _ (by kernel_rfl)] at h
  have t1 := laidMet.tail (show laidMet Tryd.prog (_ :: _) W from h)
  have t2 := laidMet.tail (show laidMet Tryd.prog (_ :: _) W from t1)
  have t3 := laidMet.tail (show laidMet Tryd.prog (_ :: _) W from t2)
  have t4 := laidMet.tail (show laidMet Tryd.prog (_ :: _) W from t3)
  have t5 := laidMet.tail (show laidMet Tryd.prog (_ :: _) W from t4)
  have h1 := Lib.tabIs_of_head (k := .u8) (zs := dB64) (g := 3) (t := 136) (e := 5) (n := 64) (by kernel_rfl) (by kernel_rfl) Tryd.underlying136 Tryd.underlying5 (by kernel_rfl) (by kernel_rfl) t1
  have h2 := h1.cell (g := 3) (by kernel_rfl) 15 (by decide)
  obtain ⟨a1, s1, hv1, hc1, ht1, _⟩ := laid_sentinel (g := 5) (show laidMet Tryd.prog (_ :: _) W from t4) (by kernel_rfl) (by kernel_rfl) Tryd.underlying63 row_err Tryd.underlying152 Tryd.underlying154 rfl rfl Tryd.underlying9 (by kernel_rfl) (by kernel_rfl)
  have c1 := err_at (g := 5) (by kernel_rfl) hv1
  obtain ⟨a0, s0, hv0, hc0, ht0, _⟩ := laid_sentinel (g := 4) (show laidMet Tryd.prog (_ :: _) W from t5) (by kernel_rfl) (by kernel_rfl) Tryd.underlying63 row_err Tryd.underlying152 Tryd.underlying154 rfl rfl Tryd.underlying9 (by kernel_rfl) (by kernel_rfl)
  have c0 := err_at (g := 4) (by kernel_rfl) hv0
  exact ⟨h2, World.block_lt_of_cell? W _ h2, ⟨_, _, c0⟩, ⟨_, _, c1⟩, World.block_lt_of_cell? W _ c0, World.block_lt_of_cell? W _ c1⟩


theorem codeCuts_reads (os : Os) {H : Type} (enc : TypeId × Value → H) : ∃ places, DataW.whole enc Tryd.prog ((World.laidAll Tryd.prog os Rows.codeCutsUptoRow.laid).forCall (fun _ _ => 0) ⟨#[], #[.agg #[.bool false, .slice none 0 0, .slice none 0 0, .slice none 0 0], .int .u8 0], []⟩).memory Tryd.f5.params.toList Rows.codeCutsSpec.vars false (#[.agg #[.bool false, .slice none 0 0, .slice none 0 0, .slice none 0 0], .int .u8 0] : Array Value).toList 8 = some ([.agg [.lit (.bool false), .nil, .nil, .nil], .lit (.int .u8 0)], [], places) :=
  ⟨[], by kernel_rfl⟩

theorem codeCuts_contract (H : Type) (enc : TypeId × Value → H) (W : World) (base : Nat) (args : Array Value) (ds gs : List (DataW H)) (before : List MemPlace)
    (hval0 : ∀ (j : Nat) t v, Tryd.f5.params[j]? = some t → args[j]? = some v → Value.okWide Tryd.prog W .any base t v)
    (hW : DataW.Whole enc Tryd.prog Tryd.f5.params.toList Rows.codeCutsSpec.vars false W args.toList ds gs before) (hk : Rows.uptoSmall H (ds ++ gs) = true) (hL : laidMetH Tryd.prog Rows.codeCutsUptoRow.laid W) :
    Calls Tryd.prog 5 args W fun e W' => ∃ v, e = .returned v ∧ Rows.codeCutsSpec.post enc Tryd.prog Tryd.f5 false true false false W args v W' := by
  have hval : ∀ (j : Nat) t v, Tryd.f5.params[j]? = some t → args[j]? = some v → Value.okWide Tryd.prog W .any base t v := hval0
  have hW' := hW
  obtain ⟨p, q, hA0, hV, rfl, hfz, hnd⟩ := hW
  have hA : DataW.TrodAll enc Tryd.prog W 0 (fun _ => true) true Tryd.f5.params.toList args.toList ds p := hA0
  rw [Tryd.params5] at hA hval
  obtain ⟨v0, vs0, d0, ds0, p0, q0, hargs, rfl, rfl, h0, r0⟩ := trodAll_cons hA
  obtain ⟨v1, vs1, d1, ds1, p1, q1, rfl, rfl, rfl, h1, r1⟩ := trodAll_cons r0
  obtain ⟨rfl, rfl, rfl⟩ := trodAll_nil r1
  obtain rfl : args = #[v0, v1] := by cases args; simp_all
  obtain ⟨rfl, rfl⟩ := trodVars_none hV
  obtain ⟨cs0, rfl, hsz0⟩ := okWide_struct Tryd.underlying26 (hval 0 26 v0 rfl rfl)
  have k0 := h0
  have lt0 : ∀ x ∈ p0, x.block < W.heap.size := by obtain ⟨m, hm⟩ := k0; exact DataW.trod_lt m _ _ _ hm
  obtain ⟨n0, i0, u0⟩ : ∃ n, NodeV W W.heap.size n (.agg cs0) ∧ n.wt ≤ Rows.uptoBulk d0 := by
    obtain ⟨fuel, hf⟩ := h0
    obtain ⟨n, h1, h2⟩ := node_of_trod fuel _ _ hf
    exact ⟨n, ⟨cs0.toList, by simp, h1⟩, h2⟩
  obtain ⟨a1, rfl, rfl, rfl, w1⟩ := open_int Tryd.underlying5 (hval 1 5 v1 rfl rfl) h1
  have hb : Rows.uptoBulkAll _ ≤ 1048576 := of_decide_eq_true hk
  simp only [List.append_nil, Rows.uptoBulkAll, Nat.add_zero] at hb
  have hT := laidC_tab hL
  clear hA0 hval0
  refine (cuts_walk' n0 _ a1 W (Nat.le_trans u0 (by omega)) i0 hT (u8_bounds w1)).mono fun e W' ⟨he, bel⟩ => ?_
  subst he
  exact ⟨_, rfl, _, _, _, [], _, [], hW', trodAll_mk1 (shut_bool Tryd.underlying4 _), (trodAll_cons_mk (Below.trod laidOut (by kernel_rfl) (of_decide_eq_true (by kernel_rfl)) k0 bel lt0) (trodAll_cons_mk (shut_int Tryd.underlying5 w1) trodAll_mk0)), rfl, bel.frame _, fun h => by cases h⟩

theorem codeCuts_lifted (os : Os) (started : os.Started) (H : Type) (enc : TypeId × Value → H) (F : Stop.Interp) :
    ReturnsInHanded {} Tryd.checked os 5 .any ((Rows.OpenSpec.upto Rows.codeCutsSpec).preRow enc Tryd.prog Tryd.f5 Rows.codeCutsUptoRow.domain false Rows.codeCutsUptoRow.laid) (((Rows.OpenSpec.upto Rows.codeCutsSpec).at F).post enc Tryd.prog Tryd.f5 false true false false) := by
  obtain ⟨places, hx⟩ := codeCuts_reads os enc
  refine returnsInHanded_of_row (C := Tryd.checked) (s := Rows.OpenSpec.upto Rows.codeCutsSpec) own started (by kernel_rfl) Tryd.func5
    (witness_row_atRef (enc := enc) (C := Tryd.checked) false (World.laidAll Tryd.prog os Rows.codeCutsUptoRow.laid) #[.agg #[.bool false, .slice none 0 0, .slice none 0 0, .slice none 0 0], .int .u8 0] (World.laidAll_os _ _ _) (by kernel_rfl) (by kernel_rfl) (by kernel_rfl)
      (OpenSpec.preRow_of_cond 8 hx (by kernel_rfl) (fun k hk => by cases hk; kernel_rfl) (by kernel_rfl) (by rw [MakeChecks.laidMetH_plain _ _ _ (by kernel_rfl)]; exact laidMet_laidAll _ (by kernel_rfl) (by kernel_rfl)))) ?_
  intro W base args ds gs before hval hW _ hcond _ hL _ _
  exact codeCuts_contract H enc W base args ds gs before hval hW (hcond _ rfl) hL

theorem codeCuts_said : Rows.CodeCutsUptoSaid :=
  OpenClaim.holds_of_cond 5 Tryd.f5 rfl rfl rfl rfl rfl rfl rfl ⟨rfl, rfl, rfl, rfl, rfl⟩ rfl rfl rfl rfl rfl (by kernel_rfl) Tryd.func5 (by kernel_rfl)
    (of_decide_eq_true (by kernel_rfl)) (by unfold Func.isWrapper; rw [if_neg (by decide +kernel)]; exact ⟨rfl, rfl⟩)
    (fun os started H enc _ F => by rw [OpenClaim.pre_eq_preRow]; exact codeCuts_lifted os started H enc F)

/-- The statement. -/
theorem codeCuts_card : Rows.CodeCutsUptoCardSaid :=
  Claim7.holds_tied_plain_at .later [] _ _ _ _ codeCuts_said (fun _ h => by cases h) (by kernel_rfl) (fun _ h => by cases h) codeCutsUpto_row_tie rfl ⟨rfl, rfl⟩ (by kernel_rfl) rfl
    (fun f fn hf hfn => by
      obtain rfl : f = 5 := Option.some.inj ((show Tryd.prog.funcNamed Rows.codeCutsUptoRow.func = some 5 by kernel_rfl).symm.trans hf) |>.symm
      obtain rfl : fn = Tryd.f5 := (Option.some.inj (Tryd.func5.symm.trans hfn)).symm
      exact ⟨by kernel_rfl, fun j t ht => by
        rw [Tryd.params5] at ht
        have hm : t ∈ [26, 5] := by simpa using Array.mem_of_getElem? ht
        have hall : ([26, 5].all fun u => !Tryd.prog.wantsStandIn u) = true := by kernel_rfl
        exact (show Tryd.prog.wantsStandIn t = false by simpa using List.all_eq_true.1 hall t hm)⟩)
    (by kernel_rfl)
#print axioms codeCuts_card

end Go.Proofs.YtmhgbocejjnoaaaDoor
