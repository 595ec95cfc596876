/- Parts of the proof, one behind the other: RYP. -/
import Derived.Test.YtbommcakcmhalaaGreatDoorLM29
import Derived.Test.YtbommcakcmhalaaGreatDoorCards
import Derived.Test.YtbommcakcmhalaaGreatDoorTie
import Derived.ShutString
import Derived.Lib.LaidTab
import Derived.Stop.LaidErr
import Derived.Lay
import Derived.SevenTiedAt
/- FixLess's contract, where what is read is of bulk at most 1048576: for every schema, tree and path the law returns true. Conditions: the bulk, and the row's own. -/
set_option linter.unusedVariables false
set_option linter.unusedSimpArgs false
namespace Go.Proofs.YtbommcakcmhalaaGreatDoor
open Go.ChangeShapes Go.WideShapes Go.ChangeAt Go.RowKit Go.Redl
set_option maxRecDepth 100000
theorem fixLess_reads (os : Os) {H : Type} (enc : TypeId × Value -> H) : ∃ places, DataW.whole enc Tryz.prog ((World.laidAll Tryz.prog os Rows.fixLessUptoRow.laid).forCall (fun _ _ => 0) ⟨#[], #[.agg #[.slice none 0 0, .string ⟨#[]⟩, .int .i64 0, .string ⟨#[]⟩, .int .i64 0, .string ⟨#[]⟩, .slice none 0 0, .int .i64 0, .string ⟨#[]⟩, .int .i64 0, .int .i64 0, .int .i64 0, .int .i64 0, .int .i64 0, .int .i64 0, .int .i64 0], .agg #[.bool false, .slice none 0 0, .slice none 0 0, .slice none 0 0], .slice none 0 0], []⟩).memory Tryz.f3.params.toList Rows.fixLessSpec.vars false (#[.agg #[.slice none 0 0, .string ⟨#[]⟩, .int .i64 0, .string ⟨#[]⟩, .int .i64 0, .string ⟨#[]⟩, .slice none 0 0, .int .i64 0, .string ⟨#[]⟩, .int .i64 0, .int .i64 0, .int .i64 0, .int .i64 0, .int .i64 0, .int .i64 0, .int .i64 0], .agg #[.bool false, .slice none 0 0, .slice none 0 0, .slice none 0 0], .slice none 0 0] : Array Value).toList 8 = some ([.agg [.nil, .agg [.lit (.string []), .agg [.lit (.int .i64 0), .lit (.string [])], .agg [.lit (.int .i64 0), .lit (.string [])], .nil, .lit (.int .i64 0), .lit (.string [])], .agg [.lit (.int .i64 0), .lit (.int .i64 0), .lit (.int .i64 0), .lit (.int .i64 0), .lit (.int .i64 0), .lit (.int .i64 0)], .lit (.int .i64 0)], .agg [.lit (.bool false), .nil, .nil, .nil], .nil], [], places) :=
 ⟨[], by kernel_rfl⟩
theorem fixLess_contract (H : Type) (enc : TypeId × Value -> H) (W : World) (base : Nat) (args : Array Value) (ds gs : List (DataW H)) (before : List MemPlace)
 (hval0 : ∀ (j : Nat) t v, Tryz.f3.params[j]? = some t -> args[j]? = some v -> Value.okWide Tryz.prog W .any base t v)
 (hW : DataW.Whole enc Tryz.prog Tryz.f3.params.toList Rows.fixLessSpec.vars false W args.toList ds gs before) (hk : Rows.uptoSmall H (ds ++ gs) = true) (hL : laidMetH Tryz.prog Rows.fixLessUptoRow.laid W) :
 Calls Tryz.prog 3 args W fun e W' => ∃ v, e = .returned v /\ Rows.fixLessSpec.post enc Tryz.prog Tryz.f3 false true false false W args v W' := by
 have hval : ∀ (j : Nat) t v, Tryz.f3.params[j]? = some t -> args[j]? = some v -> Value.okWide Tryz.prog W .any base t v := hval0
 have hW' := hW
 obtain ⟨p, q, hA0, hV, rfl, hfz, hnd⟩ := hW
 have hA : DataW.TrodAll enc Tryz.prog W 0 (fun _ => true) true Tryz.f3.params.toList args.toList ds p := hA0
 rw [Tryz.params3] at hA hval
 obtain ⟨v0, vs0, d0, ds0, p0, q0, hargs, rfl, rfl, h0, r0⟩ := trodAll_cons hA
 obtain ⟨v1, vs1, d1, ds1, p1, q1, rfl, rfl, rfl, h1, r1⟩ := trodAll_cons r0
 obtain ⟨v2, vs2, d2, ds2, p2, q2, rfl, rfl, rfl, h2, r2⟩ := trodAll_cons r1
 obtain ⟨rfl, rfl, rfl⟩ := trodAll_nil r2
 obtain rfl : args = #[v0, v1, v2] := by cases args; simp_all
 obtain ⟨rfl, rfl⟩ := trodVars_none hV
 obtain ⟨cs0, rfl, hsz0⟩ := okWide_struct Tryz.underlying30 (hval 0 30 v0 rfl rfl)
 have k0 := h0
 have lt0 : ∀ x ∈ p0, x.block < W.heap.size := by obtain ⟨m, hm⟩ := k0; exact DataW.trod_lt m _ _ _ hm
 obtain ⟨n0, i0, u0⟩ : ∃ n, SchemaV W W.heap.size n (.agg cs0) /\ n.wt <= Rows.uptoBulk d0 := by
  obtain ⟨fuel, hf⟩ := h0
  obtain ⟨n, h1, h2⟩ := schema_of_trod hf
  exact ⟨n, ⟨cs0.toList, by simp, h1⟩, h2⟩
 obtain ⟨cs1, rfl, hsz1⟩ := okWide_struct Tryz.underlying35 (hval 1 35 v1 rfl rfl)
 have k1 := h1
 have lt1 : ∀ x ∈ p1, x.block < W.heap.size := by obtain ⟨m, hm⟩ := k1; exact DataW.trod_lt m _ _ _ hm
 obtain ⟨n1, i1, u1⟩ : ∃ n, NodeV W W.heap.size n (.agg cs1) /\ n.wt <= Rows.uptoBulk d1 := by
  obtain ⟨fuel, hf⟩ := h1
  obtain ⟨n, h1, h2⟩ := node_of_trod fuel _ _ hf
  exact ⟨n, ⟨cs1.toList, by simp, h1⟩, h2⟩
 obtain ⟨a2, len2, cap2, rfl⟩ := okWide_slice Tryz.underlying36 (hval 2 36 v2 rfl rfl)
 have k2 := h2
 have lt2 : ∀ x ∈ p2, x.block < W.heap.size := by obtain ⟨m, hm⟩ := k2; exact DataW.trod_lt m _ _ _ hm
 obtain ⟨n2, hl2, i2, u2⟩ : ∃ zs : List Int, len2 = zs.length /\ RowA W W.heap.size 1 a2 zs.length cap2 (zs.map (Value.int .i64)) /\ zs.length + 1 <= Rows.uptoBulk d2 := by
  obtain ⟨fuel, hf⟩ := h2
  obtain ⟨a, cap, zs, h0, h1, h2⟩ := path_of_trod hf
  simp [Value.cells] at h0
  obtain ⟨rfl, rfl, rfl⟩ := h0
  exact ⟨zs, rfl, h1, h2⟩
 subst hl2
 have hb : Rows.uptoBulkAll _ <= 1048576 := of_decide_eq_true hk
 simp only [List.append_nil, Rows.uptoBulkAll, Nat.add_zero] at hb
 clear hA0 hval0
 refine (fixless_walk n0 n1 _ _ n2 _ _ W (by omega) (by omega) (by omega) i0 i1 i2).mono fun e W' ⟨he, bel⟩ => ?_
 subst he
 exact ⟨_, rfl, _, _, _, [], _, [], hW', trodAll_mk1 (shut_bool Tryz.underlying4 _), (trodAll_cons_mk (Below.trod laidOut (by kernel_rfl) (of_decide_eq_true (by kernel_rfl)) k0 bel lt0) (trodAll_cons_mk (Below.trod laidOut (by kernel_rfl) (of_decide_eq_true (by kernel_rfl)) k1 bel lt1) (trodAll_cons_mk (Below.trod laidOut (by kernel_rfl) (of_decide_eq_true (by kernel_rfl)) k2 bel lt2) trodAll_mk0))), rfl, bel.frame _, fun h => by cases h⟩
theorem fixLess_lifted (os : Os) (started : os.Started) (H : Type) (enc : TypeId × Value -> H) (F : Stop.Interp) :
 ReturnsInHanded {} Tryz.checked os 3 .any ((Rows.OpenSpec.upto Rows.fixLessSpec).preRow enc Tryz.prog Tryz.f3 Rows.fixLessUptoRow.domain false Rows.fixLessUptoRow.laid) (((Rows.OpenSpec.upto Rows.fixLessSpec).at F).post enc Tryz.prog Tryz.f3 false true false false) := by
 obtain ⟨places, hx⟩ := fixLess_reads os enc
 refine returnsInHanded_of_row (C := Tryz.checked) (s := Rows.OpenSpec.upto Rows.fixLessSpec) own started (by kernel_rfl) Tryz.func3
  (witness_row_atRef (enc := enc) (C := Tryz.checked) false (World.laidAll Tryz.prog os Rows.fixLessUptoRow.laid) #[.agg #[.slice none 0 0, .string ⟨#[]⟩, .int .i64 0, .string ⟨#[]⟩, .int .i64 0, .string ⟨#[]⟩, .slice none 0 0, .int .i64 0, .string ⟨#[]⟩, .int .i64 0, .int .i64 0, .int .i64 0, .int .i64 0, .int .i64 0, .int .i64 0, .int .i64 0], .agg #[.bool false, .slice none 0 0, .slice none 0 0, .slice none 0 0], .slice none 0 0] (World.laidAll_os _ _ _) (by kernel_rfl) (by kernel_rfl) (by kernel_rfl)
    (OpenSpec.preRow_of_cond 8 hx (by kernel_rfl) (fun k hk => by cases hk; kernel_rfl) (by kernel_rfl) (by rw [MakeChecks.laidMetH_plain _ _ _ (by kernel_rfl)]; exact laidMet_laidAll _ (by kernel_rfl) (by kernel_rfl)))) ?_
 intro W base args ds gs before hval hW _ hcond _ hL _ _
 exact fixLess_contract H enc W base args ds gs before hval hW (hcond _ rfl) hL
end Go.Proofs.YtbommcakcmhalaaGreatDoor
