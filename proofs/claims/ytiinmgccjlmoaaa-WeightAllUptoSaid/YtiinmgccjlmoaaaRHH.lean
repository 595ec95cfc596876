/- Walks: the reference's Find. -/
import Derived.Test.YtiinmgccjlmoaaaRHG
import Derived.Deep.DeepCutAuto
import Derived.Deep.RegionHeld3
namespace Go.Proofs.Ytiinmgccjlmoaaa
open Go.RowKit Go.Redl
set_option linter.unusedVariables false

/-- The same for an operation behind '&&' or '||'. -/
theorem step_callg {P : Program} {ops : Array Oper} {o : Oper} {a : Act} {w : World} {K : Act → World → Prop} {Q : Exit → Act → World → Prop} {E : Prop}
    (hw : Region.wanted o (yielded ops a.tmps) = true) (f : FuncId) (args : Array Operand) (tys : Array TypeId) (ho : o.op = .call { callee := .value (.func f), args := args, argTypes := tys })
    (he : ∀ args w, (callFunc f args).run P w = .ok (.enter f args) w) (vals : List Value) (hv : args.toList.map a.eval = vals) (R : Ending → World → Prop) (hC : Calls P f vals.toArray w R)
    (h : ∀ e w', R e w' → ∃ v, e = .returned v ∧ K (a.put o.dst v) w') : if Region.wanted o (yielded ops a.tmps) = true then Oper.wp P o a w K Q else E := by
  rw [if_pos hw]
  unfold Oper.wp
  have hv' : args.map a.eval = vals.toArray := by rw [← hv]; apply Array.ext'; simp
  have hr : (execOp a.eval o).run P w = .ok (.enter f vals.toArray) w := by
    simp [execOp, ho, resolve, invoke, Act.eval, Deferred.ofValue, hv', he]
  rw [hr]
  show Calls P f vals.toArray w _
  refine hC.mono fun e w' hR => ?_
  obtain ⟨v, rfl, hk⟩ := h e w' hR
  exact hk
theorem findL_hit {r : RuleD} {ks : List NodeD} {c : Int} {cs : List Int} {j : Int} (h : lookN r ks c = j) (h0 : 0 ≤ j) : findL r ks (c :: cs) = (c, j, (manyN r ks c : Int)) := by
  unfold findL; rw [h, if_pos h0]
theorem findL_miss {r : RuleD} {ks : List NodeD} {c : Int} {cs : List Int} (h : lookN r ks c = -1) : findL r ks (c :: cs) = findL r ks cs := by
  conv => lhs; unfold findL
  rw [h, if_neg (by omega)]
theorem index6 (o0 o1 o2 o3 o4 o5 : Int) (k : Nat) (hk : k < 6) : ∀ w : World, (Instr.index 28 (.agg #[.int .i64 o0, .int .i64 o1, .int .i64 o2, .int .i64 o3, .int .i64 o4, .int .i64 o5]) (.int .i64 k)).run Try.prog w = .ok (.int .i64 ([o0, o1, o2, o3, o4, o5].getD k 0)) w := by
  have h : k = 0 ∨ k = 1 ∨ k = 2 ∨ k = 3 ∨ k = 4 ∨ k = 5 := by omega
  rcases h with rfl | rfl | rfl | rfl | rfl | rfl
  all_goals
    intro w
    kernel_rfl
theorem look_yes {r : RuleD} {ks : List NodeD} {c : Int} {j : Nat} (hj : j < ks.length) (h : wrongB r ks c j = true) (hb : ∀ i, i < j → wrongB r ks c i = false) : lookN r ks c = j := by
  have h6 : c ≠ 6 := by rintro rfl; simp [wrongB] at h
  unfold lookN; rw [if_neg h6]; exact idxP_some hj h hb
theorem look_no {r : RuleD} {ks : List NodeD} {c : Int} (h : ¬ (c = 6 ∧ ks.length = 0 ∧ r.fill ≠ 0)) (hb : ∀ i, i < ks.length → wrongB r ks c i = false) : lookN r ks c = -1 := by
  unfold lookN
  by_cases h6 : c = 6
  · rw [if_pos h6, if_neg (fun e => h ⟨h6, e⟩)]
  · rw [if_neg h6]; exact idxP_none hb
theorem look_six {r : RuleD} {ks : List NodeD} (h1 : ks.length = 0) (h2 : r.fill ≠ 0) : lookN r ks 6 = 0 := by
  unfold lookN; rw [if_pos rfl, if_pos ⟨h1, h2⟩]
theorem many_run {r : RuleD} {ks : List NodeD} {j : Nat} (h : lookN r ks 3 = j) : manyN r ks 3 = runA (actsOf r ks) j := by
  unfold manyN; rw [if_pos rfl, h]; rfl
theorem many_one {r : RuleD} {ks : List NodeD} {c : Int} (h : c ≠ 3) : manyN r ks c = 1 := by
  unfold manyN; rw [if_neg h]
/-- Whether one more is done alike. -/
def moreB (r : RuleD) (ks : List NodeD) (c : Int) (j m : Nat) : Bool := decide (c = 3) && (decide (j + m < ks.length) && decide (actOf r (kidAt ks (j + m)) = actOf r (kidAt ks j)))
theorem many_eq {r : RuleD} {ks : List NodeD} {c : Int} {j m : Nat} (hj : j < ks.length) (hl : lookN r ks c = j) (h1 : 1 ≤ m) (hm : j + m ≤ ks.length) (hal : c = 3 → ∀ q, q < m → actOf r (kidAt ks (j + q)) = actOf r (kidAt ks j)) (hone : c ≠ 3 → m = 1) (hno : moreB r ks c j m = false) : manyN r ks c = m := by
  by_cases h3 : c = 3
  · subst h3
    rw [many_run hl]
    have hg : ∀ i (h : i < ks.length), (actsOf r ks)[i]'(by simpa using h) = actOf r (kidAt ks i) := fun i h => by rw [List.getElem_map, kid_get h]
    refine runA_eq (by simpa using hj) h1 (by simpa using hm) (fun q hq => ?_) (fun h => ?_)
    · rw [hg _ (by omega), hg _ hj]; exact hal rfl q hq
    · have h' : j + m < ks.length := by simpa using h
      rw [hg _ h', hg _ hj]
      intro e
      have hy : moreB r ks 3 j m = true := by unfold moreB; rw [decide_eq_true h', decide_eq_true e]; rfl
      rw [hno] at hy; cases hy
  · rw [many_one h3, hone h3]
theorem rruleOf_ent : ∀ args w, (callFunc 34 args).run Try.prog w = .ok (.enter 34 args) w := by intro args w; kernel_rfl
abbrev FindP (W : World) (f : FindD) (e : Ending) (w' : World) : Prop := e = .returned (.agg #[.int .i64 f.1, .int .i64 f.2.1, .int .i64 f.2.2]) ∧ Below W.heap.size W w'

set_option maxRecDepth 100000 in
set_option maxHeartbeats 4000000 in
theorem rfind_c (s : SchemaD) (sv : Value) (n : NodeD) (v : Value) (W : World) (hsw : s.wt ≤ 100000000) (hw : n.wt ≤ 100000000) (hs : SchemaV W W.heap.size s sv) (hv : NodeV W W.heap.size n v) :
    Calls Try.prog 33 #[sv, v] W (FindP W (findN s n)) := by
  have hv0 := hv; have hs0 := hs
  obtain ⟨lf, ps, t, ks⟩ := n
  obtain ⟨ap, cp, at_, ct, ak, ck, css, rfl, -, -, hk, hkk⟩ := hv0.open
  obtain ⟨a, c, rcss, ea, ec, o0, o1, o2, o3, o4, o5, rfl, -, -, -, ho⟩ := hs0.open
  have hRk : (ruleOf s (typeN (.mk lf ps t ks))).kids.length ≤ 100000000 := by have := kids_wt (ruleOf s (typeN (.mk lf ps t ks))); have := ruleOf_wt s (typeN (.mk lf ps t ks)); omega
  have hkl : ks.length ≤ 100000000 := by have := wtAll_len ks; simp only [NodeD.wt] at hw; omega
  have hF : findN s (.mk lf ps t ks) = if lf then (0, 0, 0) else findL (ruleOf s (typeN (.mk lf ps t ks))) ks [o0, o1, o2, o3, o4, o5] := by
    unfold findN; rw [ho]; rfl
  obtain ⟨F, hFF⟩ : ∃ F, F = findN s (.mk lf ps t ks) := ⟨_, rfl⟩
  rw [← hFF] at hF ⊢
  have hRO := fun (k : List UInt8) (w1 : World) (hb : Below W.heap.size W w1) => rruleOf_c s _ k W.heap.size w1 hb.size hsw (hs.keep hb (Nat.le_refl _))
  have hTY := fun (w1 : World) (hb : Below W.heap.size W w1) => rtype_c (.mk lf ps t ks) _ w1 hw (hv.keep hb hb.size)
  have hWR := fun (ra : Option Addr) (rc : Nat) (cl : Int) (i : Nat) (w1 : World) (hb : Below W.heap.size W w1) (hr) (hi : i < ks.length) => (show Calls _ _ _ w1 fun e w' => e = .returned (.bool (wrongB (ruleOf s (typeN (.mk lf ps t ks))) ks cl i)) ∧ Below w1.heap.size w1 w' from wrong_c (ruleOf s (typeN (.mk lf ps t ks))) ra rc (.mk lf ps t ks) _ cl i w1 hr hRk (hv.keep hb hb.size) hw hi)
  have hAC := fun (ra : Option Addr) (rc : Nat) (q : NodeD) (qv : Value) (w1 : World) (hr) (hq : NodeV w1 w1.heap.size q qv) (hqw : q.wt ≤ 100000000) => ractOf_c (ruleOf s (typeN (.mk lf ps t ks))) ra rc q qv w1 hr hRk hq hqw
  have hqw : ∀ q ∈ ks, q.wt ≤ 100000000 := fun q hq => by have := wtAll_mem hq; simp only [NodeD.wt] at hw; omega
  generalize typeN (.mk lf ps t ks) = ty at hRO hTY hWR hAC hF hRk
  obtain ⟨w0, hw0⟩ : ∃ w0, w0 = (((W.alloc (Obj.cells #[.slice a s.rules.length c, strV s.els.type, .int .i64 s.els.text.1, strV s.els.text.2, .int .i64 s.els.other.1, strV s.els.other.2, .slice ea s.els.kids.length ec, .int .i64 s.els.fill, strV s.els.fillT, .int .i64 o0, .int .i64 o1, .int .i64 o2, .int .i64 o3, .int .i64 o4, .int .i64 o5, .int .i64 s.cap] 30)).alloc (Obj.cells #[.bool lf, .slice ap ps.length cp, .slice at_ t.length ct, .slice ak ks.length ck] 35)).alloc (Obj.cells #[.int .i64 0, .int .i64 0, .int .i64 0] 69)) := ⟨_, rfl⟩
  have hb0 : Below W.heap.size W w0 := by rw [hw0]; exact three_below _ _ _ _
  have hA : At w0 W.heap.size [.slice a s.rules.length c, strV s.els.type, .int .i64 s.els.text.1, strV s.els.text.2, .int .i64 s.els.other.1, strV s.els.other.2, .slice ea s.els.kids.length ec, .int .i64 s.els.fill, strV s.els.fillT, .int .i64 o0, .int .i64 o1, .int .i64 o2, .int .i64 o3, .int .i64 o4, .int .i64 o5, .int .i64 s.cap] 30 := by rw [hw0]; exact ((At.fresh W _ _).alloc _).alloc _
  have hX : At w0 (W.heap.size + 1) [.bool lf, .slice ap ps.length cp, .slice at_ t.length ct, .slice ak ks.length ck] 35 := by rw [hw0]; exact (At.second W _ _ _).alloc _
  have hZ : At w0 (W.heap.size + 1 + 1) [.int .i64 0, .int .i64 0, .int .i64 0] 69 := by rw [hw0]; exact At.third W _ _ _ _
  have hcl : W.heap.size ≤ W.heap.size + 1 + 1 := by omega
  have Hw0 := Lib.hid hw0; have Hb0 := Lib.hid hb0; have HA := Lib.hid hA; have HX := Lib.hid hX; have HZ := Lib.hid hZ
  have HF := Lib.hid hF; have HRO := Lib.hid hRO; have HTY := Lib.hid hTY; have HWR := Lib.hid hWR; have HAC := Lib.hid hAC
  have Hk := Lib.hid hk; have Hkk := Lib.hid hkk; have Hqw := Lib.hid hqw
  obtain ⟨⟨x0, x1, x2, x3, x4, x5, x6, x7, x8, x9, x10, x11, x12, x13, x14, x15⟩, -, xl⟩ := hA.f16
  obtain ⟨⟨y0, y1, y2, y3⟩, -, yl⟩ := hX.f4
  obtain ⟨⟨z0, z1, z2⟩, zf, zl⟩ := hZ.f3
  clear hw0 hb0 hA hX hZ hF hRO hTY hWR hAC hk hkk hqw hv hv0 hs hs0 hFF ho hsw hw
  cases lf with
  | true =>
    clear HRO HTY HWR HAC HA HX
    go_enter Try.func33, Try.ntmps33
    go_upto_region 1 with fail
    rw [← Hw0.out]
    clear Hw0
    go_wp2_with fail
    refine bodyPost_ret (v := .agg #[.int .i64 0, .int .i64 0, .int .i64 0]) (by simp [results, Try.results33, go_sem, z0, z1, z2]) rfl ?_
    rw [HF.out]
    exact ⟨rfl, below_s3 Hb0.out hcl _ _ _⟩
  | false =>
    have HRO2 := Lib.hid (fun (w1 : World) (hb : Below w0.heap.size w0 w1) => HRO.out ty w1 (Hb0.out.trans (hb.mono Hb0.out.size)))
    clear HRO
    generalize ruleOf s ty = R at HF HRO2 HWR HAC hRk
    have HF2 := Lib.hid (show F = findL R ks [o0, o1, o2, o3, o4, o5] from HF.out)
    clear HF
    go_enter Try.func33, Try.ntmps33
    go_upto_region 1 with fail
    rw [← Hw0.out]
    clear Hw0
    go_upto_region 3 with fail
    go_cut [5] (fun p wx => ∃ (M : Nat) (ra : Option Addr) (rc : Nat), p = .pointer (some ⟨M, 0, none⟩) ∧ At wx M [strV R.type, .int .i64 R.text.1, strV R.text.2, .int .i64 R.other.1, strV R.other.2, .slice ra R.kids.length rc, .int .i64 R.fill, strV R.fillT] 27 ∧ RowA wx W.heap.size 3 ra R.kids.length rc (pairCells R.kids) ∧ Below w0.heap.size w0 wx)
    case first =>
      clear HF2 HWR HAC Hk Hkk Hqw HZ z0 z1 z2 zf zl x0 x1 x2 x3 x4 x5 x6 x7 x8 x9 x10 x11 x12 x13 x14 x15 y0 y1 y2 y3
      have hW0 := Hb0.out.size
      have HS0 := Lib.hid (fun (w' : World) (hb : Below w0.heap.size w0 w') => And.intro (HA.out.kept hb).f16.1 (HX.out.kept hb).f4.1)
      go_region_held3 (fun w' => (w'.cell? ⟨W.heap.size, 0, none⟩ = some (.slice a s.rules.length c) ∧ w'.cell? ⟨W.heap.size, 1, none⟩ = some (strV s.els.type) ∧ w'.cell? ⟨W.heap.size, 2, none⟩ = some (.int .i64 s.els.text.1) ∧ w'.cell? ⟨W.heap.size, 3, none⟩ = some (strV s.els.text.2) ∧ w'.cell? ⟨W.heap.size, 4, none⟩ = some (.int .i64 s.els.other.1) ∧ w'.cell? ⟨W.heap.size, 5, none⟩ = some (strV s.els.other.2) ∧ w'.cell? ⟨W.heap.size, 6, none⟩ = some (.slice ea s.els.kids.length ec) ∧ w'.cell? ⟨W.heap.size, 7, none⟩ = some (.int .i64 s.els.fill) ∧ w'.cell? ⟨W.heap.size, 8, none⟩ = some (strV s.els.fillT) ∧ w'.cell? ⟨W.heap.size, 9, none⟩ = some (.int .i64 o0) ∧ w'.cell? ⟨W.heap.size, 10, none⟩ = some (.int .i64 o1) ∧ w'.cell? ⟨W.heap.size, 11, none⟩ = some (.int .i64 o2) ∧ w'.cell? ⟨W.heap.size, 12, none⟩ = some (.int .i64 o3) ∧ w'.cell? ⟨W.heap.size, 13, none⟩ = some (.int .i64 o4) ∧ w'.cell? ⟨W.heap.size, 14, none⟩ = some (.int .i64 o5) ∧ w'.cell? ⟨W.heap.size, 15, none⟩ = some (.int .i64 s.cap)) ∧ (w'.cell? ⟨W.heap.size + 1, 0, none⟩ = some (.bool false) ∧ w'.cell? ⟨W.heap.size + 1, 1, none⟩ = some (.slice ap ps.length cp) ∧ w'.cell? ⟨W.heap.size + 1, 2, none⟩ = some (.slice at_ t.length ct) ∧ w'.cell? ⟨W.heap.size + 1, 3, none⟩ = some (.slice ak ks.length ck))) (refine HS0.out _ (by (repeat (first | with_reducible exact Hb2.out | with_reducible exact Hb1.out | with_reducible exact Below.refl _ _ | with_reducible refine Below.drew ?_ | with_reducible refine Below.alloc ?_ ?_ _ | with_reducible refine Below.setCell ?_ ?_ _)) <;> (first | exact Nat.le_refl _ | exact Hb1.out.size | exact Hb2.out.size | exact hle1)))
        (first
        | (refine step_call rfl 35 _ _ rfl rtype_ent [.agg #[.bool false, .slice ap ps.length cp, .slice at_ t.length ct, .slice ak ks.length ck]] ?_ _ (HTY.out w0.drew Hb0.out.drew) ?_
           · go_simp
           rintro e w1 ⟨rfl, hbel⟩
           refine ⟨_, rfl, ?_⟩
           have Hb1 := Lib.hid (((Below.refl w0.heap.size w0).drew).trans hbel)
           clear hbel)
        | (refine step_call rfl 35 _ _ rfl rtype_ent [.agg #[.bool false, .slice ap ps.length cp, .slice at_ t.length ct, .slice ak ks.length ck]] ?_ _ (HTY.out (w0.drew.alloc (Obj.cells #[strV [], .int .i64 0, strV [], .int .i64 0, strV [], .slice none 0 0, .int .i64 0, strV []] 27)) (Hb0.out.drew.alloc Hb0.out.size _)) ?_
           · go_simp
           rintro e w1 ⟨rfl, hbel⟩
           refine ⟨_, rfl, ?_⟩
           have Hb1 := Lib.hid (((Below.refl w0.heap.size w0).drew.alloc (Nat.le_refl _) (Obj.cells #[strV [], .int .i64 0, strV [], .int .i64 0, strV [], .slice none 0 0, .int .i64 0, strV []] 27)).trans (hbel.mono (by simp)))
           have HM1 := Lib.hid (At.kept (w := w0.drew.alloc (Obj.cells #[strV [], .int .i64 0, strV [], .int .i64 0, strV [], .slice none 0 0, .int .i64 0, strV []] 27)) (show At (w0.drew.alloc (Obj.cells #[strV [], .int .i64 0, strV [], .int .i64 0, strV [], .slice none 0 0, .int .i64 0, strV []] 27)) w0.heap.size [strV [], .int .i64 0, strV [], .int .i64 0, strV [], .slice none 0 0, .int .i64 0, strV []] 27 from At.fresh w0.drew [strV [], .int .i64 0, strV [], .int .i64 0, strV [], .slice none 0 0, .int .i64 0, strV []] 27) hbel)
           clear hbel)
        | (refine step_call rfl 34 _ _ rfl rruleOf_ent [.agg #[.slice a s.rules.length c, strV s.els.type, .int .i64 s.els.text.1, strV s.els.text.2, .int .i64 s.els.other.1, strV s.els.other.2, .slice ea s.els.kids.length ec, .int .i64 s.els.fill, strV s.els.fillT, .int .i64 o0, .int .i64 o1, .int .i64 o2, .int .i64 o3, .int .i64 o4, .int .i64 o5, .int .i64 s.cap], strV ty] ?_ _ (HRO2.out w1 Hb1.out) ?_
           · go_simp
           rintro e w2 ⟨ra, rc, rfl, hrow, hbel⟩
           refine ⟨_, rfl, ?_⟩
           have Hb2 := Lib.hid (Hb1.out.trans (hbel.mono Hb1.out.size))
           have Hrow := Lib.hid hrow
           have hle1 : w0.heap.size ≤ w0.heap.size := Nat.le_refl _
           first
             | (have hm := HM1.out.kept hbel
                obtain ⟨⟨r0, r1, r2, r3, r4, r5, r6, r7⟩, rf, rl⟩ := hm.f8
                have HM2 := Lib.hid hm
                clear hm)
             | (have HM3 := Lib.hid (At.fresh w2 [strV R.type, .int .i64 R.text.1, strV R.text.2, .int .i64 R.other.1, strV R.other.2, .slice ra R.kids.length rc, .int .i64 R.fill, strV R.fillT] 27))
           clear hbel hrow)
        | (refine step_call rfl 34 _ _ rfl rruleOf_ent [.agg #[.slice a s.rules.length c, strV s.els.type, .int .i64 s.els.text.1, strV s.els.text.2, .int .i64 s.els.other.1, strV s.els.other.2, .slice ea s.els.kids.length ec, .int .i64 s.els.fill, strV s.els.fillT, .int .i64 o0, .int .i64 o1, .int .i64 o2, .int .i64 o3, .int .i64 o4, .int .i64 o5, .int .i64 s.cap], strV ty] ?_ _ (HRO2.out (w1.alloc (Obj.cells #[strV [], .int .i64 0, strV [], .int .i64 0, strV [], .slice none 0 0, .int .i64 0, strV []] 27)) (Hb1.out.alloc Hb1.out.size _)) ?_
           · go_simp
           rintro e w2 ⟨ra, rc, rfl, hrow, hbel⟩
           refine ⟨_, rfl, ?_⟩
           have Hb2 := Lib.hid ((Hb1.out.alloc Hb1.out.size (Obj.cells #[strV [], .int .i64 0, strV [], .int .i64 0, strV [], .slice none 0 0, .int .i64 0, strV []] 27)).trans (hbel.mono (Hb1.out.alloc Hb1.out.size _).size))
           have Hrow := Lib.hid hrow
           have hm := (At.fresh w1 [strV [], .int .i64 0, strV [], .int .i64 0, strV [], .slice none 0 0, .int .i64 0, strV []] 27).kept hbel
           have hle1 : w0.heap.size ≤ w1.heap.size := Hb1.out.size
           obtain ⟨⟨r0, r1, r2, r3, r4, r5, r6, r7⟩, rf, rl⟩ := hm.f8
           have HM4 := Lib.hid hm
           clear hbel hrow hm))
      all_goals
        go_wp2_with fail
        go_meet
        case rel =>
          first
            | exact ⟨_, ra, rc, rfl, HM3.out, Hrow.out.keep ((Below.refl _ _).alloc (Nat.le_trans hW0 Hb2.out.size) _) (Nat.le_refl _), Hb2.out.alloc Hb2.out.size _⟩
            | exact ⟨_, ra, rc, rfl, HM2.out.s8 _ _ _ _ _ _ _ _, Hrow.out.keep (below_s8 (Below.refl _ _) hW0 _ _ _ _ _ _ _ _) (Nat.le_refl _), below_s8 Hb2.out (Nat.le_refl _) _ _ _ _ _ _ _ _⟩
            | exact ⟨_, ra, rc, rfl, HM4.out.s8 _ _ _ _ _ _ _ _, Hrow.out.keep (below_s8 (Below.refl _ _) (Nat.le_trans hW0 hle1) _ _ _ _ _ _ _ _) (Nat.le_refl _), below_s8 Hb2.out hle1 _ _ _ _ _ _ _ _⟩
    case rest =>
      obtain ⟨M, ra, rc, rfl, hm, hrow, hb⟩ := hcut
      obtain ⟨w5, rfl⟩ : ∃ w5, w5 = wc := ⟨_, rfl⟩
      have HWc := Lib.hid (Hb0.out.trans (hb.mono Hb0.out.size)); have HMc := Lib.hid hm; have Hrow := Lib.hid hrow
      have HXc := Lib.hid (HX.out.kept hb); have HZc := Lib.hid (HZ.out.kept hb)
      obtain ⟨⟨p0, p1, p2, p3, p4, p5, p6, p7, p8, p9, p10, p11, p12, p13, p14, p15⟩, -, pl⟩ := (HA.out.kept hb).f16
      clear hm hrow hb HA HX HZ HTY HRO2 Hb0 x0 x1 x2 x3 x4 x5 x6 x7 x8 x9 x10 x11 x12 x13 x14 x15 y0 y1 y2 y3 z0 z1 z2 zf xl yl zl
      go_wp2_with fail
      go_loopg [19] 6 (fun g i wr => ∃ k : Nat, k + g = 6 ∧ i = .int .i64 k ∧ F = findL R ks ([o0, o1, o2, o3, o4, o5].drop k) ∧ Below w5.heap.size w5 wr)
      case atStart => exact ⟨0, by omega, rfl, HF2.out, Below.refl _ _⟩
      case round =>
        obtain ⟨k, hg, rfl, hF, hbr⟩ := hrel
        have Hbr := Lib.hid hbr
        have HbW := Lib.hid (HWc.out.trans (hbr.mono HWc.out.size))
        have HMr := Lib.hid (HMc.out.kept hbr); have HXr := Lib.hid (HXc.out.kept hbr); have HZr := Lib.hid (HZc.out.kept hbr)
        obtain ⟨⟨m0, m1, m2, m3, m4, m5, m6, m7⟩, mf, ml⟩ := HMr.out.f8
        obtain ⟨⟨y0, y1, y2, y3⟩, -, yl⟩ := HXr.out.f4
        obtain ⟨⟨z0, z1, z2⟩, zf, zl⟩ := HZr.out.f3
        clear p0 p1 p2 p3 p4 p5 p6 p7 p8 p9 p10 p11 p12 p13 p14 p15 pl hbr
        by_cases hlt : k < 6
        · have hlti : (k : Int) < 6 := by omega
          have hix := index6 o0 o1 o2 o3 o4 o5 k hlt
          have hdr : [o0, o1, o2, o3, o4, o5].drop k = [o0, o1, o2, o3, o4, o5].getD k 0 :: [o0, o1, o2, o3, o4, o5].drop (k + 1) := by
            rw [List.drop_eq_getElem_cons (by simpa using hlt)]
            simp [List.getD, List.getElem?_eq_getElem (show k < [o0, o1, o2, o3, o4, o5].length by simpa using hlt)]
          rw [hdr] at hF
          generalize [o0, o1, o2, o3, o4, o5].getD k 0 = cl at hix hF
          have HF3 := Lib.hid hF
          clear hdr hF
          go_upto_region 7 with fail
          clear hix
          go_cut [34] (fun b wx => b = .bool (decide (cl = 6 ∧ ks.length = 0 ∧ R.fill ≠ 0)) ∧ wx = wr)
          case first =>
            by_cases h6 : cl = 6
            · subst h6
              by_cases h7 : ks.length = 0
              · have h7I : (((ks.length : Nat) : Int) == 0) = true := by simp [h7]
                have H7 := Lib.hid h7
                clear h7
                go_wp2_with fail
                go_meet
                case rel => exact ⟨by simp [H7.out, bne, int_dec], rfl⟩
              · have h7I : (((ks.length : Nat) : Int) == 0) = false := by simp [h7]
                have H7 := Lib.hid h7
                clear h7
                go_wp2_with fail
                go_meet
                case rel => exact ⟨by simp [H7.out], rfl⟩
            · have h6I : (cl == 6) = false := by simpa using h6
              go_wp2_with fail
              go_meet
              case rel => exact ⟨by simp [h6], rfl⟩
          case rest =>
            obtain ⟨rfl, rfl⟩ := hcut
            by_cases h6 : cl = 6 ∧ ks.length = 0 ∧ R.fill ≠ 0
            · have hd6 : decide (cl = 6 ∧ ks.length = 0 ∧ R.fill ≠ 0) = true := by simpa using h6
              rw [hd6]
              have HFv := Lib.hid (show F = (6, 0, 1) by
                rw [HF3.out, h6.1, findL_hit (look_six h6.2.1 h6.2.2) (by omega), many_one (by omega)]; rfl)
              have hc6 : cl = 6 := h6.1
              subst hc6
              clear h6 hd6
              go_wp2_with fail
              refine bodyPost_ret (v := .agg #[.int .i64 6, .int .i64 0, .int .i64 1]) (by simp [results, Try.results33, go_sem, z0, z1, z2]) rfl ?_
              rw [HFv.out]
              exact ⟨rfl, below_s3 HbW.out hcl _ _ _⟩
            · have hd6 : decide (cl = 6 ∧ ks.length = 0 ∧ R.fill ≠ 0) = false := by simpa using h6
              rw [hd6]
              have H6 := Lib.hid h6
              clear hd6 h6
              go_wp2_with fail
              clear m0 m1 m2 m3 m4 m5 m6 m7 mf ml y0 y1 y2 y3 yl z0 z1 z2 zf zl
              go_loopg [40] ks.length (fun g2 i2 w2 => ∃ j : Nat, j + g2 = ks.length ∧ i2 = .int .i64 j ∧ (∀ i, i < j → wrongB R ks cl i = false) ∧ Below w5.heap.size w5 w2)
              case atStart => exact ⟨0, by omega, rfl, by intro i hi; omega, Hbr.out⟩
              case round =>
                obtain ⟨j, hg2, rfl, hbj, hbr2⟩ := hrel
                have Hbj := Lib.hid hbj; have Hbr2 := Lib.hid hbr2
                have HbW2 := Lib.hid (HWc.out.trans (hbr2.mono HWc.out.size))
                have HM2 := Lib.hid (HMc.out.kept hbr2); have HX2 := Lib.hid (HXc.out.kept hbr2)
                obtain ⟨⟨m0, m1, m2, m3, m4, m5, m6, m7⟩, mf, ml⟩ := HM2.out.f8
                obtain ⟨⟨y0, y1, y2, y3⟩, -, yl⟩ := HX2.out.f4
                by_cases hlt2 : j < ks.length
                · have hlti2 : (j : Int) < ks.length := by omega
                  have hW := HWR.out ra rc cl j _ HbW2.out (Hrow.out.keep (hbr2.mono HWc.out.size) HbW2.out.size) hlt2
                  clear hbj hbr2
                  cases hwb : wrongB R ks cl j with
                  | false =>
                    rw [hwb] at hW
                    have HW := Lib.hid (show Calls Try.prog 63 #[.agg #[strV R.type, .int .i64 R.text.1, strV R.text.2, .int .i64 R.other.1, strV R.other.2, .slice ra R.kids.length rc, .int .i64 R.fill, strV R.fillT], .agg #[.bool false, .slice ap ps.length cp, .slice at_ t.length ct, .slice ak ks.length ck], .int .i64 cl, .int .i64 j] _ _ from hW)
                    have Hb2 := Lib.hid (show ∀ i, i < j + 1 → wrongB R ks cl i = false from fun i hi => by
                      rcases Nat.lt_or_ge i j with h | h
                      · exact Hbj.out i h
                      · obtain rfl : i = j := by omega
                        exact hwb)
                    clear hW hwb
                    go_wp2_with fail
                    refine HW.out.mono ?_
                    rintro e w3 ⟨rfl, hbel⟩
                    have Hb3 := Lib.hid (Hbr2.out.trans (hbel.mono Hbr2.out.size))
                    clear hbel HW
                    go_wp2_with fail
                    go_roundg (ks.length - (j + 1))
                    case measure => omega
                    case rel => exact ⟨j + 1, by omega, by go_num, Hb2.out, Hb3.out⟩
                  | true =>
                    rw [hwb] at hW
                    have HW := Lib.hid (show Calls Try.prog 63 #[.agg #[strV R.type, .int .i64 R.text.1, strV R.text.2, .int .i64 R.other.1, strV R.other.2, .slice ra R.kids.length rc, .int .i64 R.fill, strV R.fillT], .agg #[.bool false, .slice ap ps.length cp, .slice at_ t.length ct, .slice ak ks.length ck], .int .i64 cl, .int .i64 j] _ _ from hW)
                    have HL := Lib.hid (look_yes hlt2 hwb Hbj.out)
                    clear hW hwb
                    go_wp2_with fail
                    refine HW.out.mono ?_
                    rintro e w3 ⟨rfl, hbel⟩
                    have Hb3 := Lib.hid (Hbr2.out.trans (hbel.mono Hbr2.out.size))
                    clear hbel HW m0 m1 m2 m3 m4 m5 m6 m7 mf ml y0 y1 y2 y3 yl
                    go_wp2_with fail
                    go_loopg [9] (ks.length - 1) (fun g3 m w4 => ∃ mm : Nat, m = .int .i64 mm ∧ 1 ≤ mm ∧ j + mm ≤ ks.length ∧ mm + g3 = ks.length ∧ (cl = 3 → ∀ q, q < mm → actOf R (kidAt ks (j + q)) = actOf R (kidAt ks j)) ∧ (cl ≠ 3 → mm = 1) ∧ Below w5.heap.size w5 w4)
                    case atStart =>
                      refine ⟨1, rfl, by omega, by omega, by omega, fun _ q hq => ?_, fun _ => rfl, Hb3.out⟩
                      obtain rfl : q = 0 := by omega
                      rfl
                    case round =>
                      obtain ⟨mm, rfl, h1, hjm, hg3, hal, hone, hb4⟩ := hrel
                      have Hal := Lib.hid hal; have Hone := Lib.hid hone; have Hb4 := Lib.hid hb4
                      have HbW4 := Lib.hid (HWc.out.trans (hb4.mono HWc.out.size))
                      have HM4 := Lib.hid (HMc.out.kept hb4); have HX4 := Lib.hid (HXc.out.kept hb4)
                      have Hrow4 := Lib.hid (Hrow.out.keep (hb4.mono HWc.out.size) (Nat.le_refl _))
                      have hW4 := HbW4.out.size
                      obtain ⟨⟨m0, m1, m2, m3, m4, m5, m6, m7⟩, mf, ml⟩ := HM4.out.f8
                      obtain ⟨⟨y0, y1, y2, y3⟩, -, yl⟩ := HX4.out.f4
                      obtain ⟨⟨z0, z1, z2⟩, zf, zl⟩ := (HZc.out.kept hb4).f3
                      clear hal hone hb4
                      go_upto_region 14 with fail
                      go_cut [78] (fun b wx => b = .bool (moreB R ks cl j mm) ∧ Below wr.heap.size wr wx)
                      case first =>
                        by_cases h3 : cl = 3
                        · subst h3
                          by_cases h4 : j + mm < ks.length
                          · have h4I : (j : Int) + (mm : Int) < (ks.length : Int) := by omega
                            have hwr : IntKind.i64.wrap ((j : Int) + (mm : Int)) = (j : Int) + (mm : Int) := IntWalk.i64_in _ (by omega)
                            have h5I : ((j + mm : Nat) : Int) < (ks.length : Int) := by omega
                            have h6I : (0 : Int) ≤ (j : Int) + (mm : Int) := by omega
                            have h7I : ((j : Int) + (mm : Int)).toNat = j + mm := by omega
                            have hkr := Hk.out.keep (HbW4.out) hW4; have hkkr := KidsC.keep HbW4.out hW4 _ _ Hkk.out
                            obtain ⟨kb, ko, a1, c1, a2, c2, a3, c3, rfl, hkb, hva, -, ga⟩ := kidO hkr hkkr (j + mm) h4
                            obtain ⟨kb', ko', b1, d1, b2, d2, b3, d3, hbe, -, hvb, -, gb⟩ := kidO hkr hkkr j hlt2
                            injection hbe with hbe; injection hbe with e1 e2 e3; subst e1; subst e2
                            have hqa := Hqw.out _ (List.getElem_mem h4); have hqb := Hqw.out _ (List.getElem_mem hlt2)
                            have hmo : moreB R ks 3 j mm = decide (actOf R ks[j + mm] = actOf R ks[j]) := by
                              unfold moreB; rw [kid_get h4, kid_get hlt2, decide_eq_true h4]; rfl
                            generalize ks[j + mm] = qa at hva ga hqa hmo
                            generalize ks[j] = qb at hvb gb hqb hmo
                            have HAa := Lib.hid (fun (w1 : World) (hb : Below wr.heap.size wr w1) => (show Calls Try.prog 37 #[.agg #[strV R.type, .int .i64 R.text.1, strV R.text.2, .int .i64 R.other.1, strV R.other.2, .slice ra R.kids.length rc, .int .i64 R.fill, strV R.fillT], .agg #[.bool (leafOf qa), .slice a1 (propsOf qa).length c1, .slice a2 (textOf qa).length c2, .slice a3 (kidsOf qa).length c3]] w1 (ActP w1 (actOf R qa)) from HAC.out ra rc qa _ w1 (Hrow4.out.keep (hb.mono hW4) (Nat.le_trans hW4 hb.size)) (hva.keep hb hb.size) hqa))
                            have HAb := Lib.hid (fun (w1 : World) (hb : Below wr.heap.size wr w1) => (show Calls Try.prog 37 #[.agg #[strV R.type, .int .i64 R.text.1, strV R.text.2, .int .i64 R.other.1, strV R.other.2, .slice ra R.kids.length rc, .int .i64 R.fill, strV R.fillT], .agg #[.bool (leafOf qb), .slice b1 (propsOf qb).length d1, .slice b2 (textOf qb).length d2, .slice b3 (kidsOf qb).length d3]] w1 (ActP w1 (actOf R qb)) from HAC.out ra rc qb _ w1 (Hrow4.out.keep (hb.mono hW4) (Nat.le_trans hW4 hb.size)) (hvb.keep hb hb.size) hqb))
                            generalize actOf R qa = A at HAa hmo
                            generalize actOf R qb = B at HAb hmo
                            obtain ⟨A1, A2⟩ := A
                            obtain ⟨B1, B2⟩ := B
                            obtain ⟨x, hx⟩ : ∃ x, (A1 == B1) = x := ⟨_, rfl⟩
                            obtain ⟨y, hy⟩ : ∃ y, (A2 == B2) = y := ⟨_, rfl⟩
                            have hmo2 : moreB R ks 3 j mm = (x && y) := by
                              rw [hmo, ← hx, ← hy, int_dec, beq_dec]
                              simp
                            have Hmo := Lib.hid hmo2
                            clear hmo2
                            have HS0 := Lib.hid (fun (w' : World) (hb : Below wr.heap.size wr w') => And.intro (HM4.out.kept hb).f8.1 (And.intro (HX4.out.kept hb).f4.1 (And.intro
                              (show w'.cell? ⟨kb, ko + (j + mm) * 4, none⟩ = some (.bool (leafOf qa)) ∧ w'.cell? ⟨kb, ko + (j + mm) * 4 + 1, none⟩ = some (.slice a1 (propsOf qa).length c1) ∧ w'.cell? ⟨kb, ko + (j + mm) * 4 + 2, none⟩ = some (.slice a2 (textOf qa).length c2) ∧ w'.cell? ⟨kb, ko + (j + mm) * 4 + 3, none⟩ = some (.slice a3 (kidsOf qa).length c3) from ⟨(hb.cell (by exact hkb)).trans ga.1, (hb.cell (by exact hkb)).trans ga.2.1, (hb.cell (by exact hkb)).trans ga.2.2.1, (hb.cell (by exact hkb)).trans ga.2.2.2⟩)
                              (show w'.cell? ⟨kb, ko + j * 4, none⟩ = some (.bool (leafOf qb)) ∧ w'.cell? ⟨kb, ko + j * 4 + 1, none⟩ = some (.slice b1 (propsOf qb).length d1) ∧ w'.cell? ⟨kb, ko + j * 4 + 2, none⟩ = some (.slice b2 (textOf qb).length d2) ∧ w'.cell? ⟨kb, ko + j * 4 + 3, none⟩ = some (.slice b3 (kidsOf qb).length d3) from ⟨(hb.cell (by exact hkb)).trans gb.1, (hb.cell (by exact hkb)).trans gb.2.1, (hb.cell (by exact hkb)).trans gb.2.2.1, (hb.cell (by exact hkb)).trans gb.2.2.2⟩))))
                            clear hva hvb ga gb hkr hkkr hmo HF3 HL Hal Hone
                            cases x <;> cases y
                            all_goals
                              go_region_held3 (fun w' => (w'.cell? ⟨M, 0, none⟩ = some (strV R.type) ∧ w'.cell? ⟨M, 1, none⟩ = some (.int .i64 R.text.1) ∧ w'.cell? ⟨M, 2, none⟩ = some (strV R.text.2) ∧ w'.cell? ⟨M, 3, none⟩ = some (.int .i64 R.other.1) ∧ w'.cell? ⟨M, 4, none⟩ = some (strV R.other.2) ∧ w'.cell? ⟨M, 5, none⟩ = some (.slice ra R.kids.length rc) ∧ w'.cell? ⟨M, 6, none⟩ = some (.int .i64 R.fill) ∧ w'.cell? ⟨M, 7, none⟩ = some (strV R.fillT)) ∧ (w'.cell? ⟨W.heap.size + 1, 0, none⟩ = some (.bool false) ∧ w'.cell? ⟨W.heap.size + 1, 1, none⟩ = some (.slice ap ps.length cp) ∧ w'.cell? ⟨W.heap.size + 1, 2, none⟩ = some (.slice at_ t.length ct) ∧ w'.cell? ⟨W.heap.size + 1, 3, none⟩ = some (.slice (some ⟨kb, ko, none⟩) ks.length ck)) ∧ (w'.cell? ⟨kb, ko + (j + mm) * 4, none⟩ = some (.bool (leafOf qa)) ∧ w'.cell? ⟨kb, ko + (j + mm) * 4 + 1, none⟩ = some (.slice a1 (propsOf qa).length c1) ∧ w'.cell? ⟨kb, ko + (j + mm) * 4 + 2, none⟩ = some (.slice a2 (textOf qa).length c2) ∧ w'.cell? ⟨kb, ko + (j + mm) * 4 + 3, none⟩ = some (.slice a3 (kidsOf qa).length c3)) ∧ (w'.cell? ⟨kb, ko + j * 4, none⟩ = some (.bool (leafOf qb)) ∧ w'.cell? ⟨kb, ko + j * 4 + 1, none⟩ = some (.slice b1 (propsOf qb).length d1) ∧ w'.cell? ⟨kb, ko + j * 4 + 2, none⟩ = some (.slice b2 (textOf qb).length d2) ∧ w'.cell? ⟨kb, ko + j * 4 + 3, none⟩ = some (.slice b3 (kidsOf qb).length d3))) (refine HS0.out _ (by first | with_reducible exact HbwB.out | with_reducible exact HbwA.out | exact (Below.refl _ _).drew))
                                (first
                              | (refine step_callg (by rfl) 37 _ _ rfl ractOf_ent [.agg #[strV R.type, .int .i64 R.text.1, strV R.text.2, .int .i64 R.other.1, strV R.other.2, .slice ra R.kids.length rc, .int .i64 R.fill, strV R.fillT], .agg #[.bool (leafOf qa), .slice a1 (propsOf qa).length c1, .slice a2 (textOf qa).length c2, .slice a3 (kidsOf qa).length c3]] ?_ _ (HAa.out wr.drew (Below.refl _ _).drew) ?_
                                 · go_simp
                                 rintro e wA ⟨rfl, hbel⟩
                                 refine ⟨_, rfl, ?_⟩
                                 have HbwA := Lib.hid ((Below.refl wr.heap.size wr).drew.trans hbel)
                                 clear hbel)
                              | (refine step_callg (by rfl) 37 _ _ rfl ractOf_ent [.agg #[strV R.type, .int .i64 R.text.1, strV R.text.2, .int .i64 R.other.1, strV R.other.2, .slice ra R.kids.length rc, .int .i64 R.fill, strV R.fillT], .agg #[.bool (leafOf qb), .slice b1 (propsOf qb).length d1, .slice b2 (textOf qb).length d2, .slice b3 (kidsOf qb).length d3]] ?_ _ (HAb.out wr.drew (Below.refl _ _).drew) ?_
                                 · go_simp
                                 rintro e wB ⟨rfl, hbel⟩
                                 refine ⟨_, rfl, ?_⟩
                                 have HbwB := Lib.hid ((Below.refl wr.heap.size wr).drew.trans hbel)
                                 clear hbel)
                              | (refine step_callg (by rfl) 37 _ _ rfl ractOf_ent [.agg #[strV R.type, .int .i64 R.text.1, strV R.text.2, .int .i64 R.other.1, strV R.other.2, .slice ra R.kids.length rc, .int .i64 R.fill, strV R.fillT], .agg #[.bool (leafOf qa), .slice a1 (propsOf qa).length c1, .slice a2 (textOf qa).length c2, .slice a3 (kidsOf qa).length c3]] ?_ _ (HAa.out wB HbwB.out) ?_
                                 · go_simp
                                 rintro e wA ⟨rfl, hbel⟩
                                 refine ⟨_, rfl, ?_⟩
                                 have HbwA := Lib.hid (HbwB.out.trans (hbel.mono HbwB.out.size))
                                 clear hbel)
                              | (refine step_callg (by rfl) 37 _ _ rfl ractOf_ent [.agg #[strV R.type, .int .i64 R.text.1, strV R.text.2, .int .i64 R.other.1, strV R.other.2, .slice ra R.kids.length rc, .int .i64 R.fill, strV R.fillT], .agg #[.bool (leafOf qb), .slice b1 (propsOf qb).length d1, .slice b2 (textOf qb).length d2, .slice b3 (kidsOf qb).length d3]] ?_ _ (HAb.out wA HbwA.out) ?_
                                 · go_simp
                                 rintro e wB ⟨rfl, hbel⟩
                                 refine ⟨_, rfl, ?_⟩
                                 have HbwB := Lib.hid (HbwA.out.trans (hbel.mono HbwA.out.size))
                                 clear hbel)
                                )
                              all_goals
                                go_wp2_with fail
                                go_meet
                                case rel =>
                                  refine ⟨by rw [Hmo.out]; rfl, ?_⟩
                                  first
                                    | with_reducible exact HbwB.out
                                    | with_reducible exact HbwA.out
                          · have h4I : decide ((j : Int) + (mm : Int) < (ks.length : Int)) = false := by simp; omega
                            have hwr : IntKind.i64.wrap ((j : Int) + (mm : Int)) = ((j + mm : Nat) : Int) := by rw [show (j : Int) + (mm : Int) = ((j + mm : Nat) : Int) by omega]; exact IntWalk.i64_in _ (by omega)
                            have h5I : decide (((j + mm : Nat) : Int) < (ks.length : Int)) = false := by simp; omega
                            have Hmo := Lib.hid (show moreB R ks 3 j mm = false by unfold moreB; rw [decide_eq_false h4]; rfl)
                            go_quiet (fail)
                            go_wp2_with fail
                            go_meet
                            case rel => exact ⟨by rw [Hmo.out], below_drewN (Below.refl _ _) _⟩
                        · have h3I : (cl == 3) = false := by simpa using h3
                          have Hmo := Lib.hid (show moreB R ks cl j mm = false by unfold moreB; rw [decide_eq_false h3]; rfl)
                          go_quiet (fail)
                          go_wp2_with fail
                          go_meet
                          case rel => exact ⟨by rw [Hmo.out], below_drewN (Below.refl _ _) _⟩
                      case rest =>
                        obtain ⟨rfl, hb5⟩ := hcut
                        have Hb6 := Lib.hid (Hb4.out.trans (hb5.mono Hb4.out.size))
                        cases hmo : moreB R ks cl j mm with
                        | true =>
                          have Hmo := Lib.hid hmo
                          have hlt4 : j + mm < ks.length ∧ cl = 3 := by
                            simp only [moreB, Bool.and_eq_true, decide_eq_true_eq] at hmo
                            exact ⟨hmo.2.1, hmo.1⟩
                          clear hmo hb5 m0 m1 m2 m3 m4 m5 m6 m7 mf ml y0 y1 y2 y3 yl z0 z1 z2 zf zl
                          obtain ⟨hlt5, hc3⟩ := hlt4
                          have Hc3 := Lib.hid hc3
                          clear hc3
                          go_wp2_with fail
                          go_roundg (ks.length - (mm + 1))
                          case measure => omega
                          case rel =>
                            refine ⟨mm + 1, by go_num, by omega, by omega, by omega, fun h q hq => ?_, fun h => absurd Hc3.out h, Hb6.out⟩
                            rcases Nat.lt_or_ge q mm with h' | h'
                            · exact Hal.out h q h'
                            · obtain rfl : q = mm := by omega
                              have := Hmo.out
                              simp only [moreB, Bool.and_eq_true, decide_eq_true_eq] at this
                              exact this.2.2
                        | false =>
                          have HFv := Lib.hid (show F = (cl, (j : Int), (mm : Int)) by
                            rw [HF3.out, findL_hit HL.out (by omega), many_eq hlt2 HL.out h1 hjm Hal.out Hone.out hmo])
                          have HbF := Lib.hid (HWc.out.trans (Hb6.out.mono HWc.out.size))
                          clear z0 z1 z2 zf zl
                          obtain ⟨⟨z0, z1, z2⟩, zf, zl⟩ := (HZc.out.kept Hb6.out).f3
                          clear hmo hb5 m0 m1 m2 m3 m4 m5 m6 m7 mf ml y0 y1 y2 y3 yl
                          go_wp2_with fail
                          refine bodyPost_ret (v := .agg #[.int .i64 cl, .int .i64 j, .int .i64 mm]) (by simp [results, Try.results33, go_sem, z0, z1, z2]) rfl ?_
                          rw [HFv.out]
                          exact ⟨rfl, below_s3 HbF.out hcl _ _ _⟩
                · obtain rfl : j = ks.length := by omega
                  have HF4 := Lib.hid (show F = findL R ks ([o0, o1, o2, o3, o4, o5].drop (k + 1)) from HF3.out.trans (findL_miss (look_no H6.out hbj)))
                  clear hbj hbr2
                  go_wp2_with fail
                  go_roundg (6 - (k + 1))
                  case measure => omega
                  case rel => exact ⟨k + 1, by omega, by go_num, HF4.out, Hbr2.out⟩
        · obtain rfl : k = 6 := by omega
          have HFv := Lib.hid (show F = (0, 0, 0) by rw [hF]; rfl)
          clear hF
          go_wp2_with fail
          refine bodyPost_ret (v := .agg #[.int .i64 0, .int .i64 0, .int .i64 0]) (by simp [results, Try.results33, go_sem, z0, z1, z2]) rfl ?_
          rw [HFv.out]
          exact ⟨rfl, below_s3 HbW.out hcl _ _ _⟩

end Go.Proofs.Ytiinmgccjlmoaaa
