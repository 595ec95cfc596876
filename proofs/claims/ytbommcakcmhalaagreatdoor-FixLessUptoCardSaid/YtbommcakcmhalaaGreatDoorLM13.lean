/- Parts of the proof, one behind the other: RHL, RHH. -/
import Derived.Test.YtbommcakcmhalaaGreatDoorLM12
import Derived.Test.YtbommcakcmhalaaGreatDoorLM7
import Derived.Deep.DeepCutAuto
import Derived.Deep.RegionHeld3
/- Walks: valid's looks: how each class is looked for. -/
set_option linter.unusedVariables false
set_option linter.unusedSimpArgs false
set_option maxHeartbeats 4000000
set_option maxRecDepth 100000
namespace Go.Proofs.YtbommcakcmhalaaGreatDoor
open Go.RowKit Go.Redl
theorem merge_ent : ∀ args w, (callFunc 122 args).run Tryz.prog w = .ok (.enter 122 args) w := by intro args w; kernel_rfl
theorem empty_ent : ∀ args w, (callFunc 123 args).run Tryz.prog w = .ok (.enter 123 args) w := by intro args w; kernel_rfl
theorem fill_ent : ∀ args w, (callFunc 124 args).run Tryz.prog w = .ok (.enter 124 args) w := by intro args w; kernel_rfl
theorem looks1_ent : ∀ args w, (callFunc 119 args).run Tryz.prog w = .ok (.enter 119 args) w := by intro args w; kernel_rfl
theorem looks11_ent : ∀ args w, (callFunc 120 args).run Tryz.prog w = .ok (.enter 120 args) w := by intro args w; kernel_rfl
/-- What a function value tells, called with nothing. -/
def LookF (w : World) (v : Value) (z : Int) (m : Nat) : Prop :=
 ∃ (f : FuncId) (first caps : Array Value), v = .func (.func f) first caps /\ (∀ args w, (callFunc f args).run Tryz.prog w = .ok (.enter f args) w) /\
   ∀ w', Below w.heap.size w w' -> Calls Tryz.prog f (first ++ caps) w' (LookP w' z m)
theorem LookF.kept {w w' : World} {v : Value} {z : Int} {m : Nat} (h : LookF w v z m) (hb : Below w.heap.size w w') : LookF w' v z m := by
 obtain ⟨f, first, caps, hv, he, hc⟩ := h
 exact ⟨f, first, caps, hv, he, fun w2 hb2 => hc w2 (hb.trans (hb2.mono hb.size))⟩
theorem LookF.cap {w : World} {f : FuncId} {caps : Array Value} {z : Int} {m : Nat} (he : ∀ args w, (callFunc f args).run Tryz.prog w = .ok (.enter f args) w) (h : ∀ w', Below w.heap.size w w' -> Calls Tryz.prog f caps w' (LookP w' z m)) : LookF w (.func (.func f) #[] caps) z m :=
 ⟨f, #[], caps, rfl, he, fun w' hb => by rw [Array.empty_append]; exact h w' hb⟩
theorem LookF.meth {w : World} {f : FuncId} {first : Array Value} {z : Int} {m : Nat} (he : ∀ args w, (callFunc f args).run Tryz.prog w = .ok (.enter f args) w) (h : ∀ w', Below w.heap.size w w' -> Calls Tryz.prog f first w' (LookP w' z m)) : LookF w (.func (.func f) first #[]) z m :=
 ⟨f, first, #[], rfl, he, fun w' hb => by rw [Array.append_empty]; exact h w' hb⟩
/-- The closure: its element's box E, and what is looked for in D. -/
theorem looks11_c (e0 e1 e2 e3 e4 e5 e6 e7 e8 e9 e10 e11 : Value) (aa : Option Addr) (ac : Nat) (l : List ActD) (d : Int) (E D : Nat) (W : World) (hE : At W E [e0, e1, e2, e3, e4, e5, e6, e7, e8, e9, e10, e11, .slice aa l.length ac] 112) (hD : At W D [.int .i64 d] 3)
 (hr : RowA W W.heap.size 2 aa l.length ac (actRow l)) (hn : l.length <= 100000000) :
 Calls Tryz.prog 120 #[.pointer (some ⟨E, 0, none⟩), .pointer (some ⟨D, 0, none⟩)] W (LookP W (doAt l d) (if d = 4 then runA l (doAt l d).toNat else 1)) := by
 generalize hz : doAt l d = z
 generalize hm : (if d = 4 then runA l z.toNat else 1) = m
 have HC := Lib.hid (doing_c e0 e1 e2 e3 e4 e5 e6 e7 e8 e9 e10 e11 aa ac l d W hr hn)
 rw [hz, hm] at HC
 obtain ⟨⟨x0, x1, x2, x3, x4, x5, x6, x7, x8, x9, x10, x11, x12⟩, -, xl⟩ := hE.f13
 obtain ⟨y0, -, yl⟩ := hD.f1
 clear hE hD hr hz hm
 go_enter Tryz.func120, Tryz.ntmps120
 go_wp2_with fail
 refine HC.out.mono ?_
 rintro e w1 ⟨k, rfl, hk, hbel⟩
 have Hk := Lib.hid hk; have Hbel := Lib.hid hbel
 clear hk hbel HC
 go_wp2_with fail
 go_ret2
 exact ⟨_, rfl, Hk.out, Hbel.out⟩
theorem looks1_c (d : Int) (E : Nat) (W : World) :
 Calls Tryz.prog 119 #[.int .i64 d, .pointer (some ⟨E, 0, none⟩)] W fun e w' => e = .returned (.func (.func 120) #[] #[.pointer (some ⟨E, 0, none⟩), .pointer (some ⟨W.heap.size, 0, none⟩)]) /\ At w' W.heap.size [.int .i64 d] 3 /\ Below W.heap.size W w' := by
 have Hb := Lib.hid (one_below W (Obj.cells #[.int .i64 d] 3))
 have HD := Lib.hid (At.fresh W [.int .i64 d] 3)
 have hmf : ∀ (fn : Fn) (first cap : Array Value) (w : World), (Instr.makeFunc fn first cap).run Tryz.prog w = .ok (.func fn first cap) w := fun _ _ _ _ => rfl
 go_enter Tryz.func119, Tryz.ntmps119
 go_wp2_with fail
 go_ret
 exact ⟨rfl, HD.out, Hb.out⟩
theorem At.f7 {w : World} {N : Nat} {c0 c1 c2 c3 c4 c5 c6 : Value} {T : TypeId} (h : At w N [c0, c1, c2, c3, c4, c5, c6] T) : (w.cell? ⟨N, 0, none⟩ = some c0 /\ w.cell? ⟨N, 1, none⟩ = some c1 /\ w.cell? ⟨N, 2, none⟩ = some c2 /\ w.cell? ⟨N, 3, none⟩ = some c3 /\ w.cell? ⟨N, 4, none⟩ = some c4 /\ w.cell? ⟨N, 5, none⟩ = some c5 /\ w.cell? ⟨N, 6, none⟩ = some c6) /\ (∀ j, w.frozen? ⟨N, j, none⟩ = false) /\ N < w.heap.size :=
 ⟨⟨h.cell 0 rfl, h.cell 1 rfl, h.cell 2 rfl, h.cell 3 rfl, h.cell 4 rfl, h.cell 5 rfl, h.cell 6 rfl⟩, fun j => Lib.frozen_of_heap h _, h.lt⟩
theorem At.s7 {w : World} {N : Nat} {c0 c1 c2 c3 c4 c5 c6 : Value} {T : TypeId} (h : At w N [c0, c1, c2, c3, c4, c5, c6] T) (d0 d1 d2 d3 d4 d5 d6 : Value) : At (((((((w.setCell ⟨N, 0, none⟩ d0).setCell ⟨N, 1, none⟩ d1).setCell ⟨N, 2, none⟩ d2).setCell ⟨N, 3, none⟩ d3).setCell ⟨N, 4, none⟩ d4).setCell ⟨N, 5, none⟩ d5).setCell ⟨N, 6, none⟩ d6) N [d0, d1, d2, d3, d4, d5, d6] T := by
 have h0 : At (w.setCell ⟨N, 0, none⟩ d0) N [d0, c1, c2, c3, c4, c5, c6] T := h.set 0 d0
 have h1 : At ((w.setCell ⟨N, 0, none⟩ d0).setCell ⟨N, 1, none⟩ d1) N [d0, d1, c2, c3, c4, c5, c6] T := h0.set 1 d1
 have h2 : At (((w.setCell ⟨N, 0, none⟩ d0).setCell ⟨N, 1, none⟩ d1).setCell ⟨N, 2, none⟩ d2) N [d0, d1, d2, c3, c4, c5, c6] T := h1.set 2 d2
 have h3 : At ((((w.setCell ⟨N, 0, none⟩ d0).setCell ⟨N, 1, none⟩ d1).setCell ⟨N, 2, none⟩ d2).setCell ⟨N, 3, none⟩ d3) N [d0, d1, d2, d3, c4, c5, c6] T := h2.set 3 d3
 have h4 : At (((((w.setCell ⟨N, 0, none⟩ d0).setCell ⟨N, 1, none⟩ d1).setCell ⟨N, 2, none⟩ d2).setCell ⟨N, 3, none⟩ d3).setCell ⟨N, 4, none⟩ d4) N [d0, d1, d2, d3, d4, c5, c6] T := h3.set 4 d4
 have h5 : At ((((((w.setCell ⟨N, 0, none⟩ d0).setCell ⟨N, 1, none⟩ d1).setCell ⟨N, 2, none⟩ d2).setCell ⟨N, 3, none⟩ d3).setCell ⟨N, 4, none⟩ d4).setCell ⟨N, 5, none⟩ d5) N [d0, d1, d2, d3, d4, d5, c6] T := h4.set 5 d5
 exact h5.set 6 d6
theorem At.n7 {w : World} {N M : Nat} {cs : List Value} {T : TypeId} (h : At w M cs T) (hne : M ≠ N) (d0 d1 d2 d3 d4 d5 d6 : Value) : At (((((((w.setCell ⟨N, 0, none⟩ d0).setCell ⟨N, 1, none⟩ d1).setCell ⟨N, 2, none⟩ d2).setCell ⟨N, 3, none⟩ d3).setCell ⟨N, 4, none⟩ d4).setCell ⟨N, 5, none⟩ d5).setCell ⟨N, 6, none⟩ d6) M cs T :=
 ((((((h.set_ne hne _).set_ne hne _).set_ne hne _).set_ne hne _).set_ne hne _).set_ne hne _).set_ne hne _
theorem below_s7 {B : Nat} {W w : World} {N : Nat} (h : Below B W w) (hN : B <= N) (d0 d1 d2 d3 d4 d5 d6 : Value) : Below B W (((((((w.setCell ⟨N, 0, none⟩ d0).setCell ⟨N, 1, none⟩ d1).setCell ⟨N, 2, none⟩ d2).setCell ⟨N, 3, none⟩ d3).setCell ⟨N, 4, none⟩ d4).setCell ⟨N, 5, none⟩ d5).setCell ⟨N, 6, none⟩ d6) :=
 ((((((h.setCell (p := ⟨N, 0, none⟩) hN _).setCell (p := ⟨N, 1, none⟩) hN _).setCell (p := ⟨N, 2, none⟩) hN _).setCell (p := ⟨N, 3, none⟩) hN _).setCell (p := ⟨N, 4, none⟩) hN _).setCell (p := ⟨N, 5, none⟩) hN _).setCell (p := ⟨N, 6, none⟩) hN _
theorem looks1_d (d : Int) (E : Nat) (W : World) :
 Calls Tryz.prog 119 (([.int .i64 d] : List Value).toArray ++ #[.pointer (some ⟨E, 0, none⟩)]) W fun e w' => e = .returned (.func (.func 120) #[] #[.pointer (some ⟨E, 0, none⟩), .pointer (some ⟨W.heap.size, 0, none⟩)]) /\ At w' W.heap.size [.int .i64 d] 3 /\ Below W.heap.size W w' := by
 rw [show (([.int .i64 d] : List Value).toArray ++ #[.pointer (some ⟨E, 0, none⟩)]) = #[.int .i64 d, .pointer (some ⟨E, 0, none⟩)] from rfl]
 exact looks1_c d E W
/-- A call of a function value, as one operation. -/
theorem wp_callv {P : Program} {o : Oper} {a : Act} {w : World} {K : Act -> World -> Prop} {Q : Exit -> Act -> World -> Prop}
 (f : FuncId) (s : Operand) (caps : Array Value) (args : Array Operand) (tys : Array TypeId) (ho : o.op = .call { callee := .value s, args := args, argTypes := tys }) (hs : a.eval s = .func (.func f) #[] caps)
 (he : ∀ args w, (callFunc f args).run P w = .ok (.enter f args) w) (vals : List Value) (hv : args.toList.map a.eval = vals) (R : Ending -> World -> Prop) (hC : Calls P f (vals.toArray ++ caps) w R)
 (h : ∀ e w', R e w' -> ∃ v, e = .returned v /\ K (a.put o.dst v) w') : Oper.wp P o a w K Q := by
 unfold Oper.wp
 have hv' : args.map a.eval = vals.toArray := by rw [<- hv]; apply Array.ext'; simp
 have hr : (execOp a.eval o).run P w = .ok (.enter f (vals.toArray ++ caps)) w := by
  simp [execOp, ho, resolve, invoke, hs, Deferred.ofValue, hv', he]
 rw [hr]
 show Calls P f (vals.toArray ++ caps) w _
 refine hC.mono fun e w' hR => ?_
 obtain ⟨v, rfl, hk⟩ := h e w' hR
 exact hk
/-- What each class is looked for with. -/
theorem looks_c (e0 e1 e2 : Value) (ak : Option Addr) (ck : Nat) (ks : List NodeD) (css : List Value) (e4 e5 e6 e7 e8 e9 : Value) (fl : Int) (e11 : Value) (aa : Option Addr) (ac : Nat) (l : List ActD) (W : World) (hn : ks.length <= 100000000) (hk : RowA W W.heap.size 4 ak ks.length ck css) (hkk : KidsC W W.heap.size ks css)
 (hr : RowA W W.heap.size 2 aa l.length ac (actRow l)) (hl : l.length <= 100000000) :
 Calls Tryz.prog 66 #[.agg #[e0, e1, e2, .slice ak ks.length ck, e4, e5, e6, e7, e8, e9, .int .i64 fl, e11, .slice aa l.length ac]] W fun e w' => ∃ v1 v2 v3 v4 v5 v6, e = .returned (.agg #[.nilFunc, v1, v2, v3, v4, v5, v6]) /\
  LookF w' v1 (doAt l 2) 1 /\ LookF w' v2 (doAt l 3) 1 /\ LookF w' v3 (doAt l 4) (runA l (doAt l 4).toNat) /\ LookF w' v4 (idxP (mergeB ks) ks.length) 1 /\ LookF w' v5 (idxP (emptyB ks) ks.length) 1 /\ LookF w' v6 (if ks.length = 0 /\ fl ≠ 0 then 0 else -1) 1 /\ Below W.heap.size W w' := by
 obtain ⟨w0, hw0⟩ : ∃ w0, w0 = (W.alloc (Obj.cells #[e0, e1, e2, .slice ak ks.length ck, e4, e5, e6, e7, e8, e9, .int .i64 fl, e11, .slice aa l.length ac] 112)).alloc (Obj.cells #[.nilFunc, .nilFunc, .nilFunc, .nilFunc, .nilFunc, .nilFunc, .nilFunc] 114) := ⟨_, rfl⟩
 have hb0 : Below W.heap.size W w0 := by rw [hw0]; exact two_below _ _ _
 have hA : At w0 W.heap.size [e0, e1, e2, .slice ak ks.length ck, e4, e5, e6, e7, e8, e9, .int .i64 fl, e11, .slice aa l.length ac] 112 := by rw [hw0]; exact (At.fresh W _ _).alloc _
 have hZ : At w0 (W.heap.size + 1) [.nilFunc, .nilFunc, .nilFunc, .nilFunc, .nilFunc, .nilFunc, .nilFunc] 114 := by rw [hw0]; exact At.second W _ _ _
 have hmf : ∀ (fn : Fn) (first cap : Array Value) (w : World), (Instr.makeFunc fn first cap).run Tryz.prog w = .ok (.func fn first cap) w := fun _ _ _ _ => rfl
 have HFill := Lib.hid (fun (w' : World) => fill_c e0 e1 e2 ak ks.length ck e4 e5 e6 e7 e8 e9 fl e11 (.slice aa l.length ac) w' hn)
 generalize (if ks.length = 0 /\ fl ≠ 0 then (0 : Int) else -1) = zz at HFill ⊢
 have Hk := Lib.hid hk; have Hkk := Lib.hid hkk; have Hr := Lib.hid hr
 have Hb0 := Lib.hid hb0; have Hw0 := Lib.hid hw0; have HA := Lib.hid hA; have HZ := Lib.hid hZ
 have HS0 := Lib.hid (fun (w' : World) (hb : Below w0.heap.size w0 w') => (HA.out.kept hb).f13.1)
 obtain ⟨⟨x0, x1, x2, x3, x4, x5, x6, x7, x8, x9, x10, x11, x12⟩, -, xl⟩ := hA.f13
 have zl := hZ.lt
 clear hb0 hA hw0 hZ hk hkk hr
 go_enter Tryz.func66, Tryz.ntmps66
 go_upto_region 1 with fail
 rw [<- Hw0.out]
 clear Hw0
 go_wp2_with fail
 refine wp_region_noPanic ?_
 refine wp_region_held_drew (S := (fun w' => w'.cell? ⟨W.heap.size, 0, none⟩ = some (e0) /\ w'.cell? ⟨W.heap.size, 1, none⟩ = some (e1) /\ w'.cell? ⟨W.heap.size, 2, none⟩ = some (e2) /\ w'.cell? ⟨W.heap.size, 3, none⟩ = some (.slice ak ks.length ck) /\ w'.cell? ⟨W.heap.size, 4, none⟩ = some (e4) /\ w'.cell? ⟨W.heap.size, 5, none⟩ = some (e5) /\ w'.cell? ⟨W.heap.size, 6, none⟩ = some (e6) /\ w'.cell? ⟨W.heap.size, 7, none⟩ = some (e7) /\ w'.cell? ⟨W.heap.size, 8, none⟩ = some (e8) /\ w'.cell? ⟨W.heap.size, 9, none⟩ = some (e9) /\ w'.cell? ⟨W.heap.size, 10, none⟩ = some (.int .i64 fl) /\ w'.cell? ⟨W.heap.size, 11, none⟩ = some (e11) /\ w'.cell? ⟨W.heap.size, 12, none⟩ = some (.slice aa l.length ac))) (by kernel_rfl) ?_ (fun hHeld => ?_)
 . exact HS0.out _ (Below.refl _ _).drew
 refine wpAnyH_take (i := 0) (v := ?_) rfl (by kernel_rfl) (by kernel_rfl) (by kernel_rfl) (fun _ _ _ h => h) (Or.inl ⟨by rfl, ?_⟩) (by assumption) ?_
 rotate_left
 . intro w hSw
   try dsimp only at hSw
   go_simp
   try with_reducible rfl
 try simp only [Act.put, List.getElem_toArray, List.getElem_cons_zero, List.setIfInBounds_toArray, List.set_cons_zero, List.set_cons_succ]
 refine wpAnyH_take (i := 2) (v := ?_) rfl (by kernel_rfl) (by kernel_rfl) (by kernel_rfl) (fun _ _ _ h => h) (Or.inl ⟨by rfl, ?_⟩) (by assumption) ?_
 rotate_left
 . intro w hSw
   try dsimp only at hSw
   go_simp
   try with_reducible rfl
 try simp only [Act.put, List.getElem_toArray, List.getElem_cons_zero, List.getElem_cons_succ, List.setIfInBounds_toArray, List.set_cons_zero, List.set_cons_succ]
 refine wpAnyH_take (i := 4) (v := ?_) rfl (by kernel_rfl) (by kernel_rfl) (by kernel_rfl) (fun _ _ _ h => h) (Or.inl ⟨by rfl, ?_⟩) (by assumption) ?_
 rotate_left
 . intro w hSw
   try dsimp only at hSw
   go_simp
   try with_reducible rfl
 try simp only [Act.put, List.getElem_toArray, List.getElem_cons_zero, List.getElem_cons_succ, List.setIfInBounds_toArray, List.set_cons_zero, List.set_cons_succ]
 refine wpAnyH_take (i := 6) (v := ?_) rfl (by kernel_rfl) (by kernel_rfl) (by kernel_rfl) (fun _ _ _ h => h) (Or.inl ⟨by rfl, ?_⟩) (by assumption) ?_
 rotate_left
 . intro w hSw
   try dsimp only at hSw
   go_simp
   try with_reducible rfl
 try simp only [Act.put, List.getElem_toArray, List.getElem_cons_zero, List.getElem_cons_succ, List.setIfInBounds_toArray, List.set_cons_zero, List.set_cons_succ]
 refine wpAnyH_take (i := 8) (v := ?_) rfl (by kernel_rfl) (by kernel_rfl) (by kernel_rfl) (fun _ _ _ h => h) (Or.inl ⟨by rfl, ?_⟩) (by assumption) ?_
 rotate_left
 . intro w hSw
   try dsimp only at hSw
   go_simp
   try with_reducible rfl
 try simp only [Act.put, List.getElem_toArray, List.getElem_cons_zero, List.getElem_cons_succ, List.setIfInBounds_toArray, List.set_cons_zero, List.set_cons_succ]
 refine wpAnyH_take (i := 10) (v := ?_) rfl (by kernel_rfl) (by kernel_rfl) (by kernel_rfl) (fun _ _ _ h => h) (Or.inl ⟨by rfl, ?_⟩) (by assumption) ?_
 rotate_left
 . intro w hSw
   try dsimp only at hSw
   go_simp
   try with_reducible rfl
 try simp only [Act.put, List.getElem_toArray, List.getElem_cons_zero, List.getElem_cons_succ, List.setIfInBounds_toArray, List.set_cons_zero, List.set_cons_succ]
 refine wpAnyH_take (i := 7) (v := ?_) rfl (by kernel_rfl) (by kernel_rfl) (by kernel_rfl) (fun _ _ _ h => h) (Or.inl ⟨by rfl, ?_⟩) (by assumption) ?_
 rotate_left
 . intro w hSw
   try dsimp only at hSw
   go_simp
   try with_reducible rfl
 try simp only [Act.put, List.getElem_toArray, List.getElem_cons_zero, List.getElem_cons_succ, List.setIfInBounds_toArray, List.set_cons_zero, List.set_cons_succ]
 refine wpAnyH_take (i := 9) (v := ?_) rfl (by kernel_rfl) (by kernel_rfl) (by kernel_rfl) (fun _ _ _ h => h) (Or.inl ⟨by rfl, ?_⟩) (by assumption) ?_
 rotate_left
 . intro w hSw
   try dsimp only at hSw
   go_simp
   try with_reducible rfl
 try simp only [Act.put, List.getElem_toArray, List.getElem_cons_zero, List.getElem_cons_succ, List.setIfInBounds_toArray, List.set_cons_zero, List.set_cons_succ]
 refine wpAnyH_take (i := 11) (v := ?_) rfl (by kernel_rfl) (by kernel_rfl) (by kernel_rfl) (fun _ _ _ h => h) (Or.inl ⟨by rfl, ?_⟩) (by assumption) ?_
 rotate_left
 . intro w hSw
   try dsimp only at hSw
   go_simp
   try with_reducible rfl
 try simp only [Act.put, List.getElem_toArray, List.getElem_cons_zero, List.getElem_cons_succ, List.setIfInBounds_toArray, List.set_cons_zero, List.set_cons_succ]
 refine wpAnyH_ready (rs := [1]) (by kernel_rfl) (by simp) ?_
 refine AllReadyH.cons rfl (fun K hK => ?_) AllReadyH.nil
 rw [if_pos (by rfl)]
 simp only [List.getElem_toArray, List.getElem_cons_zero, List.getElem_cons_succ]
 refine wp_callv 119 _ #[.pointer (some ⟨W.heap.size, 0, none⟩)] _ _ rfl ?_ looks1_ent [.int .i64 2] ?_ _ (looks1_d 2 W.heap.size w0.drew) ?_
 . go_simp
 . go_simp
 rintro e w1 ⟨rfl, hd, hbel⟩
 refine ⟨_, rfl, ?_⟩
 have HD1 := Lib.hid hd
 have Hc1 := Lib.hid hbel
 have Hb1 := Lib.hid (((Below.refl w0.heap.size w0).drew).trans (hbel.mono ((Below.refl w0.heap.size w0).drew).size))
 clear hbel hd
 refine hK.out _ _ ?_ (fun hHeld => ?_)
 . exact HS0.out _ Hb1.out
 clear hK K
 try simp only [Act.put, List.getElem_toArray, List.getElem_cons_zero, List.getElem_cons_succ, List.setIfInBounds_toArray, List.set_cons_zero, List.set_cons_succ]
 refine wpAnyH_ready (rs := [3]) (by kernel_rfl) (by simp) ?_
 refine AllReadyH.cons rfl (fun K hK => ?_) AllReadyH.nil
 rw [if_pos (by rfl)]
 simp only [List.getElem_toArray, List.getElem_cons_zero, List.getElem_cons_succ]
 refine wp_callv 119 _ #[.pointer (some ⟨W.heap.size, 0, none⟩)] _ _ rfl ?_ looks1_ent [.int .i64 3] ?_ _ (looks1_d 3 W.heap.size w1) ?_
 . go_simp
 . go_simp
 rintro e w2 ⟨rfl, hd, hbel⟩
 refine ⟨_, rfl, ?_⟩
 have HD2 := Lib.hid hd
 have Hc2 := Lib.hid hbel
 have Hb2 := Lib.hid ((Hb1.out).trans (hbel.mono (Hb1.out).size))
 clear hbel hd
 refine hK.out _ _ ?_ (fun hHeld => ?_)
 . exact HS0.out _ Hb2.out
 clear hK K
 try simp only [Act.put, List.getElem_toArray, List.getElem_cons_zero, List.getElem_cons_succ, List.setIfInBounds_toArray, List.set_cons_zero, List.set_cons_succ]
 refine wpAnyH_ready (rs := [5]) (by kernel_rfl) (by simp) ?_
 refine AllReadyH.cons rfl (fun K hK => ?_) AllReadyH.nil
 rw [if_pos (by rfl)]
 simp only [List.getElem_toArray, List.getElem_cons_zero, List.getElem_cons_succ]
 refine wp_callv 119 _ #[.pointer (some ⟨W.heap.size, 0, none⟩)] _ _ rfl ?_ looks1_ent [.int .i64 4] ?_ _ (looks1_d 4 W.heap.size w2) ?_
 . go_simp
 . go_simp
 rintro e w3 ⟨rfl, hd, hbel⟩
 refine ⟨_, rfl, ?_⟩
 have HD3 := Lib.hid hd
 have Hc3 := Lib.hid hbel
 have Hb3 := Lib.hid ((Hb2.out).trans (hbel.mono (Hb2.out).size))
 clear hbel hd
 refine hK.out _ _ ?_ (fun hHeld => ?_)
 . exact HS0.out _ Hb3.out
 clear hK K
 try simp only [Act.put, List.getElem_toArray, List.getElem_cons_zero, List.getElem_cons_succ, List.setIfInBounds_toArray, List.set_cons_zero, List.set_cons_succ]
 refine wpAnyH_take (i := 12) (v := ?_) rfl (by kernel_rfl) (by kernel_rfl) (by kernel_rfl) (fun _ _ _ h => h) (Or.inl ⟨by rfl, ?_⟩) (by assumption) ?_
 rotate_left
 . intro w hSw
   try dsimp only at hSw
   go_simp
   try with_reducible rfl
 try simp only [Act.put, List.getElem_toArray, List.getElem_cons_zero, List.getElem_cons_succ, List.setIfInBounds_toArray, List.set_cons_zero, List.set_cons_succ]
 clear hmf
 obtain ⟨v1, hv1, ho1⟩ : ∃ v, v = (Value.func (.func 120) #[] #[.pointer (some ⟨W.heap.size, 0, none⟩), .pointer (some ⟨w0.drew.heap.size, 0, none⟩)]) /\ v.oneCell' = true := ⟨_, rfl, rfl⟩
 obtain ⟨v2, hv2, ho2⟩ : ∃ v, v = (Value.func (.func 120) #[] #[.pointer (some ⟨W.heap.size, 0, none⟩), .pointer (some ⟨w1.heap.size, 0, none⟩)]) /\ v.oneCell' = true := ⟨_, rfl, rfl⟩
 obtain ⟨v3, hv3, ho3⟩ : ∃ v, v = (Value.func (.func 120) #[] #[.pointer (some ⟨W.heap.size, 0, none⟩), .pointer (some ⟨w2.heap.size, 0, none⟩)]) /\ v.oneCell' = true := ⟨_, rfl, rfl⟩
 obtain ⟨v4, hv4, ho4⟩ : ∃ v, v = (Value.func (.func 122) #[.agg #[e0, e1, e2, .slice ak ks.length ck, e4, e5, e6, e7, e8, e9, .int .i64 fl, e11, .slice aa l.length ac]] #[]) /\ v.oneCell' = true := ⟨_, rfl, rfl⟩
 obtain ⟨v5, hv5, ho5⟩ : ∃ v, v = (Value.func (.func 123) #[.agg #[e0, e1, e2, .slice ak ks.length ck, e4, e5, e6, e7, e8, e9, .int .i64 fl, e11, .slice aa l.length ac]] #[]) /\ v.oneCell' = true := ⟨_, rfl, rfl⟩
 obtain ⟨v6, hv6, ho6⟩ : ∃ v, v = (Value.func (.func 124) #[.agg #[e0, e1, e2, .slice ak ks.length ck, e4, e5, e6, e7, e8, e9, .int .i64 fl, e11, .slice aa l.length ac]] #[]) /\ v.oneCell' = true := ⟨_, rfl, rfl⟩
 have HbW : Below W.heap.size W w3 := Hb0.out.trans (Hb3.out.mono Hb0.out.size)
 rw [<- hv1, <- hv2, <- hv3, <- hv4, <- hv5, <- hv6]
 rw [show Value.func (.func 120) #[] #[.pointer (some ⟨W.heap.size, 0, none⟩), .pointer (some ⟨w0.heap.size, 0, none⟩)] = v1 from hv1.symm]
 have Hv1 := Lib.hid hv1
 have Hv2 := Lib.hid hv2
 have Hv3 := Lib.hid hv3
 have Hv4 := Lib.hid hv4
 have Hv5 := Lib.hid hv5
 have Hv6 := Lib.hid hv6
 clear hv1 hv2 hv3 hv4 hv5 hv6
 obtain ⟨⟨z0, z1, z2, z3, z4, z5, z6⟩, zf, zl3⟩ := (HZ.out.kept Hb3.out).f7
 refine wpAnyH_ready (rs := [13]) (by kernel_rfl) (by simp) ?_
 refine AllReadyH.cons rfl (fun K hK => ?_) AllReadyH.nil
 rw [if_pos (by rfl)]
 simp only [List.getElem_toArray, List.getElem_cons_zero, List.getElem_cons_succ]
 refine wp_store_mid 114 _ _ rfl (W.heap.size + 1) 0 #[.nilFunc, v1, v2, v3, v4, v5, v6] rfl rfl (fun j hj => ?_) rfl (by simp [ho1, ho2, ho3, ho4, ho5, ho6]; rfl) ?_
 . have h7 : j = 0 ∨ j = 1 ∨ j = 2 ∨ j = 3 ∨ j = 4 ∨ j = 5 ∨ j = 6 := by simp at hj; omega
   rcases h7 with rfl | rfl | rfl | rfl | rfl | rfl | rfl
   . exact ⟨by rw [z0]; rfl, zf _⟩
   . exact ⟨by rw [z1]; rfl, zf _⟩
   . exact ⟨by rw [z2]; rfl, zf _⟩
   . exact ⟨by rw [z3]; rfl, zf _⟩
   . exact ⟨by rw [z4]; rfl, zf _⟩
   . exact ⟨by rw [z5]; rfl, zf _⟩
   . exact ⟨by rw [z6]; rfl, zf _⟩
 simp only [World.setCells, Nat.zero_add, Nat.reduceAdd]
 refine hK.out _ _ ?_ (fun hHeld => ?_)
 . exact ((HA.out.kept Hb3.out).n7 (by omega) _ _ _ _ _ _ _).f13.1
 clear hK K hHeld
 refine wpAnyH_done (by kernel_rfl) ?_ _
 refine NoPanic.normal ?_
 obtain ⟨w8, hw8⟩ : ∃ w8, w8 = (((((((w3.setCell ⟨W.heap.size + 1, 0, none⟩ .nilFunc).setCell ⟨W.heap.size + 1, 1, none⟩ v1).setCell ⟨W.heap.size + 1, 2, none⟩ v2).setCell ⟨W.heap.size + 1, 3, none⟩ v3).setCell ⟨W.heap.size + 1, 4, none⟩ v4).setCell ⟨W.heap.size + 1, 5, none⟩ v5).setCell ⟨W.heap.size + 1, 6, none⟩ v6) := ⟨_, rfl⟩
 have hz8 : At w8 (W.heap.size + 1) [.nilFunc, v1, v2, v3, v4, v5, v6] 114 := by rw [hw8]; exact (HZ.out.kept Hb3.out).s7 .nilFunc v1 v2 v3 v4 v5 v6
 have hb8 : Below W.heap.size W w8 := by rw [hw8]; exact below_s7 HbW (show W.heap.size <= W.heap.size + 1 by omega) .nilFunc v1 v2 v3 v4 v5 v6
 have HA8 := Lib.hid (show At w8 W.heap.size [e0, e1, e2, .slice ak ks.length ck, e4, e5, e6, e7, e8, e9, .int .i64 fl, e11, .slice aa l.length ac] 112 by rw [hw8]; exact (HA.out.kept Hb3.out).n7 (by omega) .nilFunc v1 v2 v3 v4 v5 v6)
 have HE1 := Lib.hid (show At w8 w0.drew.heap.size [.int .i64 2] 3 by rw [hw8]; exact (HD1.out.kept (Hc2.out.trans (Hc3.out.mono Hc2.out.size))).n7 (show w0.heap.size ≠ W.heap.size + 1 by omega) .nilFunc v1 v2 v3 v4 v5 v6)
 have hsz1 := Hb1.out.size; have hsz2 := Hb2.out.size
 have HE2 := Lib.hid (show At w8 w1.heap.size [.int .i64 3] 3 by rw [hw8]; exact (HD2.out.kept Hc3.out).n7 (by omega) .nilFunc v1 v2 v3 v4 v5 v6)
 have HE3 := Lib.hid (show At w8 w2.heap.size [.int .i64 4] 3 by rw [hw8]; exact HD3.out.n7 (by omega) .nilFunc v1 v2 v3 v4 v5 v6)
 rw [<- hw8]
 clear z0 z1 z2 z3 z4 z5 z6 zf zl3
 obtain ⟨⟨z0, z1, z2, z3, z4, z5, z6⟩, zf7, zl7⟩ := hz8.f7
 have Hb8 := Lib.hid hb8
 clear hz8 hb8 hw8 HA HS0 HD1 HD2 HD3
 go_wp2_with fail
 refine bodyPost_ret (v := .agg #[.nilFunc, v1, v2, v3, v4, v5, v6]) (by simp [results, Tryz.results66, go_sem, z0, z1, z2, z3, z4, z5, z6]) rfl ?_
 have hrow := fun (w' : World) (hb : Below w8.heap.size w8 w') => Hr.out.keep (Hb8.out.trans (hb.mono Hb8.out.size)) (Hb8.out.trans (hb.mono Hb8.out.size)).size
 have hk8 := fun (w' : World) (hb : Below w8.heap.size w8 w') => Hk.out.keep (Hb8.out.trans (hb.mono Hb8.out.size)) (Hb8.out.trans (hb.mono Hb8.out.size)).size
 have hkk8 := fun (w' : World) (hb : Below w8.heap.size w8 w') => KidsC.keep (Hb8.out.trans (hb.mono Hb8.out.size)) (Hb8.out.trans (hb.mono Hb8.out.size)).size _ _ Hkk.out
 refine ⟨v1, v2, v3, v4, v5, v6, rfl, ?_, ?_, ?_, ?_, ?_, ?_, Hb8.out⟩
 . rw [Hv1.out]; exact LookF.cap looks11_ent fun w' hb => looks11_c e0 e1 e2 (.slice ak ks.length ck) e4 e5 e6 e7 e8 e9 (.int .i64 fl) e11 aa ac l 2 W.heap.size w0.drew.heap.size w' (HA8.out.kept hb) (HE1.out.kept hb) (hrow w' hb) hl
 . rw [Hv2.out]; exact LookF.cap looks11_ent fun w' hb => looks11_c e0 e1 e2 (.slice ak ks.length ck) e4 e5 e6 e7 e8 e9 (.int .i64 fl) e11 aa ac l 3 W.heap.size w1.heap.size w' (HA8.out.kept hb) (HE2.out.kept hb) (hrow w' hb) hl
 . rw [Hv3.out]; exact LookF.cap looks11_ent fun w' hb => looks11_c e0 e1 e2 (.slice ak ks.length ck) e4 e5 e6 e7 e8 e9 (.int .i64 fl) e11 aa ac l 4 W.heap.size w2.heap.size w' (HA8.out.kept hb) (HE3.out.kept hb) (hrow w' hb) hl
 . rw [Hv4.out]; exact LookF.meth merge_ent fun w' hb => merge_c e0 e1 e2 ak ck ks css e4 e5 e6 e7 e8 e9 (.int .i64 fl) e11 (.slice aa l.length ac) w' hn (hk8 w' hb) (hkk8 w' hb)
 . rw [Hv5.out]; exact LookF.meth empty_ent fun w' hb => empty_c e0 e1 e2 ak ck ks css e4 e5 e6 e7 e8 e9 (.int .i64 fl) e11 (.slice aa l.length ac) w' hn (hk8 w' hb) (hkk8 w' hb)
 . rw [Hv6.out]; exact LookF.meth fill_ent fun w' hb => HFill.out w'
end Go.Proofs.YtbommcakcmhalaaGreatDoor
/- Walks: the reference's Find. -/
namespace Go.Proofs.YtbommcakcmhalaaGreatDoor
open Go.RowKit Go.Redl
theorem findL_hit {r : RuleD} {ks : List NodeD} {c : Int} {cs : List Int} {j : Int} (h : lookN r ks c = j) (h0 : 0 <= j) : findL r ks (c :: cs) = (c, j, (manyN r ks c : Int)) := by
 unfold findL; rw [h, if_pos h0]
theorem index6 (o0 o1 o2 o3 o4 o5 : Int) (k : Nat) (hk : k < 6) : ∀ w : World, (Instr.index 28 (.agg #[.int .i64 o0, .int .i64 o1, .int .i64 o2, .int .i64 o3, .int .i64 o4, .int .i64 o5]) (.int .i64 k)).run Tryz.prog w = .ok (.int .i64 ([o0, o1, o2, o3, o4, o5].getD k 0)) w := by
 have h : k = 0 ∨ k = 1 ∨ k = 2 ∨ k = 3 ∨ k = 4 ∨ k = 5 := by omega
 rcases h with rfl | rfl | rfl | rfl | rfl | rfl
 all_goals
  intro w
  kernel_rfl
abbrev FindP (W : World) (f : FindD) (e : Ending) (w' : World) : Prop := e = .returned (.agg #[.int .i64 f.1, .int .i64 f.2.1, .int .i64 f.2.2]) /\ Below W.heap.size W w'
end Go.Proofs.YtbommcakcmhalaaGreatDoor
