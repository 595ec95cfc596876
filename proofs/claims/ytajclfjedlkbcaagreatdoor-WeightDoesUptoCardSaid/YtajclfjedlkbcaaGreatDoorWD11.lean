/- Parts of the proof, one behind the other: RKO, RKP, RKT, RKQ, RKU. -/
import Derived.Test.YtajclfjedlkbcaaGreatDoorWD8
import Derived.Test.YtajclfjedlkbcaaGreatDoorWD10
import Derived.Laws.OwnMore
/- Walks: redlinelaw19's example, and whether all is small enough. -/
namespace Go.Proofs.YtajclfjedlkbcaaGreatDoor
open Go.RowKit Go.Redl
set_option linter.unusedVariables false
set_option linter.unusedSimpArgs false

def live19D : NodeD := .mk false [(typeB, [100, 111, 99])] [] [.mk true [] [97] [], .mk true [] [98] []]
theorem live19_reg : regN live19D [[]] = 3 := by kernel_rfl
set_option maxRecDepth 100000 in
set_option maxHeartbeats 2000000 in
theorem live19_c (W : World) : Calls Tryz.prog 5 #[] W fun e w' => e = .returned (.bool true) ∧ Below W.heap.size W w' := by
  have HL := Lib.hid (fun (w : World) => leaf_c 97 rfl [] none 0 w (RowA.empty _ _ _))
  have HL2 := Lib.hid (fun (w : World) => leaf_c 98 rfl [] none 0 w (RowA.empty _ _ _))
  have HE := Lib.hid (fun (w1 : World) (d1 d2 : List Value) (h1 : d1.length = 4) (h2 : d2.length = 4) (hn1 : NodeC w1 w1.heap.size (.mk true [] [97] []) d1) (hn2 : NodeC w1 w1.heap.size (.mk true [] [98] []) d2) =>
    elem_c 100 [111, 99] (some ⟨w1.heap.size, 0, none⟩) 2 [.mk true [] [97] [], .mk true [] [98] []] (d1 ++ d2) (w1.alloc (Obj.cells (d1 ++ d2).toArray 35)) (row_cells 4 2 (d1 ++ d2) (by simp [h1, h2]) (by omega) (by intro u hu; exact (List.mem_append.1 hu).elim (hn1.one u) (hn2.one u)) (Below.refl _ _)) (by
      have hb := below_new w1 (Obj.cells (d1 ++ d2).toArray 35)
      unfold KidsC
      refine ⟨d1, d2, rfl, NodeC.keep hb hb.size _ _ hn1, ?_⟩
      unfold KidsC
      exact ⟨d2, [], by simp, NodeC.keep hb hb.size _ _ hn2, by unfold KidsC; rfl⟩))
  have HR := Lib.hid (fun (w1 : World) (v : Value) (hv : NodeV w1 w1.heap.size live19D v) => by
    have hb := one_below w1 (Obj.cells #[.slice none 0 0] 47)
    have hx : ReadX (w1.alloc (Obj.cells #[.slice none 0 0] 47)) (w1.heap.size + 1) (.slice (some ⟨w1.heap.size, 0, none⟩) 1 1) [([], none, 0)] := ⟨⟨_, _, rfl, row_one w1 (.slice none 0 0) 47 _ rfl (by omega)⟩, fun x hx => by rw [List.mem_singleton.1 hx]; exact RowA.empty _ _ _⟩
    have h := region_c live19D v (w1.heap.size + 1) _ _ (w1.alloc (Obj.cells #[.slice none 0 0] 47)) (by decide) (hv.keep hb (by omega)) (by simp) hx (by simp) (fun x hx => by rw [List.mem_singleton.1 hx]; simp)
    rw [show pxs [([], none, 0)] = [[]] from rfl, live19_reg] at h
    exact h)
  go_enter Tryz.func5, Tryz.ntmps5
  go_wp2_with fail
  refine (HL.out W).mono ?_
  rintro e w1 ⟨ap, cp, at_, ct, rfl, hnc, hbel⟩
  have Hb1 := Lib.hid hbel; have Hn1 := Lib.hid hnc
  clear hbel hnc HL
  go_wp2_with fail
  refine (HL2.out w1).mono ?_
  rintro e w2 ⟨ap2, cp2, at2, ct2, rfl, hnc, hbel⟩
  have Hb2 := Lib.hid (below_then Hb1.out hbel (Nat.le_refl _))
  have HE1 := HE.out w2 _ _ rfl rfl (NodeC.keep hbel hbel.size _ _ Hn1.out) hnc
  clear hbel hnc HL2 HE Hn1
  go_wp2_with fail
  refine HE1.mono ?_
  rintro e w3 ⟨g, rfl, hnc, hbel⟩
  have Hb3 := Lib.hid (below_then (Hb2.out.alloc Hb2.out.size _) hbel (Nat.le_refl _))
  have HR1 := Lib.hid (HR.out w3 _ ⟨_, rfl, hnc⟩)
  clear hbel hnc HE1 HR
  go_wp2_with fail
  refine HR1.out.mono ?_
  rintro e w4 ⟨rfl, hbel⟩
  have Hb4 := Lib.hid (below_then (Hb3.out.alloc Hb3.out.size _) hbel (Nat.le_refl _))
  clear hbel HR1
  go_wp2_with fail
  go_ret
  exact ⟨rfl, Hb4.out⟩

/-- All is small enough to be played. -/
def small19 (s : SchemaD) (n : NodeD) (L : List (List Int)) (m : Nat) : Bool := L.all (fun p => decide (p.length ≤ 40)) && (fewZ (s.rules ++ [s.els]) && (fewB n 50 && (decide (L.length ≤ 30) && decide (m ≤ 400))))
theorem all_drop {xs : List PX} {k : Nat} (h : k < xs.length) : (pxs (xs.drop k)).all (fun p => decide (p.length ≤ 40)) = (decide (xs[k].1.length ≤ 40) && (pxs (xs.drop (k + 1))).all (fun p => decide (p.length ≤ 40))) := by
  rw [List.drop_eq_getElem_cons h]; rfl
set_option maxRecDepth 100000 in
set_option maxHeartbeats 4000000 in
theorem few19_c (s : SchemaD) (n : NodeD) (u v : Value) (vx : Value) (xs : List PX) (qa : Option Addr) (m qc : Nat) (W : World) (hs : s.wt ≤ 100000000) (hn : n.wt ≤ 100000000) (hxl : xs.length ≤ 100000000) (hm : m ≤ 100000000) (hu : SchemaV W W.heap.size s u) (hv : NodeV W W.heap.size n v) (hx : ReadX W W.heap.size vx xs) :
    Calls Tryz.prog 6 #[u, v, vx, .slice qa m qc] W (fun e w' => e = .returned (.bool (small19 s n (pxs xs) m)) ∧ Below W.heap.size W w') := by
  have hu0 := hu; have hv0 := hv
  obtain ⟨l, ps, t, ks⟩ := n
  obtain ⟨a, c, css, ea, ec, o0, o1, o2, o3, o4, o5, rfl, -, -, -, -⟩ := hu0.open
  obtain ⟨ap, cp, at_, ct, ak, ck, cs4, rfl, -, -, -, -⟩ := hv0.open
  generalize NodeD.mk l ps t ks = n at hn hv ⊢
  obtain ⟨xa, xc, rfl, -⟩ := hx.row
  obtain ⟨w0, hw0⟩ : ∃ w0, w0 = (W.alloc (Obj.cells #[.slice a s.rules.length c, strV s.els.type, .int .i64 s.els.text.1, strV s.els.text.2, .int .i64 s.els.other.1, strV s.els.other.2, .slice ea s.els.kids.length ec, .int .i64 s.els.fill, strV s.els.fillT, .int .i64 o0, .int .i64 o1, .int .i64 o2, .int .i64 o3, .int .i64 o4, .int .i64 o5, .int .i64 s.cap] 30)).alloc (Obj.cells #[.bool l, .slice ap ps.length cp, .slice at_ t.length ct, .slice ak ks.length ck] 35) := ⟨_, rfl⟩
  have hb0 : Below W.heap.size W w0 := by rw [hw0]; exact (one_below _ _).trans ((one_below _ _).mono (one_below _ _).size)
  have hA : At w0 W.heap.size [.slice a s.rules.length c, strV s.els.type, .int .i64 s.els.text.1, strV s.els.text.2, .int .i64 s.els.other.1, strV s.els.other.2, .slice ea s.els.kids.length ec, .int .i64 s.els.fill, strV s.els.fillT, .int .i64 o0, .int .i64 o1, .int .i64 o2, .int .i64 o3, .int .i64 o4, .int .i64 o5, .int .i64 s.cap] 30 := by rw [hw0]; exact (At.fresh W _ _).alloc _
  have hN : At w0 (W.heap.size + 1) [.bool l, .slice ap ps.length cp, .slice at_ t.length ct, .slice ak ks.length ck] 35 := by rw [hw0]; exact At.second W _ _ _
  have HS := Lib.hid (fun (w' : World) (hb : Below w0.heap.size w0 w') => rfew15_c s _ w' hs (hu.keep (hb0.trans (hb.mono hb0.size)) (hb0.trans (hb.mono hb0.size)).size))
  have HT := Lib.hid (fun (w' : World) (hb : Below w0.heap.size w0 w') => rfew_c n _ 50 w' hn (by omega) (by omega) (hv.keep (hb0.trans (hb.mono hb0.size)) (hb0.trans (hb.mono hb0.size)).size))
  have HX := Lib.hid (fun (w' : World) (hb : Below w0.heap.size w0 w') => hx.keep (hb0.trans (hb.mono hb0.size)) (hb0.trans (hb.mono hb0.size)).size)
  have hld := fun (w' : World) (h : At w' W.heap.size [.slice a s.rules.length c, strV s.els.type, .int .i64 s.els.text.1, strV s.els.text.2, .int .i64 s.els.other.1, strV s.els.other.2, .slice ea s.els.kids.length ec, .int .i64 s.els.fill, strV s.els.fillT, .int .i64 o0, .int .i64 o1, .int .i64 o2, .int .i64 o3, .int .i64 o4, .int .i64 o5, .int .i64 s.cap] 30) => ldx (P := Tryz.prog) h Tryz.underlying30 rfl (by kernel_rfl)
  simp [go_sem] at hld
  obtain ⟨T, hT⟩ : ∃ T, T = small19 s n (pxs xs) m := ⟨_, rfl⟩
  have HT0 := Lib.hid (show ((pxs (xs.drop 0)).all (fun p => decide (p.length ≤ 40)) && (fewZ (s.rules ++ [s.els]) && (fewB n 50 && (decide (xs.length ≤ 30) && decide (m ≤ 400))))) = T by rw [hT]; unfold small19; simp)
  rw [← hT]
  have HA := Lib.hid hA; have HN := Lib.hid hN
  have Hb0 := Lib.hid hb0; have Hw0 := Lib.hid hw0
  clear hu hv hu0 hv0 hs hn hb0 hw0 hA hN hx hT
  go_enter Tryz.func6, Tryz.ntmps6
  go_upto_region 1 with fail
  rw [← Hw0.out]
  clear Hw0
  go_wp2_with fail
  go_loopg [13] xs.length (fun g i wr => ∃ k : Nat, i = .int .i64 k ∧ k + g = xs.length ∧ Hid (((pxs (xs.drop k)).all (fun p => decide (p.length ≤ 40)) && (fewZ (s.rules ++ [s.els]) && (fewB n 50 && (decide (xs.length ≤ 30) && decide (m ≤ 400))))) = T) ∧ wr = w0)
  case atStart => exact ⟨0, rfl, by omega, HT0, rfl⟩
  case round =>
    obtain ⟨k, rfl, hg, hst, rfl⟩ := hrel
    by_cases hlt : k < xs.length
    · have hlti : (k : Int) < xs.length := by omega
      have hXr := HX.out wr (Below.refl _ _)
      obtain ⟨b, off, rfl, hb, hc⟩ := hXr.at_ k hlt
      have Hst := Lib.hid ((congrArg (· && (fewZ (s.rules ++ [s.els]) && (fewB n 50 && (decide (xs.length ≤ 30) && decide (m ≤ 400))))) (all_drop hlt)).symm.trans hst.out)
      generalize xs[k] = x at hc Hst
      obtain ⟨q0, qa', qc'⟩ := x
      unfold pxV at hc
      simp only at hc Hst
      clear hXr hb hst
      by_cases hq : q0.length ≤ 40
      · have hqi : ¬ (40 : Int) < q0.length := by omega
        have Hst2 := Lib.hid (show ((pxs (xs.drop (k + 1))).all (fun p => decide (p.length ≤ 40)) && (fewZ (s.rules ++ [s.els]) && (fewB n 50 && (decide (xs.length ≤ 30) && decide (m ≤ 400))))) = T by have h := Hst.out; rw [decide_eq_true hq, Bool.true_and] at h; exact h)
        clear hq Hst
        go_wp2_with fail
        go_roundg (xs.length - (k + 1))
        case measure => omega
        case rel => exact ⟨k + 1, by go_num, by omega, Hst2, rfl⟩
      · have hqi : (40 : Int) < q0.length := by omega
        have Hst2 := Lib.hid (show false = T by have h := Hst.out; rw [decide_eq_false hq, Bool.false_and, Bool.false_and] at h; exact h)
        clear hq Hst
        go_wp2_with fail
        go_ret
        exact ⟨ret_bool Hst2.out, Hb0.out⟩
    · obtain rfl : k = xs.length := by omega
      have Hst2 := Lib.hid (show (fewZ (s.rules ++ [s.els]) && (fewB n 50 && (decide (xs.length ≤ 30) && decide (m ≤ 400)))) = T by have h := hst.out; rw [List.drop_length] at h; exact h)
      have hS := hld wr (HA.out)
      have HS1 := Lib.hid (HS.out wr (Below.refl _ _))
      clear hst HX
      have hnl : ¬ (xs.length : Int) < xs.length := by omega
      go_wp2_with fail
      refine HS1.out.mono ?_
      rintro e w1 ⟨rfl, hbel⟩
      have Hb1 := Lib.hid hbel
      have HT1 := Lib.hid (HT.out w1 hbel)
      obtain ⟨⟨y0, y1, y2, y3⟩, -, yl⟩ := (HN.out.kept hbel).f4
      clear hbel HS1 HS hS HN hld
      cases h1 : fewZ (s.rules ++ [s.els]) with
      | false =>
        have Hr := Lib.hid (show false = T by have h := Hst2.out; rw [h1, Bool.false_and] at h; exact h)
        clear h1 HT1 Hst2
        go_wp2_with fail
        go_ret
        exact ⟨ret_bool Hr.out, Hb0.out.trans (Hb1.out.mono Hb0.out.size)⟩
      | true =>
        have Hst3 := Lib.hid (show (fewB n 50 && (decide (xs.length ≤ 30) && decide (m ≤ 400))) = T by have h := Hst2.out; rw [h1, Bool.true_and] at h; exact h)
        clear h1 Hst2
        go_wp2_with fail
        refine HT1.out.mono ?_
        rintro e w2 ⟨rfl, hbel⟩
        have Hb2 := Lib.hid (Hb0.out.trans ((below_and Hb1.out hbel).mono Hb0.out.size))
        clear hbel HT1 y0 y1 y2 y3 yl HT
        cases h2 : fewB n 50 with
        | false =>
          have Hr := Lib.hid (show false = T by have h := Hst3.out; rw [h2, Bool.false_and] at h; exact h)
          clear h2 Hst3
          go_wp2_with fail
          go_ret
          exact ⟨ret_bool Hr.out, Hb2.out⟩
        | true =>
          have Hst4 := Lib.hid (show (decide (xs.length ≤ 30) && decide (m ≤ 400)) = T by have h := Hst3.out; rw [h2, Bool.true_and] at h; exact h)
          clear h2 Hst3
          by_cases h3 : xs.length ≤ 30
          · have h3i : (xs.length : Int) ≤ 30 := by omega
            have Hst5 := Lib.hid (show decide (m ≤ 400) = T by have h := Hst4.out; rw [decide_eq_true h3, Bool.true_and] at h; exact h)
            clear h3 Hst4
            by_cases h4 : m ≤ 400
            · have h4i : (m : Int) ≤ 400 := by omega
              have Hr := Lib.hid ((decide_eq_true h4).symm.trans Hst5.out)
              clear h4 Hst5
              go_wp2_with fail
              go_ret
              exact ⟨ret_bool (by first | exact Hr.out | (rw [← Hr.out]; simp; done) | (rw [← Hr.out]; simp; omega)), Hb2.out⟩
            · have h4i : ¬ (m : Int) ≤ 400 := by omega
              have Hr := Lib.hid ((decide_eq_false h4).symm.trans Hst5.out)
              clear h4 Hst5
              go_wp2_with fail
              go_ret
              exact ⟨ret_bool (by first | exact Hr.out | (rw [← Hr.out]; simp; done) | (rw [← Hr.out]; simp; omega)), Hb2.out⟩
          · have h3i : ¬ (xs.length : Int) ≤ 30 := by omega
            have Hr := Lib.hid (show false = T by have h := Hst4.out; rw [decide_eq_false h3, Bool.false_and] at h; exact h)
            clear h3 Hst4
            go_wp2_with fail
            go_ret
            exact ⟨ret_bool (by first | exact Hr.out | (rw [← Hr.out]; simp; done) | (rw [← Hr.out]; simp; omega)), Hb2.out⟩

end Go.Proofs.YtajclfjedlkbcaaGreatDoor
/- Plain words: a row put behind a row, in a region that draws; which lists have one region. -/
namespace Go.Proofs.YtajclfjedlkbcaaGreatDoor
open Go.RowKit Go.Redl
set_option linter.unusedVariables false
set_option linter.unusedSimpArgs false

/-- A row put behind an own row. -/
theorem RowX.join {M : Nat} {w w' : World} {v v' : Value} {xs ys : List PX} {B : Nat} {u : Value} (h : RowX w M 0 v xs) (hr : ReadX w B u ys) (hBM : B ≤ M) (hB : B ≤ w.heap.size)
    (hg : w.grownBy w' v.ownBlock) (hown : w'.ownsRow M 47 1 v' (xs.length + ys.length) (xs.map pxV ++ ys.map pxV)) (hw : v'.ownBlock = v.ownBlock ∨ ∀ k, v'.ownBlock = some k → w.heap.size ≤ k) : RowX w' M 0 v' (xs ++ ys) := by
  have hs := hg.size
  have hall : ∀ x ∈ xs ++ ys, PxQ w (fun b => 0 ≤ b ∧ v.ownBlock ≠ some b) x := fun x hx => by
    rcases List.mem_append.1 hx with hx | hx
    · exact h.all x hx
    · exact rowq_imp ((hr.all x hx).q hB) fun b hb => ⟨Nat.zero_le _, fun e => by have := h.ge b e; omega⟩
  refine ⟨by rw [List.length_append, List.map_append]; exact hown, fun x hx => (hall x hx).keep hs (fun b hb hlt => hg.block b hlt (fun e => hb.2 e.symm)) fun b hb hlt => ⟨Nat.zero_le _, ?_⟩⟩
  rcases hw with e | e
  · rw [e]; exact hb.2
  · intro e2; have := e b e2; omega
theorem step_appx {P : Program} {ops : Array Oper} {o : Oper} {a : Act} {w : World} {K : Act → World → Prop} {Q : Exit → Act → World → Prop} {E : Prop}
    (hg : o.guard = none) (s x : Operand) (ho : o.op = .call { callee := .builtin .append, args := #[s, x], argTypes := #[36, 36] })
    (ht : P.underlying 36 = some (.slice 47)) (hi : (P.info? 47).map (fun i => (i.zero, i.size, i.bytes)) = some (some (.slice none 0 0), 1, 24))
    (M : Nat) (v : Value) (xs : List PX) (hs : a.eval s = v) (hO : RowX w M 0 v xs) (ys : List PX) (ya : Option Addr) (yc B : Nat) (hx : a.eval x = .slice ya ys.length yc) (hr : ReadX w B (.slice ya ys.length yc) ys) (hBM : B ≤ M) (hB : B ≤ w.heap.size)
    (hn : xs.length + ys.length ≤ 100000000) (hM : M ≤ w.heap.size)
    (h : ∀ v' w', RowX w' M 0 v' (xs ++ ys) → Below M w w' → K (a.put o.dst v') w') : if Region.wanted o (yielded ops a.tmps) = true then Oper.wp P o a w K Q else E := by
  cases ya with
  | none =>
    obtain ⟨a', c', hv, hrow⟩ := hr.row
    injection hv with e1 e2 e3
    subst e1; subst e3
    have hc0 : yc = 0 := hrow.nil rfl
    have hn0 : ys.length = 0 := by have := hrow.le; omega
    obtain rfl : ys = [] := List.eq_nil_of_length_eq_zero hn0
    subst hc0
    have hw : Region.wanted o (yielded ops a.tmps) = true := by simp [Region.wanted, hg]
    rw [if_pos hw]
    obtain ⟨i, hi', -, hsize, -⟩ := info_parts hi
    have hrun := run_append_owned_none (P := P) (w := w) M 36 o.type 47 i 1 ht hi' v xs.length (xs.map pxV) hO.own
    unfold Oper.wp execOp
    simp only [ho, resolve, invoke, builtin, Sem.run_bind, Sem.run_pure, Result.andThen_ok, List.map_toArray, List.map_cons, List.map_nil, hs, hx, List.length_nil, hrun]
    exact h v w (by rw [List.append_nil]; exact hO) (Below.refl _ _)
  | some ad =>
    obtain ⟨a', c', hv, hrow⟩ := hr.row
    injection hv with e1 e2 e3
    subst e1; subst e3
    refine step_app2 hg s x 36 ho M 47 (.slice none 0 0) 1 24 ht hi rfl (by decide) v xs.length (xs.map pxV) hs hO.own ad ys.length yc B (ys.map pxV) hx hrow (by unfold maxLen; omega) (by omega) hM fun v' w' hown hgrow hwh => ?_
    exact h v' w' (RowX.join hO hr hBM hB hgrow hown hwh) ((Below.refl M w).grown hgrow hM (fun k hk => hO.ge k hk))

theorem readyF_len : ∀ (q : Option (List Int)) (l : List (List Int)), (readyF q l).length ≤ l.length := by
  intro q l
  induction l generalizing q with
  | nil => cases q <;> simp [readyF]
  | cons p l ih =>
    cases q with
    | none => simp only [readyF, List.length_cons]; have := ih (some p); omega
    | some q =>
      simp only [readyF]
      split
      · have := ih (some q); simp; omega
      · have := ih (some p); simp; omega
theorem ready_of {L : List (List Int)} : (readyL (setL L)).length ≤ L.length ∧ ∀ p ∈ readyL (setL L), p ∈ L :=
  ⟨Nat.le_trans (readyF_len none (setL L)) (setL_len L), fun p hp => mem_setL.1 ((readyL_spec _ (setL_strict L)).1 p hp)⟩
/-- Lists that lead to the same elements have one region. -/
theorem reg_cov {n : NodeD} (hw : n.wt ≤ 1048576) {L L' : List (List Int)} (h : ∀ x, covB (L.filter (isElem n)) x = covB (L'.filter (isElem n)) x) : regN n L = regN n L' := by
  rw [regN_eq hw, regN_eq hw]
  congr 1
  funext x
  exact h x
theorem reg_twice {n : NodeD} (hw : n.wt ≤ 1048576) (L : List (List Int)) : regN n (L ++ L) = regN n L :=
  reg_cov hw fun x => by rw [List.filter_append]; unfold covB; rw [List.any_append, Bool.or_self]
theorem reg_elems {n : NodeD} (hw : n.wt ≤ 1048576) (L : List (List Int)) : regN n (L.filter (isElem n)) = regN n L :=
  reg_cov hw fun x => by rw [List.filter_filter]; simp
theorem reg_ready {n : NodeD} (hw : n.wt ≤ 1048576) (L : List (List Int)) : regN n (readyL (setL (L.filter (isElem n)))) = regN n L :=
  reg_cov hw fun x => by
    have he : (readyL (setL (L.filter (isElem n)))).filter (isElem n) = readyL (setL (L.filter (isElem n))) := List.filter_eq_self.2 fun p hp => by
      have h1 := (readyL_spec _ (setL_strict (L.filter (isElem n)))).1 p hp
      exact (List.mem_filter.1 (mem_setL.1 h1)).2
    rw [he, cov_ready]

end Go.Proofs.YtajclfjedlkbcaaGreatDoor
/- Plain laws: the region of all elements; more elements, no smaller a region. -/
namespace Go.Proofs.YtajclfjedlkbcaaGreatDoor
open Go.RowKit Go.Redl
set_option linter.unusedVariables false
set_option linter.unusedSimpArgs false

theorem mem_pathsK {want : NodeD → Bool} : ∀ (ks : List NodeD) (j : Nat) (q : List Int) (m : Nat) (k : NodeD) (x : List Int), ks[m]? = some k → x ∈ pathsW want k (q ++ [((j + m : Nat) : Int)]) → x ∈ pathsK want ks j q
  | [], j, q, m, k, x, h, _ => by simp at h
  | c :: ks, j, q, 0, k, x, h, hx => by
    simp at h
    subst h
    unfold pathsK
    exact List.mem_append.2 (.inl (by simpa using hx))
  | c :: ks, j, q, m + 1, k, x, h, hx => by
    unfold pathsK
    refine List.mem_append.2 (.inr (mem_pathsK ks (j + 1) q m k x (by simpa using h) ?_))
    rw [show j + 1 + m = j + (m + 1) by omega]
    exact hx
theorem mem_paths : ∀ (p : List Int) (n k : NodeD) (q : List Int), atN n p = some k → q ++ p ∈ pathsW (fun _ => true) n q
  | [], .mk l ps t ks, k, q, _ => by unfold pathsW; simp
  | i :: p, .mk l ps t ks, k, q, h => by
    rw [atN] at h
    split at h
    · rename_i hi
      cases hk : ks[i.toNat]? with
      | none => rw [show (kidsOf (.mk l ps t ks))[i.toNat]? = ks[i.toNat]? from rfl, hk] at h; cases h
      | some c =>
        rw [show (kidsOf (.mk l ps t ks))[i.toNat]? = ks[i.toNat]? from rfl, hk] at h
        have ih := mem_paths p c k (q ++ [i]) h
        unfold pathsW
        refine List.mem_append.2 (.inr (mem_pathsK ks 0 q i.toNat c _ hk ?_))
        rw [show ((0 + i.toNat : Nat) : Int) = i by omega]
        simpa using ih
    · cases h
theorem elem_mem {n : NodeD} {q : List Int} (h : isElem n q = true) : q ∈ allN n := by
  unfold isElem at h
  cases hat : atN n q with
  | none => rw [hat] at h; cases h
  | some k => simpa using mem_paths q n k [] hat
/-- All elements of a tree. -/
abbrev elemsN (n : NodeD) : List (List Int) := (allN n).filter (isElem n)
theorem cov_elems {n : NodeD} {x : List Int} : covB (elemsN n) x = true ↔ ∃ q, isElem n q = true ∧ q <+: x := by
  rw [cov_iff]
  constructor
  · rintro ⟨q, h1, h2⟩; exact ⟨q, (List.mem_filter.1 h1).2, h2⟩
  · rintro ⟨q, h1, h2⟩; exact ⟨q, List.mem_filter.2 ⟨elem_mem h1, h1⟩, h2⟩
/-- The region of all elements. -/
def regA (n : NodeD) : Nat := regN n (setL (elemsN n))
theorem regA_eq {n : NodeD} (hw : n.wt ≤ 1048576) : regA n = (allN n).countP (covB (elemsN n)) := by
  unfold regA
  rw [regN_eq hw]
  congr 1
  funext x
  rw [Bool.eq_iff_iff, cov_iff, cov_iff]
  constructor
  · rintro ⟨q, h1, h2⟩; exact ⟨q, mem_setL.1 (List.mem_filter.1 h1).1, h2⟩
  · rintro ⟨q, h1, h2⟩; exact ⟨q, List.mem_filter.2 ⟨mem_setL.2 h1, (List.mem_filter.1 h1).2⟩, h2⟩
theorem regA_most {n : NodeD} (hw : n.wt ≤ 1048576) (L : List (List Int)) : regN n L ≤ regA n := by
  rw [regN_eq hw, regA_eq hw]
  refine List.countP_mono_left fun x _ h => ?_
  obtain ⟨q, h1, h2⟩ := cov_iff.1 h
  exact cov_elems.2 ⟨q, (List.mem_filter.1 h1).2, h2⟩
theorem reg_more {n : NodeD} (hw : n.wt ≤ 1048576) (L L' : List (List Int)) : regN n L ≤ regN n (L ++ L') := by
  rw [regN_eq hw, regN_eq hw]
  refine List.countP_mono_left fun x _ h => ?_
  obtain ⟨q, h1, h2⟩ := cov_iff.1 h
  exact cov_iff.2 ⟨q, by rw [List.filter_append]; exact List.mem_append.2 (.inl h1), h2⟩
theorem reg_nil (n : NodeD) : regN n [] = 0 := rfl
theorem regA_le {n : NodeD} (hw : n.wt ≤ 1048576) : regA n ≤ n.wt := by
  rw [regA_eq hw]
  exact Nat.le_trans (List.countP_le_length) (pathsW_len _ n [])
theorem regA_elem {n : NodeD} (hw : n.wt ≤ 1048576) (hl : leafOf n = false) : regA n = (allN n).length := by
  rw [regA_eq hw]
  refine List.countP_eq_length.2 fun x _ => cov_elems.2 ⟨[], ?_, List.nil_prefix⟩
  unfold isElem
  rw [show atN n [] = some n by rw [atN]]
  simp [hl]
mutual
theorem pathsW_map (want : NodeD → Bool) : ∀ (n : NodeD) (p q : List Int), pathsW want n (p ++ q) = (pathsW want n q).map (p ++ ·)
  | .mk l ps t ks, p, q => by
    unfold pathsW
    rw [List.map_append, pathsK_map want ks 0 p q]
    split <;> simp
theorem pathsK_map (want : NodeD → Bool) : ∀ (ks : List NodeD) (i : Nat) (p q : List Int), pathsK want ks i (p ++ q) = (pathsK want ks i q).map (p ++ ·)
  | [], i, p, q => rfl
  | k :: ks, i, p, q => by
    unfold pathsK
    rw [List.map_append, List.append_assoc, pathsW_map want k p (q ++ [(i : Int)]), pathsK_map want ks (i + 1) p q]
end
def sumA (ks : List NodeD) : Nat := (ks.map regA).sum
theorem sumA_le : ∀ {ks : List NodeD}, wtAll ks ≤ 1048576 → sumA ks ≤ wtAll ks
  | [], _ => by simp [sumA, wtAll]
  | k :: ks, h => by
    simp only [wtAll] at h
    have h1 := regA_le (n := k) (by omega)
    have h2 := sumA_le (ks := ks) (by omega)
    have e : sumA (k :: ks) = regA k + sumA ks := by simp [sumA]
    rw [e]
    simp only [wtAll]
    omega
/-- A leaf that has Kids all the same: the regions of these. -/
theorem regA_leaf {n : NodeD} (hw : n.wt ≤ 1048576) (hl : leafOf n = true) : regA n = sumA (kidsOf n) := by
  rw [regA_eq hw]
  obtain ⟨l, ps, t, ks⟩ := n
  have hroot : isElem (.mk l ps t ks) [] = false := by
    unfold isElem
    rw [show atN (.mk l ps t ks) [] = some (.mk l ps t ks) by rw [atN]]
    simp only [leafOf] at hl ⊢
    simp [hl]
  have hkw : wtAll ks ≤ 1048576 := by simp only [NodeD.wt] at hw; omega
  have hat : ∀ (m : Nat) (k : NodeD) (q : List Int), ks[m]? = some k → isElem (.mk l ps t ks) ((m : Int) :: q) = isElem k q := by
    intro m k q hk
    unfold isElem
    rw [atN, if_pos (by omega)]
    rw [show (kidsOf (.mk l ps t ks))[((m : Int)).toNat]? = some k by show ks[((m : Int)).toNat]? = _; simpa using hk]
  have hcov : ∀ (m : Nat) (k : NodeD) (y : List Int), ks[m]? = some k → covB (elemsN (.mk l ps t ks)) ((m : Int) :: y) = covB (elemsN k) y := by
    intro m k y hk
    rw [Bool.eq_iff_iff, cov_elems, cov_elems]
    constructor
    · rintro ⟨q, h1, h2⟩
      cases q with
      | nil => rw [hroot] at h1; cases h1
      | cons i q =>
        obtain ⟨rfl, h3⟩ := List.cons_prefix_cons.1 h2
        exact ⟨q, by rw [← hat m k q hk]; exact h1, h3⟩
    · rintro ⟨q, h1, h2⟩
      exact ⟨(m : Int) :: q, by rw [hat m k q hk]; exact h1, List.cons_prefix_cons.2 ⟨rfl, h2⟩⟩
  have hK : ∀ (cs : List NodeD) (j : Nat), (∀ m, cs[m]? = ks[j + m]?) → wtAll cs ≤ 1048576 → (pathsK (fun _ => true) cs j []).countP (covB (elemsN (.mk l ps t ks))) = sumA cs := by
    intro cs
    induction cs with
    | nil => intro j _ _; unfold pathsK; simp [sumA]
    | cons c cs ih =>
      intro j hj hcw
      have h0 := hj 0
      simp only [List.getElem?_cons_zero, Nat.add_zero] at h0
      simp only [wtAll] at hcw
      unfold pathsK
      rw [List.countP_append, ih (j + 1) (fun m => by have := hj (m + 1); simp only [List.getElem?_cons_succ] at this; rw [this]; congr 1; omega) (by omega)]
      have e : pathsW (fun _ => true) c ([] ++ [(j : Int)]) = (allN c).map ((j : Int) :: ·) := by
        have := pathsW_map (fun _ => true) c [(j : Int)] []
        simpa using this
      rw [e, List.countP_map]
      have e2 : (allN c).countP (covB (elemsN (.mk l ps t ks)) ∘ ((j : Int) :: ·)) = regA c := by
        rw [regA_eq (by omega)]
        congr 1
        funext y
        exact hcov j c y h0.symm
      rw [e2]
      simp [sumA]
  have h0 : covB (elemsN (.mk l ps t ks)) [] = false := by
    cases h : covB (elemsN (.mk l ps t ks)) [] with
    | false => rfl
    | true =>
      obtain ⟨q, h1, h2⟩ := cov_elems.1 h
      rw [List.prefix_nil.1 h2, hroot] at h1
      cases h1
  show (pathsW (fun _ => true) (.mk l ps t ks) []).countP (covB (elemsN (.mk l ps t ks))) = sumA ks
  rw [pathsW, List.countP_append, hK ks 0 (fun m => by simp) hkw]
  simp only [if_true]
  rw [List.countP_cons_of_neg (by simp [h0]), List.countP_nil, Nat.zero_add]
mutual
theorem pathsW_long (want : NodeD → Bool) : ∀ (n : NodeD) (p x : List Int), x ∈ pathsW want n p → x.length ≤ p.length + n.wt
  | .mk l ps t ks, p, x => by
    intro h
    unfold pathsW at h
    rcases List.mem_append.1 h with h | h
    · split at h
      · rw [List.mem_singleton.1 h]; omega
      · simp at h
    · have := pathsK_long want ks 0 p x h
      simp only [NodeD.wt]; omega
theorem pathsK_long (want : NodeD → Bool) : ∀ (ks : List NodeD) (i : Nat) (p x : List Int), x ∈ pathsK want ks i p → x.length ≤ p.length + 1 + wtAll ks
  | [], i, p, x => by intro h; unfold pathsK at h; simp at h
  | k :: ks, i, p, x => by
    intro h
    unfold pathsK at h
    simp only [wtAll]
    rcases List.mem_append.1 h with h | h
    · have := pathsW_long want k _ x h
      simp at this; omega
    · have := pathsK_long want ks (i + 1) p x h
      omega
end
theorem elems_long {n : NodeD} : (setL (elemsN n)).length ≤ n.wt ∧ ∀ p ∈ setL (elemsN n), p.length ≤ n.wt :=
  ⟨Nat.le_trans (setL_len _) (Nat.le_trans (List.length_filter_le _ _) (pathsW_len _ n [])), fun p hp => by
    have := pathsW_long _ n [] p (List.mem_filter.1 (mem_setL.1 hp)).1
    simpa using this⟩

end Go.Proofs.YtajclfjedlkbcaaGreatDoor
/- Walk: WeightTwice. -/
namespace Go.Proofs.YtajclfjedlkbcaaGreatDoor
open Go.RowKit Go.Redl
set_option linter.unusedVariables false
set_option linter.unusedSimpArgs false

theorem small19_lens {s : SchemaD} {n : NodeD} {L : List (List Int)} {m : Nat} (h : small19 s n L m = true) : (∀ p ∈ L, p.length ≤ 40) ∧ L.length ≤ 30 := by
  unfold small19 at h
  simp only [Bool.and_eq_true, List.all_eq_true, decide_eq_true_eq] at h
  exact ⟨h.1, h.2.2.2.1⟩

end Go.Proofs.YtajclfjedlkbcaaGreatDoor
/- Walk: WeightAll. -/
namespace Go.Proofs.YtajclfjedlkbcaaGreatDoor
open Go.RowKit Go.Redl
set_option linter.unusedVariables false
set_option linter.unusedSimpArgs false

/-- A path put behind an own row, in a region that draws. -/
theorem step_pushx {P : Program} {ops : Array Oper} {o : Oper} {a : Act} {w : World} {K : Act → World → Prop} {Q : Exit → Act → World → Prop} {E : Prop}
    (hg : o.guard = none) (s x : Operand) (ho : o.op = .call { callee := .builtin .append, args := #[s, x], argTypes := #[36, 36] })
    (ht : P.underlying 36 = some (.slice 47)) (hi : (P.info? 47).map (fun i => (i.zero, i.size, i.bytes)) = some (some (.slice none 0 0), 1, 24))
    (M : Nat) (v : Value) (xs : List PX) (hs : a.eval s = v) (hO : RowX w M 0 v xs) (y : PX) (ad : Addr) (B : Nat) (hx : a.eval x = .slice (some ad) 1 1) (hr : RowA w B 1 (some ad) 1 1 [pxV y]) (hq : PxQ w (fun b => 0 ≤ b ∧ v.ownBlock ≠ some b) y)
    (hn : xs.length ≤ 100000000) (hM : M ≤ w.heap.size)
    (h : ∀ v' w', RowX w' M 0 v' (xs ++ [y]) → Below M w w' → K (a.put o.dst v') w') : if Region.wanted o (yielded ops a.tmps) = true then Oper.wp P o a w K Q else E := by
  refine step_app2 hg s x 36 ho M 47 (.slice none 0 0) 1 24 ht hi rfl (by decide) v xs.length (xs.map pxV) hs hO.own ad 1 1 B [pxV y] hx hr (by unfold maxLen; omega) (by omega) hM fun v' w' hown hgrow hwh => ?_
  refine h v' w' ⟨by rw [List.length_append, List.map_append]; exact hown, fun z hz => ?_⟩ ((Below.refl M w).grown hgrow hM (fun k hk => hO.ge k hk))
  have hall : PxQ w (fun b => 0 ≤ b ∧ v.ownBlock ≠ some b) z := by
    rcases List.mem_append.1 hz with hz | hz
    · exact hO.all z hz
    · rw [List.mem_singleton.1 hz]; exact hq
  refine hall.keep hgrow.size (fun b hb hlt => hgrow.block b hlt (fun e => hb.2 e.symm)) fun b hb hlt => ⟨Nat.zero_le _, ?_⟩
  rcases hwh with e | e
  · rw [e]; exact hb.2
  · intro e2; have := e b e2; omega

/-- The same as step_appx, telling which blocks stay. -/
theorem step_appg {P : Program} {ops : Array Oper} {o : Oper} {a : Act} {w : World} {K : Act → World → Prop} {Q : Exit → Act → World → Prop} {E : Prop}
    (hg : o.guard = none) (s x : Operand) (ho : o.op = .call { callee := .builtin .append, args := #[s, x], argTypes := #[36, 36] })
    (ht : P.underlying 36 = some (.slice 47)) (hi : (P.info? 47).map (fun i => (i.zero, i.size, i.bytes)) = some (some (.slice none 0 0), 1, 24))
    (M : Nat) (v : Value) (xs : List PX) (hs : a.eval s = v) (hO : RowX w M 0 v xs) (ys : List PX) (ya : Option Addr) (yc B : Nat) (hx : a.eval x = .slice ya ys.length yc) (hr : ReadX w B (.slice ya ys.length yc) ys) (hBM : B ≤ M) (hB : B ≤ w.heap.size)
    (hn : xs.length + ys.length ≤ 100000000) (hM : M ≤ w.heap.size)
    (h : ∀ v' w', RowX w' M 0 v' (xs ++ ys) → Below M w w' → w.grownBy w' v.ownBlock → K (a.put o.dst v') w') : if Region.wanted o (yielded ops a.tmps) = true then Oper.wp P o a w K Q else E := by
  cases ya with
  | none =>
    obtain ⟨a', c', hv, hrow⟩ := hr.row
    injection hv with e1 e2 e3
    subst e1; subst e3
    have hc0 : yc = 0 := hrow.nil rfl
    have hn0 : ys.length = 0 := by have := hrow.le; omega
    obtain rfl : ys = [] := List.eq_nil_of_length_eq_zero hn0
    subst hc0
    have hw : Region.wanted o (yielded ops a.tmps) = true := by simp [Region.wanted, hg]
    rw [if_pos hw]
    obtain ⟨i, hi', -, hsize, -⟩ := info_parts hi
    have hrun := run_append_owned_none (P := P) (w := w) M 36 o.type 47 i 1 ht hi' v xs.length (xs.map pxV) hO.own
    unfold Oper.wp execOp
    simp only [ho, resolve, invoke, builtin, Sem.run_bind, Sem.run_pure, Result.andThen_ok, List.map_toArray, List.map_cons, List.map_nil, hs, hx, List.length_nil, hrun]
    exact h v w (by rw [List.append_nil]; exact hO) (Below.refl _ _) (World.grownBy.refl _ _)
  | some ad =>
    obtain ⟨a', c', hv, hrow⟩ := hr.row
    injection hv with e1 e2 e3
    subst e1; subst e3
    refine step_app2 hg s x 36 ho M 47 (.slice none 0 0) 1 24 ht hi rfl (by decide) v xs.length (xs.map pxV) hs hO.own ad ys.length yc B (ys.map pxV) hx hrow (by unfold maxLen; omega) (by omega) hM fun v' w' hown hgrow hwh => ?_
    exact h v' w' (RowX.join hO hr hBM hB hgrow hown hwh) ((Below.refl M w).grown hgrow hM (fun k hk => hO.ge k hk)) hgrow
theorem row_of_at {w : World} {N : Nat} {v : Value} {T : TypeId} (h : At w N [v] T) (h1 : v.oneCell' = true) : RowA w (N + 1) 1 (some ⟨N, 0, none⟩) 1 1 [v] :=
  ⟨by simp, Nat.le_refl _, by unfold maxLen; omega, by simp [h1], (fun h => by cases h), fun _ => ⟨N, 0, rfl, by omega, fun j u hj => by rw [Nat.zero_add]; exact h.cell j hj⟩⟩
theorem At.drewn {w : World} {N : Nat} {cs : List Value} {T : TypeId} (h : At w N cs T) : At w.drew N cs T := h
theorem sumA_drop {ks : List NodeD} {k : Nat} (h : k < ks.length) : sumA (ks.drop k) = regA ks[k] + sumA (ks.drop (k + 1)) := by
  unfold sumA; rw [List.drop_eq_getElem_cons h, List.map_cons, List.sum_cons]

end Go.Proofs.YtajclfjedlkbcaaGreatDoor
