/- Walks: node.Copy. -/
import Derived.Test.YtiinmgccjlmoaaaRCO
namespace Go.Proofs.Ytiinmgccjlmoaaa
open Go.RowKit Go.Redl
set_option linter.unusedVariables false

theorem clp_ent : ∀ args w, (callFunc 61 args).run Try.prog w = .ok (.enter 61 args) w := by intro args w; kernel_rfl
theorem clr_ent : ∀ args w, (callFunc 71 args).run Try.prog w = .ok (.enter 71 args) w := by intro args w; kernel_rfl
theorem cln_ent : ∀ args w, (callFunc 72 args).run Try.prog w = .ok (.enter 72 args) w := by intro args w; kernel_rfl
theorem copy_ent : ∀ args w, (callFunc 40 args).run Try.prog w = .ok (.enter 40 args) w := by intro args w; kernel_rfl

/-- Two rows of the call's own, made one behind the other. -/
theorem row_apart {w1 w3 : World} {b1 b3 e e' sz sz' n n' c M : Nat} {a : Option Addr} {u : Value} {cs cs' : List Value} (h1 : w1.ownsRow b1 e sz (.slice a n c) n cs) (ho : ∀ u ∈ cs, u.oneCell' = true) (hb : Below w1.heap.size w1 w3) (h3 : w3.ownsRow b3 e' sz' u n' cs') (hle : w1.heap.size ≤ b3) (hM : M ≤ b1) :
    RowQ w3 (fun b => M ≤ b ∧ u.ownBlock ≠ some b) sz a n c cs := by
  obtain ⟨a', c', hv, hr⟩ := RowQ.of_own h1 ho
  injection hv with e1 e2 e3
  subst e1; subst e3
  refine hr.keep hb.size (fun b _ hlt => hb.block b hlt) (fun b hk hlt => ⟨Nat.le_trans hM (h1.lt b hk).1, fun hu => ?_⟩)
  have := (h3.lt b hu).1
  omega
theorem own_some {w : World} {base e sz n c : Nat} {a : Option Addr} {cs : List Value} (h : w.ownsRow base e sz (.slice a n c) n cs) (hne : cs ≠ []) : ∃ g, a = some ⟨g, 0, none⟩ ∧ base ≤ g := by
  rcases h.2 with ⟨h', h2⟩ | ⟨g, cap, cur, h', hb, hg, -⟩
  · have := h.1
    rw [h2] at this
    exact absurd (List.eq_nil_of_length_eq_zero (by simpa using this)) hne
  · injection h' with e1 e2 e3
    exact ⟨g, e1, hb⟩

theorem KidsQ.len' {w : World} {ok : Nat → Prop} {ks : List NodeD} {css : List Value} (h : KidsQ w ok ks css) : css.length = ks.length * 4 := (KidsQ.kids _ _ h).len
theorem set_four {p q r : List Value} {k : Nat} {a b c d u0 u1 u2 u3 : Value} (hk : p.length = k) (hq : q = a :: b :: c :: d :: r) : ((((p ++ q).set k u0).set (k + 1) u1).set (k + 2) u2).set (k + 3) u3 = (p ++ [u0, u1, u2, u3]) ++ r := by
  subst hq; subst hk
  simp
theorem own_at {w : World} {base e sz n c g : Nat} {cs : List Value} (h : w.ownsRow base e sz (.slice (some ⟨g, 0, none⟩) n c) n cs) (j : Nat) (u : Value) (hu : cs[j]? = some u) : w.cell? ⟨g, j, none⟩ = some u := by
  have := World.ownsRow.cells (g := g) h rfl j u hu
  rw [addr_add] at this
  simpa using this

/-- What Copy gives: the same tree, in memory of its own. -/
def CopyP (W : World) (n : NodeD) (e : Ending) (w' : World) : Prop := ∃ cs, e = .returned (.agg cs.toArray) ∧ NodeQ w' (fun b => W.heap.size ≤ b) n cs ∧ Below W.heap.size W w'

set_option maxRecDepth 100000 in
set_option maxHeartbeats 4000000 in
theorem copy_c (m : Nat) : ∀ (n : NodeD) (v : Value) (W : World), n.wt ≤ m → n.wt ≤ 100000000 → NodeV W W.heap.size n v → Calls Try.prog 40 #[v] W (CopyP W n) := by
  induction m with
  | zero => intro n v W hm; have := wt_pos n; omega
  | succ m IH =>
    intro n v W hm hbig hv
    obtain ⟨l, ps, t, ks⟩ := n
    obtain ⟨ap, cp, at_, ct, ak, ck, css, rfl, hp, ht, hk, hkk⟩ := hv.open
    have hwt : wtAll ks ≤ m := by simp only [NodeD.wt] at hm; omega
    have hpl : ps.length ≤ 100000000 := by have := propsWt_len ps; simp only [NodeD.wt] at hbig; omega
    have htl : t.length ≤ 100000000 := by simp only [NodeD.wt] at hbig; omega
    have hkl : ks.length ≤ 100000000 := by have := wtAll_len ks; simp only [NodeD.wt] at hbig; omega
    have hkw : wtAll ks ≤ 100000000 := by simp only [NodeD.wt] at hbig; omega
    obtain ⟨⟨at2, ct2, htv, htr⟩, htw⟩ := ht
    injection htv with e1 e2 e3
    subst e1; subst e3
    have hA := (NodeAt.fresh W (.bool l) (.slice ap ps.length cp) (.slice at_ t.length ct) (.slice ak ks.length ck)).alloc (Obj.cells #[.bool false, .slice none 0 0, .slice none 0 0, .slice none 0 0] 35)
    have hB := node_second W (Obj.cells #[.bool l, .slice ap ps.length cp, .slice at_ t.length ct, .slice ak ks.length ck] 35) (.bool false) (.slice none 0 0) (.slice none 0 0) (.slice none 0 0)
    have hb0 : Below W.heap.size W ((W.alloc (Obj.cells #[.bool l, .slice ap ps.length cp, .slice at_ t.length ct, .slice ak ks.length ck] 35)).alloc (Obj.cells #[.bool false, .slice none 0 0, .slice none 0 0, .slice none 0 0] 35)) := ((Below.refl _ _).alloc (Nat.le_refl _) _).alloc (by simp) _
    have hs0 : ((W.alloc (Obj.cells #[.bool l, .slice ap ps.length cp, .slice at_ t.length ct, .slice ak ks.length ck] 35)).alloc (Obj.cells #[.bool false, .slice none 0 0, .slice none 0 0, .slice none 0 0] 35)).heap.size = W.heap.size + 2 := by simp
    have HI := Lib.hid (fun (i : Nat) (h : i < ks.length) (v : Value) (W2 : World) (q : NodeV W2 W2.heap.size ks[i] v) => IH ks[i] v W2 (Nat.le_trans (wtAll_mem (List.getElem_mem h)) hwt) (Nat.le_trans (wtAll_mem (List.getElem_mem h)) hkw) q)
    have Hp := Lib.hid (hp.keep hb0 (Nat.le_refl _)); have Ht := Lib.hid (htr.keep hb0 (Nat.le_refl _)); have Hk := Lib.hid (hk.keep hb0 (Nat.le_refl _)); have Hkk := Lib.hid (KidsC.keep hb0 (Nat.le_refl _) _ _ hkk)
    have Htone := Lib.hid (show ∀ u ∈ t.map (Value.int .i32), u.oneCell' = true by intro u hu; obtain ⟨z, -, rfl⟩ := List.mem_map.1 hu; rfl); have Hkkone := Lib.hid hkk.one
    have HkkW := Lib.hid hkk
    have Htw := Lib.hid htw; have Hb0 := Lib.hid hb0; have HA := Lib.hid hA; have HB := Lib.hid hB; have Hs0 := Lib.hid hs0
    clear IH hm hbig hv hp htr hk hkk htw hb0 hA hB hwt hkw hs0
    go_enter Try.func40, Try.ntmps40
    go_upto_region 1 with fail
    obtain ⟨w0, hw0⟩ : ∃ w0, w0 = (W.alloc (Obj.cells #[.bool l, .slice ap ps.length cp, .slice at_ t.length ct, .slice ak ks.length ck] 35)).alloc (Obj.cells #[.bool false, .slice none 0 0, .slice none 0 0, .slice none 0 0] 35) := ⟨_, rfl⟩
    rw [← hw0] at Hp Ht Hk Hkk Hb0 HA HB Hs0 ⊢
    clear hw0
    obtain ⟨x0, x1, x2, x3, ⟨f0, f1, f2, f3⟩, hA4⟩ := HA.out.facts
    go_cut [] (fun wx => ∃ pa pc ta tc ka kc, NodeAt wx W.heap.size (.bool l) (.slice pa ps.length pc) (.slice ta t.length tc) (.slice ka ks.length kc) ∧ NodeAt wx (W.heap.size + 1) (.bool false) (.slice none 0 0) (.slice none 0 0) (.slice none 0 0) ∧
      RowQ wx (fun b => W.heap.size + 2 ≤ b ∧ (Value.slice ka ks.length kc).ownBlock ≠ some b) 2 pa ps.length pc (propCells ps) ∧ RowQ wx (fun b => W.heap.size + 2 ≤ b ∧ (Value.slice ka ks.length kc).ownBlock ≠ some b) 1 ta t.length tc (t.map (Value.int .i32)) ∧
      wx.ownsRow (W.heap.size + 2) 35 4 (.slice ka ks.length kc) ks.length css ∧ Below W.heap.size W wx)
    case first =>
      go_region_law (first
        | (refine step_call rfl 61 _ _ rfl clp_ent [Value.slice ap ps.length cp] ?_ _ (clone_prop W.heap.size ps.length ap cp _ _ (Hp.out.keep ?_ (Nat.le_refl _)) ?_ hpl) ?_
           · go_simp
           · exact (Below.refl _ _).drew
           · show W.heap.size ≤ w0.heap.size; rw [Hs0.out]; omega
           rintro e w1 ⟨v1, rfl, hown, hbel⟩
           obtain ⟨pa, pc, rfl, -⟩ := row_of_own hown (propCells_one _)
           refine ⟨_, rfl, ?_⟩
           have Hbel1 := Lib.hid (((Below.refl w0.heap.size w0).drew).trans hbel); have Hown1 := Lib.hid hown
           have hA1 := HA.out.keep (Hbel1.out.mono (by rw [Hs0.out]; omega))
           obtain ⟨y0, y1, y2, y3, ⟨k0, k1, k2, k3⟩, hA5⟩ := hA1.facts
           clear hbel hown hA1)
        | (refine step_call rfl 71 _ _ rfl clr_ent [Value.slice at_ t.length ct] ?_ _ (clone_runes W.heap.size t.length at_ ct _ _ (Ht.out.keep (Hbel1.out.mono ?_) (Nat.le_refl _)) ?_ htl) ?_
           · go_simp
           · rw [Hs0.out]; omega
           · have := Hbel1.out.size; rw [Hs0.out] at this; omega
           rintro e w2 ⟨v2, rfl, hown, hbel⟩
           obtain ⟨ta, tc, rfl, -⟩ := row_of_own hown Htone.out
           refine ⟨_, rfl, ?_⟩
           have Hbel2 := Lib.hid (Hbel1.out.trans (hbel.mono Hbel1.out.size)); have Hown2 := Lib.hid hown; have Hbel12 := Lib.hid hbel
           have hA1 := HA.out.keep (Hbel2.out.mono (by rw [Hs0.out]; omega))
           obtain ⟨z0, z1, z2, z3, ⟨g0, g1, g2, g3⟩, hA6⟩ := hA1.facts
           clear hbel hown hA1)
        | (refine step_call rfl 72 _ _ rfl cln_ent [Value.slice ak ks.length ck] ?_ _ (clone_node W.heap.size ks.length ak ck _ _ (Hk.out.keep (Hbel2.out.mono ?_) (Nat.le_refl _)) ?_ hkl) ?_
           · go_simp
           · rw [Hs0.out]; omega
           · have := Hbel2.out.size; rw [Hs0.out] at this; omega
           rintro e w3 ⟨v3, rfl, hown, hbel⟩
           obtain ⟨ka, kc, rfl, -⟩ := row_of_own hown Hkkone.out
           refine ⟨_, rfl, ?_⟩
           have Hbel3 := Lib.hid (Hbel2.out.trans (hbel.mono Hbel2.out.size)); have Hown3 := Lib.hid hown; have Hbel23 := Lib.hid hbel
           have hA1 := HA.out.keep (Hbel3.out.mono (by rw [Hs0.out]; omega))
           obtain ⟨t0, t1, t2, t3, ⟨r0, r1, r2, r3⟩, hA7⟩ := hA1.facts
           have HA3 := Lib.hid hA1
           clear hbel hown hA1))
      all_goals
        go_wp2_with fail
        go_meet
        case rel =>
          have hM3 : W.heap.size + 2 ≤ w0.heap.size := by rw [Hs0.out]; omega
          have hrp := row_apart (M := W.heap.size + 2) Hown1.out (propCells_one _) (Hbel12.out.trans (Hbel23.out.mono Hbel12.out.size)) Hown3.out Hbel12.out.size hM3
          have hrt := row_apart (M := W.heap.size + 2) Hown2.out Htone.out Hbel23.out Hown3.out (Nat.le_refl _) (Nat.le_trans hM3 Hbel1.out.size)
          have hkM : W.heap.size + 2 ≤ w2.heap.size := Nat.le_trans hM3 Hbel2.out.size
          have hn1 : ¬ (W.heap.size + 2 ≤ W.heap.size ∧ (Value.slice ka ks.length kc).ownBlock ≠ some W.heap.size) := fun h => by omega
          refine ⟨pa, pc, ta, tc, ka, kc, ?_, ?_, ?_, ?_, ?_, ?_⟩
          · exact ((HA3.out.s1 _).s2 _).s3 _
          · exact (((HB.out.keep (Hbel3.out.mono (by rw [Hs0.out]; omega))).set (by omega)).set (by omega)).set (by omega)
          · exact rowq_set (rowq_set (rowq_set hrp hn1) hn1) hn1
          · exact rowq_set (rowq_set (rowq_set hrt hn1) hn1) hn1
          · exact own_mono (ownsRow_setCell_below (a := ⟨W.heap.size, 3, none⟩) (ownsRow_setCell_below (a := ⟨W.heap.size, 2, none⟩) (ownsRow_setCell_below (a := ⟨W.heap.size, 1, none⟩) Hown3.out (show W.heap.size < w2.heap.size by omega) _) (show W.heap.size < w2.heap.size by omega) _) (show W.heap.size < w2.heap.size by omega) _) hkM
          · exact ((((Hb0.out.trans (Hbel3.out.mono (by rw [Hs0.out]; omega))).setCell (p := ⟨W.heap.size, 1, none⟩) (Nat.le_refl _) _).setCell (p := ⟨W.heap.size, 2, none⟩) (Nat.le_refl _) _).setCell (p := ⟨W.heap.size, 3, none⟩) (Nat.le_refl _) _)
    case rest =>
      obtain ⟨pa, pc, ta, tc, ka, kc, hA, hB, hrp, hrt, hown, hbel⟩ := hcut
      obtain ⟨y0, y1, y2, y3, -, hA5⟩ := hA.facts
      have Hi := Lib.hid (show _ ∧ _ ∧ _ ∧ _ ∧ _ ∧ _ from ⟨hA, hB, hrp, hrt, hown, hbel⟩)
      clear hA hB hrp hrt hown hbel x0 x1 x2 x3 f0 f1 f2 f3 hA4 HA HB Hp Ht Hk
      go_wp2_with fail
      clear y0 y1 y2 y3 hA5
      go_loopg [20] ks.length (fun g i wr => ∃ (j : Nat) (csN : List Value), i = .int .i64 j ∧ j + g = ks.length ∧ NodeAt wr W.heap.size (.bool l) (.slice pa ps.length pc) (.slice ta t.length tc) (.slice ka ks.length kc) ∧ NodeAt wr (W.heap.size + 1) (.bool false) (.slice none 0 0) (.slice none 0 0) (.slice none 0 0) ∧
        RowQ wr (fun b => W.heap.size + 2 ≤ b ∧ (Value.slice ka ks.length kc).ownBlock ≠ some b) 2 pa ps.length pc (propCells ps) ∧ RowQ wr (fun b => W.heap.size + 2 ≤ b ∧ (Value.slice ka ks.length kc).ownBlock ≠ some b) 1 ta t.length tc (t.map (Value.int .i32)) ∧
        wr.ownsRow (W.heap.size + 2) 35 4 (.slice ka ks.length kc) ks.length (csN ++ css.drop (j * 4)) ∧ KidsQ wr (fun b => W.heap.size + 2 ≤ b ∧ (Value.slice ka ks.length kc).ownBlock ≠ some b) (ks.take j) csN ∧ Below W.heap.size W wr)
      case atStart =>
        obtain ⟨hA, hB, hrp, hrt, hown, hbel⟩ := Hi.out
        exact ⟨0, [], rfl, by omega, hA, hB, hrp, hrt, by simpa using hown, by unfold KidsQ; simp, hbel⟩
      case round =>
        obtain ⟨j, csN, rfl, hg, hA, hB, hrp, hrt, hown, hkids, hbel⟩ := hrel
        obtain ⟨y0, y1, y2, y3, ⟨p0, p1, p2, p3⟩, hA5⟩ := hA.facts
        obtain ⟨z0, z1, z2, z3, ⟨q0, q1, q2, q3⟩, hB5⟩ := hB.facts
        have hcl := KidsQ.len' hkids
        have hclen := Hkk.out.len
        have HA2 := Lib.hid hA; have HB2 := Lib.hid hB; have Hrp := Lib.hid hrp; have Hrt := Lib.hid hrt; have Hown := Lib.hid hown; have Hkids := Lib.hid hkids; have Hbel := Lib.hid hbel
        clear hA hB hrp hrt hkids
        by_cases hlt : j < ks.length
        · obtain ⟨c, hc, hall⟩ := HkkW.out.at_ j hlt
          have hc' := NodeC.keep hbel (Nat.le_refl _) _ _ hc
          obtain ⟨l1, a1, n1, c1, a2, n2, c2, a3, n3, c3, rfl⟩ := hc'.form
          have hcj : csN.length = j * 4 := by rw [hcl, List.length_take, Nat.min_eq_left (by omega)]
          have hjl : j * 4 + 4 ≤ css.length := by rw [hclen]; omega
          obtain ⟨g, rfl, hgM⟩ := own_some Hown.out (by
            intro e
            have := congrArg List.length e
            simp only [List.length_append, List.length_drop, List.length_nil] at this
            omega)
          have hgl : g < wr.heap.size := (Hown.out.lt g rfl).2
          have hat : ∀ i, i < 4 → (csN ++ css.drop (j * 4))[j * 4 + i]? = [Value.bool l1, .slice a1 n1 c1, .slice a2 n2 c2, .slice a3 n3 c3][i]? := by
            intro i hi
            rw [List.getElem?_append_right (by omega), List.getElem?_drop, hcj, show j * 4 + (j * 4 + i - j * 4) = j * 4 + i by omega]
            exact hall i hi
          have k0 := own_at Hown.out _ _ (hat 0 (by omega))
          have k1 := own_at Hown.out _ _ (hat 1 (by omega))
          have k2 := own_at Hown.out _ _ (hat 2 (by omega))
          have k3 := own_at Hown.out _ _ (hat 3 (by omega))
          have hdrop : ∃ x0 x1 x2 x3, css.drop (j * 4) = x0 :: x1 :: x2 :: x3 :: css.drop ((j + 1) * 4) := by
            refine ⟨css[j * 4], css[j * 4 + 1], css[j * 4 + 2], css[j * 4 + 3], ?_⟩
            rw [List.drop_eq_getElem_cons (by omega), List.drop_eq_getElem_cons (by omega), List.drop_eq_getElem_cons (by omega), List.drop_eq_getElem_cons (by omega)]
            rw [show (j + 1) * 4 = j * 4 + 1 + 1 + 1 + 1 by omega]
          have hlti : (j : Int) < ks.length := by omega
          have HC := Lib.hid (fun (W' : World) (hbw : Below wr.heap.size wr W') => HI.out j hlt (.agg #[.bool l1, .slice a1 n1 c1, .slice a2 n2 c2, .slice a3 n3 c3]) W' ⟨_, rfl, NodeC.keep (hbw.mono hbel.size) (Nat.le_trans hbel.size hbw.size) _ _ hc'⟩)
          have Hdrop := Lib.hid hdrop; have Hcj := Lib.hid hcj
          have hW := hbel.size
          have hgne : g ≠ W.heap.size := by omega
          clear hc hc' hall hat hdrop hcj hown hbel Hi hcl hclen hjl
          simp only [Nat.add_zero] at k0
          go_wp2_with fail
          go_region_law (first
            | (refine step_call rfl 40 _ _ rfl copy_ent [Value.agg #[.bool l1, .slice a1 n1 c1, .slice a2 n2 c2, .slice a3 n3 c3]] ?_ _ (HC.out _ ?_) ?_
               · go_simp
               · exact ((Below.refl _ _).alloc (Nat.le_refl _) _).drew
               rintro e w6 ⟨cs', rfl, hnode, hbel6⟩
               obtain ⟨m1, b1, o1, d1, b2, o2, d2, b3, o3, d3, rfl⟩ := hnode.form
               refine ⟨_, rfl, ?_⟩
               have Hb6 := Lib.hid ((((Below.refl wr.heap.size wr).alloc (Nat.le_refl _) (Obj.cells #[.bool l1, .slice a1 n1 c1, .slice a2 n2 c2, .slice a3 n3 c3] 35)).drew).trans (hbel6.mono (by show wr.heap.size ≤ (wr.alloc _).heap.size; simp)))
               have hA6 := HA2.out.keep (Hb6.out.mono (by omega))
               have hown6 := own_keep Hown.out Hb6.out
               have r0 := hown6.frozenAt (j * 4); have r1 := hown6.frozenAt (j * 4 + 1); have r2 := hown6.frozenAt (j * 4 + 2); have r3 := hown6.frozenAt (j * 4 + 3)
               have hg6 := (hown6.lt g rfl).2
               have k0' := (Hb6.out.cell (p := ⟨g, j * 4, none⟩) hgl).trans k0; have k1' := (Hb6.out.cell (p := ⟨g, j * 4 + 1, none⟩) hgl).trans k1; have k2' := (Hb6.out.cell (p := ⟨g, j * 4 + 2, none⟩) hgl).trans k2; have k3' := (Hb6.out.cell (p := ⟨g, j * 4 + 3, none⟩) hgl).trans k3
               obtain ⟨s0, s1, s2, s3, -, hA7⟩ := hA6.facts
               have HA6 := Lib.hid hA6; have Hown6 := Lib.hid hown6; have Hnode := Lib.hid hnode
               clear hA6 hown6 hnode hbel6))
          all_goals
            go_wp2_with fail
            go_roundg (gk - 1)
            case measure => omega
            case rel =>
              have hz : (Value.slice (some ⟨g, 0, none⟩) ks.length kc).ownBlock = some g := by simp [Value.ownBlock]
              obtain ⟨x0, x1, x2, x3, hdr⟩ := Hdrop.out
              have hs := (((Hown6.out.stored (j * 4) (.bool m1)).1.stored (j * 4 + 1) (.slice b1 o1 d1)).1.stored (j * 4 + 2) (.slice b2 o2 d2)).1.stored (j * 4 + 3) (.slice b3 o3 d3) |>.1
              rw [set_four Hcj.out hdr] at hs
              have hng : ¬ (W.heap.size + 2 ≤ g ∧ (Value.slice (some ⟨g, 0, none⟩) ks.length kc).ownBlock ≠ some g) := fun h => h.2 hz
              have hk6 := KidsQ.keep (w' := w6) (ok' := fun b => W.heap.size + 2 ≤ b ∧ (Value.slice (some ⟨g, 0, none⟩) ks.length kc).ownBlock ≠ some b) Hb6.out.size (fun b _ hlt => Hb6.out.block b hlt) (fun b hb _ => hb) _ _ Hkids.out
              have hrp6 := Hrp.out.keep (w' := w6) (ok' := fun b => W.heap.size + 2 ≤ b ∧ (Value.slice (some ⟨g, 0, none⟩) ks.length kc).ownBlock ≠ some b) Hb6.out.size (fun b _ hlt => Hb6.out.block b hlt) (fun b hb _ => hb)
              have hrt6 := Hrt.out.keep (w' := w6) (ok' := fun b => W.heap.size + 2 ≤ b ∧ (Value.slice (some ⟨g, 0, none⟩) ks.length kc).ownBlock ≠ some b) Hb6.out.size (fun b _ hlt => Hb6.out.block b hlt) (fun b hb _ => hb)
              have hB6 := HB2.out.keep (Hb6.out.mono (by omega))
              have hbl : ∀ b, (wr.alloc (Obj.cells #[.bool l1, .slice a1 n1 c1, .slice a2 n2 c2, .slice a3 n3 c3] 35)).heap.size ≤ b → W.heap.size + 2 ≤ b ∧ (Value.slice (some ⟨g, 0, none⟩) ks.length kc).ownBlock ≠ some b := by
                intro b hb
                have h1 : wr.heap.size + 1 ≤ b := by simpa using hb
                refine ⟨by omega, ?_⟩
                rw [hz]
                intro e
                injection e with e
                omega
              have hnq := NodeQ.keep (w' := w6) (ok' := fun b => W.heap.size + 2 ≤ b ∧ (Value.slice (some ⟨g, 0, none⟩) ks.length kc).ownBlock ≠ some b) (Nat.le_refl _) (fun _ _ _ => rfl) (fun b hb _ => hbl b hb) _ _ Hnode.out
              have hkk := kidsq_set (o := j * 4 + 3) (u := .slice b3 o3 d3) (kidsq_set (o := j * 4 + 2) (u := .slice b2 o2 d2) (kidsq_set (o := j * 4 + 1) (u := .slice b1 o1 d1) (kidsq_set (o := j * 4) (u := .bool m1) (hk6.append (KidsQ.one hnq)) hng) hng) hng) hng
              rw [← List.take_succ_eq_append_getElem hlt] at hkk
              refine ⟨j + 1, csN ++ [.bool m1, .slice b1 o1 d1, .slice b2 o2 d2, .slice b3 o3 d3], rfl, by omega, ?_, ?_, ?_, ?_, hs, hkk, ?_⟩
              · exact (((HA6.out.set hgne.symm).set hgne.symm).set hgne.symm).set hgne.symm
              · exact (((hB6.set (by omega)).set (by omega)).set (by omega)).set (by omega)
              · exact rowq_set (rowq_set (rowq_set (rowq_set hrp6 hng) hng) hng) hng
              · exact rowq_set (rowq_set (rowq_set (rowq_set hrt6 hng) hng) hng) hng
              · exact ((((below_then Hbel.out Hb6.out (Nat.le_refl _)).setCell (p := ⟨g, j * 4, none⟩) (by show W.heap.size ≤ g; omega) _).setCell (p := ⟨g, j * 4 + 1, none⟩) (by show W.heap.size ≤ g; omega) _).setCell (p := ⟨g, j * 4 + 2, none⟩) (by show W.heap.size ≤ g; omega) _).setCell (p := ⟨g, j * 4 + 3, none⟩) (by show W.heap.size ≤ g; omega) _
        · have hnl : decide ((j : Int) < ks.length) = false := by simp; omega
          clear hown hbel Hi
          go_wp2_with fail
          refine bodyPost_ret (v := .agg #[.bool l, .slice pa ps.length pc, .slice ta t.length tc, .slice ka ks.length kc]) (by simp [results, Try.results40, go_sem, z0, z1, z2, z3]) rfl ?_
          have hj : j = ks.length := by omega
          have hown2 := Hown.out
          have hkids2 := Hkids.out
          rw [hj, List.take_length] at hkids2
          rw [hj, List.drop_eq_nil_of_le (by omega), List.append_nil] at hown2
          have hn1 : ¬ (W.heap.size + 2 ≤ W.heap.size + 1 ∧ (Value.slice ka ks.length kc).ownBlock ≠ some (W.heap.size + 1)) := fun h => by omega
          have hn2 : ¬ (W.heap.size + 2 ≤ W.heap.size + 1) := by omega
          obtain ⟨ka', kc', hka, hrk⟩ := RowQ.of_own hown2 (KidsQ.onec hkids2)
          injection hka with e1 e2 e3
          subst e1; subst e3
          have hrk2 : RowQ wr (fun b => W.heap.size + 2 ≤ b) 4 ka ks.length kc csN := hrk.keep (Nat.le_refl _) (fun _ _ _ => rfl) (fun b hb _ => (hown2.lt b hb).1)
          refine ⟨[.bool l, .slice pa ps.length pc, .slice ta t.length tc, .slice ka ks.length kc], rfl, ?_, ?_⟩
          · unfold NodeQ
            refine ⟨pa, pc, ta, tc, ka, kc, csN, rfl, ?_, ?_, Htw.out, ?_, ?_⟩
            · exact (rowq_all Hrp.out hn1 _ _ _ _).keep (Nat.le_refl _) (fun _ _ _ => rfl) (fun b hb _ => by omega)
            · exact (rowq_all Hrt.out hn1 _ _ _ _).keep (Nat.le_refl _) (fun _ _ _ => rfl) (fun b hb _ => by omega)
            · exact (rowq_all hrk2 hn2 _ _ _ _).keep (Nat.le_refl _) (fun _ _ _ => rfl) (fun b hb _ => by omega)
            · exact KidsQ.keep (Nat.le_refl _) (fun _ _ _ => rfl) (fun b hb _ => by omega) _ _ (kidsq_all hkids2 hn1 _ _ _ _)
          · with_reducible exact below_all Hbel.out (Nat.le_succ _) _ _ _ _

end Go.Proofs.Ytiinmgccjlmoaaa
