/- Parts of the proof, one behind the other: RCP, RCQ, RN4, RHA. -/
import Derived.Test.YtajclfjedlkbcaaGreatDoorWD2
import Derived.OpenShut
/- Walks: node.Copy. -/
namespace Go.Proofs.YtajclfjedlkbcaaGreatDoor
open Go.RowKit Go.Redl
set_option linter.unusedVariables false

theorem clp_ent : ∀ args w, (callFunc 86 args).run Tryz.prog w = .ok (.enter 86 args) w := by intro args w; kernel_rfl
theorem clr_ent : ∀ args w, (callFunc 87 args).run Tryz.prog w = .ok (.enter 87 args) w := by intro args w; kernel_rfl
theorem cln_ent : ∀ args w, (callFunc 88 args).run Tryz.prog w = .ok (.enter 88 args) w := by intro args w; kernel_rfl
theorem copy_ent : ∀ args w, (callFunc 40 args).run Tryz.prog w = .ok (.enter 40 args) w := by intro args w; kernel_rfl

/-- Two rows of the call's own, made one behind the other. -/
theorem row_apart {w1 w3 : World} {b1 b3 e e' sz sz' n n' c M : Nat} {a : Option Addr} {u : Value} {cs cs' : List Value} (h1 : w1.ownsRow b1 e sz (.slice a n c) n cs) (ho : ∀ u ∈ cs, u.oneCell' = true) (hb : Below w1.heap.size w1 w3) (h3 : w3.ownsRow b3 e' sz' u n' cs') (hle : w1.heap.size ≤ b3) (hM : M ≤ b1) :
    RowQ w3 (fun b => M ≤ b ∧ u.ownBlock ≠ some b) sz a n c cs := by
  obtain ⟨a', c', hv, hr⟩ := RowQ.of_own h1 ho
  injection hv with e1 e2 e3
  subst e1; subst e3
  refine hr.keep hb.size (fun b _ hlt => hb.block b hlt) (fun b hk hlt => ⟨Nat.le_trans hM (h1.lt b hk).1, fun hu => ?_⟩)
  have := (h3.lt b hu).1
  omega
theorem own_some {w : World} {base e sz n c : Nat} {a : Option Addr} {cs : List Value} (h : w.ownsRow base e sz (.slice a n c) n cs) (hne : cs ≠ []) : ∃ g, a = some ⟨g, 0, none⟩ ∧ base ≤ g := by
  rcases h.2 with ⟨h', h2⟩ | ⟨g, cap, cur, h', hb, hg, -⟩
  · have := h.1
    rw [h2] at this
    exact absurd (List.eq_nil_of_length_eq_zero (by simpa using this)) hne
  · injection h' with e1 e2 e3
    exact ⟨g, e1, hb⟩

theorem KidsQ.len' {w : World} {ok : Nat → Prop} {ks : List NodeD} {css : List Value} (h : KidsQ w ok ks css) : css.length = ks.length * 4 := (KidsQ.kids _ _ h).len
theorem set_four {p q r : List Value} {k : Nat} {a b c d u0 u1 u2 u3 : Value} (hk : p.length = k) (hq : q = a :: b :: c :: d :: r) : ((((p ++ q).set k u0).set (k + 1) u1).set (k + 2) u2).set (k + 3) u3 = (p ++ [u0, u1, u2, u3]) ++ r := by
  subst hq; subst hk
  simp
theorem own_at {w : World} {base e sz n c g : Nat} {cs : List Value} (h : w.ownsRow base e sz (.slice (some ⟨g, 0, none⟩) n c) n cs) (j : Nat) (u : Value) (hu : cs[j]? = some u) : w.cell? ⟨g, j, none⟩ = some u := by
  have := World.ownsRow.cells (g := g) h rfl j u hu
  rw [addr_add] at this
  simpa using this

/-- What Copy gives: the same tree, in memory of its own. -/
def CopyP (W : World) (n : NodeD) (e : Ending) (w' : World) : Prop := ∃ cs, e = .returned (.agg cs.toArray) ∧ NodeQ w' (fun b => W.heap.size ≤ b) n cs ∧ Below W.heap.size W w'

set_option maxRecDepth 100000 in
set_option maxHeartbeats 4000000 in
theorem copy_c (m : Nat) : ∀ (n : NodeD) (v : Value) (W : World), n.wt ≤ m → n.wt ≤ 100000000 → NodeV W W.heap.size n v → Calls Tryz.prog 40 #[v] W (CopyP W n) := by
  induction m with
  | zero => intro n v W hm; have := wt_pos n; omega
  | succ m IH =>
    intro n v W hm hbig hv
    obtain ⟨l, ps, t, ks⟩ := n
    obtain ⟨ap, cp, at_, ct, ak, ck, css, rfl, hp, ht, hk, hkk⟩ := hv.open
    have hwt : wtAll ks ≤ m := by simp only [NodeD.wt] at hm; omega
    have hpl : ps.length ≤ 100000000 := by have := propsWt_len ps; simp only [NodeD.wt] at hbig; omega
    have htl : t.length ≤ 100000000 := by simp only [NodeD.wt] at hbig; omega
    have hkl : ks.length ≤ 100000000 := by have := wtAll_len ks; simp only [NodeD.wt] at hbig; omega
    have hkw : wtAll ks ≤ 100000000 := by simp only [NodeD.wt] at hbig; omega
    obtain ⟨⟨at2, ct2, htv, htr⟩, htw⟩ := ht
    injection htv with e1 e2 e3
    subst e1; subst e3
    have hA := (NodeAt.fresh W (.bool l) (.slice ap ps.length cp) (.slice at_ t.length ct) (.slice ak ks.length ck)).alloc (Obj.cells #[.bool false, .slice none 0 0, .slice none 0 0, .slice none 0 0] 35)
    have hB := node_second W (Obj.cells #[.bool l, .slice ap ps.length cp, .slice at_ t.length ct, .slice ak ks.length ck] 35) (.bool false) (.slice none 0 0) (.slice none 0 0) (.slice none 0 0)
    have hb0 : Below W.heap.size W ((W.alloc (Obj.cells #[.bool l, .slice ap ps.length cp, .slice at_ t.length ct, .slice ak ks.length ck] 35)).alloc (Obj.cells #[.bool false, .slice none 0 0, .slice none 0 0, .slice none 0 0] 35)) := ((Below.refl _ _).alloc (Nat.le_refl _) _).alloc (by simp) _
    have hs0 : ((W.alloc (Obj.cells #[.bool l, .slice ap ps.length cp, .slice at_ t.length ct, .slice ak ks.length ck] 35)).alloc (Obj.cells #[.bool false, .slice none 0 0, .slice none 0 0, .slice none 0 0] 35)).heap.size = W.heap.size + 2 := by simp
    have HI := Lib.hid (fun (i : Nat) (h : i < ks.length) (v : Value) (W2 : World) (q : NodeV W2 W2.heap.size ks[i] v) => IH ks[i] v W2 (Nat.le_trans (wtAll_mem (List.getElem_mem h)) hwt) (Nat.le_trans (wtAll_mem (List.getElem_mem h)) hkw) q)
    have Hp := Lib.hid (hp.keep hb0 (Nat.le_refl _)); have Ht := Lib.hid (htr.keep hb0 (Nat.le_refl _)); have Hk := Lib.hid (hk.keep hb0 (Nat.le_refl _)); have Hkk := Lib.hid (KidsC.keep hb0 (Nat.le_refl _) _ _ hkk)
    have Htone := Lib.hid (show ∀ u ∈ t.map (Value.int .i32), u.oneCell' = true by intro u hu; obtain ⟨z, -, rfl⟩ := List.mem_map.1 hu; rfl); have Hkkone := Lib.hid hkk.one
    have HkkW := Lib.hid hkk
    have Htw := Lib.hid htw; have Hb0 := Lib.hid hb0; have HA := Lib.hid hA; have HB := Lib.hid hB; have Hs0 := Lib.hid hs0
    clear IH hm hbig hv hp htr hk hkk htw hb0 hA hB hwt hkw hs0
    go_enter Tryz.func40, Tryz.ntmps40
    go_upto_region 1 with fail
    obtain ⟨w0, hw0⟩ : ∃ w0, w0 = (W.alloc (Obj.cells #[.bool l, .slice ap ps.length cp, .slice at_ t.length ct, .slice ak ks.length ck] 35)).alloc (Obj.cells #[.bool false, .slice none 0 0, .slice none 0 0, .slice none 0 0] 35) := ⟨_, rfl⟩
    rw [← hw0] at Hp Ht Hk Hkk Hb0 HA HB Hs0 ⊢
    clear hw0
    obtain ⟨x0, x1, x2, x3, ⟨f0, f1, f2, f3⟩, hA4⟩ := HA.out.facts
    go_cut [] (fun wx => ∃ pa pc ta tc ka kc, NodeAt wx W.heap.size (.bool l) (.slice pa ps.length pc) (.slice ta t.length tc) (.slice ka ks.length kc) ∧ NodeAt wx (W.heap.size + 1) (.bool false) (.slice none 0 0) (.slice none 0 0) (.slice none 0 0) ∧
      RowQ wx (fun b => W.heap.size + 2 ≤ b ∧ (Value.slice ka ks.length kc).ownBlock ≠ some b) 2 pa ps.length pc (propCells ps) ∧ RowQ wx (fun b => W.heap.size + 2 ≤ b ∧ (Value.slice ka ks.length kc).ownBlock ≠ some b) 1 ta t.length tc (t.map (Value.int .i32)) ∧
      wx.ownsRow (W.heap.size + 2) 35 4 (.slice ka ks.length kc) ks.length css ∧ Below W.heap.size W wx)
    case first =>
      go_region_law (first
        | (refine step_call rfl 86 _ _ rfl clp_ent [Value.slice ap ps.length cp] ?_ _ (clone_prop W.heap.size ps.length ap cp _ _ (Hp.out.keep ?_ (Nat.le_refl _)) ?_ hpl) ?_
           · go_simp
           · exact (Below.refl _ _).drew
           · show W.heap.size ≤ w0.heap.size; rw [Hs0.out]; omega
           rintro e w1 ⟨v1, rfl, hown, hbel⟩
           obtain ⟨pa, pc, rfl, -⟩ := row_of_own hown (propCells_one _)
           refine ⟨_, rfl, ?_⟩
           have Hbel1 := Lib.hid (((Below.refl w0.heap.size w0).drew).trans hbel); have Hown1 := Lib.hid hown
           have hA1 := HA.out.keep (Hbel1.out.mono (by rw [Hs0.out]; omega))
           obtain ⟨y0, y1, y2, y3, ⟨k0, k1, k2, k3⟩, hA5⟩ := hA1.facts
           clear hbel hown hA1)
        | (refine step_call rfl 87 _ _ rfl clr_ent [Value.slice at_ t.length ct] ?_ _ (clone_runes W.heap.size t.length at_ ct _ _ (Ht.out.keep (Hbel1.out.mono ?_) (Nat.le_refl _)) ?_ htl) ?_
           · go_simp
           · rw [Hs0.out]; omega
           · have := Hbel1.out.size; rw [Hs0.out] at this; omega
           rintro e w2 ⟨v2, rfl, hown, hbel⟩
           obtain ⟨ta, tc, rfl, -⟩ := row_of_own hown Htone.out
           refine ⟨_, rfl, ?_⟩
           have Hbel2 := Lib.hid (Hbel1.out.trans (hbel.mono Hbel1.out.size)); have Hown2 := Lib.hid hown; have Hbel12 := Lib.hid hbel
           have hA1 := HA.out.keep (Hbel2.out.mono (by rw [Hs0.out]; omega))
           obtain ⟨z0, z1, z2, z3, ⟨g0, g1, g2, g3⟩, hA6⟩ := hA1.facts
           clear hbel hown hA1)
        | (refine step_call rfl 88 _ _ rfl cln_ent [Value.slice ak ks.length ck] ?_ _ (clone_node W.heap.size ks.length ak ck _ _ (Hk.out.keep (Hbel2.out.mono ?_) (Nat.le_refl _)) ?_ hkl) ?_
           · go_simp
           · rw [Hs0.out]; omega
           · have := Hbel2.out.size; rw [Hs0.out] at this; omega
           rintro e w3 ⟨v3, rfl, hown, hbel⟩
           obtain ⟨ka, kc, rfl, -⟩ := row_of_own hown Hkkone.out
           refine ⟨_, rfl, ?_⟩
           have Hbel3 := Lib.hid (Hbel2.out.trans (hbel.mono Hbel2.out.size)); have Hown3 := Lib.hid hown; have Hbel23 := Lib.hid hbel
           have hA1 := HA.out.keep (Hbel3.out.mono (by rw [Hs0.out]; omega))
           obtain ⟨t0, t1, t2, t3, ⟨r0, r1, r2, r3⟩, hA7⟩ := hA1.facts
           have HA3 := Lib.hid hA1
           clear hbel hown hA1))
      all_goals
        go_wp2_with fail
        go_meet
        case rel =>
          have hM3 : W.heap.size + 2 ≤ w0.heap.size := by rw [Hs0.out]; omega
          have hrp := row_apart (M := W.heap.size + 2) Hown1.out (propCells_one _) (Hbel12.out.trans (Hbel23.out.mono Hbel12.out.size)) Hown3.out Hbel12.out.size hM3
          have hrt := row_apart (M := W.heap.size + 2) Hown2.out Htone.out Hbel23.out Hown3.out (Nat.le_refl _) (Nat.le_trans hM3 Hbel1.out.size)
          have hkM : W.heap.size + 2 ≤ w2.heap.size := Nat.le_trans hM3 Hbel2.out.size
          have hn1 : ¬ (W.heap.size + 2 ≤ W.heap.size ∧ (Value.slice ka ks.length kc).ownBlock ≠ some W.heap.size) := fun h => by omega
          refine ⟨pa, pc, ta, tc, ka, kc, ?_, ?_, ?_, ?_, ?_, ?_⟩
          · exact ((HA3.out.s1 _).s2 _).s3 _
          · exact (((HB.out.keep (Hbel3.out.mono (by rw [Hs0.out]; omega))).set (by omega)).set (by omega)).set (by omega)
          · exact rowq_set (rowq_set (rowq_set hrp hn1) hn1) hn1
          · exact rowq_set (rowq_set (rowq_set hrt hn1) hn1) hn1
          · exact own_mono (ownsRow_setCell_below (a := ⟨W.heap.size, 3, none⟩) (ownsRow_setCell_below (a := ⟨W.heap.size, 2, none⟩) (ownsRow_setCell_below (a := ⟨W.heap.size, 1, none⟩) Hown3.out (show W.heap.size < w2.heap.size by omega) _) (show W.heap.size < w2.heap.size by omega) _) (show W.heap.size < w2.heap.size by omega) _) hkM
          · exact ((((Hb0.out.trans (Hbel3.out.mono (by rw [Hs0.out]; omega))).setCell (p := ⟨W.heap.size, 1, none⟩) (Nat.le_refl _) _).setCell (p := ⟨W.heap.size, 2, none⟩) (Nat.le_refl _) _).setCell (p := ⟨W.heap.size, 3, none⟩) (Nat.le_refl _) _)
    case rest =>
      obtain ⟨pa, pc, ta, tc, ka, kc, hA, hB, hrp, hrt, hown, hbel⟩ := hcut
      obtain ⟨y0, y1, y2, y3, -, hA5⟩ := hA.facts
      have Hi := Lib.hid (show _ ∧ _ ∧ _ ∧ _ ∧ _ ∧ _ from ⟨hA, hB, hrp, hrt, hown, hbel⟩)
      clear hA hB hrp hrt hown hbel x0 x1 x2 x3 f0 f1 f2 f3 hA4 HA HB Hp Ht Hk
      go_wp2_with fail
      clear y0 y1 y2 y3 hA5
      go_loopg [20] ks.length (fun g i wr => ∃ (j : Nat) (csN : List Value), i = .int .i64 j ∧ j + g = ks.length ∧ NodeAt wr W.heap.size (.bool l) (.slice pa ps.length pc) (.slice ta t.length tc) (.slice ka ks.length kc) ∧ NodeAt wr (W.heap.size + 1) (.bool false) (.slice none 0 0) (.slice none 0 0) (.slice none 0 0) ∧
        RowQ wr (fun b => W.heap.size + 2 ≤ b ∧ (Value.slice ka ks.length kc).ownBlock ≠ some b) 2 pa ps.length pc (propCells ps) ∧ RowQ wr (fun b => W.heap.size + 2 ≤ b ∧ (Value.slice ka ks.length kc).ownBlock ≠ some b) 1 ta t.length tc (t.map (Value.int .i32)) ∧
        wr.ownsRow (W.heap.size + 2) 35 4 (.slice ka ks.length kc) ks.length (csN ++ css.drop (j * 4)) ∧ KidsQ wr (fun b => W.heap.size + 2 ≤ b ∧ (Value.slice ka ks.length kc).ownBlock ≠ some b) (ks.take j) csN ∧ Below W.heap.size W wr)
      case atStart =>
        obtain ⟨hA, hB, hrp, hrt, hown, hbel⟩ := Hi.out
        exact ⟨0, [], rfl, by omega, hA, hB, hrp, hrt, by simpa using hown, by unfold KidsQ; simp, hbel⟩
      case round =>
        obtain ⟨j, csN, rfl, hg, hA, hB, hrp, hrt, hown, hkids, hbel⟩ := hrel
        obtain ⟨y0, y1, y2, y3, ⟨p0, p1, p2, p3⟩, hA5⟩ := hA.facts
        obtain ⟨z0, z1, z2, z3, ⟨q0, q1, q2, q3⟩, hB5⟩ := hB.facts
        have hcl := KidsQ.len' hkids
        have hclen := Hkk.out.len
        have HA2 := Lib.hid hA; have HB2 := Lib.hid hB; have Hrp := Lib.hid hrp; have Hrt := Lib.hid hrt; have Hown := Lib.hid hown; have Hkids := Lib.hid hkids; have Hbel := Lib.hid hbel
        clear hA hB hrp hrt hkids
        by_cases hlt : j < ks.length
        · obtain ⟨c, hc, hall⟩ := HkkW.out.at_ j hlt
          have hc' := NodeC.keep hbel (Nat.le_refl _) _ _ hc
          obtain ⟨l1, a1, n1, c1, a2, n2, c2, a3, n3, c3, rfl⟩ := hc'.form
          have hcj : csN.length = j * 4 := by rw [hcl, List.length_take, Nat.min_eq_left (by omega)]
          have hjl : j * 4 + 4 ≤ css.length := by rw [hclen]; omega
          obtain ⟨g, rfl, hgM⟩ := own_some Hown.out (by
            intro e
            have := congrArg List.length e
            simp only [List.length_append, List.length_drop, List.length_nil] at this
            omega)
          have hgl : g < wr.heap.size := (Hown.out.lt g rfl).2
          have hat : ∀ i, i < 4 → (csN ++ css.drop (j * 4))[j * 4 + i]? = [Value.bool l1, .slice a1 n1 c1, .slice a2 n2 c2, .slice a3 n3 c3][i]? := by
            intro i hi
            rw [List.getElem?_append_right (by omega), List.getElem?_drop, hcj, show j * 4 + (j * 4 + i - j * 4) = j * 4 + i by omega]
            exact hall i hi
          have k0 := own_at Hown.out _ _ (hat 0 (by omega))
          have k1 := own_at Hown.out _ _ (hat 1 (by omega))
          have k2 := own_at Hown.out _ _ (hat 2 (by omega))
          have k3 := own_at Hown.out _ _ (hat 3 (by omega))
          have hdrop : ∃ x0 x1 x2 x3, css.drop (j * 4) = x0 :: x1 :: x2 :: x3 :: css.drop ((j + 1) * 4) := by
            refine ⟨css[j * 4], css[j * 4 + 1], css[j * 4 + 2], css[j * 4 + 3], ?_⟩
            rw [List.drop_eq_getElem_cons (by omega), List.drop_eq_getElem_cons (by omega), List.drop_eq_getElem_cons (by omega), List.drop_eq_getElem_cons (by omega)]
            rw [show (j + 1) * 4 = j * 4 + 1 + 1 + 1 + 1 by omega]
          have hlti : (j : Int) < ks.length := by omega
          have HC := Lib.hid (fun (W' : World) (hbw : Below wr.heap.size wr W') => HI.out j hlt (.agg #[.bool l1, .slice a1 n1 c1, .slice a2 n2 c2, .slice a3 n3 c3]) W' ⟨_, rfl, NodeC.keep (hbw.mono hbel.size) (Nat.le_trans hbel.size hbw.size) _ _ hc'⟩)
          have Hdrop := Lib.hid hdrop; have Hcj := Lib.hid hcj
          have hW := hbel.size
          have hgne : g ≠ W.heap.size := by omega
          clear hc hc' hall hat hdrop hcj hown hbel Hi hcl hclen hjl
          simp only [Nat.add_zero] at k0
          go_wp2_with fail
          go_region_law (first
            | (refine step_call rfl 40 _ _ rfl copy_ent [Value.agg #[.bool l1, .slice a1 n1 c1, .slice a2 n2 c2, .slice a3 n3 c3]] ?_ _ (HC.out _ ?_) ?_
               · go_simp
               · exact ((Below.refl _ _).alloc (Nat.le_refl _) _).drew
               rintro e w6 ⟨cs', rfl, hnode, hbel6⟩
               obtain ⟨m1, b1, o1, d1, b2, o2, d2, b3, o3, d3, rfl⟩ := hnode.form
               refine ⟨_, rfl, ?_⟩
               have Hb6 := Lib.hid ((((Below.refl wr.heap.size wr).alloc (Nat.le_refl _) (Obj.cells #[.bool l1, .slice a1 n1 c1, .slice a2 n2 c2, .slice a3 n3 c3] 35)).drew).trans (hbel6.mono (by show wr.heap.size ≤ (wr.alloc _).heap.size; simp)))
               have hA6 := HA2.out.keep (Hb6.out.mono (by omega))
               have hown6 := own_keep Hown.out Hb6.out
               have r0 := hown6.frozenAt (j * 4); have r1 := hown6.frozenAt (j * 4 + 1); have r2 := hown6.frozenAt (j * 4 + 2); have r3 := hown6.frozenAt (j * 4 + 3)
               have hg6 := (hown6.lt g rfl).2
               have k0' := (Hb6.out.cell (p := ⟨g, j * 4, none⟩) hgl).trans k0; have k1' := (Hb6.out.cell (p := ⟨g, j * 4 + 1, none⟩) hgl).trans k1; have k2' := (Hb6.out.cell (p := ⟨g, j * 4 + 2, none⟩) hgl).trans k2; have k3' := (Hb6.out.cell (p := ⟨g, j * 4 + 3, none⟩) hgl).trans k3
               obtain ⟨s0, s1, s2, s3, -, hA7⟩ := hA6.facts
               have HA6 := Lib.hid hA6; have Hown6 := Lib.hid hown6; have Hnode := Lib.hid hnode
               clear hA6 hown6 hnode hbel6))
          all_goals
            go_wp2_with fail
            go_roundg (gk - 1)
            case measure => omega
            case rel =>
              have hz : (Value.slice (some ⟨g, 0, none⟩) ks.length kc).ownBlock = some g := by simp [Value.ownBlock]
              obtain ⟨x0, x1, x2, x3, hdr⟩ := Hdrop.out
              have hs := (((Hown6.out.stored (j * 4) (.bool m1)).1.stored (j * 4 + 1) (.slice b1 o1 d1)).1.stored (j * 4 + 2) (.slice b2 o2 d2)).1.stored (j * 4 + 3) (.slice b3 o3 d3) |>.1
              rw [set_four Hcj.out hdr] at hs
              have hng : ¬ (W.heap.size + 2 ≤ g ∧ (Value.slice (some ⟨g, 0, none⟩) ks.length kc).ownBlock ≠ some g) := fun h => h.2 hz
              have hk6 := KidsQ.keep (w' := w6) (ok' := fun b => W.heap.size + 2 ≤ b ∧ (Value.slice (some ⟨g, 0, none⟩) ks.length kc).ownBlock ≠ some b) Hb6.out.size (fun b _ hlt => Hb6.out.block b hlt) (fun b hb _ => hb) _ _ Hkids.out
              have hrp6 := Hrp.out.keep (w' := w6) (ok' := fun b => W.heap.size + 2 ≤ b ∧ (Value.slice (some ⟨g, 0, none⟩) ks.length kc).ownBlock ≠ some b) Hb6.out.size (fun b _ hlt => Hb6.out.block b hlt) (fun b hb _ => hb)
              have hrt6 := Hrt.out.keep (w' := w6) (ok' := fun b => W.heap.size + 2 ≤ b ∧ (Value.slice (some ⟨g, 0, none⟩) ks.length kc).ownBlock ≠ some b) Hb6.out.size (fun b _ hlt => Hb6.out.block b hlt) (fun b hb _ => hb)
              have hB6 := HB2.out.keep (Hb6.out.mono (by omega))
              have hbl : ∀ b, (wr.alloc (Obj.cells #[.bool l1, .slice a1 n1 c1, .slice a2 n2 c2, .slice a3 n3 c3] 35)).heap.size ≤ b → W.heap.size + 2 ≤ b ∧ (Value.slice (some ⟨g, 0, none⟩) ks.length kc).ownBlock ≠ some b := by
                intro b hb
                have h1 : wr.heap.size + 1 ≤ b := by simpa using hb
                refine ⟨by omega, ?_⟩
                rw [hz]
                intro e
                injection e with e
                omega
              have hnq := NodeQ.keep (w' := w6) (ok' := fun b => W.heap.size + 2 ≤ b ∧ (Value.slice (some ⟨g, 0, none⟩) ks.length kc).ownBlock ≠ some b) (Nat.le_refl _) (fun _ _ _ => rfl) (fun b hb _ => hbl b hb) _ _ Hnode.out
              have hkk := kidsq_set (o := j * 4 + 3) (u := .slice b3 o3 d3) (kidsq_set (o := j * 4 + 2) (u := .slice b2 o2 d2) (kidsq_set (o := j * 4 + 1) (u := .slice b1 o1 d1) (kidsq_set (o := j * 4) (u := .bool m1) (hk6.append (KidsQ.one hnq)) hng) hng) hng) hng
              rw [← List.take_succ_eq_append_getElem hlt] at hkk
              refine ⟨j + 1, csN ++ [.bool m1, .slice b1 o1 d1, .slice b2 o2 d2, .slice b3 o3 d3], rfl, by omega, ?_, ?_, ?_, ?_, hs, hkk, ?_⟩
              · exact (((HA6.out.set hgne.symm).set hgne.symm).set hgne.symm).set hgne.symm
              · exact (((hB6.set (by omega)).set (by omega)).set (by omega)).set (by omega)
              · exact rowq_set (rowq_set (rowq_set (rowq_set hrp6 hng) hng) hng) hng
              · exact rowq_set (rowq_set (rowq_set (rowq_set hrt6 hng) hng) hng) hng
              · exact ((((below_then Hbel.out Hb6.out (Nat.le_refl _)).setCell (p := ⟨g, j * 4, none⟩) (by show W.heap.size ≤ g; omega) _).setCell (p := ⟨g, j * 4 + 1, none⟩) (by show W.heap.size ≤ g; omega) _).setCell (p := ⟨g, j * 4 + 2, none⟩) (by show W.heap.size ≤ g; omega) _).setCell (p := ⟨g, j * 4 + 3, none⟩) (by show W.heap.size ≤ g; omega) _
        · have hnl : decide ((j : Int) < ks.length) = false := by simp; omega
          clear hown hbel Hi
          go_wp2_with fail
          refine bodyPost_ret (v := .agg #[.bool l, .slice pa ps.length pc, .slice ta t.length tc, .slice ka ks.length kc]) (by simp [results, Tryz.results40, go_sem, z0, z1, z2, z3]) rfl ?_
          have hj : j = ks.length := by omega
          have hown2 := Hown.out
          have hkids2 := Hkids.out
          rw [hj, List.take_length] at hkids2
          rw [hj, List.drop_eq_nil_of_le (by omega), List.append_nil] at hown2
          have hn1 : ¬ (W.heap.size + 2 ≤ W.heap.size + 1 ∧ (Value.slice ka ks.length kc).ownBlock ≠ some (W.heap.size + 1)) := fun h => by omega
          have hn2 : ¬ (W.heap.size + 2 ≤ W.heap.size + 1) := by omega
          obtain ⟨ka', kc', hka, hrk⟩ := RowQ.of_own hown2 (KidsQ.onec hkids2)
          injection hka with e1 e2 e3
          subst e1; subst e3
          have hrk2 : RowQ wr (fun b => W.heap.size + 2 ≤ b) 4 ka ks.length kc csN := hrk.keep (Nat.le_refl _) (fun _ _ _ => rfl) (fun b hb _ => (hown2.lt b hb).1)
          refine ⟨[.bool l, .slice pa ps.length pc, .slice ta t.length tc, .slice ka ks.length kc], rfl, ?_, ?_⟩
          · unfold NodeQ
            refine ⟨pa, pc, ta, tc, ka, kc, csN, rfl, ?_, ?_, Htw.out, ?_, ?_⟩
            · exact (rowq_all Hrp.out hn1 _ _ _ _).keep (Nat.le_refl _) (fun _ _ _ => rfl) (fun b hb _ => by omega)
            · exact (rowq_all Hrt.out hn1 _ _ _ _).keep (Nat.le_refl _) (fun _ _ _ => rfl) (fun b hb _ => by omega)
            · exact (rowq_all hrk2 hn2 _ _ _ _).keep (Nat.le_refl _) (fun _ _ _ => rfl) (fun b hb _ => by omega)
            · exact KidsQ.keep (Nat.le_refl _) (fun _ _ _ => rfl) (fun b hb _ => by omega) _ _ (kidsq_all hkids2 hn1 _ _ _ _)
          · with_reducible exact below_all Hbel.out (Nat.le_succ _) _ _ _ _

end Go.Proofs.YtajclfjedlkbcaaGreatDoor
/- Walks: tree's at, Get. -/
namespace Go.Proofs.YtajclfjedlkbcaaGreatDoor
open Go.RowKit Go.Redl
set_option linter.unusedVariables false

def kidsOf : NodeD → List NodeD
  | .mk _ _ _ ks => ks
/-- The node at a path. -/
def atN : NodeD → List Int → Option NodeD
  | n, [] => some n
  | n, i :: p => if 0 ≤ i then (match (kidsOf n)[i.toNat]? with | some k => atN k p | none => none) else none
/-- A node that lies at an address. -/
def NodeP (w : World) (B b off : Nat) (n : NodeD) : Prop := ∃ l a1 n1 c1 a2 n2 c2 a3 n3 c3, NodeC w B n [.bool l, .slice a1 n1 c1, .slice a2 n2 c2, .slice a3 n3 c3] ∧ w.cell? ⟨b, off, none⟩ = some (.bool l) ∧ w.cell? ⟨b, off + 1, none⟩ = some (.slice a1 n1 c1) ∧
  w.cell? ⟨b, off + 2, none⟩ = some (.slice a2 n2 c2) ∧ w.cell? ⟨b, off + 3, none⟩ = some (.slice a3 n3 c3)
def AtP (w : World) (B : Nat) (R : Option NodeD) (e : Ending) (w' : World) : Prop :=
  match R with
  | some m => (∃ b off, e = .returned (.tuple #[.pointer (some ⟨b, off, none⟩), .int .i64 0]) ∧ NodeP w B b off m) ∧ w = w'
  | none => e = .returned (.tuple #[.pointer none, .int .i64 5]) ∧ w = w'

set_option maxRecDepth 100000 in
set_option maxHeartbeats 2000000 in
theorem at_c (n : NodeD) (p : List Int) (a : Option Addr) (cap : Nat) (b off B : Nat) (w : World) (hn : NodeP w B b off n) (hr : RowA w B 1 a p.length cap (p.map (Value.int .i64))) :
    Calls Tryz.prog 39 #[.pointer (some ⟨b, off, none⟩), .slice a p.length cap] w (AtP w B (atN n p)) := by
  have hm : p.length ≤ 9223372036854775807 := by have h1 := hr.le; have h2 := hr.max; unfold maxLen at h2; omega
  obtain ⟨R, hR⟩ : ∃ R, R = atN n p := ⟨_, rfl⟩
  rw [← hR]
  have HR := Lib.hid hR; have Hn := Lib.hid hn
  clear hR hn
  go_enter Tryz.func39, Tryz.ntmps39
  go_wp2_with fail
  go_loopg [0, 10] p.length (fun g q i wr => ∃ (k b' off' : Nat) (n' : NodeD), q = .pointer (some ⟨b', off', none⟩) ∧ i = .int .i64 k ∧ k + g = p.length ∧ atN n' (p.drop k) = R ∧ NodeP w B b' off' n' ∧ wr = w)
  case atStart => exact ⟨0, b, off, n, rfl, rfl, by omega, HR.out.symm, Hn.out, rfl⟩
  case round =>
    obtain ⟨k, b', off', n', rfl, rfl, hg, hat, hn', rfl⟩ := hrel
    have Hat := Lib.hid hat; have Hn' := Lib.hid hn'
    obtain ⟨l, a1, n1, c1, a2, n2, c2, a3, n3, c3, hnc, x0, x1, x2, x3⟩ := hn'
    clear hat Hn HR
    by_cases hlt : k < p.length
    · have hd : p.drop k = p[k] :: p.drop (k + 1) := List.drop_eq_getElem_cons hlt
      have Hd := Lib.hid hd
      obtain ⟨pb, po, rfl, hpb, hcell0⟩ := hr.int_at k hlt
      have hcell := hcell0 k hlt
      rw [getD_of_lt hlt] at hcell
      clear hcell0
      generalize p[k] = i at hcell Hd
      have hlti : (k : Int) < p.length := by omega
      clear hd
      obtain ⟨l', ps', t', ks'⟩ := n'
      have hnc2 := hnc
      unfold NodeC at hnc2
      obtain ⟨ap, cp, at_, ct, ak, ck, css, hcs, -, -, -, hk, hkk⟩ := hnc2
      injection hcs with e0 e1; injection e1 with e1 e2; injection e2 with e2 e3; injection e3 with e3 e4
      injection e3 with f1 f2 f3
      subst f1; subst f2; subst f3
      clear e0 e1 e2 e4 hnc
      by_cases h0 : 0 ≤ i
      · obtain ⟨j, rfl⟩ : ∃ j : Nat, i = j := ⟨i.toNat, by omega⟩
        by_cases hj : j < ks'.length
        · obtain ⟨kb, ko, l1, b1, o1, d1, b2, o2, d2, b3, o3, d3, rfl, hkb, hkn, g0, g1, g2, g3⟩ := hk.kid_at hkk j hj
          have Hat2 : Hid (atN ks'[j] (p.drop (k + 1)) = R) := by
            show _ = R
            rw [← Hat.out, Hd.out]
            simp [atN, kidsOf, List.getElem?_eq_getElem hj]
          have Hkn := Lib.hid (show NodeP wr B kb (ko + j * 4) ks'[j] from ⟨l1, b1, o1, d1, b2, o2, d2, b3, o3, d3, hkn, g0, g1, g2, g3⟩)
          have hnl : decide ((j : Int) < 0) = false := by simp
          have hji : (j : Int) < ks'.length := by omega
          have hge : decide ((ks'.length : Int) ≤ j) = false := by simp; omega
          clear hkn hk hkk Hat
          go_wp2_with fail
          go_roundg (gk - 1)
          case measure => omega
          case rel => exact ⟨k + 1, kb, ko + j * 4, ks'[j], rfl, rfl, by omega, Hat2.out, Hkn.out, rfl⟩
        · have HR2 : Hid (R = none) := by
            show R = none
            rw [← Hat.out, Hd.out]
            simp [atN, kidsOf, List.getElem?_eq_none (Nat.le_of_not_lt hj)]
          have hnl : decide ((j : Int) < 0) = false := by simp
          have hge : decide ((ks'.length : Int) ≤ j) = true := by simp; omega
          clear hk hkk Hat
          go_wp2_with fail
          go_ret2
          rw [HR2.out]
          exact ⟨rfl, rfl⟩
      · have HR2 : Hid (R = none) := by
          show R = none
          rw [← Hat.out, Hd.out]
          simp only [atN]
          rw [if_neg h0]
        have hneg : i < 0 := by omega
        clear hk hkk Hat
        go_wp2_with fail
        go_ret2
        rw [HR2.out]
        exact ⟨rfl, rfl⟩
    · have hnl : decide ((k : Int) < p.length) = false := by simp; omega
      have HR2 : Hid (R = some n') := by
        show R = _
        rw [← Hat.out, List.drop_eq_nil_of_le (by omega)]
        rfl
      clear hnc
      go_wp2_with fail
      go_ret2
      rw [HR2.out]
      exact ⟨⟨b', off', rfl, Hn'.out⟩, rfl⟩

theorem atN_wt : ∀ (p : List Int) (n m : NodeD), atN n p = some m → m.wt ≤ n.wt
  | [], n, m, h => by unfold atN at h; injection h with h; subst h; exact Nat.le_refl _
  | i :: p, n, m, h => by
    unfold atN at h
    split at h
    · split at h
      · rename_i k hk
        have h1 := atN_wt p k m h
        obtain ⟨l, ps, t, ks⟩ := n
        have hm : k ∈ ks := List.mem_of_getElem? hk
        have := wtAll_mem hm
        simp only [NodeD.wt]
        omega
      · cases h
    · cases h
def GetP (W : World) (R : Option NodeD) (e : Ending) (w' : World) : Prop :=
  match R with
  | some m => ∃ cs, e = .returned (.tuple #[.agg cs.toArray, .int .i64 0]) ∧ NodeQ w' (fun b => W.heap.size ≤ b) m cs ∧ Below W.heap.size W w'
  | none => e = .returned (.tuple #[.agg #[.bool false, .slice none 0 0, .slice none 0 0, .slice none 0 0], .int .i64 5]) ∧ Below W.heap.size W w'

set_option maxRecDepth 100000 in
set_option maxHeartbeats 2000000 in
theorem get_c (n : NodeD) (p : List Int) (v : Value) (pa : Option Addr) (pc : Nat) (W : World) (hbig : n.wt ≤ 100000000) (hv : NodeV W W.heap.size n v) (hp : RowA W W.heap.size 1 pa p.length pc (p.map (Value.int .i64))) :
    Calls Tryz.prog 19 #[v, .slice pa p.length pc] W (GetP W (atN n p)) := by
  have hwt := atN_wt p n
  obtain ⟨csn, rfl, hc⟩ := hv
  obtain ⟨l, a1, n1, c1, a2, n2, c2, a3, n3, c3, rfl⟩ := hc.form
  have hA := (NodeAt.fresh W (.bool l) (.slice a1 n1 c1) (.slice a2 n2 c2) (.slice a3 n3 c3)).alloc (Obj.cells #[.bool false, .slice none 0 0, .slice none 0 0, .slice none 0 0] 35)
  have hB := node_second W (Obj.cells #[.bool l, .slice a1 n1 c1, .slice a2 n2 c2, .slice a3 n3 c3] 35) (.bool false) (.slice none 0 0) (.slice none 0 0) (.slice none 0 0)
  have hb0 : Below W.heap.size W ((W.alloc (Obj.cells #[.bool l, .slice a1 n1 c1, .slice a2 n2 c2, .slice a3 n3 c3] 35)).alloc (Obj.cells #[.bool false, .slice none 0 0, .slice none 0 0, .slice none 0 0] 35)) := ((Below.refl _ _).alloc (Nat.le_refl _) _).alloc (by simp) _
  have hs0 : ((W.alloc (Obj.cells #[.bool l, .slice a1 n1 c1, .slice a2 n2 c2, .slice a3 n3 c3] 35)).alloc (Obj.cells #[.bool false, .slice none 0 0, .slice none 0 0, .slice none 0 0] 35)).heap.size = W.heap.size + 2 := by simp
  obtain ⟨y0, y1, y2, y3, -, -⟩ := hA.facts
  have HAt := Lib.hid (at_c n p pa pc W.heap.size 0 W.heap.size _ ⟨l, a1, n1, c1, a2, n2, c2, a3, n3, c3, NodeC.keep hb0 (Nat.le_refl _) _ _ hc, y0, y1, y2, y3⟩ (hp.keep hb0 (Nat.le_refl _)))
  have Hb0 := Lib.hid hb0; have HB := Lib.hid hB; have Hs0 := Lib.hid hs0
  clear hc hA hB hb0 hs0 y0 y1 y2 y3 hp
  cases hat : atN n p with
  | none =>
    rw [hat] at HAt
    clear hat hwt
    go_enter Tryz.func19, Tryz.ntmps19
    go_wp2_with fail
    refine HAt.out.mono ?_
    rintro e w1 ⟨rfl, rfl⟩
    clear HAt
    go_wp2_with fail
    refine bodyPost_ret (v := .tuple #[.agg #[.bool false, .slice none 0 0, .slice none 0 0, .slice none 0 0], .int .i64 5]) (by simp [results, Tryz.results19, go_sem]) rfl ?_
    exact ⟨rfl, Hb0.out⟩
  | some m =>
    rw [hat] at HAt
    have hmw := hwt m hat
    clear hat hwt
    go_enter Tryz.func19, Tryz.ntmps19
    obtain ⟨w0, hw0⟩ : ∃ w0, w0 = (W.alloc (Obj.cells #[.bool l, .slice a1 n1 c1, .slice a2 n2 c2, .slice a3 n3 c3] 35)).alloc (Obj.cells #[.bool false, .slice none 0 0, .slice none 0 0, .slice none 0 0] 35) := ⟨_, rfl⟩
    go_wp2_with fail
    rw [← hw0] at HAt Hb0 HB Hs0 ⊢
    refine HAt.out.mono ?_
    rintro e w1 ⟨⟨b, off, rfl, l', b1, o1, d1, b2, o2, d2, b3, o3, d3, hmc, x0, x1, x2, x3⟩, rfl⟩
    have HC := Lib.hid (copy_c m.wt m (.agg #[.bool l', .slice b1 o1 d1, .slice b2 o2 d2, .slice b3 o3 d3]) w0 (Nat.le_refl _) (by omega) ⟨_, rfl, NodeC.keep (Below.refl _ _) (by rw [Hs0.out]; omega) _ _ hmc⟩)
    clear HAt hw0 hmc
    go_wp2_with fail
    refine HC.out.mono ?_
    rintro e w2 ⟨cs, rfl, hnode, hbel⟩
    obtain ⟨m1, p1, q1, r1, p2, q2, r2, p3, q3, r3, rfl⟩ := hnode.form
    have hB2 := HB.out.keep (hbel.mono (by rw [Hs0.out]; omega))
    obtain ⟨z0, z1, z2, z3, ⟨g0, g1, g2, g3⟩, hB5⟩ := hB2.facts
    have Hb2 := Lib.hid (Hb0.out.trans (hbel.mono (by rw [Hs0.out]; omega)))
    have Hnode := Lib.hid hnode
    clear HC hnode hbel x0 x1 x2 x3 hB2 HB
    go_wp2_with fail
    refine bodyPost_ret (v := .tuple #[.agg #[.bool m1, .slice p1 q1 r1, .slice p2 q2 r2, .slice p3 q3 r3], .int .i64 0]) (by simp [results, Tryz.results19, go_sem, z0, z1, z2, z3]) rfl ?_
    have hne : ¬ (w0.heap.size ≤ W.heap.size + 1) := by rw [Hs0.out]; omega
    refine ⟨_, rfl, ?_, ?_⟩
    · have hq := nodeq_set (N := W.heap.size + 1) (o := 3) (u := .slice p3 q3 r3) (nodeq_set (N := W.heap.size + 1) (o := 2) (u := .slice p2 q2 r2) (nodeq_set (N := W.heap.size + 1) (o := 1) (u := .slice p1 q1 r1) (nodeq_set (N := W.heap.size + 1) (o := 0) (u := .bool m1) Hnode.out hne) hne) hne) hne
      exact NodeQ.keep (Nat.le_refl _) (fun _ _ _ => rfl) (fun b hb _ => by rw [Hs0.out] at hb; omega) _ _ hq
    · with_reducible exact below_all Hb2.out (Nat.le_succ _) _ _ _ _

end Go.Proofs.YtajclfjedlkbcaaGreatDoor
/- Schemas as plain data; how they lie in memory; one that came in. -/
namespace Go.Redl
open Go.RowKit
set_option linter.unusedVariables false

abbrev ActD := Int × List UInt8
abbrev PairD := List UInt8 × ActD
/-- A rule. -/
structure RuleD where
  type : List UInt8
  text : ActD
  other : ActD
  kids : List PairD
  fill : Int
  fillT : List UInt8
/-- A schema. -/
structure SchemaD where
  rules : List RuleD
  els : RuleD
  order : List Int
  cap : Int
abbrev strV (s : List UInt8) : Value := .string ⟨s.toArray⟩
def actCells (a : ActD) : List Value := [.int .i64 a.1, strV a.2]
def pairCells (l : List PairD) : List Value := l.flatMap fun p => [strV p.1, .int .i64 p.2.1, strV p.2.2]
theorem pairCells_len (l : List PairD) : (pairCells l).length = l.length * 3 := by
  induction l with
  | nil => rfl
  | cons p l ih => simp only [pairCells, List.flatMap_cons, List.length_append, List.length_cons, List.length_nil] at *; omega
theorem pairCells_one (l : List PairD) : ∀ u ∈ pairCells l, u.oneCell' = true := by
  intro u hu
  simp only [pairCells, List.mem_flatMap] at hu
  obtain ⟨p, -, hp⟩ := hu
  simp at hp
  rcases hp with rfl | rfl | rfl <;> rfl
theorem pairCells_at : ∀ (l : List PairD) (i : Nat) (hi : i < l.length), (pairCells l)[i * 3]? = some (strV l[i].1) ∧ (pairCells l)[i * 3 + 1]? = some (.int .i64 l[i].2.1) ∧ (pairCells l)[i * 3 + 2]? = some (strV l[i].2.2)
  | [], i, hi => absurd hi (by simp)
  | p :: l, 0, hi => by simp [pairCells]
  | p :: l, i + 1, hi => by
    have h := pairCells_at l i (by simpa using hi)
    have e : pairCells (p :: l) = strV p.1 :: .int .i64 p.2.1 :: strV p.2.2 :: pairCells l := by simp [pairCells]
    rw [e, show (i + 1) * 3 = i * 3 + 1 + 1 + 1 by omega]
    simpa using h

/-- The eight cells of a rule, but for where its row lies. -/
def ruleCells (r : RuleD) (a : Option Addr) (c : Nat) : List Value := [strV r.type, .int .i64 r.text.1, strV r.text.2, .int .i64 r.other.1, strV r.other.2, .slice a r.kids.length c, .int .i64 r.fill, strV r.fillT]
def RuleC (w : World) (B : Nat) (r : RuleD) (cs : List Value) : Prop := ∃ a c, cs = ruleCells r a c ∧ RowA w B 3 a r.kids.length c (pairCells r.kids)
def RulesC (w : World) (B : Nat) : List RuleD → List Value → Prop
  | [], css => css = []
  | r :: rs, css => ∃ c1 c2, css = c1 ++ c2 ∧ RuleC w B r c1 ∧ RulesC w B rs c2
def SchemaC (w : World) (B : Nat) (s : SchemaD) (cs : List Value) : Prop :=
  ∃ a c css ec, cs = .slice a s.rules.length c :: (ec ++ (s.order.map (Value.int .i64) ++ [.int .i64 s.cap])) ∧ RowA w B 8 a s.rules.length c css ∧ RulesC w B s.rules css ∧ RuleC w B s.els ec ∧ s.order.length = 6
def SchemaV (w : World) (B : Nat) (s : SchemaD) (v : Value) : Prop := ∃ cs : List Value, v = .agg cs.toArray ∧ SchemaC w B s cs
def RuleV (w : World) (B : Nat) (r : RuleD) (v : Value) : Prop := ∃ cs : List Value, v = .agg cs.toArray ∧ RuleC w B r cs

theorem RuleC.keep {w w' : World} {B B' : Nat} {r : RuleD} {cs : List Value} (h : RuleC w B r cs) (hb : Below B w w') (hB : B ≤ B') : RuleC w' B' r cs := by
  obtain ⟨a, c, h1, h2⟩ := h
  exact ⟨a, c, h1, h2.keep hb hB⟩
theorem RulesC.keep {w w' : World} {B B' : Nat} (hb : Below B w w') (hB : B ≤ B') : ∀ {rs : List RuleD} {css : List Value}, RulesC w B rs css → RulesC w' B' rs css
  | [], css, h => h
  | r :: rs, css, h => by
    obtain ⟨c1, c2, h1, h2, h3⟩ := h
    exact ⟨c1, c2, h1, h2.keep hb hB, RulesC.keep hb hB h3⟩
theorem SchemaC.keep {w w' : World} {B B' : Nat} {s : SchemaD} {cs : List Value} (h : SchemaC w B s cs) (hb : Below B w w') (hB : B ≤ B') : SchemaC w' B' s cs := by
  obtain ⟨a, c, css, ec, h1, h2, h3, h4, h5⟩ := h
  exact ⟨a, c, css, ec, h1, h2.keep hb hB, RulesC.keep hb hB h3, h4.keep hb hB, h5⟩
theorem SchemaV.keep {w w' : World} {B B' : Nat} {s : SchemaD} {v : Value} (h : SchemaV w B s v) (hb : Below B w w') (hB : B ≤ B') : SchemaV w' B' s v := by
  obtain ⟨cs, h1, h2⟩ := h
  exact ⟨cs, h1, h2.keep hb hB⟩
theorem RuleV.keep {w w' : World} {B B' : Nat} {r : RuleD} {v : Value} (h : RuleV w B r v) (hb : Below B w w') (hB : B ≤ B') : RuleV w' B' r v := by
  obtain ⟨cs, h1, h2⟩ := h
  exact ⟨cs, h1, h2.keep hb hB⟩
theorem RuleC.one {w : World} {B : Nat} {r : RuleD} {cs : List Value} (h : RuleC w B r cs) : ∀ u ∈ cs, u.oneCell' = true := by
  obtain ⟨a, c, rfl, -⟩ := h
  intro u hu
  simp [ruleCells] at hu
  rcases hu with rfl | rfl | rfl | rfl | rfl | rfl | rfl | rfl <;> rfl
theorem RuleC.len {w : World} {B : Nat} {r : RuleD} {cs : List Value} (h : RuleC w B r cs) : cs.length = 8 := by
  obtain ⟨a, c, rfl, -⟩ := h
  rfl
theorem RulesC.one {w : World} {B : Nat} : ∀ {rs : List RuleD} {css : List Value}, RulesC w B rs css → ∀ u ∈ css, u.oneCell' = true
  | [], css, h => by rw [show css = [] from h]; simp
  | r :: rs, css, h => by
    obtain ⟨c1, c2, rfl, h2, h3⟩ := h
    intro u hu
    rcases List.mem_append.1 hu with hu | hu
    · exact h2.one u hu
    · exact RulesC.one h3 u hu
theorem RulesC.at_ {w : World} {B : Nat} : ∀ {rs : List RuleD} {css : List Value}, RulesC w B rs css → ∀ (k : Nat) (hk : k < rs.length), ∃ cs, RuleC w B rs[k] cs ∧ ∀ j u, cs[j]? = some u → css[k * 8 + j]? = some u
  | [], css, h, k, hk => absurd hk (by simp)
  | r :: rs, css, h, 0, hk => by
    obtain ⟨c1, c2, rfl, h2, h3⟩ := h
    refine ⟨c1, h2, fun j u hj => ?_⟩
    rw [Nat.zero_mul, Nat.zero_add, List.getElem?_append_left (List.getElem?_eq_some_iff.1 hj).1]
    exact hj
  | r :: rs, css, h, k + 1, hk => by
    obtain ⟨c1, c2, rfl, h2, h3⟩ := h
    obtain ⟨cs, h4, h5⟩ := RulesC.at_ h3 k (by simpa using hk)
    refine ⟨cs, h4, fun j u hj => ?_⟩
    rw [List.getElem?_append_right (by rw [h2.len]; omega), h2.len, show (k + 1) * 8 + j - 8 = k * 8 + j by omega]
    exact h5 j u hj
/-- The k-th rule of a row: its eight cells. -/
theorem RowA.rule_at {w : World} {B n cap : Nat} {a : Option Addr} {rs : List RuleD} {css : List Value} (h : RowA w B 8 a n cap css) (hr : RulesC w B rs css) (k : Nat) (hk : k < rs.length) :
    ∃ b off ra rc, a = some ⟨b, off, none⟩ ∧ b < B ∧ RowA w B 3 ra rs[k].kids.length rc (pairCells rs[k].kids) ∧ ∀ j u, (ruleCells rs[k] ra rc)[j]? = some u → w.cell? ⟨b, off + k * 8 + j, none⟩ = some u := by
  obtain ⟨cs, ⟨ra, rc, rfl, h2⟩, h3⟩ := hr.at_ k hk
  have h0 := h3 0 _ (show (ruleCells rs[k] ra rc)[0]? = some (strV rs[k].type) from rfl)
  obtain ⟨b, off, ha, hb, hc⟩ := h.some_ (by rintro rfl; simp at h0)
  refine ⟨b, off, ra, rc, ha, hb, h2, fun j u hj => ?_⟩
  have := hc _ u (h3 j u hj)
  rwa [← Nat.add_assoc] at this
/-- The k-th pair of a rule. -/
theorem RowA.pair_at {w : World} {B n cap : Nat} {a : Option Addr} {l : List PairD} (h : RowA w B 3 a n cap (pairCells l)) (k : Nat) (hk : k < l.length) :
    ∃ b off, a = some ⟨b, off, none⟩ ∧ b < B ∧ w.cell? ⟨b, off + k * 3, none⟩ = some (strV l[k].1) ∧ w.cell? ⟨b, off + k * 3 + 1, none⟩ = some (.int .i64 l[k].2.1) ∧ w.cell? ⟨b, off + k * 3 + 2, none⟩ = some (strV l[k].2.2) := by
  obtain ⟨h1, h2, h3⟩ := pairCells_at l k hk
  obtain ⟨b, off, ha, hb, hc⟩ := h.some_ (by intro e; rw [e] at h1; simp at h1)
  exact ⟨b, off, ha, hb, hc _ _ h1, by have := hc _ _ h2; rwa [← Nat.add_assoc] at this, by have := hc _ _ h3; rwa [← Nat.add_assoc] at this⟩

/-- How much a schema holds. -/
def pairsWt : List PairD → Nat
  | [] => 0
  | p :: l => 3 + p.1.length + p.2.2.length + pairsWt l
def RuleD.wt (r : RuleD) : Nat := 6 + r.type.length + r.text.2.length + r.other.2.length + r.fillT.length + pairsWt r.kids
def rulesWt : List RuleD → Nat
  | [] => 0
  | r :: rs => r.wt + rulesWt rs
def SchemaD.wt (s : SchemaD) : Nat := rulesWt s.rules + s.els.wt
theorem pairsWt_len (l : List PairD) : 3 * l.length ≤ pairsWt l := by
  induction l with
  | nil => simp [pairsWt]
  | cons p l ih => simp only [pairsWt, List.length_cons]; omega
theorem pairsWt_mem {l : List PairD} {p : PairD} (h : p ∈ l) : 3 + p.1.length + p.2.2.length ≤ pairsWt l := by
  induction l with
  | nil => cases h
  | cons q l ih =>
    simp only [pairsWt]
    rcases List.mem_cons.1 h with rfl | h
    · omega
    · have := ih h; omega
theorem rulesWt_len (l : List RuleD) : 6 * l.length ≤ rulesWt l := by
  induction l with
  | nil => simp [rulesWt]
  | cons p l ih => simp only [rulesWt, RuleD.wt, List.length_cons]; omega
theorem rulesWt_mem {l : List RuleD} {r : RuleD} (h : r ∈ l) : r.wt ≤ rulesWt l := by
  induction l with
  | nil => cases h
  | cons q l ih =>
    simp only [rulesWt]
    rcases List.mem_cons.1 h with rfl | h
    · omega
    · have := ih h; omega

end Go.Redl
namespace Go.Proofs.YtajclfjedlkbcaaGreatDoor
open Go.RowKit Go.Redl Go.Deep
set_option linter.unusedVariables false

def ActΦ {H : Type} (a : ActD) (cs : List Value) (d : DataW H) : Prop := cs = actCells a ∧ 1 + a.2.length ≤ Rows.uptoBulk d
def PairΦ {H : Type} (p : PairD) (cs : List Value) (d : DataW H) : Prop := cs = [strV p.1, .int .i64 p.2.1, strV p.2.2] ∧ 3 + p.1.length + p.2.2.length ≤ Rows.uptoBulk d
def RuleΦ {H : Type} (W : World) (r : RuleD) (cs : List Value) (d : DataW H) : Prop := RuleC W W.heap.size r cs ∧ r.wt ≤ Rows.uptoBulk d

set_option maxRecDepth 100000 in
theorem act_of_trod {H : Type} {enc : TypeId × Value → H} {W : World} {fuel : Nat} {cs : List Value} {x : DataW H × List MemPlace} (h : DataW.trod enc Tryz.prog W 0 (fun _ => true) true fuel 24 cs = some x) : ∃ a, ActΦ a cs x.1 := by
  obtain ⟨xs, n, rfl, rfl, hl, hx, hf⟩ := DataW.trod_struct Tryz.underlying24 h
  rw [show Tryz.prog.cellsOf 24 = 2 by kernel_rfl] at hl
  match xs, hx, cs, hl with
  | [y0, y1], _, [v0, v1], _ =>
    have g0 := hf 0 _ rfl
    have g1 := hf 1 _ rfl
    have k0 : Tryz.prog.cellsOf 3 = 1 := by kernel_rfl
    have k1 : Tryz.prog.cellsOf 9 = 1 := by kernel_rfl
    simp [k0, k1] at g0 g1
    obtain ⟨z, e0, rfl, -⟩ := DataW.trod_int Tryz.underlying3 g0
    obtain ⟨s, e1, rfl, -⟩ := DataW.trod_string Tryz.underlying9 g1
    simp at e0 e1
    subst e0; subst e1
    refine ⟨(z, s.data.toList), ?_, ?_⟩
    · simp only [actCells, strV, list_string]
    · simp [Rows.uptoBulk, Rows.uptoBulkAll]; omega

set_option maxRecDepth 100000 in
theorem pair_of_trod {H : Type} {enc : TypeId × Value → H} {W : World} {fuel : Nat} {cs : List Value} {x : DataW H × List MemPlace} (h : DataW.trod enc Tryz.prog W 0 (fun _ => true) true fuel 70 cs = some x) : ∃ p, PairΦ p cs x.1 := by
  obtain ⟨xs, n, rfl, rfl, hl, hx, hf⟩ := DataW.trod_struct Tryz.underlying70 h
  rw [show Tryz.prog.cellsOf 70 = 3 by kernel_rfl] at hl
  match xs, hx, cs, hl with
  | [y0, y1], _, [v0, v1, v2], _ =>
    have g0 := hf 0 _ rfl
    have g1 := hf 1 _ rfl
    have k0 : Tryz.prog.cellsOf 9 = 1 := by kernel_rfl
    have k1 : Tryz.prog.cellsOf 24 = 2 := by kernel_rfl
    simp [k0, k1] at g0 g1
    obtain ⟨s, e0, rfl, -⟩ := DataW.trod_string Tryz.underlying9 g0
    obtain ⟨a, ha, hb⟩ := act_of_trod g1
    simp [actCells] at e0 ha
    obtain ⟨rfl, rfl⟩ := ha
    subst e0
    refine ⟨(s.data.toList, a), ?_, ?_⟩
    · simp only [strV, list_string]
    · simp [Rows.uptoBulk, Rows.uptoBulkAll] at *; omega
theorem elems_pairs {H : Type} : ∀ {l : List PairD} {css : List Value} {ds : List (DataW H)}, Elems PairΦ l css ds → css = pairCells l ∧ pairsWt l ≤ Rows.uptoBulkAll ds
  | [], css, ds, h => by obtain ⟨rfl, rfl⟩ := h; exact ⟨rfl, by simp [pairsWt]⟩
  | p :: l, css, ds, h => by
    obtain ⟨c, cs, d, ds', rfl, rfl, ⟨rfl, hb⟩, hr⟩ := h
    obtain ⟨rfl, h2⟩ := elems_pairs hr
    exact ⟨by simp [pairCells], by simp only [pairsWt, Rows.uptoBulkAll]; omega⟩
theorem elems_rules {H : Type} {W : World} : ∀ {l : List RuleD} {css : List Value} {ds : List (DataW H)}, Elems (RuleΦ W) l css ds → RulesC W W.heap.size l css ∧ rulesWt l ≤ Rows.uptoBulkAll ds
  | [], css, ds, h => by obtain ⟨rfl, rfl⟩ := h; exact ⟨rfl, by simp [rulesWt]⟩
  | r :: l, css, ds, h => by
    obtain ⟨c, cs, d, ds', rfl, rfl, ⟨hk, hb⟩, hr⟩ := h
    obtain ⟨h2, h3⟩ := elems_rules hr
    exact ⟨⟨c, cs, rfl, hk, h2⟩, by simp only [rulesWt, Rows.uptoBulkAll]; omega⟩

set_option maxRecDepth 100000 in
theorem rule_of_trod {H : Type} {enc : TypeId × Value → H} {W : World} {fuel : Nat} {cs : List Value} {x : DataW H × List MemPlace} (h : DataW.trod enc Tryz.prog W 0 (fun _ => true) true fuel 27 cs = some x) : ∃ r, RuleΦ W r cs x.1 := by
  obtain ⟨xs, n, rfl, rfl, hl, hx, hf⟩ := DataW.trod_struct Tryz.underlying27 h
  rw [show Tryz.prog.cellsOf 27 = 8 by kernel_rfl] at hl
  match xs, hx, cs, hl with
  | [y0, y1, y2, y3, y4, y5], _, [v0, v1, v2, v3, v4, v5, v6, v7], _ =>
    have g0 := hf 0 _ rfl
    have g1 := hf 1 _ rfl
    have g2 := hf 2 _ rfl
    have g3 := hf 3 _ rfl
    have g4 := hf 4 _ rfl
    have g5 := hf 5 _ rfl
    have k0 : Tryz.prog.cellsOf 9 = 1 := by kernel_rfl
    have k1 : Tryz.prog.cellsOf 24 = 2 := by kernel_rfl
    have k2 : Tryz.prog.cellsOf 25 = 1 := by kernel_rfl
    have k3 : Tryz.prog.cellsOf 3 = 1 := by kernel_rfl
    simp [k0, k1, k2, k3] at g0 g1 g2 g3 g4 g5
    obtain ⟨s0, e0, rfl, -⟩ := DataW.trod_string Tryz.underlying9 g0
    obtain ⟨a1, e1, b1⟩ := act_of_trod g1
    obtain ⟨a2, e2, b2⟩ := act_of_trod g2
    obtain ⟨a3, c3, ps, css3, ds3, e3, r3, el3, s3⟩ := row_of_trod PairΦ Tryz.underlying25 (show Tryz.prog.cellsOf 70 = 3 by kernel_rfl) (by decide)
      (fun m cs x _ hx => pair_of_trod hx) (fun y c d hh => by obtain ⟨rfl, -⟩ := hh; intro u hu; simp at hu; rcases hu with rfl | rfl | rfl <;> rfl) g3
    obtain ⟨z4, e4, rfl, -⟩ := DataW.trod_int Tryz.underlying3 g4
    obtain ⟨s5, e5, rfl, -⟩ := DataW.trod_string Tryz.underlying9 g5
    simp [actCells] at e0 e1 e2 e3 e4 e5
    obtain ⟨rfl, rfl⟩ := e1
    obtain ⟨rfl, rfl⟩ := e2
    subst e0; subst e3; subst e4; subst e5
    obtain ⟨rfl, b3⟩ := elems_pairs el3
    have m3 := slice_bulk (n := 0) (s3.imp (fun h => ⟨h.1, rfl, h.2.2⟩) id)
    refine ⟨⟨s0.data.toList, a1, a2, ps, z4, s5.data.toList⟩, ⟨a3, c3, ?_, r3⟩, ?_⟩
    · simp only [ruleCells, strV, list_string]
    · simp [RuleD.wt, Rows.uptoBulk, Rows.uptoBulkAll] at *; omega

set_option maxRecDepth 100000 in
theorem schema_of_trod {H : Type} {enc : TypeId × Value → H} {W : World} {fuel : Nat} {cs : List Value} {x : DataW H × List MemPlace} (h : DataW.trod enc Tryz.prog W 0 (fun _ => true) true fuel 30 cs = some x) : ∃ s, SchemaC W W.heap.size s cs ∧ s.wt ≤ Rows.uptoBulk x.1 := by
  obtain ⟨xs, n, rfl, rfl, hl, hx, hf⟩ := DataW.trod_struct Tryz.underlying30 h
  rw [show Tryz.prog.cellsOf 30 = 16 by kernel_rfl] at hl
  match xs, hx, cs, hl with
  | [y0, y1, y2, y3], _, [v0, v1, v2, v3, v4, v5, v6, v7, v8, v9, v10, v11, v12, v13, v14, v15], _ =>
    have g0 := hf 0 _ rfl
    have g1 := hf 1 _ rfl
    have g2 := hf 2 _ rfl
    have g3 := hf 3 _ rfl
    have k0 : Tryz.prog.cellsOf 22 = 1 := by kernel_rfl
    have k1 : Tryz.prog.cellsOf 27 = 8 := by kernel_rfl
    have k2 : Tryz.prog.cellsOf 28 = 6 := by kernel_rfl
    have k3 : Tryz.prog.cellsOf 3 = 1 := by kernel_rfl
    simp [k0, k1, k2, k3] at g0 g1 g2 g3
    obtain ⟨a0, c0, rs, css0, ds0, e0, r0, el0, s0⟩ := row_of_trod (RuleΦ W) Tryz.underlying22 (show Tryz.prog.cellsOf 27 = 8 by kernel_rfl) (by decide)
      (fun m cs x _ hx => rule_of_trod hx) (fun y c d hh => hh.1.one) g0
    obtain ⟨er, hec, eb⟩ := rule_of_trod g1
    obtain ⟨ys, m, -, -, -, hyl, hy⟩ := DataW.trod_array Tryz.underlying28 g2
    rw [k3] at hy
    have o0 := hy 0 (by decide)
    have o1 := hy 1 (by decide)
    have o2 := hy 2 (by decide)
    have o3 := hy 3 (by decide)
    have o4 := hy 4 (by decide)
    have o5 := hy 5 (by decide)
    match ys, hyl with
    | [q0, q1, q2, q3, q4, q5], _ =>
      simp at o0 o1 o2 o3 o4 o5
      obtain ⟨z0, f0, -, -⟩ := DataW.trod_int Tryz.underlying3 o0
      obtain ⟨z1, f1, -, -⟩ := DataW.trod_int Tryz.underlying3 o1
      obtain ⟨z2, f2, -, -⟩ := DataW.trod_int Tryz.underlying3 o2
      obtain ⟨z3, f3, -, -⟩ := DataW.trod_int Tryz.underlying3 o3
      obtain ⟨z4, f4, -, -⟩ := DataW.trod_int Tryz.underlying3 o4
      obtain ⟨z5, f5, -, -⟩ := DataW.trod_int Tryz.underlying3 o5
      obtain ⟨z6, f6, -, -⟩ := DataW.trod_int Tryz.underlying3 g3
      simp at e0 f0 f1 f2 f3 f4 f5 f6
      subst e0; subst f0; subst f1; subst f2; subst f3; subst f4; subst f5; subst f6
      obtain ⟨hrs, b0⟩ := elems_rules el0
      have m0 := slice_bulk (n := 0) (s0.imp (fun h => ⟨h.1, rfl, h.2.2⟩) id)
      refine ⟨⟨rs, er, [z0, z1, z2, z3, z4, z5], z6⟩, ⟨a0, c0, css0, _, rfl, r0, hrs, hec, rfl⟩, ?_⟩
      simp only [SchemaD.wt, List.map_cons, List.map_nil, Rows.uptoBulk, Rows.uptoBulkAll]
      omega

end Go.Proofs.YtajclfjedlkbcaaGreatDoor
/- Plain words: types, rules, what is done with a node, what is wrong with an element, what repairs it. -/
namespace Go.Proofs.YtajclfjedlkbcaaGreatDoor
open Go.RowKit Go.Redl
set_option linter.unusedVariables false

def leafOf : NodeD → Bool
  | .mk l _ _ _ => l
def propsOf : NodeD → List PropD
  | .mk _ ps _ _ => ps
def textOf : NodeD → List Int
  | .mk _ _ t _ => t
/-- The first place of which something holds; -1: there is none. -/
def idxP (p : Nat → Bool) (n : Nat) : Int := match (List.range n).find? p with
  | some k => k
  | none => -1
theorem idxP_some {p : Nat → Bool} {n k : Nat} (hk : k < n) (h : p k = true) (hb : ∀ j, j < k → p j = false) : idxP p n = k := by
  unfold idxP
  have : (List.range n).find? p = some k := by
    rw [List.find?_range_eq_some]
    exact ⟨h, by simpa using hk, fun j hj => by simp [hb j hj]⟩
  rw [this]
theorem idxP_none {p : Nat → Bool} {n : Nat} (hb : ∀ j, j < n → p j = false) : idxP p n = -1 := by
  unfold idxP
  have : (List.range n).find? p = none := by
    rw [List.find?_eq_none]
    intro x hx
    simp [hb x (by simpa using hx)]
  rw [this]
theorem idxP_cases (p : Nat → Bool) (n : Nat) : (∃ k, k < n ∧ p k = true ∧ (∀ j, j < k → p j = false) ∧ idxP p n = k) ∨ ((∀ j, j < n → p j = false) ∧ idxP p n = -1) := by
  cases h : (List.range n).find? p with
  | none =>
    have hb : ∀ j, j < n → p j = false := fun j hj => by
      rw [List.find?_eq_none] at h
      simpa using h j (by simpa using hj)
    exact .inr ⟨hb, idxP_none hb⟩
  | some k =>
    rw [List.find?_range_eq_some] at h
    obtain ⟨h1, h2, h3⟩ := h
    have hk : k < n := by simpa using h2
    have hb : ∀ j, j < k → p j = false := fun j hj => by simpa using h3 j hj
    exact .inl ⟨k, hk, h1, hb, idxP_some hk h1 hb⟩

/-- The first of a list of which something holds, by its place. -/
theorem find_idx {α : Type} {l : List α} {q : α → Bool} {k : Nat} (hk : k < l.length) (h : q l[k] = true) (hb : ∀ j (hj : j < k), q (l[j]'(by omega)) = false) : l.find? q = some l[k] := by
  rw [List.find?_eq_some_iff_getElem]
  exact ⟨h, k, hk, rfl, fun j hj => by simp [hb j hj]⟩
theorem find_none {α : Type} {l : List α} {q : α → Bool} (hb : ∀ j (hj : j < l.length), q l[j] = false) : l.find? q = none := by
  rw [List.find?_eq_none]
  intro x hx
  obtain ⟨j, hj, rfl⟩ := List.mem_iff_getElem.1 hx
  simp [hb j hj]

def typeB : List UInt8 := [116, 121, 112, 101]
/-- A property's value. -/
def getP (ps : List PropD) (k : List UInt8) : Option (List UInt8) := (ps.find? (fun p => decide (p.1 = k))).map (·.2)
/-- A node's type. -/
def typeN (n : NodeD) : List UInt8 := if leafOf n then [] else (getP (propsOf n) typeB).getD []
/-- A type's rule. -/
def ruleOf (s : SchemaD) (kind : List UInt8) : RuleD := (s.rules.find? (fun r => decide (r.type = kind))).getD s.els
def actIn (r : RuleD) (kind : List UInt8) : ActD := ((r.kids.find? (fun p => decide (p.1 = kind))).map (·.2)).getD r.other
/-- What a rule does with a node. -/
def actOf (r : RuleD) (n : NodeD) : ActD := if leafOf n then r.text else actIn r (typeN n)

/-- A list's beginning of which something holds: how long it is. -/
theorem while_len {α : Type} (q : α → Bool) : ∀ (l : List α) (m : Nat) (hm : m ≤ l.length), (∀ j (hj : j < m), q (l[j]'(by omega)) = true) → (∀ h : m < l.length, q l[m] = false) → (l.takeWhile q).length = m
  | [], m, hm, h1, h2 => by simp at hm; subst hm; rfl
  | x :: l, 0, hm, h1, h2 => by
    have := h2 (by simp)
    simp at this
    simp [this]
  | x :: l, m + 1, hm, h1, h2 => by
    have h0 := h1 0 (by omega)
    simp at h0
    rw [List.takeWhile_cons, if_pos h0, List.length_cons, while_len q l m (by simpa using hm) (fun j hj => by simpa using h1 (j + 1) (by omega)) (fun h => h2 (Nat.succ_lt_succ h))]
/-- How many from a place on are done alike. -/
def runA (l : List ActD) (i : Nat) : Nat := 1 + ((l.drop (i + 1)).takeWhile (fun a => decide (a = l.getD i (0, [])))).length
theorem runA_eq {l : List ActD} {i m : Nat} (hi : i < l.length) (h0 : 1 ≤ m) (hm : i + m ≤ l.length) (h1 : ∀ j (hj : j < m), l[i + j]'(by omega) = l[i]) (h2 : ∀ h : i + m < l.length, l[i + m] ≠ l[i]) : runA l i = m := by
  have hg : l.getD i (0, []) = l[i] := by simp [List.getD, List.getElem?_eq_getElem hi]
  unfold runA
  rw [hg, while_len (fun a => decide (a = l[i])) (l.drop (i + 1)) (m - 1) (by simp; omega) (fun j hj => ?_) (fun h => ?_)]
  · omega
  · have := h1 (j + 1) (by omega)
    simp only [List.getElem_drop, decide_eq_true_eq]
    rw [← this]
    congr 1
    omega
  · have := h2 (by simp at h; omega)
    simp only [List.getElem_drop, decide_eq_false_iff_not]
    intro e
    refine this (Eq.trans ?_ e)
    congr 1
    omega
/-- What a rule does with each of some Kids. -/
abbrev actsOf (r : RuleD) (ks : List NodeD) : List ActD := ks.map (actOf r)
/-- The Kid at a place. -/
abbrev kidAt (ks : List NodeD) (i : Nat) : NodeD := ks.getD i (.mk false [] [] [])
/-- Whether something of a class is wrong with a Kid. -/
def wrongB (r : RuleD) (ks : List NodeD) (c : Int) (i : Nat) : Bool :=
  if c = 1 then decide ((actOf r (kidAt ks i)).1 = 2) else if c = 2 then decide ((actOf r (kidAt ks i)).1 = 3) else if c = 3 then decide ((actOf r (kidAt ks i)).1 = 4)
  else if c = 4 then decide (0 < i) && (leafOf (kidAt ks i) && (leafOf (kidAt ks (i - 1)) && decide (propsOf (kidAt ks i) = propsOf (kidAt ks (i - 1)))))
  else if c = 5 then leafOf (kidAt ks i) && (decide ((textOf (kidAt ks i)).length = 0) && decide (1 < ks.length)) else false
/-- The first place where something of a class is wrong; less than 0: there is none. -/
def lookN (r : RuleD) (ks : List NodeD) (c : Int) : Int := if c = 6 then (if ks.length = 0 ∧ r.fill ≠ 0 then 0 else -1) else idxP (wrongB r ks c) ks.length
def manyN (r : RuleD) (ks : List NodeD) (c : Int) : Nat := if c = 3 then runA (actsOf r ks) (lookN r ks c).toNat else 1
/-- What is wrong: class, place, how many. -/
abbrev FindD := Int × Int × Int
def findL (r : RuleD) (ks : List NodeD) : List Int → FindD
  | [] => (0, 0, 0)
  | c :: cs => if 0 ≤ lookN r ks c then (c, lookN r ks c, (manyN r ks c : Int)) else findL r ks cs
def findN (s : SchemaD) (n : NodeD) : FindD := if leafOf n then (0, 0, 0) else findL (ruleOf s (typeN n)) (kidsOf n) s.order
theorem lookN_range {r : RuleD} {ks : List NodeD} {c : Int} (h : 0 ≤ lookN r ks c) : 1 ≤ c ∧ c ≤ 6 := by
  unfold lookN at h
  split at h
  · omega
  · rename_i h6
    rcases idxP_cases (wrongB r ks c) ks.length with ⟨k, hk, hp, -, -⟩ | ⟨-, e⟩
    · unfold wrongB at hp
      split at hp
      · omega
      split at hp
      · omega
      split at hp
      · omega
      split at hp
      · omega
      split at hp
      · omega
      · cases hp
    · rw [e] at h; omega

/-- An operation, as far as a repair tells it. -/
structure OpD where
  kind : Int
  path : List Int
  dest : List Int
  pos : Int
  node : NodeD
  old : List PropD
abbrev zeroN : NodeD := .mk false [] [] []
/-- An element of a type. -/
def elemN (kind : List UInt8) : NodeD := .mk false (if kind = [] then [] else [(typeB, kind)]) [] []
def noKids : NodeD → NodeD
  | .mk l ps t _ => .mk l ps t []
/-- The operations that repair an element at p. -/
def fixL (r : RuleD) (ks : List NodeD) (p : List Int) (f : FindD) : List OpD :=
  if f.1 = 1 ∨ f.1 = 5 then [⟨2, p ++ [f.2.1], [], 0, kidAt ks f.2.1.toNat, []⟩]
  else if f.1 = 2 then (List.range (kidsOf (kidAt ks f.2.1.toNat)).length).map (fun i : Nat => (⟨5, p ++ [f.2.1, 0], p ++ [f.2.1 + (1 + (i : Int))], 0, zeroN, []⟩ : OpD)) ++ [⟨2, p ++ [f.2.1], [], 0, noKids (kidAt ks f.2.1.toNat), []⟩]
  else if f.1 = 3 then ⟨1, p ++ [f.2.1], [], 0, elemN (actOf r (kidAt ks f.2.1.toNat)).2, []⟩ :: (List.range f.2.2.toNat).map (fun i : Nat => (⟨5, p ++ [f.2.1 + 1], p ++ [f.2.1, (i : Int)], 0, zeroN, []⟩ : OpD))
  else if f.1 = 4 then [⟨3, p ++ [f.2.1], [], (textOf (kidAt ks (f.2.1.toNat - 1))).length, zeroN, propsOf (kidAt ks f.2.1.toNat)⟩]
  else [⟨1, p ++ [f.2.1], [], 0, if r.fill = 1 then .mk true [] [] [] else elemN r.fillT, []⟩]
/-- What repairs an element, or why not. -/
def fixN (s : SchemaD) (n : NodeD) (p : List Int) : List OpD × Int :=
  match atN n p with
  | none => ([], 5)
  | some k => if leafOf k then ([], 7) else if (findN s k).1 = 0 then ([], 14) else (fixL (ruleOf s (typeN k)) (kidsOf k) p (findN s k), 0)

end Go.Proofs.YtajclfjedlkbcaaGreatDoor
