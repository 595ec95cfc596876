/- Parts of the proof, one behind the other: RTM, RTN, ROI, ROJ, ROK, ROP. -/
import Derived.Test.YtaopoincbigjhaaGreatDoorFC10
import Derived.Test.YtaopoincbigjhaaGreatDoorFC8
import Derived.BigQuiet
/- Walks: node.Copy: the copy's own rows lie apart. -/
namespace Go.Proofs.YtaopoincbigjhaaGreatDoor
open Go.RowKit Go.Redl
set_option linter.unusedVariables false

/-- A node whose text and Kids lie in rows of its own, apart. -/
def NodeO (w : World) (M : Nat) : NodeD → List Value → Prop
  | .mk l ps t ks, cs => ∃ (ap : Option Addr) (cp : Nat) (at_ : Option Addr) (ct : Nat) (ak : Option Addr) (ck : Nat) (css : List Value), cs = [.bool l, .slice ap ps.length cp, .slice at_ t.length ct, .slice ak ks.length ck] ∧
      RowQ w (fun b => M ≤ b ∧ (Value.slice ak ks.length ck).ownBlock ≠ some b ∧ (Value.slice at_ t.length ct).ownBlock ≠ some b) 2 ap ps.length cp (propCells ps) ∧ w.ownsRow M 21 1 (.slice at_ t.length ct) t.length (t.map (Value.int .i32)) ∧ (∀ z ∈ t, (Lit.int .i32 z).wf = true) ∧
      w.ownsRow M 35 4 (.slice ak ks.length ck) ks.length css ∧ KidsQ w (fun b => M ≤ b ∧ (Value.slice ak ks.length ck).ownBlock ≠ some b ∧ (Value.slice at_ t.length ct).ownBlock ≠ some b) ks css ∧ (∀ b, (Value.slice at_ t.length ct).ownBlock = some b → (Value.slice ak ks.length ck).ownBlock ≠ some b)
def CopyO (W : World) (n : NodeD) (e : Ending) (w' : World) : Prop := ∃ cs, e = .returned (.agg cs.toArray) ∧ NodeO w' W.heap.size n cs ∧ Below W.heap.size W w'
theorem row_apart2 {w1 w3 : World} {b1 b3 b4 e e' e'' sz sz' sz'' n n' n'' c M : Nat} {a : Option Addr} {u u2 : Value} {cs cs' cs'' : List Value} {w4 : World} (h1 : w1.ownsRow b1 e sz (.slice a n c) n cs) (ho : ∀ u ∈ cs, u.oneCell' = true) (hb : Below w1.heap.size w1 w3) (h3 : w3.ownsRow b3 e' sz' u n' cs') (hle : w1.heap.size ≤ b3) (h4 : w4.ownsRow b4 e'' sz'' u2 n'' cs'') (hle4 : w1.heap.size ≤ b4) (hM : M ≤ b1) :
    RowQ w3 (fun b => M ≤ b ∧ u.ownBlock ≠ some b ∧ u2.ownBlock ≠ some b) sz a n c cs := by
  obtain ⟨a', c', hv, hr⟩ := RowQ.of_own h1 ho
  injection hv with e1 e2 e3
  subst e1; subst e3
  refine hr.keep hb.size (fun b _ hlt => hb.block b hlt) (fun b hk hlt => ⟨Nat.le_trans hM (h1.lt b hk).1, fun hu => ?_, fun hu => ?_⟩)
  · have := (h3.lt b hu).1
    omega
  · have := (h4.lt b hu).1
    omega
theorem rowq_lt2 {w : World} {M : Nat} {r r2 : Option Nat} {sz n cap : Nat} {a : Option Addr} {cs : List Value} (h : RowQ w (fun b => M ≤ b ∧ r ≠ some b ∧ r2 ≠ some b) sz a n cap cs) : RowQ w (fun b => M ≤ b ∧ b < w.heap.size ∧ r ≠ some b ∧ r2 ≠ some b) sz a n cap cs := h.keep (Nat.le_refl _) (fun _ _ _ => rfl) (fun b hb hlt => ⟨hb.1, hlt, hb.2⟩)
theorem own_set_ne {w : World} {M e sz n g o : Nat} {v u : Value} {cs : List Value} (h : w.ownsRow M e sz v n cs) (hne : v.ownBlock ≠ some g) : (w.setCell ⟨g, o, none⟩ u).ownsRow M e sz v n cs := by
  refine ⟨h.1, ?_⟩
  rcases h.2 with hn | ⟨k, cap, cur, hv, hb, hg, hr⟩
  · exact .inl hn
  · refine .inr ⟨k, cap, cur, hv, hb, ?_, hr⟩
    rw [Below.heap_setCell w ⟨g, o, none⟩ u k (by show k ≠ g; intro e; exact hne (by rw [hv, ← e]; rfl))]
    exact hg
set_option maxRecDepth 100000 in
set_option maxHeartbeats 4000000 in
theorem copyO_c (n : NodeD) (v : Value) (W : World) (hbig : n.wt ≤ 100000000) (hv : NodeV W W.heap.size n v) : Calls Tryz.prog 59 #[v] W (CopyO W n) := by
    obtain ⟨l, ps, t, ks⟩ := n
    obtain ⟨ap, cp, at_, ct, ak, ck, css, rfl, hp, ht, hk, hkk⟩ := hv.open
    have hpl : ps.length ≤ 100000000 := by have := propsWt_len ps; simp only [NodeD.wt] at hbig; omega
    have htl : t.length ≤ 100000000 := by simp only [NodeD.wt] at hbig; omega
    have hkl : ks.length ≤ 100000000 := by have := wtAll_len ks; simp only [NodeD.wt] at hbig; omega
    have hkw : wtAll ks ≤ 100000000 := by simp only [NodeD.wt] at hbig; omega
    obtain ⟨⟨at2, ct2, htv, htr⟩, htw⟩ := ht
    injection htv with e1 e2 e3
    subst e1; subst e3
    have hA := (NodeAt.fresh W (.bool l) (.slice ap ps.length cp) (.slice at_ t.length ct) (.slice ak ks.length ck)).alloc (Obj.cells #[.bool false, .slice none 0 0, .slice none 0 0, .slice none 0 0] 35)
    have hB := node_second W (Obj.cells #[.bool l, .slice ap ps.length cp, .slice at_ t.length ct, .slice ak ks.length ck] 35) (.bool false) (.slice none 0 0) (.slice none 0 0) (.slice none 0 0)
    have hb0 : Below W.heap.size W ((W.alloc (Obj.cells #[.bool l, .slice ap ps.length cp, .slice at_ t.length ct, .slice ak ks.length ck] 35)).alloc (Obj.cells #[.bool false, .slice none 0 0, .slice none 0 0, .slice none 0 0] 35)) := ((Below.refl _ _).alloc (Nat.le_refl _) _).alloc (by simp) _
    have hs0 : ((W.alloc (Obj.cells #[.bool l, .slice ap ps.length cp, .slice at_ t.length ct, .slice ak ks.length ck] 35)).alloc (Obj.cells #[.bool false, .slice none 0 0, .slice none 0 0, .slice none 0 0] 35)).heap.size = W.heap.size + 2 := by simp
    have HI := Lib.hid (fun (i : Nat) (h : i < ks.length) (v : Value) (W2 : World) (q : NodeV W2 W2.heap.size ks[i] v) => copyI_c _ ks[i] v W2 (Nat.le_refl _) (Nat.le_trans (wtAll_mem (List.getElem_mem h)) hkw) q)
    have Hp := Lib.hid (hp.keep hb0 (Nat.le_refl _)); have Ht := Lib.hid (htr.keep hb0 (Nat.le_refl _)); have Hk := Lib.hid (hk.keep hb0 (Nat.le_refl _)); have Hkk := Lib.hid (KidsC.keep hb0 (Nat.le_refl _) _ _ hkk)
    have Htone := Lib.hid (show ∀ u ∈ t.map (Value.int .i32), u.oneCell' = true by intro u hu; obtain ⟨z, -, rfl⟩ := List.mem_map.1 hu; rfl); have Hkkone := Lib.hid hkk.one
    have HkkW := Lib.hid hkk
    have Htw := Lib.hid htw; have Hb0 := Lib.hid hb0; have HA := Lib.hid hA; have HB := Lib.hid hB; have Hs0 := Lib.hid hs0
    clear hbig hv hp htr hk hkk htw hb0 hA hB hkw hs0
    go_enter Tryz.func59, Tryz.ntmps59
    go_upto_region 1 with fail
    obtain ⟨w0, hw0⟩ : ∃ w0, w0 = (W.alloc (Obj.cells #[.bool l, .slice ap ps.length cp, .slice at_ t.length ct, .slice ak ks.length ck] 35)).alloc (Obj.cells #[.bool false, .slice none 0 0, .slice none 0 0, .slice none 0 0] 35) := ⟨_, rfl⟩
    rw [← hw0] at Hp Ht Hk Hkk Hb0 HA HB Hs0 ⊢
    clear hw0
    obtain ⟨x0, x1, x2, x3, ⟨f0, f1, f2, f3⟩, hA4⟩ := HA.out.facts
    go_cut [] (fun wx => ∃ pa pc ta tc ka kc, NodeAt wx W.heap.size (.bool l) (.slice pa ps.length pc) (.slice ta t.length tc) (.slice ka ks.length kc) ∧ NodeAt wx (W.heap.size + 1) (.bool false) (.slice none 0 0) (.slice none 0 0) (.slice none 0 0) ∧
      RowQ wx (fun b => W.heap.size + 2 ≤ b ∧ (Value.slice ka ks.length kc).ownBlock ≠ some b ∧ (Value.slice ta t.length tc).ownBlock ≠ some b) 2 pa ps.length pc (propCells ps) ∧ wx.ownsRow (W.heap.size + 2) 21 1 (.slice ta t.length tc) t.length (t.map (Value.int .i32)) ∧ (∀ b, (Value.slice ta t.length tc).ownBlock = some b → (Value.slice ka ks.length kc).ownBlock ≠ some b) ∧
      wx.ownsRow (W.heap.size + 2) 35 4 (.slice ka ks.length kc) ks.length css ∧ Below W.heap.size W wx)
    case first =>
      go_region_law (first
        | (refine step_call rfl 102 _ _ rfl clp_ent [Value.slice ap ps.length cp] ?_ _ (clone_prop W.heap.size ps.length ap cp _ _ (Hp.out.keep ?_ (Nat.le_refl _)) ?_ hpl) ?_
           · go_simp
           · exact (Below.refl _ _).drew
           · show W.heap.size ≤ w0.heap.size; rw [Hs0.out]; omega
           rintro e w1 ⟨v1, rfl, hown, hbel⟩
           obtain ⟨pa, pc, rfl, -⟩ := row_of_own hown (propCells_one _)
           refine ⟨_, rfl, ?_⟩
           have Hbel1 := Lib.hid (((Below.refl w0.heap.size w0).drew).trans hbel); have Hown1 := Lib.hid hown
           have hA1 := HA.out.keep (Hbel1.out.mono (by rw [Hs0.out]; omega))
           obtain ⟨y0, y1, y2, y3, ⟨k0, k1, k2, k3⟩, hA5⟩ := hA1.facts
           clear hbel hown hA1)
        | (refine step_call rfl 105 _ _ rfl clr_ent [Value.slice at_ t.length ct] ?_ _ (clone_runes W.heap.size t.length at_ ct _ _ (Ht.out.keep (Hbel1.out.mono ?_) (Nat.le_refl _)) ?_ htl) ?_
           · go_simp
           · rw [Hs0.out]; omega
           · have := Hbel1.out.size; rw [Hs0.out] at this; omega
           rintro e w2 ⟨v2, rfl, hown, hbel⟩
           obtain ⟨ta, tc, rfl, -⟩ := row_of_own hown Htone.out
           refine ⟨_, rfl, ?_⟩
           have Hbel2 := Lib.hid (Hbel1.out.trans (hbel.mono Hbel1.out.size)); have Hown2 := Lib.hid hown; have Hbel12 := Lib.hid hbel
           have hA1 := HA.out.keep (Hbel2.out.mono (by rw [Hs0.out]; omega))
           obtain ⟨z0, z1, z2, z3, ⟨g0, g1, g2, g3⟩, hA6⟩ := hA1.facts
           clear hbel hown hA1)
        | (refine step_call rfl 106 _ _ rfl cln_ent [Value.slice ak ks.length ck] ?_ _ (clone_node W.heap.size ks.length ak ck _ _ (Hk.out.keep (Hbel2.out.mono ?_) (Nat.le_refl _)) ?_ hkl) ?_
           · go_simp
           · rw [Hs0.out]; omega
           · have := Hbel2.out.size; rw [Hs0.out] at this; omega
           rintro e w3 ⟨v3, rfl, hown, hbel⟩
           obtain ⟨ka, kc, rfl, -⟩ := row_of_own hown Hkkone.out
           refine ⟨_, rfl, ?_⟩
           have Hbel3 := Lib.hid (Hbel2.out.trans (hbel.mono Hbel2.out.size)); have Hown3 := Lib.hid hown; have Hbel23 := Lib.hid hbel
           have hA1 := HA.out.keep (Hbel3.out.mono (by rw [Hs0.out]; omega))
           obtain ⟨t0, t1, t2, t3, ⟨r0, r1, r2, r3⟩, hA7⟩ := hA1.facts
           have HA3 := Lib.hid hA1
           clear hbel hown hA1))
      all_goals
        go_wp2_with fail
        go_meet
        case rel =>
          have hM3 : W.heap.size + 2 ≤ w0.heap.size := by rw [Hs0.out]; omega
          have hrp := row_apart2 (M := W.heap.size + 2) Hown1.out (propCells_one _) (Hbel12.out.trans (Hbel23.out.mono Hbel12.out.size)) Hown3.out Hbel12.out.size Hown2.out (Nat.le_refl _) hM3
          have hkM : W.heap.size + 2 ≤ w2.heap.size := Nat.le_trans hM3 Hbel2.out.size
          have htk : ∀ b, (Value.slice ta t.length tc).ownBlock = some b → (Value.slice ka ks.length kc).ownBlock ≠ some b := fun b h1 h2 => by have := (Hown2.out.lt b h1).2; have := (Hown3.out.lt b h2).1; omega
          have hn1 : ¬ (W.heap.size + 2 ≤ W.heap.size ∧ (Value.slice ka ks.length kc).ownBlock ≠ some W.heap.size ∧ (Value.slice ta t.length tc).ownBlock ≠ some W.heap.size) := fun h => by omega
          have hbo : ∀ {w : World} {e sz n o : Nat} {v u : Value} {cs : List Value}, w.ownsRow (W.heap.size + 2) e sz v n cs → (w.setCell ⟨W.heap.size, o, none⟩ u).ownsRow (W.heap.size + 2) e sz v n cs := fun h => ownsRow_setCell_below (a := ⟨W.heap.size, _, none⟩) h (by show W.heap.size < _; omega) _
          refine ⟨pa, pc, ta, tc, ka, kc, ?_, ?_, ?_, ?_, htk, ?_, ?_⟩
          · exact ((HA3.out.s1 _).s2 _).s3 _
          · exact (((HB.out.keep (Hbel3.out.mono (by rw [Hs0.out]; omega))).set (by omega)).set (by omega)).set (by omega)
          · exact rowq_set (rowq_set (rowq_set hrp hn1) hn1) hn1
          · exact hbo (hbo (hbo (own_mono (own_keep Hown2.out Hbel23.out) (Nat.le_trans hM3 Hbel1.out.size))))
          · exact hbo (hbo (hbo (own_mono Hown3.out hkM)))
          · exact ((((Hb0.out.trans (Hbel3.out.mono (by rw [Hs0.out]; omega))).setCell (p := ⟨W.heap.size, 1, none⟩) (Nat.le_refl _) _).setCell (p := ⟨W.heap.size, 2, none⟩) (Nat.le_refl _) _).setCell (p := ⟨W.heap.size, 3, none⟩) (Nat.le_refl _) _)
    case rest =>
      obtain ⟨pa, pc, ta, tc, ka, kc, hA, hB, hrp, hrt, htk, hown, hbel⟩ := hcut
      obtain ⟨y0, y1, y2, y3, -, hA5⟩ := hA.facts
      have Htk := Lib.hid htk
      have HgM := Lib.hid (show ∀ g, (Value.slice ka ks.length kc).ownBlock = some g → g < wc.heap.size from fun g hg => (hown.lt g hg).2)
      have HwM := Lib.hid (show W.heap.size + 2 ≤ wc.heap.size from hB.facts.2.2.2.2.2)
      have Hi := Lib.hid (show _ ∧ _ ∧ _ ∧ _ ∧ _ ∧ _ from ⟨hA, hB, hrp, hrt, hown, hbel⟩)
      clear hA hB hrp hrt htk hown hbel x0 x1 x2 x3 f0 f1 f2 f3 hA4 HA HB Hp Ht Hk
      go_wp2_with fail
      clear y0 y1 y2 y3 hA5
      go_loopg [20] ks.length (fun g i wr => ∃ (j : Nat) (csN : List Value), i = .int .i64 j ∧ j + g = ks.length ∧ NodeAt wr W.heap.size (.bool l) (.slice pa ps.length pc) (.slice ta t.length tc) (.slice ka ks.length kc) ∧ NodeAt wr (W.heap.size + 1) (.bool false) (.slice none 0 0) (.slice none 0 0) (.slice none 0 0) ∧
        RowQ wr (fun b => W.heap.size + 2 ≤ b ∧ b < wc.heap.size ∧ (Value.slice ka ks.length kc).ownBlock ≠ some b ∧ (Value.slice ta t.length tc).ownBlock ≠ some b) 2 pa ps.length pc (propCells ps) ∧ (wr.ownsRow (W.heap.size + 2) 21 1 (.slice ta t.length tc) t.length (t.map (Value.int .i32)) ∧ ∀ b, (Value.slice ta t.length tc).ownBlock = some b → b < wc.heap.size) ∧
        wr.ownsRow (W.heap.size + 2) 35 4 (.slice ka ks.length kc) ks.length (csN ++ css.drop (j * 4)) ∧ KidsI wr (ks.take j) wc.heap.size wr.heap.size csN ∧ Below W.heap.size W wr)
      case atStart =>
        obtain ⟨hA, hB, hrp, hrt, hown, hbel⟩ := Hi.out
        exact ⟨0, [], rfl, by omega, hA, hB, rowq_lt2 hrp, ⟨hrt, fun b hb => (hrt.lt b hb).2⟩, by simpa using hown, by rw [List.take_zero]; unfold KidsI; exact ⟨rfl, Nat.le_refl _⟩, hbel⟩
      case round =>
        obtain ⟨j, csN, rfl, hg, hA, hB, hrp, hrt, hown, hkids, hbel⟩ := hrel
        obtain ⟨y0, y1, y2, y3, ⟨p0, p1, p2, p3⟩, hA5⟩ := hA.facts
        obtain ⟨z0, z1, z2, z3, ⟨q0, q1, q2, q3⟩, hB5⟩ := hB.facts
        have hcl := KidsQ.len' (KidsI.q (ok := fun _ => True) (fun _ _ _ => trivial) hkids)
        have hMr := hkids.le
        have hclen := Hkk.out.len
        have HA2 := Lib.hid hA; have HB2 := Lib.hid hB; have Hrp := Lib.hid hrp; have Hrt := Lib.hid hrt; have Hown := Lib.hid hown; have Hkids := Lib.hid hkids; have Hbel := Lib.hid hbel
        clear hA hB hrp hrt hkids
        by_cases hlt : j < ks.length
        · obtain ⟨c, hc, hall⟩ := HkkW.out.at_ j hlt
          have hc' := NodeC.keep hbel (Nat.le_refl _) _ _ hc
          obtain ⟨l1, a1, n1, c1, a2, n2, c2, a3, n3, c3, rfl⟩ := hc'.form
          have hcj : csN.length = j * 4 := by rw [hcl, List.length_take, Nat.min_eq_left (by omega)]
          have hjl : j * 4 + 4 ≤ css.length := by rw [hclen]; omega
          obtain ⟨g, rfl, hgM⟩ := own_some Hown.out (by
            intro e
            have := congrArg List.length e
            simp only [List.length_append, List.length_drop, List.length_nil] at this
            omega)
          have hgl : g < wr.heap.size := (Hown.out.lt g rfl).2
          have hat : ∀ i, i < 4 → (csN ++ css.drop (j * 4))[j * 4 + i]? = [Value.bool l1, .slice a1 n1 c1, .slice a2 n2 c2, .slice a3 n3 c3][i]? := by
            intro i hi
            rw [List.getElem?_append_right (by omega), List.getElem?_drop, hcj, show j * 4 + (j * 4 + i - j * 4) = j * 4 + i by omega]
            exact hall i hi
          have k0 := own_at Hown.out _ _ (hat 0 (by omega))
          have k1 := own_at Hown.out _ _ (hat 1 (by omega))
          have k2 := own_at Hown.out _ _ (hat 2 (by omega))
          have k3 := own_at Hown.out _ _ (hat 3 (by omega))
          have hdrop : ∃ x0 x1 x2 x3, css.drop (j * 4) = x0 :: x1 :: x2 :: x3 :: css.drop ((j + 1) * 4) := by
            refine ⟨css[j * 4], css[j * 4 + 1], css[j * 4 + 2], css[j * 4 + 3], ?_⟩
            rw [List.drop_eq_getElem_cons (by omega), List.drop_eq_getElem_cons (by omega), List.drop_eq_getElem_cons (by omega), List.drop_eq_getElem_cons (by omega)]
            rw [show (j + 1) * 4 = j * 4 + 1 + 1 + 1 + 1 by omega]
          have hlti : (j : Int) < ks.length := by omega
          have HC := Lib.hid (fun (W' : World) (hbw : Below wr.heap.size wr W') => HI.out j hlt (.agg #[.bool l1, .slice a1 n1 c1, .slice a2 n2 c2, .slice a3 n3 c3]) W' ⟨_, rfl, NodeC.keep (hbw.mono hbel.size) (Nat.le_trans hbel.size hbw.size) _ _ hc'⟩)
          have Hdrop := Lib.hid hdrop; have Hcj := Lib.hid hcj
          have hW := hbel.size
          have hgne : g ≠ W.heap.size := by omega
          clear hc hc' hall hat hdrop hcj hown hbel Hi hcl hclen hjl
          simp only [Nat.add_zero] at k0
          go_wp2_with fail
          go_region_law (first
            | (refine step_call rfl 59 _ _ rfl copy_ent [Value.agg #[.bool l1, .slice a1 n1 c1, .slice a2 n2 c2, .slice a3 n3 c3]] ?_ _ (HC.out _ ?_) ?_
               · go_simp
               · exact ((Below.refl _ _).alloc (Nat.le_refl _) _).drew
               rintro e w6 ⟨cs', rfl, hnode, hbel6⟩
               obtain ⟨m1, b1, o1, d1, b2, o2, d2, b3, o3, d3, rfl⟩ := hnode.form
               refine ⟨_, rfl, ?_⟩
               have Hb6 := Lib.hid ((((Below.refl wr.heap.size wr).alloc (Nat.le_refl _) (Obj.cells #[.bool l1, .slice a1 n1 c1, .slice a2 n2 c2, .slice a3 n3 c3] 35)).drew).trans (hbel6.mono (by show wr.heap.size ≤ (wr.alloc _).heap.size; simp)))
               have hA6 := HA2.out.keep (Hb6.out.mono (by omega))
               have hown6 := own_keep Hown.out Hb6.out
               have r0 := hown6.frozenAt (j * 4); have r1 := hown6.frozenAt (j * 4 + 1); have r2 := hown6.frozenAt (j * 4 + 2); have r3 := hown6.frozenAt (j * 4 + 3)
               have hg6 := (hown6.lt g rfl).2
               have k0' := (Hb6.out.cell (p := ⟨g, j * 4, none⟩) hgl).trans k0; have k1' := (Hb6.out.cell (p := ⟨g, j * 4 + 1, none⟩) hgl).trans k1; have k2' := (Hb6.out.cell (p := ⟨g, j * 4 + 2, none⟩) hgl).trans k2; have k3' := (Hb6.out.cell (p := ⟨g, j * 4 + 3, none⟩) hgl).trans k3
               obtain ⟨s0, s1, s2, s3, -, hA7⟩ := hA6.facts
               have HA6 := Lib.hid hA6; have Hown6 := Lib.hid hown6; have Hnode := Lib.hid hnode
               clear hA6 hown6 hnode hbel6))
          all_goals
            go_wp2_with fail
            go_roundg (gk - 1)
            case measure => omega
            case rel =>
              have hz : (Value.slice (some ⟨g, 0, none⟩) ks.length kc).ownBlock = some g := by simp [Value.ownBlock]
              obtain ⟨x0, x1, x2, x3, hdr⟩ := Hdrop.out
              have hs := (((Hown6.out.stored (j * 4) (.bool m1)).1.stored (j * 4 + 1) (.slice b1 o1 d1)).1.stored (j * 4 + 2) (.slice b2 o2 d2)).1.stored (j * 4 + 3) (.slice b3 o3 d3) |>.1
              rw [set_four Hcj.out hdr] at hs
              have hng : ¬ (W.heap.size + 2 ≤ g ∧ g < wc.heap.size ∧ (Value.slice (some ⟨g, 0, none⟩) ks.length kc).ownBlock ≠ some g ∧ (Value.slice ta t.length tc).ownBlock ≠ some g) := fun h => h.2.2.1 hz
              have hgM2 := HgM.out g hz
              have hk6 := KidsI.keep (w' := w6) Hb6.out.size (fun b _ _ hlt => Hb6.out.block b hlt) Hkids.out
              have hrp6 := Hrp.out.keep (w' := w6) (ok' := fun b => W.heap.size + 2 ≤ b ∧ b < wc.heap.size ∧ (Value.slice (some ⟨g, 0, none⟩) ks.length kc).ownBlock ≠ some b ∧ (Value.slice ta t.length tc).ownBlock ≠ some b) Hb6.out.size (fun b _ hlt => Hb6.out.block b hlt) (fun b hb _ => hb)
              have hrt6 := own_keep Hrt.out.1 Hb6.out
              have htg : (Value.slice ta t.length tc).ownBlock ≠ some g := fun e => Htk.out g e hz
              have hB6 := HB2.out.keep (Hb6.out.mono (by omega))
              have hsz := Hb6.out.size
              have hkk := kidsi_set (o := j * 4 + 3) (u := .slice b3 o3 d3) (kidsi_set (o := j * 4 + 2) (u := .slice b2 o2 d2) (kidsi_set (o := j * 4 + 1) (u := .slice b1 o1 d1) (kidsi_set (o := j * 4) (u := .bool m1) ((hk6.up (by simp)).snoc Hnode.out) hgM2) hgM2) hgM2) hgM2
              rw [← List.take_succ_eq_append_getElem hlt] at hkk
              refine ⟨j + 1, csN ++ [.bool m1, .slice b1 o1 d1, .slice b2 o2 d2, .slice b3 o3 d3], rfl, by omega, ?_, ?_, ?_, ?_, hs, hkk.up (by simp [World.setCell]), ?_⟩
              · exact (((HA6.out.set hgne.symm).set hgne.symm).set hgne.symm).set hgne.symm
              · exact (((hB6.set (by omega)).set (by omega)).set (by omega)).set (by omega)
              · exact rowq_set (rowq_set (rowq_set (rowq_set hrp6 hng) hng) hng) hng
              · exact ⟨own_set_ne (own_set_ne (own_set_ne (own_set_ne hrt6 htg) htg) htg) htg, Hrt.out.2⟩
              · exact ((((below_then Hbel.out Hb6.out (Nat.le_refl _)).setCell (p := ⟨g, j * 4, none⟩) (by show W.heap.size ≤ g; omega) _).setCell (p := ⟨g, j * 4 + 1, none⟩) (by show W.heap.size ≤ g; omega) _).setCell (p := ⟨g, j * 4 + 2, none⟩) (by show W.heap.size ≤ g; omega) _).setCell (p := ⟨g, j * 4 + 3, none⟩) (by show W.heap.size ≤ g; omega) _
        · have hnl : decide ((j : Int) < ks.length) = false := by simp; omega
          clear hown hbel Hi
          go_wp2_with fail
          refine bodyPost_ret (v := .agg #[.bool l, .slice pa ps.length pc, .slice ta t.length tc, .slice ka ks.length kc]) (by simp [results, Tryz.results59, go_sem, z0, z1, z2, z3]) rfl ?_
          have hj : j = ks.length := by omega
          have hown2 := Hown.out
          have hkids2 := Hkids.out
          rw [hj, List.take_length] at hkids2
          rw [hj, List.drop_eq_nil_of_le (by omega), List.append_nil] at hown2
          have hn1 : ¬ (W.heap.size + 2 ≤ W.heap.size + 1 ∧ W.heap.size + 1 < wc.heap.size ∧ (Value.slice ka ks.length kc).ownBlock ≠ some (W.heap.size + 1) ∧ (Value.slice ta t.length tc).ownBlock ≠ some (W.heap.size + 1)) := fun h => by omega
          have hMw := HwM.out
          have hbo : ∀ {w : World} {e sz n o : Nat} {v u : Value} {cs : List Value}, w.ownsRow (W.heap.size + 2) e sz v n cs → (w.setCell ⟨W.heap.size + 1, o, none⟩ u).ownsRow (W.heap.size + 2) e sz v n cs := fun h => ownsRow_setCell_below (a := ⟨W.heap.size + 1, _, none⟩) h (by show W.heap.size + 1 < _; omega) _
          refine ⟨[.bool l, .slice pa ps.length pc, .slice ta t.length tc, .slice ka ks.length kc], rfl, ?_, ?_⟩
          · unfold NodeO
            refine ⟨pa, pc, ta, tc, ka, kc, csN, rfl, ?_, ?_, Htw.out, ?_, ?_, Htk.out⟩
            · exact (rowq_all Hrp.out hn1 _ _ _ _).keep (Nat.le_refl _) (fun _ _ _ => rfl) (fun b hb _ => ⟨by omega, hb.2.2.1, hb.2.2.2⟩)
            · exact own_mono (hbo (hbo (hbo (hbo Hrt.out.1)))) (by omega)
            · exact own_mono (hbo (hbo (hbo (hbo hown2)))) (by omega)
            · refine KidsI.q (fun b hb hb2 => ⟨by omega, fun e => ?_, fun e => ?_⟩) (kidsi_set (kidsi_set (kidsi_set (kidsi_set hkids2 (by omega)) (by omega)) (by omega)) (by omega))
              · have := HgM.out b e; omega
              · have := Hrt.out.2 b e; omega
          · with_reducible exact below_all Hbel.out (Nat.le_succ _) _ _ _ _
end Go.Proofs.YtaopoincbigjhaaGreatDoor
/- Walks: tree.Get, its node's own rows lying apart. -/
namespace Go.Proofs.YtaopoincbigjhaaGreatDoor
open Go.RowKit Go.Redl
set_option linter.unusedVariables false

theorem NodeO.q {w : World} {M : Nat} {n : NodeD} {cs : List Value} (h : NodeO w M n cs) : NodeQ w (fun b => M ≤ b) n cs := by
  obtain ⟨l, ps, t, ks⟩ := n
  unfold NodeO at h
  unfold NodeQ
  obtain ⟨ap, cp, at_, ct, ak, ck, css, h1, h2, h3, h4, h5, h6, h7⟩ := h
  obtain ⟨a1, c1, hv1, hr1⟩ := RowQ.of_own h3 (by intro u hu; obtain ⟨z, -, rfl⟩ := List.mem_map.1 hu; rfl)
  obtain ⟨a2, c2, hv2, hr2⟩ := RowQ.of_own h5 h6.onec
  injection hv1 with e1 e2 e3
  injection hv2 with g1 g2 g3
  subst e1; subst e3; subst g1; subst g3
  exact ⟨ap, cp, at_, ct, ak, ck, css, h1, h2.keep (Nat.le_refl _) (fun _ _ _ => rfl) (fun b hb _ => hb.1), hr1.keep (Nat.le_refl _) (fun _ _ _ => rfl) (fun b hb _ => (h3.lt b hb).1), h4, hr2.keep (Nat.le_refl _) (fun _ _ _ => rfl) (fun b hb _ => (h5.lt b hb).1), KidsQ.keep (Nat.le_refl _) (fun _ _ _ => rfl) (fun b hb _ => hb.1) _ _ h6⟩
theorem NodeO.form {w : World} {M : Nat} {n : NodeD} {cs : List Value} (h : NodeO w M n cs) : ∃ l a1 n1 c1 a2 n2 c2 a3 n3 c3, cs = [.bool l, .slice a1 n1 c1, .slice a2 n2 c2, .slice a3 n3 c3] := h.q.form
theorem NodeO.set {w : World} {M N o : Nat} {n : NodeD} {cs : List Value} {u : Value} (h : NodeO w M n cs) (hN : N < M) : NodeO (w.setCell ⟨N, o, none⟩ u) M n cs := by
  obtain ⟨l, ps, t, ks⟩ := n
  unfold NodeO at h ⊢
  obtain ⟨ap, cp, at_, ct, ak, ck, css, h1, h2, h3, h4, h5, h6, h7⟩ := h
  have hh : ∀ b, M ≤ b → (w.setCell ⟨N, o, none⟩ u).heap[b]? = w.heap[b]? := fun b hb => Below.heap_setCell w ⟨N, o, none⟩ u b (by show b ≠ N; omega)
  exact ⟨ap, cp, at_, ct, ak, ck, css, h1, h2.keep (by simp [World.setCell]) (fun b hb _ => hh b hb.1) (fun _ hb _ => hb), ownsRow_setCell_below (a := ⟨N, o, none⟩) h3 hN _, h4, ownsRow_setCell_below (a := ⟨N, o, none⟩) h5 hN _, KidsQ.keep (by simp [World.setCell]) (fun b hb _ => hh b hb.1) (fun _ hb _ => hb) _ _ h6, h7⟩
theorem NodeO.since {w w' : World} {M : Nat} {n : NodeD} {cs : List Value} (h : NodeO w M n cs) (hb : Below w.heap.size w w') : NodeO w' M n cs := by
  obtain ⟨l, ps, t, ks⟩ := n
  unfold NodeO at h ⊢
  obtain ⟨ap, cp, at_, ct, ak, ck, css, h1, h2, h3, h4, h5, h6, h7⟩ := h
  exact ⟨ap, cp, at_, ct, ak, ck, css, h1, h2.keep hb.size (fun b _ hlt => hb.block b hlt) (fun _ h _ => h), own_keep h3 hb, h4, own_keep h5 hb, KidsQ.keep hb.size (fun b _ hlt => hb.block b hlt) (fun _ h _ => h) _ _ h6, h7⟩
theorem NodeO.from {w : World} {M M' : Nat} {n : NodeD} {cs : List Value} (h : NodeO w M n cs) (hM : M' ≤ M) : NodeO w M' n cs := by
  obtain ⟨l, ps, t, ks⟩ := n
  unfold NodeO at h ⊢
  obtain ⟨ap, cp, at_, ct, ak, ck, css, h1, h2, h3, h4, h5, h6, h7⟩ := h
  exact ⟨ap, cp, at_, ct, ak, ck, css, h1, h2.keep (Nat.le_refl _) (fun _ _ _ => rfl) (fun b hb _ => ⟨by omega, hb.2⟩), own_mono h3 hM, h4, own_mono h5 hM, KidsQ.keep (Nat.le_refl _) (fun _ _ _ => rfl) (fun b hb _ => ⟨by omega, hb.2⟩) _ _ h6, h7⟩
/-- What Get answers where there is a node. -/
def GetO (W : World) (m : NodeD) (e : Ending) (w' : World) : Prop := ∃ cs, e = .returned (.tuple #[.agg cs.toArray, .int .i64 0]) ∧ NodeO w' W.heap.size m cs ∧ Below W.heap.size W w'
set_option maxRecDepth 100000 in
set_option maxHeartbeats 2000000 in
theorem getO_c (n m : NodeD) (p : List Int) (v : Value) (pa : Option Addr) (pc : Nat) (W : World) (hbig : n.wt ≤ 100000000) (hv : NodeV W W.heap.size n v) (hp : RowA W W.heap.size 1 pa p.length pc (p.map (Value.int .i64))) (hat : atN n p = some m) :
    Calls Tryz.prog 15 #[v, .slice pa p.length pc] W (GetO W m) := by
  have hwt := atN_wt p n
  obtain ⟨csn, rfl, hc⟩ := hv
  obtain ⟨l, a1, n1, c1, a2, n2, c2, a3, n3, c3, rfl⟩ := hc.form
  have hA := (NodeAt.fresh W (.bool l) (.slice a1 n1 c1) (.slice a2 n2 c2) (.slice a3 n3 c3)).alloc (Obj.cells #[.bool false, .slice none 0 0, .slice none 0 0, .slice none 0 0] 35)
  have hB := node_second W (Obj.cells #[.bool l, .slice a1 n1 c1, .slice a2 n2 c2, .slice a3 n3 c3] 35) (.bool false) (.slice none 0 0) (.slice none 0 0) (.slice none 0 0)
  have hb0 : Below W.heap.size W ((W.alloc (Obj.cells #[.bool l, .slice a1 n1 c1, .slice a2 n2 c2, .slice a3 n3 c3] 35)).alloc (Obj.cells #[.bool false, .slice none 0 0, .slice none 0 0, .slice none 0 0] 35)) := ((Below.refl _ _).alloc (Nat.le_refl _) _).alloc (by simp) _
  have hs0 : ((W.alloc (Obj.cells #[.bool l, .slice a1 n1 c1, .slice a2 n2 c2, .slice a3 n3 c3] 35)).alloc (Obj.cells #[.bool false, .slice none 0 0, .slice none 0 0, .slice none 0 0] 35)).heap.size = W.heap.size + 2 := by simp
  obtain ⟨y0, y1, y2, y3, -, -⟩ := hA.facts
  have HAt := Lib.hid (at_c n p pa pc W.heap.size 0 W.heap.size _ ⟨l, a1, n1, c1, a2, n2, c2, a3, n3, c3, NodeC.keep hb0 (Nat.le_refl _) _ _ hc, y0, y1, y2, y3⟩ (hp.keep hb0 (Nat.le_refl _)))
  have Hb0 := Lib.hid hb0; have HB := Lib.hid hB; have Hs0 := Lib.hid hs0
  clear hc hA hB hb0 hs0 y0 y1 y2 y3 hp
  rw [hat] at HAt
  have hmw := hwt m hat
  clear hat hwt
  go_enter Tryz.func15, Tryz.ntmps15
  obtain ⟨w0, hw0⟩ : ∃ w0, w0 = (W.alloc (Obj.cells #[.bool l, .slice a1 n1 c1, .slice a2 n2 c2, .slice a3 n3 c3] 35)).alloc (Obj.cells #[.bool false, .slice none 0 0, .slice none 0 0, .slice none 0 0] 35) := ⟨_, rfl⟩
  go_wp2_with fail
  rw [← hw0] at HAt Hb0 HB Hs0 ⊢
  refine HAt.out.mono ?_
  rintro e w1 ⟨⟨b, off, rfl, l', b1, o1, d1, b2, o2, d2, b3, o3, d3, hmc, x0, x1, x2, x3⟩, rfl⟩
  have HC := Lib.hid (copyO_c m (.agg #[.bool l', .slice b1 o1 d1, .slice b2 o2 d2, .slice b3 o3 d3]) w0 (by omega) ⟨_, rfl, NodeC.keep (Below.refl _ _) (by rw [Hs0.out]; omega) _ _ hmc⟩)
  clear HAt hw0 hmc
  go_wp2_with fail
  refine HC.out.mono ?_
  rintro e w2 ⟨cs, rfl, hnode, hbel⟩
  obtain ⟨m1, p1, q1, r1, p2, q2, r2, p3, q3, r3, rfl⟩ := hnode.form
  have hB2 := HB.out.keep (hbel.mono (by rw [Hs0.out]; omega))
  obtain ⟨z0, z1, z2, z3, ⟨g0, g1, g2, g3⟩, hB5⟩ := hB2.facts
  have Hb2 := Lib.hid (Hb0.out.trans (hbel.mono (by rw [Hs0.out]; omega)))
  have Hnode := Lib.hid hnode
  clear HC hnode hbel x0 x1 x2 x3 hB2 HB
  go_wp2_with fail
  refine bodyPost_ret (v := .tuple #[.agg #[.bool m1, .slice p1 q1 r1, .slice p2 q2 r2, .slice p3 q3 r3], .int .i64 0]) (by simp [results, Tryz.results15, go_sem, z0, z1, z2, z3]) rfl ?_
  refine ⟨_, rfl, ?_, ?_⟩
  · have hlt : W.heap.size + 1 < w0.heap.size := by rw [Hs0.out]; omega
    exact NodeO.from (NodeO.set (NodeO.set (NodeO.set (NodeO.set Hnode.out hlt) hlt) hlt) hlt) (by rw [Hs0.out]; omega)
  · with_reducible exact below_all Hb2.out (Nat.le_succ _) _ _ _ _
end Go.Proofs.YtaopoincbigjhaaGreatDoor
/- Walks: trail's beside, Back, Next, Parent. -/
namespace Go.Proofs.YtaopoincbigjhaaGreatDoor
open Go.RowKit Go.Redl
set_option linter.unusedVariables false
set_option linter.unusedSimpArgs false

/-- The path beside one, so much further. -/
def besideN (p : List Int) (d : Int) : List Int × Int := if p = [] then ([], 6) else if (0 < d ∧ lastN p = 9223372036854775807) ∨ (d < 0 ∧ lastN p ≤ 0) then ([], 8) else (p.dropLast ++ [lastN p + d], 0)
/-- A path of the call's own, or why there is none. -/
def BesideP (W : World) (r : List Int × Int) (e : Ending) (w' : World) : Prop :=
  Below W.heap.size W w' ∧ ∃ v, e = .returned (.tuple #[v, .int .i64 r.2]) ∧ w'.ownsRow W.heap.size 3 1 v r.1.length (r.1.map (Value.int .i64))
set_option maxRecDepth 100000 in
set_option maxHeartbeats 4000000 in
theorem beside_c (p : List Int) (d : Int) (a : Option Addr) (c : Nat) (B : Nat) (W : World) (hr : RowA W B 1 a p.length c (p.map (Value.int .i64))) (hB : B ≤ W.heap.size) (hn : p.length ≤ 1000000) (hd : d = 1 ∨ d = -1) (hw : ∀ z ∈ p, -9223372036854775807 ≤ z ∧ z ≤ 9223372036854775807) :
    Calls Tryz.prog 178 #[.slice a p.length c, .int .i64 d] W (BesideP W (besideN p d)) := by
  rcases List.eq_nil_or_concat p with rfl | ⟨q, i, rfl⟩
  · have hb : besideN [] d = ([], 6) := rfl
    rw [hb]
    clear hr hb
    go_enter Tryz.func178, Tryz.ntmps178
    go_wp2_with fail
    go_ret2
    exact ⟨Below.refl _ _, _, rfl, World.ownsRow_nil _ _ _ _⟩
  · rw [List.concat_eq_append] at *
    have hiw := hw i (by simp)
    have hbs : besideN (q ++ [i]) d = if (0 < d ∧ i = 9223372036854775807) ∨ (d < 0 ∧ i ≤ 0) then ([], 8) else (q ++ [i + d], 0) := by
      unfold besideN; rw [if_neg (by simp), last_snoc, drop_snoc]
    have HBS := Lib.hid hbs
    generalize besideN (q ++ [i]) d = R at HBS ⊢
    have HC := Lib.hid (clone_int B (q ++ [i]).length a c _ W hr hB (by omega))
    have hl : (q ++ [i]).length = q.length + 1 := by simp
    have hq : q.length ≤ 1000000 := by omega
    rw [hl] at HC ⊢
    have h1 : ((q.length : Int) + 1) - 1 = (q.length : Int) := by omega
    clear hr hw hbs hl hn
    go_enter Tryz.func178, Tryz.ntmps178
    go_wp2_with fail
    refine HC.out.mono ?_
    rintro e w1 ⟨v, rfl, hown, hbel⟩
    obtain ⟨a', c', rfl, -⟩ := row_of_own hown (by intro u hu; obtain ⟨z, -, rfl⟩ := List.mem_map.1 hu; rfl)
    obtain ⟨g, rfl, hg⟩ := own_some hown (by simp)
    have hcell := own_at hown q.length (.int .i64 i) (by simp)
    have hfz := hown.frozenAt q.length
    have hle : q.length + 1 ≤ c' := by
      rcases hown.2 with ⟨h, _⟩ | ⟨g', cap, cur, h, _, _, h2, _⟩
      · cases h
      · injection h with _ _ h; omega
    have Hown := Lib.hid hown; have Hbel := Lib.hid hbel
    clear HC hown hbel
    have hset : ∀ z : Int, ((q ++ [i]).map (Value.int .i64)).set q.length (.int .i64 z) = (q ++ [z]).map (Value.int .i64) := fun z => by
      rw [List.map_append, List.set_append_right _ _ (by simp)]; simp
    have Hset := Lib.hid hset
    clear hset
    rcases hd with rfl | rfl
    · by_cases hm : i = 9223372036854775807
      · have hR : R = ([], 8) := by rw [HBS.out, if_pos (.inl ⟨by decide, hm⟩)]
        subst hR
        have hb1 : (i == 9223372036854775807) = true := by simpa using hm
        go_wp2_with fail
        go_ret2
        exact ⟨Hbel.out, _, rfl, World.ownsRow_nil _ _ _ _⟩
      · have hR : R = (q ++ [i + 1], 0) := by rw [HBS.out, if_neg (by omega)]
        subst hR
        have hb1 : (i == 9223372036854775807) = false := by simpa using hm
        have hw1 : IntKind.i64.wrap (i + 1) = i + 1 := by rw [IntKind.wrap_i64]; omega
        go_wp2_with fail
        go_ret2
        have h := (Hown.out.stored q.length (.int .i64 (i + 1))).1
        rw [Hset.out] at h
        refine ⟨Hbel.out.setCell (p := ⟨g, q.length, none⟩) hg _, _, rfl, ?_⟩
        rw [List.length_append, List.length_singleton]
        exact h
    · by_cases hm : i ≤ 0
      · have hR : R = ([], 8) := by rw [HBS.out, if_pos (.inr ⟨by decide, hm⟩)]
        subst hR
        have hb1 : decide (i ≤ 0) = true := by simpa using hm
        go_wp2_with fail
        go_ret2
        exact ⟨Hbel.out, _, rfl, World.ownsRow_nil _ _ _ _⟩
      · have hR : R = (q ++ [i + -1], 0) := by rw [HBS.out, if_neg (by omega)]
        subst hR
        have hb1 : decide (i ≤ 0) = false := by simpa using hm
        have hw1 : IntKind.i64.wrap (i + -1) = i + -1 := by rw [IntKind.wrap_i64]; omega
        go_wp2_with fail
        go_ret2
        have h := (Hown.out.stored q.length (.int .i64 (i + -1))).1
        rw [Hset.out] at h
        refine ⟨Hbel.out.setCell (p := ⟨g, q.length, none⟩) hg _, _, rfl, ?_⟩
        rw [List.length_append, List.length_singleton]
        exact h
set_option maxRecDepth 100000 in
set_option maxHeartbeats 2000000 in
theorem back_c (p : List Int) (a : Option Addr) (c : Nat) (B : Nat) (W : World) (hr : RowA W B 1 a p.length c (p.map (Value.int .i64))) (hB : B ≤ W.heap.size) (hn : p.length ≤ 1000000) (hw : ∀ z ∈ p, -9223372036854775807 ≤ z ∧ z ≤ 9223372036854775807) :
    Calls Tryz.prog 128 #[.slice a p.length c] W (BesideP W (besideN p (-1))) := by
  have HC := Lib.hid (beside_c p (-1) a c B W hr hB hn (.inr rfl) hw)
  generalize besideN p (-1) = R at HC ⊢
  obtain ⟨R1, R2⟩ := R
  clear hr hw
  go_enter Tryz.func128, Tryz.ntmps128
  go_wp2_with fail
  refine HC.out.mono ?_
  rintro e w1 ⟨hb, v, rfl, ho⟩
  have Hb := Lib.hid hb; have Ho := Lib.hid ho
  clear HC hb ho
  go_wp2_with fail
  go_ret2
  exact ⟨Hb.out, _, rfl, Ho.out⟩
end Go.Proofs.YtaopoincbigjhaaGreatDoor
/- Walks: trail.Left; xpath's stands, shift, inserted. -/
namespace Go.Proofs.YtaopoincbigjhaaGreatDoor
open Go.RowKit Go.Redl
set_option linter.unusedVariables false
set_option linter.unusedSimpArgs false

set_option maxRecDepth 100000 in
set_option maxHeartbeats 4000000 in
theorem left_c (q p : List Int) (a a' : Option Addr) (c c' B : Nat) (w : World) (hr : RowA w B 1 a q.length c (q.map (Value.int .i64))) (hr' : RowA w B 1 a' p.length c' (p.map (Value.int .i64))) :
    Calls Tryz.prog 184 #[.slice a q.length c, .slice a' p.length c'] w fun e w' => e = .returned (.bool (leftB q p)) ∧ Drawn w w' := by
  have HC := Lib.hid (alike_c q p a a' c c' B w hr hr')
  have hkle := alikeN_le q p
  have hx : leftB q p = (decide (alikeN q p + 1 = q.length) && (decide (alikeN q p < p.length) && decide (q.getD (alikeN q p) 0 < p.getD (alikeN q p) 0))) := rfl
  have hql : q.length ≤ 9223372036854775807 := by have h1 := hr.le; have h2 := hr.max; unfold maxLen at h2; omega
  generalize alikeN q p = k at HC hkle hx
  have Hx := Lib.hid hx
  generalize leftB q p = R at Hx ⊢
  clear hx
  by_cases h1 : k + 1 = q.length
  · have hb1 : ((k : Int) == (q.length : Int) - 1) = true := by simp; omega
    by_cases h2 : k < p.length
    · have hb2 : decide ((k : Int) < p.length) = true := by simp; omega
      have hkq : k < q.length := by omega
      obtain ⟨b, o, rfl, hb, hc⟩ := hr.int_at k hkq
      obtain ⟨b', o', rfl, hb', hc'⟩ := hr'.int_at k h2
      have x0 := hc k hkq; have x1 := hc' k h2
      have hki : (k : Int) < q.length := by omega
      have hki2 : (k : Int) < p.length := by omega
      have hR : Hid (R = decide (q.getD k 0 < p.getD k 0)) := by show _ = _; rw [Hx.out]; simp [h1, h2]
      clear hr hr' hc hc' Hx
      generalize q.getD k 0 = x at x0 hR
      generalize p.getD k 0 = y at x1 hR
      have Hh := Lib.hid h1
      clear h1
      go_enter Tryz.func184, Tryz.ntmps184
      go_wp2_with fail
      refine HC.out.mono ?_
      rintro e w1 ⟨rfl, n1, rfl⟩
      clear HC
      go_wp2_with fail
      go_quiet (fail)
      go_wp2_with fail
      go_ret
      exact ⟨by rw [hR.out]; rfl, by first | exact drawn_two _ _ _ | exact drawn_one _ _⟩
    · have hb2 : decide ((k : Int) < p.length) = false := by simp; omega
      have hR : Hid (R = false) := by show _ = _; rw [Hx.out]; simp [h2]
      have Hh := Lib.hid h1
      clear hr hr' Hx h1
      go_enter Tryz.func184, Tryz.ntmps184
      go_wp2_with fail
      refine HC.out.mono ?_
      rintro e w1 ⟨rfl, n1, rfl⟩
      clear HC
      go_wp2_with fail
      go_quiet (fail)
      go_wp2_with fail
      go_ret
      exact ⟨by rw [hR.out]; rfl, by first | exact drawn_two _ _ _ | exact drawn_one _ _⟩
  · have hb1 : ((k : Int) == (q.length : Int) - 1) = false := by simp; omega
    have hR : Hid (R = false) := by show _ = _; rw [Hx.out]; simp [h1]
    clear hr hr' Hx
    go_enter Tryz.func184, Tryz.ntmps184
    go_wp2_with fail
    refine HC.out.mono ?_
    rintro e w1 ⟨rfl, n1, rfl⟩
    clear HC
    go_wp2_with fail
    go_quiet (fail)
    go_wp2_with fail
    go_ret
    exact ⟨by rw [hR.out]; rfl, by first | exact drawn_two _ _ _ | exact drawn_one _ _⟩
theorem drawn_then {w w1 w2 : World} (h : Drawn w w1) (k : Drawn w1 w2) : Drawn w w2 := by
  obtain ⟨n, rfl⟩ := h; obtain ⟨m, rfl⟩ := k; exact drawn_two _ _ _
theorem rowa_drawn {w w' : World} {B sz n c : Nat} {a : Option Addr} {cs : List Value} (h : RowA w B sz a n c cs) (hd : Drawn w w') : RowA w' B sz a n c cs := h.keep (hd.below B) (Nat.le_refl _)
set_option maxRecDepth 100000 in
set_option maxHeartbeats 4000000 in
theorem stands_c (q p : List Int) (a a' : Option Addr) (c c' B : Nat) (w : World) (hr : RowA w B 1 a q.length c (q.map (Value.int .i64))) (hr' : RowA w B 1 a' p.length c' (p.map (Value.int .i64))) :
    Calls Tryz.prog 138 #[.slice a q.length c, .slice a' p.length c'] w fun e w' => e = .returned (.int .i64 (standsN q p : Nat)) ∧ Drawn w w' := by
  have HS := Lib.hid (tsame_c q p a a' c c' B w hr hr')
  have HA := Lib.hid (fun (w1 : World) (h : Drawn w w1) => above_c q p a a' c c' B w1 (rowa_drawn hr h) (rowa_drawn hr' h))
  have HL := Lib.hid (fun (w1 : World) (h : Drawn w w1) => left_c q p a a' c c' B w1 (rowa_drawn hr h) (rowa_drawn hr' h))
  have hx : standsN q p = if q = [] then 0 else if q = p then 3 else if aboveB q p then 2 else if leftB q p then 1 else 0 := rfl
  have Hx := Lib.hid hx
  generalize standsN q p = R at Hx ⊢
  have hq0 : q.length = 0 ↔ q = [] := List.length_eq_zero_iff
  have hql : q.length ≤ 9223372036854775807 := by have h1 := hr.le; have h2 := hr.max; unfold maxLen at h2; omega
  generalize aboveB q p = A at HA Hx
  generalize leftB q p = L at HL Hx
  clear hr hr' hx
  by_cases h0 : q.length = 0
  · have hR : R = 0 := by rw [Hx.out, if_pos (hq0.1 h0)]
    subst hR
    rw [h0]
    clear h0 hq0 Hx HS HA HL
    go_enter Tryz.func138, Tryz.ntmps138
    go_wp2_with fail
    go_ret
    exact ⟨rfl, drawn_zero _⟩
  · have hb0 : ((q.length : Int) == 0) = false := by simpa using h0
    have hne : q ≠ [] := fun e => h0 (hq0.2 e)
    have hx2 : R = if q = p then 3 else if A then 2 else if L then 1 else 0 := by rw [Hx.out, if_neg hne]
    have Hx2 := Lib.hid hx2
    clear Hx h0 hq0 hne hx2
    by_cases h1 : q = p
    · have hd : decide (q = p) = true := by simpa using h1
      rw [hd] at HS
      have hR : R = 3 := by rw [Hx2.out, if_pos h1]
      clear Hx2 h1 hd HA HL
      go_enter Tryz.func138, Tryz.ntmps138
      go_wp2_with fail
      refine HS.out.mono ?_
      rintro e w1 ⟨rfl, hd⟩
      have Hd := Lib.hid hd
      clear HS hd
      subst hR
      go_wp2_with fail
      go_ret
      exact ⟨rfl, Hd.out⟩
    · have hd : decide (q = p) = false := by simpa using h1
      rw [hd] at HS
      have hx3 : R = if A then 2 else if L then 1 else 0 := by rw [Hx2.out, if_neg h1]
      have Hx3 := Lib.hid hx3
      clear Hx2 h1 hd hx3
      go_enter Tryz.func138, Tryz.ntmps138
      go_wp2_with fail
      refine HS.out.mono ?_
      rintro e w1 ⟨rfl, hd⟩
      have Hd := Lib.hid hd
      clear HS hd
      go_wp2_with fail
      refine (HA.out w1 Hd.out).mono ?_
      rintro e w2 ⟨rfl, hd2⟩
      have Hd2 := Lib.hid (drawn_then Hd.out hd2)
      clear HA hd2
      cases A with
      | true =>
        have hR : R = 2 := by rw [Hx3.out]; rfl
        clear Hx3
        subst hR
        go_wp2_with fail
        go_ret
        exact ⟨rfl, Hd2.out⟩
      | false =>
        have hx4 : R = if L then 1 else 0 := by rw [Hx3.out]; rfl
        have Hx4 := Lib.hid hx4
        clear Hx3 hx4
        go_wp2_with fail
        refine (HL.out w2 Hd2.out).mono ?_
        rintro e w3 ⟨rfl, hd3⟩
        have Hd3 := Lib.hid (drawn_then Hd2.out hd3)
        clear HL hd3
        cases L with
        | true =>
          have hR : R = 1 := by rw [Hx4.out]; rfl
          clear Hx4
          subst hR
          go_wp2_with fail
          go_ret
          exact ⟨rfl, Hd3.out⟩
        | false =>
          have hR : R = 0 := by rw [Hx4.out]; rfl
          clear Hx4
          subst hR
          go_wp2_with fail
          go_ret
          exact ⟨rfl, Hd3.out⟩
end Go.Proofs.YtaopoincbigjhaaGreatDoor
/- Walks: xpath's shift, inserted. -/
namespace Go.Proofs.YtaopoincbigjhaaGreatDoor
open Go.RowKit Go.Redl
set_option linter.unusedVariables false
set_option linter.unusedSimpArgs false

theorem stands_lt' {q p : List Int} (h : standsN q p ≠ 0) : q.length - 1 < p.length ∧ 0 < q.length := by
  unfold standsN at h
  split at h
  · exact absurd rfl h
  · rename_i hq
    have hpos := List.length_pos_iff.2 hq
    split at h
    · rename_i e; subst e; omega
    · split at h
      · rename_i ha
        unfold aboveB at ha
        simp only [Bool.and_eq_true, decide_eq_true_eq] at ha
        omega
      · split at h
        · rename_i hl
          unfold leftB at hl
          simp only [Bool.and_eq_true, decide_eq_true_eq] at hl
          omega
        · exact absurd rfl h
/-- A path of the call's own. -/
abbrev MadeI (W : World) (zs : List Int) (e : Ending) (w' : World) : Prop := MadeRow W 3 1 zs.length (zs.map (Value.int .i64)) e w'
theorem shift_len (p : List Int) (k : Nat) (d : Int) : (shiftP p k d).length = p.length := by simp [shiftP]
set_option maxRecDepth 100000 in
set_option maxHeartbeats 4000000 in
theorem shift_c (p : List Int) (k : Nat) (d : Int) (a : Option Addr) (c B : Nat) (W : World) (hr : RowA W B 1 a p.length c (p.map (Value.int .i64))) (hB : B ≤ W.heap.size) (hn : p.length ≤ 1000000) (hk : k < p.length) (hw : -9223372036854775807 ≤ p.getD k 0 + d ∧ p.getD k 0 + d ≤ 9223372036854775807) :
    Calls Tryz.prog 140 #[.slice a p.length c, .int .i64 k, .int .i64 d] W (MadeI W (shiftP p k d)) := by
  have HC := Lib.hid (clone_int B p.length a c _ W hr hB (by omega))
  have hset : (p.map (Value.int .i64)).set k (.int .i64 (p.getD k 0 + d)) = (shiftP p k d).map (Value.int .i64) := by unfold shiftP; rw [List.map_set]
  have Hset := Lib.hid hset
  have Hlen := Lib.hid (shift_len p k d)
  have hki : (k : Int) < p.length := by omega
  have hat : (p.map (Value.int .i64))[k]? = some (.int .i64 (p.getD k 0)) := by simp [List.getD, List.getElem?_eq_getElem hk]
  generalize shiftP p k d = S at Hset Hlen ⊢
  generalize p.getD k 0 = x at hset Hset hw hat
  have hw1 : IntKind.i64.wrap (x + d) = x + d := by rw [IntKind.wrap_i64]; omega
  clear hr hset
  go_enter Tryz.func140, Tryz.ntmps140
  go_wp2_with fail
  refine HC.out.mono ?_
  rintro e w1 ⟨v, rfl, hown, hbel⟩
  obtain ⟨a', c', rfl, -⟩ := row_of_own hown (by intro u hu; obtain ⟨z, -, rfl⟩ := List.mem_map.1 hu; rfl)
  obtain ⟨g, rfl, hg⟩ := own_some hown (by intro e; rw [e] at hat; cases hat)
  have hcell := own_at hown k _ hat
  have hfz := hown.frozenAt k
  have Hown := Lib.hid hown; have Hbel := Lib.hid hbel
  clear HC hown hbel hat
  go_wp2_with fail
  go_ret
  have h := (Hown.out.stored k (.int .i64 (x + d))).1
  rw [Hset.out] at h
  refine ⟨_, rfl, ?_, Hbel.out.setCell (p := ⟨g, k, none⟩) hg _⟩
  rw [Hlen.out]
  exact h
set_option maxRecDepth 100000 in
set_option maxHeartbeats 4000000 in
theorem inserted_c (p q : List Int) (a a' : Option Addr) (c c' B : Nat) (W : World) (hr : RowA W B 1 a p.length c (p.map (Value.int .i64))) (hr' : RowA W B 1 a' q.length c' (q.map (Value.int .i64))) (hB : B ≤ W.heap.size) (hn : p.length ≤ 1000000) (hn' : q.length ≤ 1000000) (hw : ∀ z ∈ p, -1 ≤ z ∧ z ≤ 9000000000000) :
    Calls Tryz.prog 139 #[.slice a p.length c, .slice a' q.length c'] W (MadeI W (insertedP p q)) := by
  have HS := Lib.hid (stands_c q p a' a c' c B W hr' hr)
  have hx : insertedP p q = if standsN q p = 0 then p else shiftP p (q.length - 1) 1 := rfl
  have hk : standsN q p ≠ 0 → q.length - 1 < p.length ∧ 0 < q.length := fun h => stands_lt' h
  have HC := Lib.hid (fun (w1 : World) (h : Drawn W w1) => clone_int B p.length a c _ w1 (rowa_drawn hr h) (by have := (h.below W.heap.size).size; omega) (by omega))
  have HSh := Lib.hid (fun (w1 : World) (h : Drawn W w1) (hk : q.length - 1 < p.length) => shift_c p (q.length - 1) 1 a c B w1 (rowa_drawn hr h) (by have := (h.below W.heap.size).size; omega) hn hk (by
    have hm : p.getD (q.length - 1) 0 ∈ p := by rw [getD_of_lt hk]; exact List.getElem_mem hk
    have := hw _ hm; omega))
  generalize standsN q p = s at HS hx hk
  clear hr hr' hw
  by_cases hs : s = 0
  · subst hs
    rw [if_pos rfl] at hx
    rw [hx]
    clear hx hk HSh
    go_enter Tryz.func139, Tryz.ntmps139
    go_wp2_with fail
    refine HS.out.mono ?_
    rintro e w1 ⟨rfl, hd⟩
    have HC1 := Lib.hid (HC.out w1 hd)
    have Hd := Lib.hid hd
    clear HS HC hd
    go_wp2_with fail
    refine HC1.out.mono ?_
    rintro e w2 ⟨v, rfl, hown, hbel⟩
    have Hb := Lib.hid ((Hd.out.below W.heap.size).trans (hbel.mono (Hd.out.below W.heap.size).size))
    have Ho := Lib.hid (own_mono hown (Hd.out.below W.heap.size).size)
    clear HC1 hown hbel
    go_wp2_with fail
    go_ret
    exact ⟨_, rfl, Ho.out, Hb.out⟩
  · rw [if_neg hs] at hx
    rw [hx]
    obtain ⟨hk1, hk2⟩ := hk hs
    have hb : ((s : Int) == 0) = false := by simpa using hs
    have hq1 : ((q.length : Int) - 1) = ((q.length - 1 : Nat) : Int) := by omega
    generalize shiftP p (q.length - 1) 1 = S at HSh ⊢
    generalize q.length - 1 = m at HSh hq1 hk1
    have Hq1 := Lib.hid hq1
    clear hx hs hk HC
    go_enter Tryz.func139, Tryz.ntmps139
    go_wp2_with fail
    refine HS.out.mono ?_
    rintro e w1 ⟨rfl, hd⟩
    have HC1 := Lib.hid (HSh.out w1 hd hk1)
    have Hd := Lib.hid hd
    clear HS HSh hd
    go_wp2_with fail
    refine HC1.out.mono ?_
    rintro e w2 ⟨v, rfl, hown, hbel⟩
    have Hb := Lib.hid ((Hd.out.below W.heap.size).trans (hbel.mono (Hd.out.below W.heap.size).size))
    have Ho := Lib.hid (own_mono hown (Hd.out.below W.heap.size).size)
    clear HC1 hown hbel
    go_wp2_with fail
    go_ret
    exact ⟨_, rfl, Ho.out, Hb.out⟩
end Go.Proofs.YtaopoincbigjhaaGreatDoor
/- Walks: xpath.Move at the empty path. -/
namespace Go.Proofs.YtaopoincbigjhaaGreatDoor
open Go.RowKit Go.Redl
set_option linter.unusedVariables false
set_option linter.unusedSimpArgs false

/-- Where the empty path goes: to an empty one, or nowhere. -/
def MovedZ (W : World) (e : Ending) (w' : World) : Prop := Below W.heap.size W w' ∧ ∃ a c b, e = .returned (.tuple #[.slice a 0 c, .bool b])
theorem standsN_nil (p : List Int) (h : p ≠ []) : standsN p [] = 0 := by
  unfold standsN
  rw [if_neg h, if_neg h]
  cases p with
  | nil => exact absurd rfl h
  | cons z zs => simp [aboveB, leftB]
theorem insertedP_nil (d : List Int) : insertedP [] d = [] := by
  unfold insertedP shiftP
  split <;> rfl
set_option maxRecDepth 100000 in
set_option maxHeartbeats 4000000 in
theorem moveZ_c (p d : List Int) (kd pos : Int) (pa ta : Option Addr) (pc tc : Nat) (v4 v5 v6 v7 v8 v9 v10 v11 v12 v13 v14 v15 v16 v17 v18 v19 v20 : Value) (W : World) (hk : kd = 1 ∨ kd = 2 ∨ kd = 3 ∨ kd = 4 ∨ kd = 5)
    (hp : RowA W W.heap.size 1 pa p.length pc (p.map (Value.int .i64))) (hd : RowA W W.heap.size 1 ta d.length tc (d.map (Value.int .i64))) (hpl : p.length ≤ 1000000) (hdl : d.length ≤ 1000000) (hne : p ≠ []) :
    Calls Tryz.prog 75 #[.slice none 0 0, .agg #[.int .i64 kd, .slice pa p.length pc, .slice ta d.length tc, .int .i64 pos, v4, v5, v6, v7, v8, v9, v10, v11, v12, v13, v14, v15, v16, v17, v18, v19, v20]] W (MovedZ W) := by
  obtain ⟨w0, hw0⟩ : ∃ w0, w0 = W.alloc (Obj.cells #[.int .i64 kd, .slice pa p.length pc, .slice ta d.length tc, .int .i64 pos, v4, v5, v6, v7, v8, v9, v10, v11, v12, v13, v14, v15, v16, v17, v18, v19, v20] 67) := ⟨_, rfl⟩
  have hb0 : Below W.heap.size W w0 := by rw [hw0]; exact one_below _ _
  have hA : At w0 W.heap.size [.int .i64 kd, .slice pa p.length pc, .slice ta d.length tc, .int .i64 pos, v4, v5, v6, v7, v8, v9, v10, v11, v12, v13, v14, v15, v16, v17, v18, v19, v20] 67 := by rw [hw0]; exact At.fresh W _ _
  have HN := Lib.hid (fun (w1 : World) => small_c [] none 0 0 w1 (RowA.empty _ _ _) (Nat.zero_le _) (by simp))
  have HP := Lib.hid (fun (w1 : World) (hb : Below w0.heap.size w0 w1) => small_c p pa pc W.heap.size w1 (hp.keep (hb0.trans (hb.mono hb0.size)) (Nat.le_refl _)) (hb0.trans (hb.mono hb0.size)).size (by omega))
  have HD := Lib.hid (fun (w1 : World) (hb : Below w0.heap.size w0 w1) => small_c d ta tc W.heap.size w1 (hd.keep (hb0.trans (hb.mono hb0.size)) (Nat.le_refl _)) (hb0.trans (hb.mono hb0.size)).size (by omega))
  have HZ := Lib.hid (fun (w1 : World) (q : Option Addr) (hp : RowA w1 w1.heap.size 1 q 1 1 [.int .i64 pos]) => small_c [pos] q 1 w1.heap.size w1 hp (Nat.le_refl _) (by simp))
  have HT := Lib.hid (fun (w1 : World) (hb : Below w0.heap.size w0 w1) => stands_c p [] pa none pc 0 W.heap.size w1 (hp.keep (hb0.trans (hb.mono hb0.size)) (Nat.le_refl _)) (RowA.empty _ _ _))
  rw [standsN_nil p hne] at HT
  have hz0 : ((0 : Nat) : Int) = 0 := rfl
  rw [hz0] at HT
  have HI1 := Lib.hid (fun (w1 : World) (hb : Below w0.heap.size w0 w1) => inserted_c [] p none pa 0 pc W.heap.size w1 (RowA.empty _ _ _) (hp.keep (hb0.trans (hb.mono hb0.size)) (Nat.le_refl _)) (hb0.trans (hb.mono hb0.size)).size (by simp) hpl (by simp))
  have HI2 := Lib.hid (fun (w1 : World) (hb : Below w0.heap.size w0 w1) => inserted_c [] d none ta 0 tc W.heap.size w1 (RowA.empty _ _ _) (hd.keep (hb0.trans (hb.mono hb0.size)) (Nat.le_refl _)) (hb0.trans (hb.mono hb0.size)).size (by simp) hdl (by simp))
  rw [insertedP_nil] at HI1 HI2
  have HC := Lib.hid (fun (w1 : World) => clone_int 0 0 none 0 [] w1 (RowA.empty _ _ _) (Nat.zero_le _) (by omega))
  have e0 : smallB1 [] = true := rfl
  rw [e0] at HN
  obtain ⟨q, i, hqi⟩ : ∃ q i, p = q ++ [i] := by
    rcases List.eq_nil_or_concat p with rfl | ⟨q, i, h⟩
    · exact absurd rfl hne
    · exact ⟨q, i, by rw [h, List.concat_eq_append]⟩
  have hpx := hp
  rw [hqi] at hpx
  obtain ⟨pb, po, hpa, hpb, hpi, -⟩ := row_up hpx
  have hpll : p.length = q.length + 1 := by rw [hqi]; simp
  have hHpi : ∀ w1, Below w0.heap.size w0 w1 → w1.cell? ⟨pb, po + q.length, none⟩ = some (.int .i64 i) := fun w1 hb => ((hb0.trans (hb.mono hb0.size)).cell (p := ⟨pb, po + q.length, none⟩) hpb).trans hpi
  have hpcl := hp.le
  have hpmx := hp.max
  unfold maxLen at hpmx
  rw [hpll] at hpcl
  have HPi := Lib.hid hHpi; have HPa := Lib.hid hpa
  have HA := Lib.hid hA; have Hb0 := Lib.hid hb0; have Hw0 := Lib.hid hw0; have Hll := Lib.hid hpll
  have c1 := hA.cell 1 rfl; have cl := hA.lt
  clear hp hd hpx hb0 hA hw0 hne hqi hpi hHpi hpa e0 hpll
  unfold MovedZ
  go_enter Tryz.func75, Tryz.ntmps75
  go_upto_region 1 with fail
  rw [← Hw0.out]
  clear Hw0
  go_wp2_with fail
  refine (HN.out w0).mono ?_
  rintro e w1 ⟨rfl, hbel⟩
  have hA1 := HA.out.kept hbel
  have d1 := hA1.cell 1 rfl; have dl := hA1.lt
  have Hb1 := Lib.hid hbel
  clear hbel hA1 c1 cl HN
  go_wp2_with fail
  refine (HP.out w1 Hb1.out).mono ?_
  generalize smallB1 p = s1
  rintro e w2 ⟨rfl, hbel⟩
  have Hb2 := Lib.hid (below_and Hb1.out hbel)
  clear hbel HP d1 dl
  cases s1 with
  | false =>
    have HbW := Lib.hid (Hb0.out.trans (Hb2.out.mono Hb0.out.size))
    clear HD HZ HT HI1 HI2 HC HA HPi
    go_wp2_with fail
    go_ret2
    exact ⟨HbW.out, none, 0, false, rfl⟩
  | true =>
  have hA2 := HA.out.kept Hb2.out
  have f2 := hA2.cell 2 rfl; have fl := hA2.lt
  clear hA2
  go_wp2_with fail
  refine (HD.out w2 Hb2.out).mono ?_
  generalize smallB1 d = s2
  rintro e w3 ⟨rfl, hbel⟩
  have Hb3 := Lib.hid (below_and Hb2.out hbel)
  clear hbel HD f2 fl
  cases s2 with
  | false =>
    have HbW := Lib.hid (Hb0.out.trans (Hb3.out.mono Hb0.out.size))
    clear HZ HT HI1 HI2 HC HA HPi
    go_wp2_with fail
    go_ret2
    exact ⟨HbW.out, none, 0, false, rfl⟩
  | true =>
  have hA3 := HA.out.kept Hb3.out
  have g3 := hA3.cell 3 rfl; have gl := hA3.lt
  clear hA3
  go_wp2_with fail
  refine (HZ.out _ _ (row_one w3 (.int .i64 pos) 3 _ rfl (by simp))).mono ?_
  generalize smallB1 [pos] = s3
  rintro e w4 ⟨rfl, hbel⟩
  have Hb4 := Lib.hid (below_and (Hb3.out.trans ((one_below w3 (Obj.cells #[Value.int .i64 pos] 3)).mono Hb3.out.size)) hbel)
  clear hbel g3 gl HZ
  cases s3 with
  | false =>
    have HbW := Lib.hid (Hb0.out.trans (Hb4.out.mono Hb0.out.size))
    clear HT HI1 HI2 HC HA HPi
    go_wp2_with fail
    go_ret2
    exact ⟨HbW.out, none, 0, false, rfl⟩
  | true =>
  have hA4 := HA.out.kept Hb4.out
  have k1 := hA4.cell 1 rfl; have kl := hA4.lt
  clear hA4
  go_wp2_with fail
  refine (HT.out w4 Hb4.out).mono ?_
  rintro e w5 ⟨rfl, hdr⟩
  have Hb5 := Lib.hid (below_and Hb4.out (hdr.below _))
  have hA5 := HA.out.kept Hb5.out
  have m0 := hA5.cell 0 rfl; have m2 := hA5.cell 2 rfl; have m3 := hA5.cell 3 rfl; have ml := hA5.lt
  have mi := HPi.out w5 Hb5.out
  have Hll2 := Hll.out
  have HPa2 := HPa.out
  subst HPa2
  clear hdr HT hA5 k1 kl HPi
  have HbW := Lib.hid (Hb0.out.trans (Hb5.out.mono Hb0.out.size))
  have hq0 : decide ((q.length : Int) < 0) = false := by simp
  have hqw : IntKind.i64.wrap ((q.length : Int) + 1 - 1) = (q.length : Int) := by rw [IntKind.wrap_i64]; omega
  rw [Hll2] at HI1
  clear Hll
  rw [Hll2]
  rcases hk with rfl | rfl | rfl | rfl | rfl
  · have HI := Lib.hid (HI1.out w5 Hb5.out)
    clear HI1 HI2 HC HA
    go_wp2_with fail
    refine HI.out.mono ?_
    rintro e w6 ⟨v, rfl, hown, hbel⟩
    obtain ⟨va, vc, rfl, -⟩ := row_of_own hown (by intro u hu; cases hu)
    have HbF := Lib.hid (HbW.out.trans (hbel.mono HbW.out.size))
    clear HI hown hbel
    go_wp2_with fail
    go_ret2
    exact ⟨HbF.out, va, vc, true, rfl⟩
  · clear HI1 HI2 HA
    go_wp2_with fail
    refine (HC.out w5).mono ?_
    rintro e w6 ⟨v, rfl, hown, hbel⟩
    obtain ⟨va, vc, rfl, -⟩ := row_of_own hown (by intro u hu; cases hu)
    have HbF := Lib.hid (HbW.out.trans (hbel.mono HbW.out.size))
    clear HC hown hbel
    go_wp2_with fail
    go_ret2
    exact ⟨HbF.out, va, vc, true, rfl⟩
  · clear HI1 HI2 HA
    by_cases hi0 : i = 0
    · have hib : (i == 0) = true := by simpa using hi0
      go_wp2_with fail
      go_ret2
      exact ⟨HbW.out, none, 0, false, rfl⟩
    · have hib : (i == 0) = false := by simpa using hi0
      go_wp2_with fail
      refine (HC.out w5).mono ?_
      rintro e w6 ⟨v, rfl, hown, hbel⟩
      obtain ⟨va, vc, rfl, -⟩ := row_of_own hown (by intro u hu; cases hu)
      have HbF := Lib.hid (HbW.out.trans (hbel.mono HbW.out.size))
      clear HC hown hbel
      go_wp2_with fail
      go_ret2
      exact ⟨HbF.out, va, vc, true, rfl⟩
  · clear HI1 HI2 HA
    go_upto_region 25 with fail
    go_quiet (fail)
    go_wp2_with fail
    refine (HC.out _).mono ?_
    rintro e w6 ⟨v, rfl, hown, hbel⟩
    obtain ⟨va, vc, rfl, -⟩ := row_of_own hown (by intro u hu; cases hu)
    have HbF := Lib.hid (HbW.out.trans (((below_drewN (Below.refl w5.heap.size w5) _).trans (hbel.mono (Below.size (B := w5.heap.size) (below_drewN (Below.refl w5.heap.size w5) _)))).mono HbW.out.size))
    clear HC hown hbel
    go_wp2_with fail
    go_ret2
    exact ⟨HbF.out, va, vc, true, rfl⟩
  · have HI := Lib.hid (HI2.out w5 Hb5.out)
    clear HI1 HI2 HC HA
    go_wp2_with fail
    refine HI.out.mono ?_
    rintro e w6 ⟨v, rfl, hown, hbel⟩
    obtain ⟨va, vc, rfl, -⟩ := row_of_own hown (by intro u hu; cases hu)
    have HbF := Lib.hid (HbW.out.trans (hbel.mono HbW.out.size))
    clear HI hown hbel
    go_wp2_with fail
    go_ret2
    exact ⟨HbF.out, va, vc, true, rfl⟩
end Go.Proofs.YtaopoincbigjhaaGreatDoor
