/- Walks: tree's paths: the function that calls itself. -/
import Derived.Test.YtiinmgccjlmoaaaRCU
namespace Go.Proofs.Ytiinmgccjlmoaaa
open Go.RowKit Go.Redl
set_option linter.unusedVariables false

section
variable {tb ob eb cb B MX M : Nat} {caps : Array Value} {want : NodeD → Bool}

set_option maxRecDepth 100000 in
set_option maxHeartbeats 4000000 in
theorem paths1_c (hcb : ∀ args w, (callFunc cb args).run Try.prog w = .ok (.enter cb args) w) (hA : WantC B cb caps want MX) (hBo : B ≤ ob) (hBM : B ≤ M) (m : Nat) :
    ∀ (n : NodeD) (v : Value) (p : List Int) (pa : Option Addr) (pc : Nat) (l : List (List Int)) (ov : Value) (cs : List Value) (W : World), n.wt ≤ m → n.wt ≤ MX → l.length + n.wt ≤ 1000000000 → p.length + n.wt ≤ 100000000 → NodeV W B n v → M ≤ W.heap.size →
      BoxesAt W tb ob eb cb caps M l ov cs → RowQ W (fun b => M ≤ b ∧ ov.ownBlock ≠ some b) 1 pa p.length pc (p.map (Value.int .i64)) →
      Calls Try.prog 82 #[v, .slice pa p.length pc, .pointer (some ⟨tb, 0, none⟩), .pointer (some ⟨ob, 0, none⟩), .pointer (some ⟨eb, 0, none⟩)] W (PathsP tb ob eb cb caps M ov W (l ++ pathsW want n p)) := by
  induction m with
  | zero => intro n v p pa pc l ov cs W hm; have := wt_pos n; omega
  | succ m ih =>
    intro n v p pa pc l ov cs W hm hMX hl hpn hv hM hbx hrow
    have IH := Lib.hid ih
    have hv0 := hv
    obtain ⟨lf, ps, t, ks⟩ := n
    obtain ⟨ap, cp, at_, ct, ak, ck, css, rfl, -, -, hk, hc⟩ := hv0.open
    have hwt : 1 + propsWt ps + t.length + wtAll ks = (NodeD.mk lf ps t ks).wt := rfl
    have hb0 := (Below.refl W.heap.size W).alloc (Nat.le_refl _) (Obj.cells #[.bool lf, .slice ap ps.length cp, .slice at_ t.length ct, .slice ak ks.length ck] 35)
    have HW := Lib.hid (hA (.mk lf ps t ks) _ _ hMX (hv.keep (hb0.mono (Nat.le_trans hBM hM)) (Nat.le_refl _)) (by simp; omega))
    obtain ⟨R, hR⟩ : ∃ R, R = l ++ pathsW want (.mk lf ps t ks) p := ⟨_, rfl⟩
    rw [← hR]
    obtain ⟨b, hb⟩ : ∃ b, b = want (.mk lf ps t ks) := ⟨_, rfl⟩
    rw [← hb] at HW
    have HR : Hid ((l ++ if b = true then [p] else []) ++ pathsK want ks 0 p = R) := by
      show _ = R
      rw [hR, hb, pathsW, List.append_assoc]
    have hw3 : ∀ q ∈ ks, q.wt ≤ m ∧ q.wt ≤ MX ∧ q.wt ≤ wtAll ks := fun q hq => by have := wtAll_mem hq; omega
    have hpl : p.length + 1 ≤ 100000000 := by omega
    have hll : l.length + 1 + wtAll ks ≤ 1000000000 := by omega
    have hpw : p.length + 1 + wtAll ks ≤ 100000000 := by omega
    have hkl : ks.length ≤ 100000000 := by have := wtAll_len ks; omega
    have hA0 := NodeAt.fresh W (.bool lf) (.slice ap ps.length cp) (.slice at_ t.length ct) (.slice ak ks.length ck)
    have Hw3 := Lib.hid hw3; have Hb0 := Lib.hid hb0; have Hbx := Lib.hid hbx; have Hrow := Lib.hid hrow; have Hk := Lib.hid hk; have Hc := Lib.hid hc; have HA0 := Lib.hid hA0
    obtain ⟨e1, e2, e3, e4, l1, l2, l3⟩ := hbx.cells
    clear hw3 hb0 hbx hrow hk hc hA0 hv hv0 hwt hm hMX hl hpn hR hb ih hA e2 e3 e4
    go_enter Try.func82, Try.ntmps82
    go_wp2_with fail
    refine HW.out.mono ?_
    rintro e w1 ⟨rfl, hbel⟩
    have hbel' : Below W.heap.size W w1 := Hb0.out.trans (hbel.mono Hb0.out.size)
    have HA1 := Lib.hid (HA0.out.keep (hbel.mono (by simp)))
    have Hbx1 := Lib.hid (Hbx.out.below hbel')
    have Hrow1 := Lib.hid (Hrow.out.keep (w' := w1) hbel'.size (fun b _ hlt => hbel'.block b hlt) (fun _ hb _ => hb))
    have HG1 := Lib.hid ((Grew.refl ob ov W).then hbel')
    have hB1 : Below B W w1 := hbel'.mono (Nat.le_trans hBM hM)
    have Hk1 := Lib.hid (Hk.out.keep hB1 (Nat.le_refl _)); have Hc1 := Lib.hid (KidsC.keep hB1 (Nat.le_refl _) ks css Hc.out)
    have hM1 : M ≤ w1.heap.size := Nat.le_trans hM hbel'.size
    have hN1 : W.heap.size < w1.heap.size := HA1.out.facts.2.2.2.2.2
    have hnN : ov.ownBlock ≠ some W.heap.size := Hbx.out.notOwn (.inr (Nat.le_refl _))
    obtain ⟨y1, y2, y3, y4, m1, m2, m3⟩ := Hbx1.out.cells
    clear hbel hbel' HW Hb0 HA0 Hbx Hrow Hk Hc hB1 e1 l1 l2 l3
    go_upto_if 11 with fail
    go_cut [] (fun wx => ∃ l1 ov1 cs1, l1 = (l ++ if b = true then [p] else []) ∧ BoxesAt wx tb ob eb cb caps M l1 ov1 cs1 ∧ Grew ob ov ov1 w1 wx)
    case first =>
      cases b with
      | false =>
        go_wp2_with fail
        go_meet
        case rel => exact ⟨l, ov, cs, by simp, Hbx1.out, Grew.refl _ _ _⟩
      | true =>
        go_wp2_with fail
        go_region_law (first
          | (refine step_call rfl 45 _ _ rfl cln_int_ent [Value.slice pa p.length pc] ?_ _ (clone_int w1.heap.size p.length pa pc _ _ (Hrow1.out.row.keep ?_ (Nat.le_refl _)) ?_ (by omega)) ?_
             · go_simp
             · exact (Below.refl _ _).drew
             · exact Nat.le_refl _
             rintro e w2 ⟨v2, rfl, hown, hbel⟩
             obtain ⟨qa, qc, rfl, hq⟩ := rowq_own hown (ints_one .i64 p)
             refine ⟨_, rfl, ?_⟩
             have Hbel2 := Lib.hid (((Below.refl w1.heap.size w1).drew).trans hbel)
             have Hq := Lib.hid hq
             obtain ⟨z1, z2, z3, z4, n1, n2, n3⟩ := (Hbx1.out.below Hbel2.out).cells
             have Hown2 := Lib.hid (Hbx1.out.below Hbel2.out).own
             clear hbel hown hq)
          | (refine step_app2 rfl _ _ 44 rfl M 36 (.slice none 0 0) 1 24 Try.underlying44 info_slc rfl (by decide) ov l.length cs ?_ (Hown2.out.alloc _) ⟨w2.heap.size, 0, none⟩ 1 1 (w2.heap.size + 1) [.slice qa p.length qc] ?_ (row_one _ _ _ _ rfl (by omega)) ?_ ?_ ?_ ?_
             · go_simp
             · go_simp
             · unfold maxLen; omega
             · omega
             · have := Hbel2.out.size; simp; omega
             intro v' w3 hown' hgrow hwhere
             obtain ⟨va, vc, rfl, -⟩ := row_of_own hown' (by intro u hu; rcases List.mem_append.1 hu with h | h; exact Hbx1.out.rows.one u h; simp at h; subst h; rfl)
             have Hpu := Lib.hid (Hbx1.out.push hM1 Hbel2.out Hq.out hgrow hown' hwhere)
             have ho3 : w3.heap[ob]? = some (Obj.cells #[ov] 44 (0, 0)) := by
               rw [hgrow.block ob (by simp; omega) (fun e => Hbx1.out.notOwn (.inl Hbx1.out.lt.2.1) e.symm), Lib.alloc_old _ _ _ n2]
               exact (Hbx1.out.below Hbel2.out).o
             have q3 : w3.cell? ⟨ob, 0, none⟩ = some ov := by rw [Lib.cell_of_heap ho3]; rfl
             have q4 : w3.frozen? ⟨ob, 0, none⟩ = false := Lib.frozen_of_heap ho3 _
             have q5 : ob < w3.heap.size := (Array.getElem?_eq_some_iff.1 ho3).1
             clear hown' hgrow hwhere ho3))
        all_goals
          go_wp2_with fail
          go_meet
          case rel => exact ⟨_, _, _, by simp, Hpu.out.1, Hpu.out.2⟩
    case rest =>
      obtain ⟨l1, ov1, cs1, rfl, hbx, hgr⟩ := hcut
      have HG2 := Lib.hid (HG1.out.trans hgr)
      have HA2 := Lib.hid (show NodeAt wc W.heap.size _ _ _ _ by unfold NodeAt; rw [hgr.block _ hN1 (by have := Hbx1.out.lt.2.1; omega) hnN]; exact HA1.out)
      have Hrow2 := Lib.hid (Hrow1.out.stay (hgr.stay Hbx1.out.lt.2.1))
      have hB2 : Below B w1 wc := hgr.below hBo (by omega) (fun k hk => by have := (Hbx1.out.own.lt k hk).1; omega)
      have Hk2 := Lib.hid (Hk1.out.keep hB2 (Nat.le_refl _)); have Hc2 := Lib.hid (KidsC.keep hB2 (Nat.le_refl _) ks css Hc1.out)
      have hnN2 : ov1.ownBlock ≠ some W.heap.size := by
        rcases hgr.where_ with h | h
        · rw [h]; exact hnN
        · intro e; have := h _ e; omega
      have Hbx2 := Lib.hid hbx
      have hM2 : M ≤ wc.heap.size := Nat.le_trans hM1 hgr.size
      have hl2 : (l ++ if b = true then [p] else []).length + wtAll ks ≤ 1000000000 := by rw [List.length_append]; split <;> simp <;> omega
      obtain ⟨z0, z1, z2, z3, -, zl⟩ := HA2.out.facts
      generalize (l ++ if b = true then [p] else []) = l1 at HR hl2 Hbx2
      clear hbx hgr hB2 HG1 HA1 Hrow1 Hk1 Hc1 Hbx1 y1 y2 y3 y4 m1 m2 m3 hnN
      go_wp2_with fail
      go_loopg [20] ks.length (fun g i wr => ∃ (k : Nat) (l2 : List (List Int)) (ov2 : Value) (cs2 : List Value), i = .int .i64 k ∧ k + g = ks.length ∧ l2 ++ pathsK want (ks.drop k) k p = R ∧ l2.length + wtAll (ks.drop k) ≤ 1000000000 ∧ BoxesAt wr tb ob eb cb caps M l2 ov2 cs2 ∧ Grew ob ov1 ov2 wc wr)
      case atStart => exact ⟨0, l1, ov1, cs1, rfl, by omega, HR.out, hl2, Hbx2.out, Grew.refl _ _ _⟩
      case round =>
        obtain ⟨k, l2, ov2, cs2, rfl, hg, hke, hl3, hbx, hgr⟩ := hrel
        have Hke := Lib.hid hke
        have hB3 : Below B wc wr := hgr.below hBo (by omega) (fun k hk => by have := (Hbx2.out.own.lt k hk).1; omega)
        have hk3 := Hk2.out.keep hB3 (Nat.le_refl _); have hc3 := KidsC.keep hB3 (Nat.le_refl _) ks css Hc2.out
        have hM3 : M ≤ wr.heap.size := Nat.le_trans hM2 hgr.size
        have Hrow3 := Lib.hid (Hrow2.out.stay (hgr.stay Hbx2.out.lt.2.1))
        have HG3 := Lib.hid hgr; have Hbx3 := Lib.hid hbx
        clear hke hgr hB3
        by_cases hlt : k < ks.length
        · have hlti : (k : Int) < ks.length := by omega
          have hmem := Hw3.out _ (List.getElem_mem hlt)
          have hdr : wtAll (ks.drop k) = ks[k].wt + wtAll (ks.drop (k + 1)) := by
            conv => lhs; rw [List.drop_eq_getElem_cons hlt]
            simp only [wtAll]
          rw [hdr] at hl3
          have Hst : Hid ((l2 ++ pathsW want ks[k] (p ++ [(k : Int)])) ++ pathsK want (ks.drop (k + 1)) (k + 1) p = R) := by
            show _ = R
            rw [List.append_assoc, ← pathsK_step hlt]; exact Hke.out
          have hpwl := pathsW_len want ks[k] (p ++ [(k : Int)])
          obtain ⟨kb, ko, lk, a1, n1, c1, a2, n2, c2, a3, n3, c3, rfl, hkb, hkn, g0, g1, g2, g3⟩ := hk3.kid_at hc3 k hlt
          generalize ks[k] = q at hmem Hst hpwl hl3 hkn
          go_upto_region 6 with fail
          have hb2 := (Below.refl wr.heap.size wr).alloc (Nat.le_refl _) (Obj.cells #[.bool lk, .slice a1 n1 c1, .slice a2 n2 c2, .slice a3 n3 c3] 35)
          have hA2 := NodeAt.fresh wr (.bool lk) (.slice a1 n1 c1) (.slice a2 n2 c2) (.slice a3 n3 c3)
          obtain ⟨w2, hw2⟩ : ∃ w2, w2 = wr.alloc (Obj.cells #[.bool lk, .slice a1 n1 c1, .slice a2 n2 c2, .slice a3 n3 c3] 35) := ⟨_, rfl⟩
          rw [← hw2] at hb2 hA2 ⊢
          clear hw2
          have Hbx4 := Lib.hid (Hbx3.out.below hb2)
          have Hrow4 := Lib.hid (Hrow3.out.keep (w' := w2) (ok' := fun b => M ≤ b ∧ ov2.ownBlock ≠ some b) hb2.size (fun b _ hlt => hb2.block b hlt) (fun _ hb _ => hb))
          have Hkn := Lib.hid (NodeC.keep (hb2.mono (Nat.le_trans hBM hM3)) (Nat.le_refl _) _ _ hkn)
          have hM4 : M ≤ w2.heap.size := Nat.le_trans hM3 hb2.size
          have hle : p.length ≤ pc := Hrow3.out.le
          obtain ⟨x0, x1, x2, x3, -, xl⟩ := hA2.facts
          obtain ⟨y1, y2, y3, y4, m1, m2, m3⟩ := Hbx4.out.cells
          have Hb2 := Lib.hid hb2; have HA4 := Lib.hid hA2
          clear hb2 hA2 hkn hk3 hc3 g0 g1 g2 g3 Hrow3 Hw3 Hke hdr
          go_region_law (first
            | (refine step_grow rfl _ _ 36 rfl 3 (.int .i64 0) 1 8 Try.underlying36 info_int rfl (by decide) pa p.length w2.heap.size (p.map (Value.int .i64)) ?_ (Hrow4.out.row.full.keep ?_ (Nat.le_refl _)) ⟨w2.heap.size, 0, none⟩ 1 1 (w2.heap.size + 1) [.int .i64 k] ?_ ((row_one w2 _ _ _ rfl (by omega)).keep (Below.refl _ _).drew (Nat.le_refl _)) (by decide) ?_ ?_ ?_
               · go_simp
               · exact ((Below.refl _ _).alloc (Nat.le_refl _) _).drew
               · go_simp
               · unfold maxLen; omega
               · omega
               intro v' w3 hown hbel
               have hz : p.map (Value.int .i64) ++ [.int .i64 (k : Int)] = (p ++ [(k : Int)]).map (Value.int .i64) := by simp
               rw [hz] at hown
               obtain ⟨va, vc, rfl, hq⟩ := rowq_own hown (ints_one .i64 _)
               have hb3 : Below w2.heap.size w2 w3 := (((Below.refl _ _).alloc (Nat.le_refl _) _).drew).trans (hbel.mono (by simp))
               have hA3 := HA4.out.keep (hb3.mono (by omega))
               have hbx5 := Hbx4.out.below hb3
               have hq2 : RowQ w3 (fun b => M ≤ b ∧ ov2.ownBlock ≠ some b) 1 va (p ++ [(k : Int)]).length vc ((p ++ [(k : Int)]).map (Value.int .i64)) := by
                 have := hq.keep (ok' := fun b => M ≤ b ∧ ov2.ownBlock ≠ some b) (Nat.le_refl _) (fun _ _ _ => rfl) (fun b hb _ => by
                   have hb' : w2.heap.size + 1 ≤ b := by simpa using hb
                   exact ⟨by omega, Hbx4.out.notOwn (.inr (by omega))⟩)
                 simpa using this
               have HC := IH.out q (.agg #[.bool lk, .slice a1 n1 c1, .slice a2 n2 c2, .slice a3 n3 c3]) (p ++ [(k : Int)]) va vc l2 ov2 cs2 w3 hmem.1 hmem.2.1 (by omega) (by simp; omega) ⟨_, rfl, NodeC.keep (hb3.mono (by omega)) (Nat.le_refl _) _ _ Hkn.out⟩ (Nat.le_trans hM4 hb3.size) hbx5 hq2
               have HC2 := Lib.hid (show Calls Try.prog 82 (([.agg #[.bool lk, .slice a1 n1 c1, .slice a2 n2 c2, .slice a3 n3 c3], .slice va (p.length + 1) vc] : List Value).toArray ++ #[.pointer (some ⟨tb, 0, none⟩), .pointer (some ⟨ob, 0, none⟩), .pointer (some ⟨eb, 0, none⟩)]) w3 (PathsP tb ob eb cb caps M ov2 w3 (l2 ++ pathsW want q (p ++ [(k : Int)]))) by simpa using HC)
               have HG5 := Lib.hid ((HG3.out.then Hb2.out).then hb3)
               obtain ⟨t0, t1, t2, t3, -, tl⟩ := hA3.facts
               obtain ⟨r1, r2, r3, r4, s1, s2, s3⟩ := hbx5.cells
               clear hown hbel hz hq hb3 hA3 hbx5 hq2 HC)
            | (refine step_callv rfl 82 _ #[.pointer (some ⟨tb, 0, none⟩), .pointer (some ⟨ob, 0, none⟩), .pointer (some ⟨eb, 0, none⟩)] _ _ rfl ?_ paths1_ent [.agg #[.bool lk, .slice a1 n1 c1, .slice a2 n2 c2, .slice a3 n3 c3], .slice va (p.length + 1) vc] ?_ _ HC2.out ?_
               · go_simp
               · go_simp
               rintro e w4 ⟨rfl, ov3, cs3, hbx6, hgr6⟩
               refine ⟨_, rfl, ?_⟩
               have Hbx6 := Lib.hid hbx6
               have HG6 := Lib.hid (HG5.out.trans hgr6)
               clear hbx6 hgr6))
          all_goals
            go_wp2_with fail
            go_roundg (gk - 1)
            case measure => omega
            case rel => exact ⟨k + 1, _, ov3, cs3, by go_num, by omega, Hst.out, by rw [List.length_append]; omega, Hbx6.out, HG6.out⟩
        · obtain rfl : k = ks.length := by omega
          have HR2 : Hid (l2 = R) := by
            show l2 = R
            rw [← Hke.out, List.drop_length, pathsK, List.append_nil]
          clear Hke hk3 hc3
          go_wp2_with fail
          go_end0
          refine ⟨rfl, ov2, cs2, ?_, HG2.out.trans HG3.out⟩
          rw [← HR2.out]
          exact Hbx3.out
end

end Go.Proofs.Ytiinmgccjlmoaaa
