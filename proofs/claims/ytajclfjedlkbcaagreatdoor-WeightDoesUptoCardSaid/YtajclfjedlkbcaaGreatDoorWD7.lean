/- Parts of the proof, one behind the other: RCX, RCY, RKI, RKJ, RKK. -/
import Derived.Test.YtajclfjedlkbcaaGreatDoorWD6
import Derived.Test.YtajclfjedlkbcaaGreatDoorWD4
import Derived.Deep.MidRow
/- Walks: tree's paths: the function that calls itself. -/
namespace Go.Proofs.YtajclfjedlkbcaaGreatDoor
open Go.RowKit Go.Redl
set_option linter.unusedVariables false

section
variable {tb ob eb cb B MX M : Nat} {caps : Array Value} {want : NodeD → Bool}

set_option maxRecDepth 100000 in
set_option maxHeartbeats 4000000 in
theorem paths1_c (hcb : ∀ args w, (callFunc cb args).run Tryz.prog w = .ok (.enter cb args) w) (hA : WantC B cb caps want MX) (hBo : B ≤ ob) (hBM : B ≤ M) (m : Nat) :
    ∀ (n : NodeD) (v : Value) (p : List Int) (pa : Option Addr) (pc : Nat) (l : List (List Int)) (ov : Value) (cs : List Value) (W : World), n.wt ≤ m → n.wt ≤ MX → l.length + n.wt ≤ 1000000000 → p.length + n.wt ≤ 100000000 → NodeV W B n v → M ≤ W.heap.size →
      BoxesAt W tb ob eb cb caps M l ov cs → RowQ W (fun b => M ≤ b ∧ ov.ownBlock ≠ some b) 1 pa p.length pc (p.map (Value.int .i64)) →
      Calls Tryz.prog 89 #[v, .slice pa p.length pc, .pointer (some ⟨tb, 0, none⟩), .pointer (some ⟨ob, 0, none⟩), .pointer (some ⟨eb, 0, none⟩)] W (PathsP tb ob eb cb caps M ov W (l ++ pathsW want n p)) := by
  induction m with
  | zero => intro n v p pa pc l ov cs W hm; have := wt_pos n; omega
  | succ m ih =>
    intro n v p pa pc l ov cs W hm hMX hl hpn hv hM hbx hrow
    have IH := Lib.hid ih
    have hv0 := hv
    obtain ⟨lf, ps, t, ks⟩ := n
    obtain ⟨ap, cp, at_, ct, ak, ck, css, rfl, -, -, hk, hc⟩ := hv0.open
    have hwt : 1 + propsWt ps + t.length + wtAll ks = (NodeD.mk lf ps t ks).wt := rfl
    have hb0 := (Below.refl W.heap.size W).alloc (Nat.le_refl _) (Obj.cells #[.bool lf, .slice ap ps.length cp, .slice at_ t.length ct, .slice ak ks.length ck] 35)
    have HW := Lib.hid (hA (.mk lf ps t ks) _ _ hMX (hv.keep (hb0.mono (Nat.le_trans hBM hM)) (Nat.le_refl _)) (by simp; omega))
    obtain ⟨R, hR⟩ : ∃ R, R = l ++ pathsW want (.mk lf ps t ks) p := ⟨_, rfl⟩
    rw [← hR]
    obtain ⟨b, hb⟩ : ∃ b, b = want (.mk lf ps t ks) := ⟨_, rfl⟩
    rw [← hb] at HW
    have HR : Hid ((l ++ if b = true then [p] else []) ++ pathsK want ks 0 p = R) := by
      show _ = R
      rw [hR, hb, pathsW, List.append_assoc]
    have hw3 : ∀ q ∈ ks, q.wt ≤ m ∧ q.wt ≤ MX ∧ q.wt ≤ wtAll ks := fun q hq => by have := wtAll_mem hq; omega
    have hpl : p.length + 1 ≤ 100000000 := by omega
    have hll : l.length + 1 + wtAll ks ≤ 1000000000 := by omega
    have hpw : p.length + 1 + wtAll ks ≤ 100000000 := by omega
    have hkl : ks.length ≤ 100000000 := by have := wtAll_len ks; omega
    have hA0 := NodeAt.fresh W (.bool lf) (.slice ap ps.length cp) (.slice at_ t.length ct) (.slice ak ks.length ck)
    have Hw3 := Lib.hid hw3; have Hb0 := Lib.hid hb0; have Hbx := Lib.hid hbx; have Hrow := Lib.hid hrow; have Hk := Lib.hid hk; have Hc := Lib.hid hc; have HA0 := Lib.hid hA0
    obtain ⟨e1, e2, e3, e4, l1, l2, l3⟩ := hbx.cells
    clear hw3 hb0 hbx hrow hk hc hA0 hv hv0 hwt hm hMX hl hpn hR hb ih hA e2 e3 e4
    go_enter Tryz.func89, Tryz.ntmps89
    go_wp2_with fail
    refine HW.out.mono ?_
    rintro e w1 ⟨rfl, hbel⟩
    have hbel' : Below W.heap.size W w1 := Hb0.out.trans (hbel.mono Hb0.out.size)
    have HA1 := Lib.hid (HA0.out.keep (hbel.mono (by simp)))
    have Hbx1 := Lib.hid (Hbx.out.below hbel')
    have Hrow1 := Lib.hid (Hrow.out.keep (w' := w1) hbel'.size (fun b _ hlt => hbel'.block b hlt) (fun _ hb _ => hb))
    have HG1 := Lib.hid ((Grew.refl ob ov W).then hbel')
    have hB1 : Below B W w1 := hbel'.mono (Nat.le_trans hBM hM)
    have Hk1 := Lib.hid (Hk.out.keep hB1 (Nat.le_refl _)); have Hc1 := Lib.hid (KidsC.keep hB1 (Nat.le_refl _) ks css Hc.out)
    have hM1 : M ≤ w1.heap.size := Nat.le_trans hM hbel'.size
    have hN1 : W.heap.size < w1.heap.size := HA1.out.facts.2.2.2.2.2
    have hnN : ov.ownBlock ≠ some W.heap.size := Hbx.out.notOwn (.inr (Nat.le_refl _))
    obtain ⟨y1, y2, y3, y4, m1, m2, m3⟩ := Hbx1.out.cells
    clear hbel hbel' HW Hb0 HA0 Hbx Hrow Hk Hc hB1 e1 l1 l2 l3
    go_upto_if 11 with fail
    go_cut [] (fun wx => ∃ l1 ov1 cs1, l1 = (l ++ if b = true then [p] else []) ∧ BoxesAt wx tb ob eb cb caps M l1 ov1 cs1 ∧ Grew ob ov ov1 w1 wx)
    case first =>
      cases b with
      | false =>
        go_wp2_with fail
        go_meet
        case rel => exact ⟨l, ov, cs, by simp, Hbx1.out, Grew.refl _ _ _⟩
      | true =>
        go_wp2_with fail
        go_region_law (first
          | (refine step_call rfl 35 _ _ rfl cln_int_ent [Value.slice pa p.length pc] ?_ _ (clone_int w1.heap.size p.length pa pc _ _ (Hrow1.out.row.keep ?_ (Nat.le_refl _)) ?_ (by omega)) ?_
             · go_simp
             · exact (Below.refl _ _).drew
             · exact Nat.le_refl _
             rintro e w2 ⟨v2, rfl, hown, hbel⟩
             obtain ⟨qa, qc, rfl, hq⟩ := rowq_own hown (ints_one .i64 p)
             refine ⟨_, rfl, ?_⟩
             have Hbel2 := Lib.hid (((Below.refl w1.heap.size w1).drew).trans hbel)
             have Hq := Lib.hid hq
             obtain ⟨z1, z2, z3, z4, n1, n2, n3⟩ := (Hbx1.out.below Hbel2.out).cells
             have Hown2 := Lib.hid (Hbx1.out.below Hbel2.out).own
             clear hbel hown hq)
          | (refine step_app2 rfl _ _ 36 rfl M 47 (.slice none 0 0) 1 24 Tryz.underlying36 info_slc rfl (by decide) ov l.length cs ?_ (Hown2.out.alloc _) ⟨w2.heap.size, 0, none⟩ 1 1 (w2.heap.size + 1) [.slice qa p.length qc] ?_ (row_one _ _ _ _ rfl (by omega)) ?_ ?_ ?_ ?_
             · go_simp
             · go_simp
             · unfold maxLen; omega
             · omega
             · have := Hbel2.out.size; simp; omega
             intro v' w3 hown' hgrow hwhere
             obtain ⟨va, vc, rfl, -⟩ := row_of_own hown' (by intro u hu; rcases List.mem_append.1 hu with h | h; exact Hbx1.out.rows.one u h; simp at h; subst h; rfl)
             have Hpu := Lib.hid (Hbx1.out.push hM1 Hbel2.out Hq.out hgrow hown' hwhere)
             have ho3 : w3.heap[ob]? = some (Obj.cells #[ov] 36 (0, 0)) := by
               rw [hgrow.block ob (by simp; omega) (fun e => Hbx1.out.notOwn (.inl Hbx1.out.lt.2.1) e.symm), Lib.alloc_old _ _ _ n2]
               exact (Hbx1.out.below Hbel2.out).o
             have q3 : w3.cell? ⟨ob, 0, none⟩ = some ov := by rw [Lib.cell_of_heap ho3]; rfl
             have q4 : w3.frozen? ⟨ob, 0, none⟩ = false := Lib.frozen_of_heap ho3 _
             have q5 : ob < w3.heap.size := (Array.getElem?_eq_some_iff.1 ho3).1
             clear hown' hgrow hwhere ho3))
        all_goals
          go_wp2_with fail
          go_meet
          case rel => exact ⟨_, _, _, by simp, Hpu.out.1, Hpu.out.2⟩
    case rest =>
      obtain ⟨l1, ov1, cs1, rfl, hbx, hgr⟩ := hcut
      have HG2 := Lib.hid (HG1.out.trans hgr)
      have HA2 := Lib.hid (show NodeAt wc W.heap.size _ _ _ _ by unfold NodeAt; rw [hgr.block _ hN1 (by have := Hbx1.out.lt.2.1; omega) hnN]; exact HA1.out)
      have Hrow2 := Lib.hid (Hrow1.out.stay (hgr.stay Hbx1.out.lt.2.1))
      have hB2 : Below B w1 wc := hgr.below hBo (by omega) (fun k hk => by have := (Hbx1.out.own.lt k hk).1; omega)
      have Hk2 := Lib.hid (Hk1.out.keep hB2 (Nat.le_refl _)); have Hc2 := Lib.hid (KidsC.keep hB2 (Nat.le_refl _) ks css Hc1.out)
      have hnN2 : ov1.ownBlock ≠ some W.heap.size := by
        rcases hgr.where_ with h | h
        · rw [h]; exact hnN
        · intro e; have := h _ e; omega
      have Hbx2 := Lib.hid hbx
      have hM2 : M ≤ wc.heap.size := Nat.le_trans hM1 hgr.size
      have hl2 : (l ++ if b = true then [p] else []).length + wtAll ks ≤ 1000000000 := by rw [List.length_append]; split <;> simp <;> omega
      obtain ⟨z0, z1, z2, z3, -, zl⟩ := HA2.out.facts
      generalize (l ++ if b = true then [p] else []) = l1 at HR hl2 Hbx2
      clear hbx hgr hB2 HG1 HA1 Hrow1 Hk1 Hc1 Hbx1 y1 y2 y3 y4 m1 m2 m3 hnN
      go_wp2_with fail
      go_loopg [20] ks.length (fun g i wr => ∃ (k : Nat) (l2 : List (List Int)) (ov2 : Value) (cs2 : List Value), i = .int .i64 k ∧ k + g = ks.length ∧ l2 ++ pathsK want (ks.drop k) k p = R ∧ l2.length + wtAll (ks.drop k) ≤ 1000000000 ∧ BoxesAt wr tb ob eb cb caps M l2 ov2 cs2 ∧ Grew ob ov1 ov2 wc wr)
      case atStart => exact ⟨0, l1, ov1, cs1, rfl, by omega, HR.out, hl2, Hbx2.out, Grew.refl _ _ _⟩
      case round =>
        obtain ⟨k, l2, ov2, cs2, rfl, hg, hke, hl3, hbx, hgr⟩ := hrel
        have Hke := Lib.hid hke
        have hB3 : Below B wc wr := hgr.below hBo (by omega) (fun k hk => by have := (Hbx2.out.own.lt k hk).1; omega)
        have hk3 := Hk2.out.keep hB3 (Nat.le_refl _); have hc3 := KidsC.keep hB3 (Nat.le_refl _) ks css Hc2.out
        have hM3 : M ≤ wr.heap.size := Nat.le_trans hM2 hgr.size
        have Hrow3 := Lib.hid (Hrow2.out.stay (hgr.stay Hbx2.out.lt.2.1))
        have HG3 := Lib.hid hgr; have Hbx3 := Lib.hid hbx
        clear hke hgr hB3
        by_cases hlt : k < ks.length
        · have hlti : (k : Int) < ks.length := by omega
          have hmem := Hw3.out _ (List.getElem_mem hlt)
          have hdr : wtAll (ks.drop k) = ks[k].wt + wtAll (ks.drop (k + 1)) := by
            conv => lhs; rw [List.drop_eq_getElem_cons hlt]
            simp only [wtAll]
          rw [hdr] at hl3
          have Hst : Hid ((l2 ++ pathsW want ks[k] (p ++ [(k : Int)])) ++ pathsK want (ks.drop (k + 1)) (k + 1) p = R) := by
            show _ = R
            rw [List.append_assoc, ← pathsK_step hlt]; exact Hke.out
          have hpwl := pathsW_len want ks[k] (p ++ [(k : Int)])
          obtain ⟨kb, ko, lk, a1, n1, c1, a2, n2, c2, a3, n3, c3, rfl, hkb, hkn, g0, g1, g2, g3⟩ := hk3.kid_at hc3 k hlt
          generalize ks[k] = q at hmem Hst hpwl hl3 hkn
          go_upto_region 6 with fail
          have hb2 := (Below.refl wr.heap.size wr).alloc (Nat.le_refl _) (Obj.cells #[.bool lk, .slice a1 n1 c1, .slice a2 n2 c2, .slice a3 n3 c3] 35)
          have hA2 := NodeAt.fresh wr (.bool lk) (.slice a1 n1 c1) (.slice a2 n2 c2) (.slice a3 n3 c3)
          obtain ⟨w2, hw2⟩ : ∃ w2, w2 = wr.alloc (Obj.cells #[.bool lk, .slice a1 n1 c1, .slice a2 n2 c2, .slice a3 n3 c3] 35) := ⟨_, rfl⟩
          rw [← hw2] at hb2 hA2 ⊢
          clear hw2
          have Hbx4 := Lib.hid (Hbx3.out.below hb2)
          have Hrow4 := Lib.hid (Hrow3.out.keep (w' := w2) (ok' := fun b => M ≤ b ∧ ov2.ownBlock ≠ some b) hb2.size (fun b _ hlt => hb2.block b hlt) (fun _ hb _ => hb))
          have Hkn := Lib.hid (NodeC.keep (hb2.mono (Nat.le_trans hBM hM3)) (Nat.le_refl _) _ _ hkn)
          have hM4 : M ≤ w2.heap.size := Nat.le_trans hM3 hb2.size
          have hle : p.length ≤ pc := Hrow3.out.le
          obtain ⟨x0, x1, x2, x3, -, xl⟩ := hA2.facts
          obtain ⟨y1, y2, y3, y4, m1, m2, m3⟩ := Hbx4.out.cells
          have Hb2 := Lib.hid hb2; have HA4 := Lib.hid hA2
          clear hb2 hA2 hkn hk3 hc3 g0 g1 g2 g3 Hrow3 Hw3 Hke hdr
          go_region_law (first
            | (refine step_grow rfl _ _ 47 rfl 3 (.int .i64 0) 1 8 Tryz.underlying47 info_int rfl (by decide) pa p.length w2.heap.size (p.map (Value.int .i64)) ?_ (Hrow4.out.row.full.keep ?_ (Nat.le_refl _)) ⟨w2.heap.size, 0, none⟩ 1 1 (w2.heap.size + 1) [.int .i64 k] ?_ ((row_one w2 _ _ _ rfl (by omega)).keep (Below.refl _ _).drew (Nat.le_refl _)) (by decide) ?_ ?_ ?_
               · go_simp
               · exact ((Below.refl _ _).alloc (Nat.le_refl _) _).drew
               · go_simp
               · unfold maxLen; omega
               · omega
               intro v' w3 hown hbel
               have hz : p.map (Value.int .i64) ++ [.int .i64 (k : Int)] = (p ++ [(k : Int)]).map (Value.int .i64) := by simp
               rw [hz] at hown
               obtain ⟨va, vc, rfl, hq⟩ := rowq_own hown (ints_one .i64 _)
               have hb3 : Below w2.heap.size w2 w3 := (((Below.refl _ _).alloc (Nat.le_refl _) _).drew).trans (hbel.mono (by simp))
               have hA3 := HA4.out.keep (hb3.mono (by omega))
               have hbx5 := Hbx4.out.below hb3
               have hq2 : RowQ w3 (fun b => M ≤ b ∧ ov2.ownBlock ≠ some b) 1 va (p ++ [(k : Int)]).length vc ((p ++ [(k : Int)]).map (Value.int .i64)) := by
                 have := hq.keep (ok' := fun b => M ≤ b ∧ ov2.ownBlock ≠ some b) (Nat.le_refl _) (fun _ _ _ => rfl) (fun b hb _ => by
                   have hb' : w2.heap.size + 1 ≤ b := by simpa using hb
                   exact ⟨by omega, Hbx4.out.notOwn (.inr (by omega))⟩)
                 simpa using this
               have HC := IH.out q (.agg #[.bool lk, .slice a1 n1 c1, .slice a2 n2 c2, .slice a3 n3 c3]) (p ++ [(k : Int)]) va vc l2 ov2 cs2 w3 hmem.1 hmem.2.1 (by omega) (by simp; omega) ⟨_, rfl, NodeC.keep (hb3.mono (by omega)) (Nat.le_refl _) _ _ Hkn.out⟩ (Nat.le_trans hM4 hb3.size) hbx5 hq2
               have HC2 := Lib.hid (show Calls Tryz.prog 89 (([.agg #[.bool lk, .slice a1 n1 c1, .slice a2 n2 c2, .slice a3 n3 c3], .slice va (p.length + 1) vc] : List Value).toArray ++ #[.pointer (some ⟨tb, 0, none⟩), .pointer (some ⟨ob, 0, none⟩), .pointer (some ⟨eb, 0, none⟩)]) w3 (PathsP tb ob eb cb caps M ov2 w3 (l2 ++ pathsW want q (p ++ [(k : Int)]))) by simpa using HC)
               have HG5 := Lib.hid ((HG3.out.then Hb2.out).then hb3)
               obtain ⟨t0, t1, t2, t3, -, tl⟩ := hA3.facts
               obtain ⟨r1, r2, r3, r4, s1, s2, s3⟩ := hbx5.cells
               clear hown hbel hz hq hb3 hA3 hbx5 hq2 HC)
            | (refine step_callv rfl 89 _ #[.pointer (some ⟨tb, 0, none⟩), .pointer (some ⟨ob, 0, none⟩), .pointer (some ⟨eb, 0, none⟩)] _ _ rfl ?_ paths1_ent [.agg #[.bool lk, .slice a1 n1 c1, .slice a2 n2 c2, .slice a3 n3 c3], .slice va (p.length + 1) vc] ?_ _ HC2.out ?_
               · go_simp
               · go_simp
               rintro e w4 ⟨rfl, ov3, cs3, hbx6, hgr6⟩
               refine ⟨_, rfl, ?_⟩
               have Hbx6 := Lib.hid hbx6
               have HG6 := Lib.hid (HG5.out.trans hgr6)
               clear hbx6 hgr6))
          all_goals
            go_wp2_with fail
            go_roundg (gk - 1)
            case measure => omega
            case rel => exact ⟨k + 1, _, ov3, cs3, by go_num, by omega, Hst.out, by rw [List.length_append]; omega, Hbx6.out, HG6.out⟩
        · obtain rfl : k = ks.length := by omega
          have HR2 : Hid (l2 = R) := by
            show l2 = R
            rw [← Hke.out, List.drop_length, pathsK, List.append_nil]
          clear Hke hk3 hc3
          go_wp2_with fail
          go_end0
          refine ⟨rfl, ov2, cs2, ?_, HG2.out.trans HG3.out⟩
          rw [← HR2.out]
          exact Hbx3.out
end

end Go.Proofs.YtajclfjedlkbcaaGreatDoor
/- Walks: tree's paths, Paths. -/
namespace Go.Proofs.YtajclfjedlkbcaaGreatDoor
open Go.RowKit Go.Redl
set_option linter.unusedVariables false

/-- A list of paths, made by the call. -/
def ListP (W : World) (L : List (List Int)) (e : Ending) (w' : World) : Prop :=
  ∃ a c cs, e = .returned (.slice a L.length c) ∧ RowQ w' (fun b => W.heap.size ≤ b) 1 a L.length c cs ∧ PathsQ w' (fun b => W.heap.size ≤ b) L cs ∧ Below W.heap.size W w'

/-- The same, its row its own. -/
def ListO (W : World) (L : List (List Int)) (e : Ending) (w' : World) : Prop :=
  ∃ v cs, e = .returned v ∧ w'.ownsRow W.heap.size 47 1 v L.length cs ∧ PathsQ w' (fun b => W.heap.size ≤ b ∧ v.ownBlock ≠ some b) L cs ∧ Below W.heap.size W w'
theorem ListO.p {W : World} {L : List (List Int)} {e : Ending} {w' : World} (h : ListO W L e w') : ListP W L e w' := by
  obtain ⟨v, cs, rfl, h1, h2, h3⟩ := h
  obtain ⟨a, c, rfl, hq⟩ := rowq_own h1 h2.one
  exact ⟨a, c, cs, rfl, hq, h2.keep (Nat.le_refl _) (fun _ _ _ => rfl) (fun b hb _ => hb.1), h3⟩
theorem own_from {w : World} {M M' e sz n : Nat} {v : Value} {cs : List Value} (h : w.ownsRow M e sz v n cs) (hM : M' ≤ M) : w.ownsRow M' e sz v n cs := by
  obtain ⟨hl, h2⟩ := h
  exact ⟨hl, h2.imp id fun ⟨g, cap, cur, hv, hb, hr⟩ => ⟨g, cap, cur, hv, by omega, hr⟩⟩

set_option maxRecDepth 100000 in
set_option maxHeartbeats 2000000 in
theorem pathsO_c {cb MX : Nat} {caps : Array Value} {want : NodeD → Bool} (hcb : ∀ args w, (callFunc cb args).run Tryz.prog w = .ok (.enter cb args) w) (n : NodeD) (v : Value) (W : World) (hA : WantC W.heap.size cb caps want MX) (hMX : n.wt ≤ MX) (hw : n.wt ≤ 100000000) (hv : NodeV W W.heap.size n v) :
    Calls Tryz.prog 41 #[v, .func (.func cb) #[] caps] W (ListO W (pathsW want n [])) := by
  have hv0 := hv
  obtain ⟨lf, ps, t, ks⟩ := n
  obtain ⟨ap, cp, at_, ct, ak, ck, css, rfl, -, -, -, -⟩ := hv0.open
  generalize NodeD.mk lf ps t ks = n at hv hMX hw ⊢
  obtain ⟨tb, htb⟩ : ∃ tb, tb = W.heap.size + 1 := ⟨_, rfl⟩
  obtain ⟨ob, hob⟩ : ∃ ob, ob = tb + 1 := ⟨_, rfl⟩
  obtain ⟨eb, heb⟩ : ∃ eb, eb = ob + 1 := ⟨_, rfl⟩
  obtain ⟨w0, hw0⟩ : ∃ w0, w0 = (((W.alloc (Obj.cells #[.bool lf, .slice ap ps.length cp, .slice at_ t.length ct, .slice ak ks.length ck] 35)).alloc (Obj.cells #[.func (.func cb) #[] caps] 84)).alloc (Obj.cells #[.slice none 0 0] 36)).alloc (Obj.cells #[.nilFunc] 122) := ⟨_, rfl⟩
  have hb0 : Below W.heap.size W w0 := by
    rw [hw0]
    exact ((((Below.refl _ _).alloc (Nat.le_refl _) _).alloc (by simp) _).alloc (by simp; omega) _).alloc (by simp; omega) _
  have hs0 : w0.heap.size = W.heap.size + 4 := by rw [hw0]; simp
  have h0 : NodeAt w0 W.heap.size (.bool lf) (.slice ap ps.length cp) (.slice at_ t.length ct) (.slice ak ks.length ck) := by
    rw [hw0]
    exact (((NodeAt.fresh W _ _ _ _).alloc _).alloc _).alloc _
  have ht : w0.heap[tb]? = some (Obj.cells #[.func (.func cb) #[] caps] 84 (0, 0)) := by
    rw [hw0, Lib.alloc_old _ _ _ (by simp; omega), Lib.alloc_old _ _ _ (by simp; omega), htb]
    simpa using heap_alloc_new (W.alloc (Obj.cells #[.bool lf, .slice ap ps.length cp, .slice at_ t.length ct, .slice ak ks.length ck] 35)) (Obj.cells #[.func (.func cb) #[] caps] 84)
  have ho : w0.heap[ob]? = some (Obj.cells #[.slice none 0 0] 36 (0, 0)) := by
    rw [hw0, Lib.alloc_old _ _ _ (by simp; omega), hob, htb]
    simpa using heap_alloc_new ((W.alloc (Obj.cells #[.bool lf, .slice ap ps.length cp, .slice at_ t.length ct, .slice ak ks.length ck] 35)).alloc (Obj.cells #[.func (.func cb) #[] caps] 84)) (Obj.cells #[.slice none 0 0] 36)
  have he : w0.heap[eb]? = some (Obj.cells #[.nilFunc] 122 (0, 0)) := by
    rw [hw0, heb, hob, htb]
    simpa using heap_alloc_new (((W.alloc (Obj.cells #[.bool lf, .slice ap ps.length cp, .slice at_ t.length ct, .slice ak ks.length ck] 35)).alloc (Obj.cells #[.func (.func cb) #[] caps] 84)).alloc (Obj.cells #[.slice none 0 0] 36)) (Obj.cells #[.nilFunc] 122)
  have c0 : w0.cell? ⟨eb, 0, none⟩ = some .nilFunc := by rw [cell_of_row _ _ _ _ _ _ he]; rfl
  have c1 : w0.frozen? ⟨eb, 0, none⟩ = false := Lib.frozen_of_heap he _
  obtain ⟨w1, hw1⟩ : ∃ w1, w1 = w0.setCell ⟨eb, 0, none⟩ (.func (.func 89) #[] #[.pointer (some ⟨tb, 0, none⟩), .pointer (some ⟨ob, 0, none⟩), .pointer (some ⟨eb, 0, none⟩)]) := ⟨_, rfl⟩
  have hs1 : w1.heap.size = W.heap.size + 4 := by rw [hw1, ← hs0]; simp [World.setCell]
  have hb1 : Below W.heap.size W w1 := by rw [hw1]; exact hb0.setCell (p := ⟨eb, 0, none⟩) (by show W.heap.size ≤ eb; omega) _
  have h1 : NodeAt w1 W.heap.size (.bool lf) (.slice ap ps.length cp) (.slice at_ t.length ct) (.slice ak ks.length ck) := by rw [hw1]; exact h0.set (by omega)
  have hbx : BoxesAt w1 tb ob eb cb caps (W.heap.size + 4) [] (.slice none 0 0) [] := by
    refine ⟨?_, ?_, ?_, World.ownsRow_nil _ _ _ _, rfl, by omega⟩
    · rw [hw1, Below.heap_setCell _ _ _ _ (by show tb ≠ eb; omega)]; exact ht
    · rw [hw1]; exact Lib.heap_setCell_same (i := 0) he _
    · rw [hw1, Below.heap_setCell _ _ _ _ (by show ob ≠ eb; omega)]; exact ho
  have HC := Lib.hid (paths1_c hcb hA (ob := ob) (M := W.heap.size + 4) (by omega) (by omega) n.wt n (.agg #[.bool lf, .slice ap ps.length cp, .slice at_ t.length ct, .slice ak ks.length ck]) [] none 0 [] (.slice none 0 0) [] w1 (Nat.le_refl _) hMX (by simp; omega) (by simp; omega) (hv.keep hb1 (Nat.le_refl _)) (by omega) hbx (RowQ.empty _ _ _))
  obtain ⟨x0, x1, x2, x3, -, xl⟩ := h1.facts
  obtain ⟨y1, y2, y3, y4, m1, m2, m3⟩ := hbx.cells
  have Hb0 := Lib.hid hb1
  have Hbx := Lib.hid hbx
  have hmf : ∀ (fn : Fn) (first cap : Array Value) (w : World), (Instr.makeFunc fn first cap).run Tryz.prog w = .ok (.func fn first cap) w := fun _ _ _ _ => rfl
  have hst := fun (W : World) (a : Addr) (fn : Fn) (first cap : Array Value) (m : Mode) => run_store Tryz.prog W a (.func fn first cap) m rfl
  clear hb0 h0 hb1 h1 hbx hv hv0 hA hMX hw ht ho he
  have H1 := Lib.hid htb; have H2 := Lib.hid hob; have H3 := Lib.hid heb; have H4 := Lib.hid hw0; have H5 := Lib.hid hw1
  have hlt : W.heap.size < tb ∧ tb < ob ∧ ob < eb := by omega
  have hcl : W.heap.size ≤ ob := by omega
  clear htb hob heb hw0 hw1 hs0
  go_enter Tryz.func41, Tryz.ntmps41
  go_upto_region 3 with fail
  rw [← H4.out, ← H1.out, ← H2.out, ← H3.out]
  clear H1 H2 H3 H4
  go_upto_region 4 with fail
  rw [← H5.out]
  clear H5 c0 c1
  go_wp2_with fail
  refine HC.out.mono ?_
  rintro e w1 ⟨rfl, ov, cs, hbx1, hgr⟩
  have Hown := Lib.hid hbx1.own; have Hrows := Lib.hid hbx1.rows
  obtain ⟨a, c, rfl, hq⟩ := rowq_own hbx1.own hbx1.rows.one
  have Hq := Lib.hid hq
  obtain ⟨z1, z2, z3, z4, n1, n2, n3⟩ := hbx1.cells
  have Hb1 := Lib.hid (Hb0.out.trans (hgr.below (B := W.heap.size) hcl (by omega) (by simp [Value.ownBlock])))
  clear hbx1 hgr hq HC x0 x1 x2 x3 y1 y2 y3 y4 Hbx hcb
  go_wp2_with fail
  go_ret
  simp only [List.nil_append] at Hown Hrows ⊢
  exact ⟨_, cs, rfl, own_from Hown.out (by omega), Hrows.out.keep (Nat.le_refl _) (fun _ _ _ => rfl) (fun b hb _ => ⟨by have := hb.1; omega, hb.2⟩), Hb1.out⟩
theorem paths_c {cb MX : Nat} {caps : Array Value} {want : NodeD → Bool} (hcb : ∀ args w, (callFunc cb args).run Tryz.prog w = .ok (.enter cb args) w) (n : NodeD) (v : Value) (W : World) (hA : WantC W.heap.size cb caps want MX) (hMX : n.wt ≤ MX) (hw : n.wt ≤ 100000000) (hv : NodeV W W.heap.size n v) :
    Calls Tryz.prog 41 #[v, .func (.func cb) #[] caps] W (ListP W (pathsW want n [])) := (pathsO_c hcb n v W hA hMX hw hv).mono fun _ _ h => h.p

theorem all1_ent : ∀ args w, (callFunc 42 args).run Tryz.prog w = .ok (.enter 42 args) w := by intro args w; kernel_rfl
set_option maxRecDepth 100000 in
theorem all_want (B M : Nat) : WantC B 42 #[] (fun _ => true) M := by
  intro n v W hM hv hB
  obtain ⟨lf, ps, t, ks⟩ := n
  obtain ⟨ap, cp, at_, ct, ak, ck, css, rfl, -, -, -, -⟩ := hv.open
  have hb0 := (Below.refl W.heap.size W).alloc (Nat.le_refl _) (Obj.cells #[.bool lf, .slice ap ps.length cp, .slice at_ t.length ct, .slice ak ks.length ck] 35)
  clear hv hM
  show Calls Tryz.prog 42 #[.agg #[.bool lf, .slice ap ps.length cp, .slice at_ t.length ct, .slice ak ks.length ck]] W _
  go_enter Tryz.func42, Tryz.ntmps42
  go_wp2_with fail
  go_ret
  exact ⟨rfl, hb0⟩

set_option maxRecDepth 100000 in
set_option maxHeartbeats 1000000 in
/-- All paths of a tree. -/
theorem allO_c (n : NodeD) (v : Value) (W : World) (hw : n.wt ≤ 100000000) (hv : NodeV W W.heap.size n v) :
    Calls Tryz.prog 20 #[v] W (ListO W (pathsW (fun _ => true) n [])) := by
  have hv0 := hv
  obtain ⟨lf, ps, t, ks⟩ := n
  obtain ⟨ap, cp, at_, ct, ak, ck, css, rfl, -, -, -, -⟩ := hv0.open
  generalize NodeD.mk lf ps t ks = n at hv hw ⊢
  have hb0 := (Below.refl W.heap.size W).alloc (Nat.le_refl _) (Obj.cells #[.bool lf, .slice ap ps.length cp, .slice at_ t.length ct, .slice ak ks.length ck] 35)
  have HC := Lib.hid (pathsO_c all1_ent n _ _ (all_want _ n.wt) (Nat.le_refl _) hw (hv.keep hb0 hb0.size))
  have Hb0 := Lib.hid hb0
  clear hb0 hv hv0 hw
  go_enter Tryz.func20, Tryz.ntmps20
  go_wp2_with fail
  refine HC.out.mono ?_
  rintro e w1 ⟨u, cs, rfl, hq, hp, hb⟩
  have Hq := Lib.hid hq; have Hp := Lib.hid hp; have Hb := Lib.hid (Hb0.out.trans (hb.mono Hb0.out.size))
  have hs := Hb0.out.size
  obtain ⟨a, c, hu, -⟩ := rowq_own hq hp.one
  subst hu
  clear hq hp hb HC
  go_wp2_with fail
  go_ret
  exact ⟨_, cs, rfl, own_from Hq.out hs, Hp.out.keep (Nat.le_refl _) (fun _ _ _ => rfl) (fun b hb _ => ⟨Nat.le_trans hs hb.1, hb.2⟩), Hb.out⟩
theorem all_c (n : NodeD) (v : Value) (W : World) (hw : n.wt ≤ 100000000) (hv : NodeV W W.heap.size n v) :
    Calls Tryz.prog 20 #[v] W (ListP W (pathsW (fun _ => true) n [])) := (allO_c n v W hw hv).mono fun _ _ h => h.p

end Go.Proofs.YtajclfjedlkbcaaGreatDoor
/- Walks: dirty's elements; rows of paths that are read, and copied; a path put behind a row. -/
namespace Go.Proofs.YtajclfjedlkbcaaGreatDoor
open Go.RowKit Go.Redl
set_option linter.unusedVariables false

theorem pxs_filter (xs : List PX) (f : List Int → Bool) : pxs (xs.filter fun x => !!f x.1) = (pxs xs).filter f := by
  simp only [Bool.not_not]
  rw [List.filter_map]
  rfl
theorem elements_ent : ∀ args w, (callFunc 38 args).run Tryz.prog w = .ok (.enter 38 args) w := by intro args w; kernel_rfl
set_option maxRecDepth 100000 in
set_option maxHeartbeats 1000000 in
theorem elements_c (n : NodeD) (v : Value) (B M L : Nat) (vx : Value) (xs : List PX) (W : World) (hbig : n.wt ≤ 100000000) (hv : NodeV W B n v) (hB : B ≤ W.heap.size) (hBM : B ≤ M) (hx : RowX W M L vx xs) (hn : xs.length ≤ 100000000) :
    Calls Tryz.prog 38 #[v, vx] W (InP W M L vx xs (setL ((pxs xs).filter (isElem n)))) := by
  have hv0 := hv
  obtain ⟨lf, ps, t, ks⟩ := n
  obtain ⟨ap, cp, at_, ct, ak, ck, css, rfl, -, -, -, -⟩ := hv0.open
  generalize NodeD.mk lf ps t ks = n at hv hbig ⊢
  obtain ⟨w0, hw0⟩ : ∃ w0, w0 = W.alloc (Obj.cells #[.bool lf, .slice ap ps.length cp, .slice at_ t.length ct, .slice ak ks.length ck] 35) := ⟨_, rfl⟩
  have hb0 : Below W.heap.size W w0 := by rw [hw0]; exact one_below _ _
  have hA : At w0 W.heap.size [.bool lf, .slice ap ps.length cp, .slice at_ t.length ct, .slice ak ks.length ck] 35 := by rw [hw0]; exact At.fresh W _ _
  have hx0 := hx.below hb0
  have HD := Lib.hid (delx_c 85 #[.pointer (some ⟨W.heap.size, 0, none⟩)] (fun x => !isElem n x.1) M L vx xs w0 elem1_ent hx0 hn fun x hx' W' hg => by
    obtain ⟨x0, xa, xc⟩ := x
    have hne : some W.heap.size ≠ vx.ownBlock := fun e => by have := (hx.own.lt _ e.symm).2; omega
    have hA' : At W' W.heap.size [.bool lf, .slice ap ps.length cp, .slice at_ t.length ct, .slice ak ks.length ck] 35 := by
      unfold At; rw [hg.block _ hA.lt hne]; exact hA
    have hb' : Below B w0 W' := hg.old (Nat.le_trans hB hb0.size) fun k hk => Nat.le_trans hBM (hx0.ge k hk)
    have hb2 : Below B W W' := (hb0.mono hB).trans hb'
    exact elem1_c n _ _ _ _ W.heap.size x0 xa xc W' hbig (hv.keep hb2 (Nat.le_trans hB hb2.size)) hA' (PxQ.own (hx0.all _ hx') hg).row)
  have HS := Lib.hid (fun (w1 : World) (v' : Value) (hz : RowX w1 M L v' (xs.filter fun x => !(fun x : PX => !isElem n x.1) x)) => set_c M L v' _ w1 hz (Nat.le_trans (List.length_filter_le _ _) hn))
  obtain ⟨fs, hfs⟩ : ∃ fs, fs = xs.filter fun x => !(fun x : PX => !isElem n x.1) x := ⟨_, rfl⟩
  rw [← hfs] at HD HS
  have Hfs := Lib.hid hfs
  have hmf : ∀ (fn : Fn) (first cap : Array Value) (w : World), (Instr.makeFunc fn first cap).run Tryz.prog w = .ok (.func fn first cap) w := fun _ _ _ _ => rfl
  have Hb0 := Lib.hid hb0; have Hw0 := Lib.hid hw0
  obtain ⟨a, c, hvx⟩ := hx.form
  subst hvx
  clear hv hv0 hbig hb0 hw0 hA hx hx0 hB hBM hfs
  go_enter Tryz.func38, Tryz.ntmps38
  go_upto_region 1 with fail
  rw [← Hw0.out]
  clear Hw0
  go_wp2_with fail
  refine HD.out.mono ?_
  rintro e w1 ⟨v', rfl, hz, hk, hg⟩
  have HS1 := Lib.hid (HS.out w1 v' hz)
  obtain ⟨a', c', hv'⟩ := hz.form
  subst hv'
  have Hk := Lib.hid hk; have Hg := Lib.hid hg
  clear HD HS hz hk hg
  go_wp2_with fail
  refine HS1.out.mono ?_
  rintro e w2 ⟨v2, ys, rfl, hy, hp, hm, hk, hg⟩
  obtain ⟨a2, c2, hv2⟩ := hy.form
  subst hv2
  have Hy := Lib.hid hy; have Hp := Lib.hid hp; have Hm := Lib.hid hm; have Hk2 := Lib.hid hk; have Hg2 := Lib.hid hg
  clear HS1 hy hp hm hk hg
  go_wp2_with fail
  go_ret
  refine ⟨_, ys, rfl, Hy.out, ?_, fun x hx => (List.mem_filter.1 (Hfs.out ▸ Hm.out x hx)).1, fun k hk => Hk.out k (Hk2.out k hk), ?_⟩
  · rw [Hp.out, Hfs.out, pxs_filter]
  · refine (grown_of_below Hb0.out).trans (Hg.out.trans ?_)
    refine ⟨Hg2.out.os, Hg2.out.tape, Hg2.out.output, Hg2.out.size, fun k hk hne => Hg2.out.block k hk fun e => hne ?_⟩
    rw [Hk.out k e.symm]

end Go.Proofs.YtajclfjedlkbcaaGreatDoor
/- Walks: xpath's small, Move at no operation; dirty's marks at none. -/
namespace Go.Proofs.YtajclfjedlkbcaaGreatDoor
open Go.RowKit Go.Redl
set_option linter.unusedVariables false
set_option linter.unusedSimpArgs false

def bigB (z : Int) : Bool := decide (z < 0) || decide (1048576 < z)
/-- All numbers are 0 to the greatest one. -/
def smallB1 (l : List Int) : Bool := l.all fun z => !bigB z
set_option maxRecDepth 100000 in
set_option maxHeartbeats 1000000 in
theorem idx_int (n : Nat) (a : Option Addr) (cap cb : Nat) (caps : Array Value) (pred : Nat → Bool) (W : World) (hn : n ≤ 100000000) (hcb : ∀ args w, (callFunc cb args).run Tryz.prog w = .ok (.enter cb args) w)
    (H : ∀ (k : Nat) (W' : World), k < n → Below W.heap.size W W' → ∃ b off c0, a = some ⟨b, off, none⟩ ∧ W'.cell? ⟨b, off + k, none⟩ = some c0 ∧ Calls Tryz.prog cb (#[c0] ++ caps) W' fun e w' => e = .returned (.bool (pred k)) ∧ Below W'.heap.size W' w') :
    Calls Tryz.prog 135 #[.slice a n cap, .func (.func cb) #[] caps] W fun e w' => e = .returned (.int .i64 (idxP pred n)) ∧ Below W.heap.size W w' := by
  have HH := Lib.hid H
  clear H
  go_enter Tryz.func135, Tryz.ntmps135
  go_wp2_with fail
  go_loopg [8] n (fun g i wr => ∃ k : Nat, k + g = n ∧ i = .int .i64 k ∧ (∀ j, j < k → pred j = false) ∧ Below W.heap.size W wr)
  case atStart => exact ⟨0, by omega, rfl, by intro j hj; omega, Below.refl _ _⟩
  case round =>
    obtain ⟨k, hg, rfl, hb, hbr⟩ := hrel
    have Hbr := Lib.hid hbr; have Hb := Lib.hid hb
    by_cases hlt : k < n
    · obtain ⟨b, off, c0, rfl, h0, hC⟩ := HH.out k wr hlt hbr
      have hlti : (k : Int) < n := by omega
      clear hb hbr HH
      cases hp : pred k with
      | true =>
        rw [hp] at hC
        have HC := Lib.hid hC
        have Hr := Lib.hid (idxP_some hlt hp Hb.out)
        clear hC hp
        go_wp2_with fail
        refine HC.out.mono ?_
        rintro e w1 ⟨rfl, hbel⟩
        have Hb1 := Lib.hid (Hbr.out.trans (hbel.mono Hbr.out.size))
        clear hbel HC
        go_wp2_with fail
        go_ret
        exact ⟨ret_int Hr.out.symm, Hb1.out⟩
      | false =>
        rw [hp] at hC
        have HC := Lib.hid hC
        have Hr := Lib.hid (show ∀ j, j < k + 1 → pred j = false from fun j hj => by
          rcases Nat.lt_or_ge j k with h | h
          · exact Hb.out j h
          · obtain rfl : j = k := by omega
            exact hp)
        clear hC hp
        go_wp2_with fail
        refine HC.out.mono ?_
        rintro e w1 ⟨rfl, hbel⟩
        have Hb1 := Lib.hid (Hbr.out.trans (hbel.mono Hbr.out.size))
        clear hbel HC
        go_wp2_with fail
        go_roundg (gk - 1)
        case measure => omega
        case rel => exact ⟨k + 1, by omega, by go_num, Hr.out, Hb1.out⟩
    · obtain rfl : k = n := by omega
      have Hr := Lib.hid (idxP_none hb)
      clear hb hbr HH
      go_wp2_with fail
      go_ret
      exact ⟨ret_int Hr.out.symm, Hbr.out⟩

theorem small1_ent : ∀ args w, (callFunc 114 args).run Tryz.prog w = .ok (.enter 114 args) w := by intro args w; kernel_rfl
set_option maxRecDepth 100000 in
theorem small1_c (z : Int) (W : World) : Calls Tryz.prog 114 #[.int .i64 z] W fun e w' => e = .returned (.bool (bigB z)) ∧ Below W.heap.size W w' := by
  unfold bigB
  by_cases h : z < 0
  · have H := Lib.hid h
    go_enter Tryz.func114, Tryz.ntmps114
    go_wp2_with fail
    go_ret
    exact ⟨ret_bool (by simp [H.out]), Below.refl _ _⟩
  · have H := Lib.hid h
    have hd : decide (z < 0) = false := decide_eq_false h
    go_enter Tryz.func114, Tryz.ntmps114
    go_wp2_with fail
    go_ret
    exact ⟨ret_bool (by simp [H.out]), Below.refl _ _⟩
theorem cfint_ent : ∀ args w, (callFunc 113 args).run Tryz.prog w = .ok (.enter 113 args) w := by intro args w; kernel_rfl
theorem small_ent : ∀ args w, (callFunc 80 args).run Tryz.prog w = .ok (.enter 80 args) w := by intro args w; kernel_rfl
theorem smallB1_idx (l : List Int) : decide (0 ≤ idxP (fun k => bigB (l.getD k 0)) l.length) = !smallB1 l := by
  unfold smallB1
  rcases idxP_cases (fun k => bigB (l.getD k 0)) l.length with ⟨k, hk, h1, -, he⟩ | ⟨h1, he⟩
  · rw [he]
    have : l.all (fun z => !bigB z) = false := by
      rw [List.all_eq_false]
      refine ⟨l[k], List.getElem_mem hk, ?_⟩
      rw [getD_of_lt hk] at h1
      simp [h1]
    rw [this]; simp
  · rw [he]
    have : l.all (fun z => !bigB z) = true := by
      rw [List.all_eq_true]
      intro z hz
      obtain ⟨k, hk, rfl⟩ := List.mem_iff_getElem.1 hz
      have := h1 k hk
      rw [getD_of_lt hk] at this
      simp [this]
    rw [this]; rfl
set_option maxRecDepth 100000 in
theorem cfint_c (xs : List Int) (a : Option Addr) (cap B : Nat) (W : World) (hr : RowA W B 1 a xs.length cap (xs.map (Value.int .i64))) (hB : B ≤ W.heap.size) (hn : xs.length ≤ 100000000) :
    Calls Tryz.prog 113 #[.slice a xs.length cap, .func (.func 114) #[] #[]] W fun e w' => e = .returned (.bool (!smallB1 xs)) ∧ Below W.heap.size W w' := by
  have HI := Lib.hid (idx_int xs.length a cap 114 #[] (fun k => bigB (xs.getD k 0)) W hn small1_ent fun k W' hk hb => by
    obtain ⟨b, off, rfl, hlt, hc⟩ := hr.int_at k hk
    exact ⟨b, off, .int .i64 (xs.getD k 0), rfl, (hb.cell (by exact Nat.lt_of_lt_of_le hlt hB)).trans (hc k hk), small1_c _ W'⟩)
  have Hd := Lib.hid (smallB1_idx xs)
  generalize idxP (fun k => bigB (xs.getD k 0)) xs.length = z at HI Hd
  clear hr
  go_enter Tryz.func113, Tryz.ntmps113
  go_wp2_with fail
  refine HI.out.mono ?_
  rintro e w1 ⟨rfl, hbel⟩
  have Hb := Lib.hid hbel
  clear hbel HI
  go_wp2_with fail
  go_ret
  exact ⟨ret_bool Hd.out, Hb.out⟩
set_option maxRecDepth 100000 in
theorem small_c (xs : List Int) (a : Option Addr) (cap B : Nat) (W : World) (hr : RowA W B 1 a xs.length cap (xs.map (Value.int .i64))) (hB : B ≤ W.heap.size) (hn : xs.length ≤ 100000000) :
    Calls Tryz.prog 80 #[.slice a xs.length cap] W fun e w' => e = .returned (.bool (smallB1 xs)) ∧ Below W.heap.size W w' := by
  have HI := Lib.hid (cfint_c xs a cap B W hr hB hn)
  clear hr
  generalize smallB1 xs = z at HI ⊢
  go_enter Tryz.func80, Tryz.ntmps80
  go_wp2_with fail
  refine HI.out.mono ?_
  rintro e w1 ⟨rfl, hbel⟩
  have Hb := Lib.hid hbel
  clear hbel HI
  go_wp2_with fail
  go_ret
  exact ⟨ret_bool (by simp), Hb.out⟩
theorem stands_ent : ∀ args w, (callFunc 81 args).run Tryz.prog w = .ok (.enter 81 args) w := by intro args w; kernel_rfl
set_option maxRecDepth 100000 in
theorem stands0_c (v : Value) (W : World) : Calls Tryz.prog 81 #[.slice none 0 0, v] W fun e w' => e = .returned (.int .i64 0) ∧ w' = W := by
  go_enter Tryz.func81, Tryz.ntmps81
  go_wp2_with fail
  go_ret
  exact ⟨rfl, rfl⟩

theorem move_ent : ∀ args w, (callFunc 37 args).run Tryz.prog w = .ok (.enter 37 args) w := by intro args w; kernel_rfl
/-- Where a path goes when nothing is done. -/
def MoveP (W : World) (p : List Int) (e : Ending) (w' : World) : Prop :=
  Below W.heap.size W w' ∧ if smallB1 p then ∃ v, e = .returned (.tuple #[v, .bool true]) ∧ w'.ownsRow W.heap.size 3 1 v p.length (p.map (Value.int .i64)) else e = .returned (.tuple #[.slice none 0 0, .bool false])
set_option maxRecDepth 100000 in
set_option maxHeartbeats 1000000 in
theorem move0_c (xs : List Int) (a : Option Addr) (cap B : Nat) (W : World) (hr : RowA W B 1 a xs.length cap (xs.map (Value.int .i64))) (hB : B ≤ W.heap.size) (hn : xs.length ≤ 100000000) :
    Calls Tryz.prog 37 #[.slice a xs.length cap, .agg #[.int .i64 0, .slice none 0 0, .slice none 0 0, .int .i64 0, .bool false, .slice none 0 0, .slice none 0 0, .slice none 0 0, .slice none 0 0, .slice none 0 0, .slice none 0 0, .bool false, .slice none 0 0, .int .i64 0, .slice none 0 0, .int .i64 0, .bool false, .slice none 0 0, .int .i64 0, .slice none 0 0, .int .i64 0]] W (MoveP W xs) := by
  obtain ⟨w0, hw0⟩ : ∃ w0, w0 = W.alloc (Obj.cells #[.int .i64 0, .slice none 0 0, .slice none 0 0, .int .i64 0, .bool false, .slice none 0 0, .slice none 0 0, .slice none 0 0, .slice none 0 0, .slice none 0 0, .slice none 0 0, .bool false, .slice none 0 0, .int .i64 0, .slice none 0 0, .int .i64 0, .bool false, .slice none 0 0, .int .i64 0, .slice none 0 0, .int .i64 0] 59) := ⟨_, rfl⟩
  have hb0 : Below W.heap.size W w0 := by rw [hw0]; exact one_below _ _
  have hA : At w0 W.heap.size [.int .i64 0, .slice none 0 0, .slice none 0 0, .int .i64 0, .bool false, .slice none 0 0, .slice none 0 0, .slice none 0 0, .slice none 0 0, .slice none 0 0, .slice none 0 0, .bool false, .slice none 0 0, .int .i64 0, .slice none 0 0, .int .i64 0, .bool false, .slice none 0 0, .int .i64 0, .slice none 0 0, .int .i64 0] 59 := by rw [hw0]; exact At.fresh W _ _
  have HS := Lib.hid (small_c xs a cap B w0 (hr.keep (hb0.mono hB) (Nat.le_refl _)) (Nat.le_trans hB hb0.size) hn)
  have HN := Lib.hid (fun (w1 : World) => small_c [] none 0 0 w1 (RowA.empty _ _ _) (Nat.zero_le _) (by simp))
  have HZ := Lib.hid (fun (w1 : World) (p : Option Addr) (hp : RowA w1 w1.heap.size 1 p 1 1 [.int .i64 0]) => small_c [0] p 1 w1.heap.size w1 hp (Nat.le_refl _) (by simp))
  have HT := Lib.hid (fun (w1 : World) => stands0_c (.slice a xs.length cap) w1)
  have HC := Lib.hid (fun (w1 : World) (hb : Below w0.heap.size w0 w1) => clone_int B xs.length a cap (xs.map (Value.int .i64)) w1 (hr.keep ((hb0.trans (hb.mono hb0.size)).mono hB) (Nat.le_refl _)) (Nat.le_trans hB (hb0.trans (hb.mono hb0.size)).size) hn)
  have e0 : smallB1 [] = true := rfl
  have e1 : smallB1 [0] = true := by decide
  rw [e0] at HN; rw [e1] at HZ
  have HA := Lib.hid hA; have Hb0 := Lib.hid hb0; have Hw0 := Lib.hid hw0
  unfold MoveP
  cases hsm : smallB1 xs with
  | false =>
    rw [hsm] at HS
    clear hr hb0 hA hw0 hsm e0 e1
    go_enter Tryz.func37, Tryz.ntmps37
    go_upto_region 1 with fail
    rw [← Hw0.out]
    clear Hw0
    go_wp2_with fail
    refine HS.out.mono ?_
    rintro e w1 ⟨rfl, hbel⟩
    have Hb1 := Lib.hid (Hb0.out.trans (hbel.mono Hb0.out.size))
    clear hbel HS HN HZ HT HC HA
    go_wp2_with fail
    go_ret2
    exact ⟨Hb1.out, rfl⟩
  | true =>
    rw [hsm] at HS
    have c0 := hA.cell 0 rfl; have c1 := hA.cell 1 rfl; have c2 := hA.cell 2 rfl; have c3 := hA.cell 3 rfl
    have cl := hA.lt
    clear hr hb0 hA hw0 hsm e0 e1
    go_enter Tryz.func37, Tryz.ntmps37
    go_upto_region 1 with fail
    rw [← Hw0.out]
    clear Hw0
    go_wp2_with fail
    refine HS.out.mono ?_
    rintro e w1 ⟨rfl, hbel⟩
    have hA1 := HA.out.kept hbel
    have d1 := hA1.cell 1 rfl; have dl := hA1.lt
    have Hb1 := Lib.hid hbel
    clear hbel HS hA1 c0 c1 c2 c3 cl
    go_wp2_with fail
    refine (HN.out w1).mono ?_
    rintro e w2 ⟨rfl, hbel⟩
    have Hb2 := Lib.hid (below_and Hb1.out hbel)
    have hA2 := HA.out.kept Hb2.out
    have f2 := hA2.cell 2 rfl; have fl := hA2.lt
    clear hbel hA2 d1 dl
    go_wp2_with fail
    refine (HN.out w2).mono ?_
    rintro e w3 ⟨rfl, hbel⟩
    have Hb3 := Lib.hid (below_and Hb2.out hbel)
    have hA3 := HA.out.kept Hb3.out
    have g3 := hA3.cell 3 rfl; have gl := hA3.lt
    clear hbel hA3 f2 fl HN
    go_wp2_with fail
    refine (HZ.out _ _ (row_one w3 (.int .i64 0) 3 _ rfl (by simp))).mono ?_
    rintro e w4 ⟨rfl, hbel⟩
    have Hb4 := Lib.hid (below_and (Hb3.out.trans ((one_below w3 (Obj.cells #[Value.int .i64 0] 3)).mono Hb3.out.size)) hbel)
    have hA4 := HA.out.kept Hb4.out
    have k1 := hA4.cell 1 rfl; have kl := hA4.lt
    clear hbel hA4 g3 gl HZ
    go_wp2_with fail
    refine (HT.out w4).mono ?_
    rintro e w5 ⟨rfl, rfl⟩
    clear HT k1 kl
    go_wp2_with fail
    refine (HC.out w5 Hb4.out).mono ?_
    rintro e w6 ⟨v, rfl, hown, hbel⟩
    obtain ⟨va, vc, hv, -⟩ := rowq_own hown (ints_one .i64 xs)
    subst hv
    have Hown := Lib.hid hown; have Hb6 := Lib.hid (Hb0.out.trans ((below_and Hb4.out hbel).mono Hb0.out.size))
    have Hs4 := Lib.hid (Hb0.out.trans (Hb4.out.mono Hb0.out.size)).size
    clear hown hbel HC
    go_wp2_with fail
    go_ret2
    exact ⟨Hb6.out, _, rfl, own_from Hown.out Hs4.out⟩

end Go.Proofs.YtajclfjedlkbcaaGreatDoor
/- Plain words: rows of paths that are read; a path put behind a row. Walks: dirty's marks, Step at no operation. -/
namespace Go.Proofs.YtajclfjedlkbcaaGreatDoor
open Go.RowKit Go.Redl
set_option linter.unusedVariables false
set_option linter.unusedSimpArgs false

/-- A row of paths that is read. -/
structure ReadX (W : World) (B : Nat) (v : Value) (xs : List PX) : Prop where
  row : ∃ a c, v = .slice a xs.length c ∧ RowA W B 1 a xs.length c (xs.map pxV)
  all : ∀ x ∈ xs, RowA W B 1 x.2.1 x.1.length x.2.2 (x.1.map (Value.int .i64))
theorem ReadX.keep {w w' : World} {B B' : Nat} {v : Value} {xs : List PX} (h : ReadX w B v xs) (hb : Below B w w') (hB : B ≤ B') : ReadX w' B' v xs := by
  obtain ⟨⟨a, c, h1, h2⟩, h3⟩ := h
  exact ⟨⟨a, c, h1, h2.keep hb hB⟩, fun x hx => (h3 x hx).keep hb hB⟩
theorem pxV_ones (xs : List PX) : ∀ u ∈ xs.map pxV, u.oneCell' = true := by
  intro u hu; obtain ⟨x, -, rfl⟩ := List.mem_map.1 hu; rfl
theorem RowX.read {w : World} {M L : Nat} {v : Value} {xs : List PX} (h : RowX w M L v xs) : ReadX w w.heap.size v xs := by
  obtain ⟨a, c, hv, hr⟩ := row_of_own h.own (pxV_ones xs)
  exact ⟨⟨a, c, hv, hr⟩, fun x hx => (h.all x hx).row⟩
theorem ReadX.at_ {w : World} {B : Nat} {a : Option Addr} {n c : Nat} {xs : List PX} (h : ReadX w B (.slice a n c) xs) (k : Nat) (hk : k < xs.length) :
    ∃ b off, a = some ⟨b, off, none⟩ ∧ b < B ∧ w.cell? ⟨b, off + k, none⟩ = some (pxV xs[k]) := by
  obtain ⟨⟨a', c', hv, hr⟩, -⟩ := h
  injection hv with e1 e2 e3; subst e1
  obtain ⟨b, off, ha, hb, hc⟩ := hr.some_ (by intro e; simp at e; subst e; simp at hk)
  exact ⟨b, off, ha, hb, hc k _ (by simp [List.getElem?_eq_getElem hk])⟩

/-- One more path put in. -/
theorem RowX.push {M L : Nat} {w0 w' : World} {v v' : Value} {xs : List PX} {y : PX} {ob : Obj} (h : RowX w0 M L v xs) (hy : PxQ w0 (fun b => L ≤ b ∧ v.ownBlock ≠ some b) y)
    (hg : (w0.alloc ob).grownBy w' v.ownBlock) (hown : w'.ownsRow M 47 1 v' (xs.length + 1) (xs.map pxV ++ [pxV y])) (hw : v'.ownBlock = v.ownBlock ∨ ∀ k, v'.ownBlock = some k → (w0.alloc ob).heap.size ≤ k) : RowX w' M L v' (xs ++ [y]) := by
  have hs := hg.size
  have hall : ∀ x ∈ xs ++ [y], PxQ w0 (fun b => L ≤ b ∧ v.ownBlock ≠ some b) x := fun x hx => by
    rcases List.mem_append.1 hx with hx | hx
    · exact h.all x hx
    · rw [List.mem_singleton.1 hx]; exact hy
  refine ⟨by rw [List.length_append, List.map_append]; exact hown, fun x hx => (hall x hx).keep (by simp at hs; omega) (fun b hb hlt => ?_) fun b hb hlt => ⟨hb.1, ?_⟩⟩
  · rw [hg.block b (by simp; omega) (fun e => hb.2 e.symm), Lib.alloc_old _ _ _ hlt]
  · rcases hw with e | e
    · rw [e]; exact hb.2
    · intro e2; have := e b e2; simp at this; omega
theorem wpList_pushx {P : Program} {ops : Array Oper} {rest : List Oper} {o : Oper} {a : Act} {w0 : World} {Q : Exit → Act → World → Prop} {ob : Obj}
    (hg : o.guard = none) (s x : Operand) (ho : o.op = .call { callee := .builtin .append, args := #[s, x], argTypes := #[36, 36] })
    (ht : P.underlying 36 = some (.slice 47)) (hi : (P.info? 47).map (fun i => (i.zero, i.size, i.bytes)) = some (some (.slice none 0 0), 1, 24))
    (M L : Nat) (v : Value) (xs : List PX) (hs : a.eval s = v) (hO : RowX w0 M L v xs) (y : PX) (hob : ob = .cells #[pxV y] 47) (hx : a.eval x = .slice (some ⟨w0.heap.size, 0, none⟩) 1 1)
    (hq : PxQ w0 (fun b => L ≤ b ∧ v.ownBlock ≠ some b) y) (hn : xs.length ≤ 100000000) (hM : M ≤ w0.heap.size)
    (h : ∀ v' w', RowX w' M L v' (xs ++ [y]) → Below M w0 w' → wpList P ops Q rest (a.put o.dst v') w') : wpList P ops Q (o :: rest) a (w0.alloc ob) := by
  subst hob
  refine wpList_app2 hg s x 36 ho M 47 (.slice none 0 0) 1 24 ht hi rfl (by decide) v xs.length (xs.map pxV) hs (own_keep hO.own (one_below _ _)) ⟨w0.heap.size, 0, none⟩ 1 1 (w0.heap.size + 1) [pxV y] hx (row_one w0 (pxV y) 47 _ rfl (by omega)) (by unfold maxLen; omega) (by omega) (by simp; omega) fun v' w' hown hgrow hwh => ?_
  exact h v' w' (RowX.push hO hq hgrow hown hwh) (((Below.refl M w0).alloc hM _).grown hgrow (by simp; omega) (fun k hk => hO.ge k hk))

set_option maxRecDepth 100000 in
set_option maxHeartbeats 400000 in
theorem clone_path (B n : Nat) (a : Option Addr) (cap : Nat) (cs : List Value) (w : World) (hr : RowA w B 1 a n cap cs) (hB : B ≤ w.heap.size) (hn : n ≤ 100000000) :
    Calls Tryz.prog 33 #[.slice a n cap] w (MadeRow w 47 1 n cs) := by
  have hel := fun (w : World) => Lib.run_eql_slice_nil w (P := Tryz.prog) 36 47 a n cap 0 0 Tryz.underlying36
  cases ha : a with
  | none =>
    subst ha
    obtain rfl := hr.nil rfl
    obtain rfl : n = 0 := by have := hr.le; omega
    have hcs : cs = [] := List.eq_nil_of_length_eq_zero (by simpa using hr.len)
    subst hcs
    go_enter Tryz.func33, Tryz.ntmps33
    go_wp2_with fail
    go_ret
    exact ⟨_, rfl, World.ownsRow_nil _ _ _ _, Below.refl _ _⟩
  | some ad =>
    subst ha
    go_enter Tryz.func33, Tryz.ntmps33
    go_wp2_with (at_builtin; refine wpList_app rfl _ _ 36 rfl w.heap.size 47 (.slice none 0 0) 1 24 Tryz.underlying36 info_slc rfl (by decide) _ 0 [] rfl ?hown _ n cap B cs rfl ?hr ?h63 ?hb ?hbase ?_)
    case hown => exact World.ownsRow_lit w #[] 0 (Nat.le_refl _) (Nat.zero_le _) rfl
    case hr => exact hr.keep ((Below.refl _ _).alloc hB _) (Nat.le_refl _)
    case h63 => unfold maxLen; omega
    case hb => omega
    case hbase => simp
    intro v' w1 hown hgrow
    have Ho := Lib.hid hown; have Hg := Lib.hid hgrow; clear hown hgrow hel hr
    go_wp2_with fail
    go_ret
    refine ⟨v', rfl, by simpa using Ho.out, ((Below.refl _ _).alloc (Nat.le_refl _) _).grown Hg.out (by simp) ?_⟩
    simp [Value.ownBlock]

theorem clp_path_ent : ∀ args w, (callFunc 33 args).run Tryz.prog w = .ok (.enter 33 args) w := by intro args w; kernel_rfl

theorem marks_ent : ∀ args w, (callFunc 36 args).run Tryz.prog w = .ok (.enter 36 args) w := by intro args w; kernel_rfl
set_option maxRecDepth 100000 in
set_option maxHeartbeats 1000000 in
theorem marks0_c (c0 c1 c2 c3 : Value) (W : World) : Calls Tryz.prog 36 #[.agg #[c0, c1, c2, c3], .agg #[.int .i64 0, .slice none 0 0, .slice none 0 0, .int .i64 0, .bool false, .slice none 0 0, .slice none 0 0, .slice none 0 0, .slice none 0 0, .slice none 0 0, .slice none 0 0, .bool false, .slice none 0 0, .int .i64 0, .slice none 0 0, .int .i64 0, .bool false, .slice none 0 0, .int .i64 0, .slice none 0 0, .int .i64 0]] W fun e w' => e = .returned (.slice none 0 0) ∧ Below W.heap.size W w' := by
  obtain ⟨w0, hw0⟩ : ∃ w0, w0 = (W.alloc (Obj.cells #[c0, c1, c2, c3] 35)).alloc (Obj.cells #[.int .i64 0, .slice none 0 0, .slice none 0 0, .int .i64 0, .bool false, .slice none 0 0, .slice none 0 0, .slice none 0 0, .slice none 0 0, .slice none 0 0, .slice none 0 0, .bool false, .slice none 0 0, .int .i64 0, .slice none 0 0, .int .i64 0, .bool false, .slice none 0 0, .int .i64 0, .slice none 0 0, .int .i64 0] 59) := ⟨_, rfl⟩
  have hb0 : Below W.heap.size W w0 := by rw [hw0]; exact two_below _ _ _
  have hA : At w0 (W.heap.size + 1) [.int .i64 0, .slice none 0 0, .slice none 0 0, .int .i64 0, .bool false, .slice none 0 0, .slice none 0 0, .slice none 0 0, .slice none 0 0, .slice none 0 0, .slice none 0 0, .bool false, .slice none 0 0, .int .i64 0, .slice none 0 0, .int .i64 0, .bool false, .slice none 0 0, .int .i64 0, .slice none 0 0, .int .i64 0] 59 := by rw [hw0]; exact At.second W _ _ _
  have k0 := hA.cell 0 rfl; have kl := hA.lt
  have Hb0 := Lib.hid hb0; have Hw0 := Lib.hid hw0
  have hmf : ∀ (fn : Fn) (first cap : Array Value) (w : World), (Instr.makeFunc fn first cap).run Tryz.prog w = .ok (.func fn first cap) w := fun _ _ _ _ => rfl
  have hst := fun (W : World) (a : Addr) (fn : Fn) (first cap : Array Value) (m : Mode) => run_store Tryz.prog W a (.func fn first cap) m rfl
  clear hb0 hA hw0
  go_enter Tryz.func36, Tryz.ntmps36
  go_upto_region 1 with fail
  rw [← Hw0.out]
  clear Hw0
  go_wp2_with fail
  go_ret
  exact ⟨rfl, Hb0.out.trans ((one_below w0 _).mono Hb0.out.size)⟩

/-- A whole box, loaded. -/
theorem ldx {P : Program} {w : World} {N : Nat} {cs : List Value} {T : TypeId} {d : TypeDesc} (h : At w N cs T) (hu : P.underlying T = some d) (hd : d.isRow = true) (hi : (P.info? T).map (·.size) = some cs.length) : (Instr.loadAt T (.pointer (some ⟨N, 0, none⟩))).run P w = .ok (.agg cs.toArray) w :=
  run_loadAt_mid w N 0 T cs d (fun j v hj => by rw [Nat.zero_add]; exact h.cell j hj) hu hd hi
theorem step_ent : ∀ args w, (callFunc 18 args).run Tryz.prog w = .ok (.enter 18 args) w := by intro args w; kernel_rfl
set_option maxRecDepth 100000 in
set_option maxHeartbeats 2000000 in
theorem step0_c (n : NodeD) (v : Value) (B : Nat) (vx : Value) (xs : List PX) (W : World) (hbig : n.wt ≤ 100000000) (hv : NodeV W B n v) (hB : B ≤ W.heap.size) (hx : ReadX W B vx xs) (hn : xs.length ≤ 100000000) (hnp : ∀ x ∈ xs, x.1.length ≤ 100000000) :
    Calls Tryz.prog 18 #[v, vx, .agg #[.int .i64 0, .slice none 0 0, .slice none 0 0, .int .i64 0, .bool false, .slice none 0 0, .slice none 0 0, .slice none 0 0, .slice none 0 0, .slice none 0 0, .slice none 0 0, .bool false, .slice none 0 0, .int .i64 0, .slice none 0 0, .int .i64 0, .bool false, .slice none 0 0, .int .i64 0, .slice none 0 0, .int .i64 0]] W (ListX W (setL (((pxs xs).filter smallB1).filter (isElem n)))) := by
  have hv0 := hv
  obtain ⟨lf, ps, t, ks⟩ := n
  obtain ⟨ap, cp, at_, ct, ak, ck, css, rfl, -, -, -, -⟩ := hv0.open
  generalize NodeD.mk lf ps t ks = n at hv hbig ⊢
  obtain ⟨w0, hw0⟩ : ∃ w0, w0 = (W.alloc (Obj.cells #[.bool lf, .slice ap ps.length cp, .slice at_ t.length ct, .slice ak ks.length ck] 35)).alloc (Obj.cells #[.int .i64 0, .slice none 0 0, .slice none 0 0, .int .i64 0, .bool false, .slice none 0 0, .slice none 0 0, .slice none 0 0, .slice none 0 0, .slice none 0 0, .slice none 0 0, .bool false, .slice none 0 0, .int .i64 0, .slice none 0 0, .int .i64 0, .bool false, .slice none 0 0, .int .i64 0, .slice none 0 0, .int .i64 0] 59) := ⟨_, rfl⟩
  have hb0 : Below W.heap.size W w0 := by rw [hw0]; exact two_below _ _ _
  have hO : At w0 (W.heap.size + 1) [.int .i64 0, .slice none 0 0, .slice none 0 0, .int .i64 0, .bool false, .slice none 0 0, .slice none 0 0, .slice none 0 0, .slice none 0 0, .slice none 0 0, .slice none 0 0, .bool false, .slice none 0 0, .int .i64 0, .slice none 0 0, .int .i64 0, .bool false, .slice none 0 0, .int .i64 0, .slice none 0 0, .int .i64 0] 59 := by rw [hw0]; exact At.second W _ _ _
  have hA : At w0 W.heap.size [.bool lf, .slice ap ps.length cp, .slice at_ t.length ct, .slice ak ks.length ck] 35 := by rw [hw0]; exact (At.fresh W _ _).alloc _
  have hld := fun (w' : World) (h : At w' (W.heap.size + 1) [.int .i64 0, .slice none 0 0, .slice none 0 0, .int .i64 0, .bool false, .slice none 0 0, .slice none 0 0, .slice none 0 0, .slice none 0 0, .slice none 0 0, .slice none 0 0, .bool false, .slice none 0 0, .int .i64 0, .slice none 0 0, .int .i64 0, .bool false, .slice none 0 0, .int .i64 0, .slice none 0 0, .int .i64 0] 59) => ldx (P := Tryz.prog) h Tryz.underlying59 rfl (by kernel_rfl)
  simp [go_sem] at hld
  obtain ⟨a, c, rfl, -⟩ := hx.row
  have HM := Lib.hid (fun (w1 : World) => marks0_c (.bool lf) (.slice ap ps.length cp) (.slice at_ t.length ct) (.slice ak ks.length ck) w1)
  have HE := Lib.hid (fun (w1 : World) (hb : Below W.heap.size W w1) (u : Value) (ys : List PX) (hy : RowX w1 W.heap.size W.heap.size u ys) (hl : ys.length ≤ 100000000) => elements_c n _ B W.heap.size W.heap.size u ys w1 hbig (hv.keep (hb.mono hB) (Nat.le_refl _)) (Nat.le_trans hB hb.size) hB hy hl)
  have HV := Lib.hid (fun (w1 : World) (hb : Below W.heap.size W w1) (x : PX) (hx' : x ∈ xs) => move0_c x.1 x.2.1 x.2.2 B w1 ((hx.all x hx').keep (hb.mono hB) (Nat.le_refl _)) (Nat.le_trans hB hb.size) (hnp x hx'))
  have HX := Lib.hid hx
  have HO := Lib.hid hO; have HA := Lib.hid hA; have Hb0 := Lib.hid hb0; have Hw0 := Lib.hid hw0; have HB := Lib.hid hB
  obtain ⟨⟨x0, x1, x2, x3⟩, -, xl⟩ := hA.f4
  have hS := hld w0 hO
  clear hv hv0 hbig hb0 hO hA hw0 hx hnp hB
  go_enter Tryz.func18, Tryz.ntmps18
  go_upto_region 1 with fail
  rw [← Hw0.out]
  clear Hw0
  go_wp2_with fail
  refine (HM.out w0).mono ?_
  rintro e w1 ⟨rfl, hbel⟩
  have HA1 := Lib.hid (HA.out.kept hbel); have HO1 := Lib.hid (HO.out.kept hbel)
  have Hb1 := Lib.hid (Hb0.out.trans (hbel.mono Hb0.out.size))
  have Hs0 := Lib.hid Hb0.out.size
  have Hs1 := Lib.hid hbel.size
  clear hbel HM x0 x1 x2 x3 xl hS HA HO
  go_wp2_with fail
  go_loopg [17, 7] xs.length (fun g i o wr => ∃ (k : Nat) (ys : List PX), i = .int .i64 k ∧ k + g = xs.length ∧ ys.length ≤ k ∧ Hid (pxs ys = (pxs (xs.take k)).filter smallB1) ∧ Hid (RowX wr w1.heap.size w1.heap.size o ys) ∧ Hid (Below w1.heap.size w1 wr))
  case atStart => exact ⟨0, [], rfl, by omega, by simp, (show pxs [] = (pxs (xs.take 0)).filter smallB1 by simp), RowX.nil _ _ _, Below.refl _ _⟩
  case round =>
    obtain ⟨k, ys, rfl, hg, hyk, hys, hy, hbr⟩ := hrel
    obtain ⟨oa, oc, ho⟩ := hy.out.form
    subst ho
    have Hbw := Lib.hid (Hb1.out.trans (hbr.out.mono (Nat.le_trans Hs0.out Hs1.out)))
    by_cases hlt : k < xs.length
    · have hlti : (k : Int) < xs.length := by omega
      obtain ⟨b, off, rfl, hb, hc⟩ := (HX.out.keep (Hbw.out.mono HB.out) (Nat.le_refl _)).at_ k hlt
      have HV1 := Lib.hid (HV.out wr Hbw.out xs[k] (List.getElem_mem hlt))
      have Hst := Lib.hid (show xs.take (k + 1) = xs.take k ++ [xs[k]] from List.take_succ_eq_append_getElem hlt)
      have hS := hld wr (HO1.out.kept hbr.out)
      generalize xs[k] = x at hc HV1 Hst
      obtain ⟨x0, xa, xc⟩ := x
      unfold pxV at hc
      simp only at hc HV1
      cases hsm : smallB1 x0 with
      | false =>
        have Hsm := Lib.hid hsm
        clear hsm
        go_wp2_with fail
        refine HV1.out.mono ?_
        rintro e w2 ⟨hbel, hm⟩
        rw [Hsm.out] at hm
        simp only [Bool.false_eq_true, if_false] at hm
        subst hm
        have Hb2 := Lib.hid (below_and hbr.out hbel)
        have Hy2 := Lib.hid (hy.out.below hbel)
        clear hbel HV1 hc hS
        go_wp2_with fail
        go_roundg (xs.length - (k + 1))
        case measure => omega
        case rel =>
          refine ⟨k + 1, ys, by go_num, by omega, by omega, ?_, Hy2, Hb2⟩
          show pxs ys = (pxs (xs.take (k + 1))).filter smallB1
          rw [Hst.out, pxs_append, pxs_one, List.filter_append, List.filter_cons_of_neg (by simp [Hsm.out]), List.filter_nil, List.append_nil]
          exact hys.out
      | true =>
        have Hsm := Lib.hid hsm
        clear hsm
        go_wp2_with fail
        refine HV1.out.mono ?_
        rintro e w2 ⟨hbel, hm⟩
        rw [Hsm.out] at hm
        simp only [if_true] at hm
        obtain ⟨mv, rfl, hown⟩ := hm
        obtain ⟨va, vc, rfl, hq⟩ := rowq_own hown (ints_one .i64 x0)
        have Hb2 := Lib.hid (below_and hbr.out hbel)
        have Hy2 := Lib.hid (hy.out.below hbel)
        have Hq := Lib.hid (show PxQ w2 (fun b => w1.heap.size ≤ b ∧ (Value.slice oa ys.length oc).ownBlock ≠ some b) (x0, va, vc) from rowq_imp hq fun b hb => ⟨Nat.le_trans hbr.out.size hb, fun e => by have := (hy.out.own.lt b e).2; omega⟩)
        have Hws := Lib.hid (below_and hbr.out hbel).size
        clear hbel HV1 hc hS hown hq
        go_wp2_with (at_builtin; refine wpList_pushx rfl _ _ rfl Tryz.underlying36 info_slc w1.heap.size w1.heap.size (Value.slice oa ys.length oc) ys rfl ?hO (x0, va, vc) rfl rfl ?hq ?hn ?hM ?_)
        case hO => exact Hy2.out
        case hq => exact Hq.out
        case hn => omega
        case hM => exact Hws.out
        intro v' w3 hy3 hb3
        have Hy3 := Lib.hid hy3; have Hb3 := Lib.hid (Hb2.out.trans hb3)
        clear hy3 hb3 Hq
        go_wp2_with fail
        go_roundg (xs.length - (k + 1))
        case measure => omega
        case rel =>
          refine ⟨k + 1, ys ++ [(x0, va, vc)], by go_num, by omega, by simp; omega, ?_, Hy3, Hb3⟩
          show pxs (ys ++ [(x0, va, vc)]) = (pxs (xs.take (k + 1))).filter smallB1
          rw [Hst.out, pxs_append, pxs_append, pxs_one, pxs_one, List.filter_append, List.filter_cons_of_pos (by simp [Hsm.out]), List.filter_nil, ← hys.out]
    · obtain rfl : k = xs.length := by omega
      have Hfin := Lib.hid (show pxs ys = (pxs xs).filter smallB1 by have := hys.out; rwa [List.take_length] at this)
      have HE1 := Lib.hid (HE.out wr Hbw.out _ ys (hy.out.from (Nat.le_trans Hs0.out Hs1.out) (Nat.le_trans Hs0.out Hs1.out)) (by omega))
      obtain ⟨⟨y0, y1, y2, y3⟩, -, yl⟩ := (HA1.out.kept hbr.out).f4
      have Hge := Lib.hid (show ∀ k, (Value.slice oa ys.length oc).ownBlock = some k → W.heap.size ≤ k from fun k hk => Nat.le_trans (Nat.le_trans Hs0.out Hs1.out) (hy.out.ge k hk))
      clear HE hys hld
      go_wp2_with fail
      refine HE1.out.mono ?_
      rintro e w2 ⟨v', zs, rfl, hz, hp, -, -, hgr⟩
      obtain ⟨va, vc, hv'⟩ := hz.form
      subst hv'
      have Hz := Lib.hid hz; have Hp := Lib.hid hp; have Hb2 := Lib.hid (Hbw.out.trans (hgr.old Hbw.out.size Hge.out))
      clear hz hp hgr HE1 y0 y1 y2 y3 yl
      go_wp2_with fail
      go_ret
      exact ⟨_, zs, rfl, Hz.out, by rw [Hp.out, Hfin.out], Hb2.out⟩

end Go.Proofs.YtajclfjedlkbcaaGreatDoor
