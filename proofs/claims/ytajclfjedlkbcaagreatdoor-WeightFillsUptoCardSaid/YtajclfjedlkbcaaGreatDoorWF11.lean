/- Parts of the proof, one behind the other: RKH, RCX, RCY, RKI, RKJ. -/
import Derived.Test.YtajclfjedlkbcaaGreatDoorWF10
import Derived.Test.YtajclfjedlkbcaaGreatDoorWF3
import Derived.Test.YtajclfjedlkbcaaGreatDoorWF4
/- Walks: dirty's set, elements; a row of paths copied. -/
namespace Go.Proofs.YtajclfjedlkbcaaGreatDoor
open Go.RowKit Go.Redl
set_option linter.unusedVariables false

theorem PxQ.own {w w' : World} {r : Option Nat} {L : Nat} {x : PX} (h : PxQ w (fun k => L ≤ k ∧ r ≠ some k) x) (hg : w.grownBy w' r) : PxQ w' (fun k => L ≤ k ∧ r ≠ some k) x :=
  RowQ.keep h hg.size (fun k hk hlt => hg.block k hlt (fun e => hk.2 e.symm)) (fun _ h _ => h)
/-- What is done with a row in its own place. -/
def InP (W : World) (M L : Nat) (v : Value) (xs : List PX) (l : List (List Int)) (e : Ending) (w' : World) : Prop :=
  ∃ v' ys, e = .returned v' ∧ RowX w' M L v' ys ∧ pxs ys = l ∧ (∀ x ∈ ys, x ∈ xs) ∧ (∀ k, v'.ownBlock = some k → v.ownBlock = some k) ∧ W.grownBy w' v.ownBlock
theorem tuple_nil_ret {P : Ending → Prop} (h : P (.returned (.tuple #[]))) : P (.returned (.tuple #[])) := h
theorem cmpx_ent : ∀ args w, (callFunc 65 args).run Tryz.prog w = .ok (.enter 65 args) w := by intro args w; kernel_rfl
theorem delx_ent : ∀ args w, (callFunc 75 args).run Tryz.prog w = .ok (.enter 75 args) w := by intro args w; kernel_rfl
theorem set_ent : ∀ args w, (callFunc 32 args).run Tryz.prog w = .ok (.enter 32 args) w := by intro args w; kernel_rfl

set_option maxRecDepth 100000 in
set_option maxHeartbeats 1000000 in
theorem set_c (M L : Nat) (v : Value) (xs : List PX) (W : World) (hx : RowX W M L v xs) (hn : xs.length ≤ 100000000) : Calls Tryz.prog 32 #[v] W (InP W M L v xs (setL (pxs xs))) := by
  have HS := Lib.hid (sortx_c M L v xs W hx hn)
  have HC := Lib.hid (fun (w1 : World) (ys : List PX) (hp : ys.Perm xs) (hy : RowX w1 M L v ys) => cmpx_c 66 (fun x y => decide (x.1 = y.1)) M L v ys w1 tsame_ent hy (by rw [hp.length_eq]; exact hn) fun x hx' y hy' W' hg => by
    obtain ⟨x0, xa, xc⟩ := x
    obtain ⟨y0, ya, yc⟩ := y
    exact (tsame_c x0 y0 xa ya xc yc _ W' (PxQ.own (hy.all _ hx') hg).row (PxQ.own (hy.all _ hy') hg).row).mono fun e w' hh => ⟨hh.1, hh.2.below _⟩)
  obtain ⟨a, c, rfl⟩ := hx.form
  clear hx
  go_enter Tryz.func32, Tryz.ntmps32
  go_wp2_with fail
  refine HS.out.mono ?_
  rintro e w1 ⟨rfl, ys, hp, hs, hy, hg⟩
  have HC1 := Lib.hid (HC.out w1 ys hp hy)
  have Hp := Lib.hid hp; have Hs := Lib.hid hs; have Hg := Lib.hid hg
  clear HS HC hp hs hy hg
  go_wp2_with fail
  refine HC1.out.mono ?_
  rintro e w2 ⟨v', rfl, hz, hk, hg⟩
  obtain ⟨a', c', hv'⟩ := hz.form
  have Hz := Lib.hid hz; have Hk := Lib.hid hk; have Hg2 := Lib.hid hg
  have Hv := Lib.hid hv'
  clear HC1 hz hk hg hv'
  go_wp2_with fail
  go_ret
  obtain ⟨h1, h2, h3⟩ := compU_sorted ys Hs.out ys.length (Nat.le_refl _)
  rw [List.take_length] at h2
  refine ⟨v', _, rfl, Hz.out, ?_, fun x hx => Hp.out.subset (h3 x hx), Hk.out, Hg.out.trans Hg2.out⟩
  exact setL_eq h1 fun x => by rw [h2]; exact (Hp.out.map (·.1)).mem_iff

/-- An element stands there. -/
def isElem (n : NodeD) (p : List Int) : Bool := match atN n p with
  | some k => !leafOf k
  | none => false
theorem elem1_ent : ∀ args w, (callFunc 85 args).run Tryz.prog w = .ok (.enter 85 args) w := by intro args w; kernel_rfl
set_option maxRecDepth 100000 in
set_option maxHeartbeats 1000000 in
theorem elem1_c (n : NodeD) (c0 c1 c2 c3 : Value) (N : Nat) (p : List Int) (pa : Option Addr) (pc : Nat) (W : World) (hbig : n.wt ≤ 100000000) (hv : NodeV W W.heap.size n (.agg #[c0, c1, c2, c3])) (hN : At W N [c0, c1, c2, c3] 35) (hp : RowA W W.heap.size 1 pa p.length pc (p.map (Value.int .i64))) :
    Calls Tryz.prog 85 #[.slice pa p.length pc, .pointer (some ⟨N, 0, none⟩)] W fun e w' => e = .returned (.bool (!isElem n p)) ∧ Below W.heap.size W w' := by
  have HG := Lib.hid (get_c n p _ pa pc W hbig hv hp)
  obtain ⟨⟨x0, x1, x2, x3⟩, -, xl⟩ := hN.f4
  unfold isElem
  cases hat : atN n p with
  | none =>
    rw [hat] at HG
    clear hv hN hp hat
    go_enter Tryz.func85, Tryz.ntmps85
    go_wp2_with fail
    refine HG.out.mono ?_
    rintro e w1 ⟨rfl, hbel⟩
    have Hb := Lib.hid hbel
    clear hbel HG x0 x1 x2 x3 xl
    go_wp2_with fail
    go_ret
    exact ⟨rfl, Hb.out.trans ((one_below w1 _).mono Hb.out.size)⟩
  | some k =>
    rw [hat] at HG
    clear hv hN hp hat
    go_enter Tryz.func85, Tryz.ntmps85
    go_wp2_with fail
    refine HG.out.mono ?_
    rintro e w1 ⟨cs, rfl, hq, hbel⟩
    obtain ⟨l, ps, t, ks⟩ := k
    have hq' := NodeQ.node _ _ hq
    unfold NodeC at hq'
    obtain ⟨ap, cp, at_, ct, ak, ck, css, rfl, -⟩ := hq'
    have Hb := Lib.hid hbel
    clear hbel HG x0 x1 x2 x3 xl hq
    go_wp2_with fail
    go_ret
    exact ⟨ret_bool (by simp [leafOf]), Hb.out.trans ((one_below w1 _).mono Hb.out.size)⟩

end Go.Proofs.YtajclfjedlkbcaaGreatDoor
/- Walks: tree's paths: the function that calls itself. -/
namespace Go.Proofs.YtajclfjedlkbcaaGreatDoor
open Go.RowKit Go.Redl
set_option linter.unusedVariables false

section
variable {tb ob eb cb B MX M : Nat} {caps : Array Value} {want : NodeD → Bool}

set_option maxRecDepth 100000 in
set_option maxHeartbeats 4000000 in
theorem paths1_c (hcb : ∀ args w, (callFunc cb args).run Tryz.prog w = .ok (.enter cb args) w) (hA : WantC B cb caps want MX) (hBo : B ≤ ob) (hBM : B ≤ M) (m : Nat) :
    ∀ (n : NodeD) (v : Value) (p : List Int) (pa : Option Addr) (pc : Nat) (l : List (List Int)) (ov : Value) (cs : List Value) (W : World), n.wt ≤ m → n.wt ≤ MX → l.length + n.wt ≤ 1000000000 → p.length + n.wt ≤ 100000000 → NodeV W B n v → M ≤ W.heap.size →
      BoxesAt W tb ob eb cb caps M l ov cs → RowQ W (fun b => M ≤ b ∧ ov.ownBlock ≠ some b) 1 pa p.length pc (p.map (Value.int .i64)) →
      Calls Tryz.prog 89 #[v, .slice pa p.length pc, .pointer (some ⟨tb, 0, none⟩), .pointer (some ⟨ob, 0, none⟩), .pointer (some ⟨eb, 0, none⟩)] W (PathsP tb ob eb cb caps M ov W (l ++ pathsW want n p)) := by
  induction m with
  | zero => intro n v p pa pc l ov cs W hm; have := wt_pos n; omega
  | succ m ih =>
    intro n v p pa pc l ov cs W hm hMX hl hpn hv hM hbx hrow
    have IH := Lib.hid ih
    have hv0 := hv
    obtain ⟨lf, ps, t, ks⟩ := n
    obtain ⟨ap, cp, at_, ct, ak, ck, css, rfl, -, -, hk, hc⟩ := hv0.open
    have hwt : 1 + propsWt ps + t.length + wtAll ks = (NodeD.mk lf ps t ks).wt := rfl
    have hb0 := (Below.refl W.heap.size W).alloc (Nat.le_refl _) (Obj.cells #[.bool lf, .slice ap ps.length cp, .slice at_ t.length ct, .slice ak ks.length ck] 35)
    have HW := Lib.hid (hA (.mk lf ps t ks) _ _ hMX (hv.keep (hb0.mono (Nat.le_trans hBM hM)) (Nat.le_refl _)) (by simp; omega))
    obtain ⟨R, hR⟩ : ∃ R, R = l ++ pathsW want (.mk lf ps t ks) p := ⟨_, rfl⟩
    rw [← hR]
    obtain ⟨b, hb⟩ : ∃ b, b = want (.mk lf ps t ks) := ⟨_, rfl⟩
    rw [← hb] at HW
    have HR : Hid ((l ++ if b = true then [p] else []) ++ pathsK want ks 0 p = R) := by
      show _ = R
      rw [hR, hb, pathsW, List.append_assoc]
    have hw3 : ∀ q ∈ ks, q.wt ≤ m ∧ q.wt ≤ MX ∧ q.wt ≤ wtAll ks := fun q hq => by have := wtAll_mem hq; omega
    have hpl : p.length + 1 ≤ 100000000 := by omega
    have hll : l.length + 1 + wtAll ks ≤ 1000000000 := by omega
    have hpw : p.length + 1 + wtAll ks ≤ 100000000 := by omega
    have hkl : ks.length ≤ 100000000 := by have := wtAll_len ks; omega
    have hA0 := NodeAt.fresh W (.bool lf) (.slice ap ps.length cp) (.slice at_ t.length ct) (.slice ak ks.length ck)
    have Hw3 := Lib.hid hw3; have Hb0 := Lib.hid hb0; have Hbx := Lib.hid hbx; have Hrow := Lib.hid hrow; have Hk := Lib.hid hk; have Hc := Lib.hid hc; have HA0 := Lib.hid hA0
    obtain ⟨e1, e2, e3, e4, l1, l2, l3⟩ := hbx.cells
    clear hw3 hb0 hbx hrow hk hc hA0 hv hv0 hwt hm hMX hl hpn hR hb ih hA e2 e3 e4
    go_enter Tryz.func89, Tryz.ntmps89
    go_wp2_with fail
    refine HW.out.mono ?_
    rintro e w1 ⟨rfl, hbel⟩
    have hbel' : Below W.heap.size W w1 := Hb0.out.trans (hbel.mono Hb0.out.size)
    have HA1 := Lib.hid (HA0.out.keep (hbel.mono (by simp)))
    have Hbx1 := Lib.hid (Hbx.out.below hbel')
    have Hrow1 := Lib.hid (Hrow.out.keep (w' := w1) hbel'.size (fun b _ hlt => hbel'.block b hlt) (fun _ hb _ => hb))
    have HG1 := Lib.hid ((Grew.refl ob ov W).then hbel')
    have hB1 : Below B W w1 := hbel'.mono (Nat.le_trans hBM hM)
    have Hk1 := Lib.hid (Hk.out.keep hB1 (Nat.le_refl _)); have Hc1 := Lib.hid (KidsC.keep hB1 (Nat.le_refl _) ks css Hc.out)
    have hM1 : M ≤ w1.heap.size := Nat.le_trans hM hbel'.size
    have hN1 : W.heap.size < w1.heap.size := HA1.out.facts.2.2.2.2.2
    have hnN : ov.ownBlock ≠ some W.heap.size := Hbx.out.notOwn (.inr (Nat.le_refl _))
    obtain ⟨y1, y2, y3, y4, m1, m2, m3⟩ := Hbx1.out.cells
    clear hbel hbel' HW Hb0 HA0 Hbx Hrow Hk Hc hB1 e1 l1 l2 l3
    go_upto_if 11 with fail
    go_cut [] (fun wx => ∃ l1 ov1 cs1, l1 = (l ++ if b = true then [p] else []) ∧ BoxesAt wx tb ob eb cb caps M l1 ov1 cs1 ∧ Grew ob ov ov1 w1 wx)
    case first =>
      cases b with
      | false =>
        go_wp2_with fail
        go_meet
        case rel => exact ⟨l, ov, cs, by simp, Hbx1.out, Grew.refl _ _ _⟩
      | true =>
        go_wp2_with fail
        go_region_law (first
          | (refine step_call rfl 35 _ _ rfl cln_int_ent [Value.slice pa p.length pc] ?_ _ (clone_int w1.heap.size p.length pa pc _ _ (Hrow1.out.row.keep ?_ (Nat.le_refl _)) ?_ (by omega)) ?_
             · go_simp
             · exact (Below.refl _ _).drew
             · exact Nat.le_refl _
             rintro e w2 ⟨v2, rfl, hown, hbel⟩
             obtain ⟨qa, qc, rfl, hq⟩ := rowq_own hown (ints_one .i64 p)
             refine ⟨_, rfl, ?_⟩
             have Hbel2 := Lib.hid (((Below.refl w1.heap.size w1).drew).trans hbel)
             have Hq := Lib.hid hq
             obtain ⟨z1, z2, z3, z4, n1, n2, n3⟩ := (Hbx1.out.below Hbel2.out).cells
             have Hown2 := Lib.hid (Hbx1.out.below Hbel2.out).own
             clear hbel hown hq)
          | (refine step_app2 rfl _ _ 36 rfl M 47 (.slice none 0 0) 1 24 Tryz.underlying36 info_slc rfl (by decide) ov l.length cs ?_ (Hown2.out.alloc _) ⟨w2.heap.size, 0, none⟩ 1 1 (w2.heap.size + 1) [.slice qa p.length qc] ?_ (row_one _ _ _ _ rfl (by omega)) ?_ ?_ ?_ ?_
             · go_simp
             · go_simp
             · unfold maxLen; omega
             · omega
             · have := Hbel2.out.size; simp; omega
             intro v' w3 hown' hgrow hwhere
             obtain ⟨va, vc, rfl, -⟩ := row_of_own hown' (by intro u hu; rcases List.mem_append.1 hu with h | h; exact Hbx1.out.rows.one u h; simp at h; subst h; rfl)
             have Hpu := Lib.hid (Hbx1.out.push hM1 Hbel2.out Hq.out hgrow hown' hwhere)
             have ho3 : w3.heap[ob]? = some (Obj.cells #[ov] 36 (0, 0)) := by
               rw [hgrow.block ob (by simp; omega) (fun e => Hbx1.out.notOwn (.inl Hbx1.out.lt.2.1) e.symm), Lib.alloc_old _ _ _ n2]
               exact (Hbx1.out.below Hbel2.out).o
             have q3 : w3.cell? ⟨ob, 0, none⟩ = some ov := by rw [Lib.cell_of_heap ho3]; rfl
             have q4 : w3.frozen? ⟨ob, 0, none⟩ = false := Lib.frozen_of_heap ho3 _
             have q5 : ob < w3.heap.size := (Array.getElem?_eq_some_iff.1 ho3).1
             clear hown' hgrow hwhere ho3))
        all_goals
          go_wp2_with fail
          go_meet
          case rel => exact ⟨_, _, _, by simp, Hpu.out.1, Hpu.out.2⟩
    case rest =>
      obtain ⟨l1, ov1, cs1, rfl, hbx, hgr⟩ := hcut
      have HG2 := Lib.hid (HG1.out.trans hgr)
      have HA2 := Lib.hid (show NodeAt wc W.heap.size _ _ _ _ by unfold NodeAt; rw [hgr.block _ hN1 (by have := Hbx1.out.lt.2.1; omega) hnN]; exact HA1.out)
      have Hrow2 := Lib.hid (Hrow1.out.stay (hgr.stay Hbx1.out.lt.2.1))
      have hB2 : Below B w1 wc := hgr.below hBo (by omega) (fun k hk => by have := (Hbx1.out.own.lt k hk).1; omega)
      have Hk2 := Lib.hid (Hk1.out.keep hB2 (Nat.le_refl _)); have Hc2 := Lib.hid (KidsC.keep hB2 (Nat.le_refl _) ks css Hc1.out)
      have hnN2 : ov1.ownBlock ≠ some W.heap.size := by
        rcases hgr.where_ with h | h
        · rw [h]; exact hnN
        · intro e; have := h _ e; omega
      have Hbx2 := Lib.hid hbx
      have hM2 : M ≤ wc.heap.size := Nat.le_trans hM1 hgr.size
      have hl2 : (l ++ if b = true then [p] else []).length + wtAll ks ≤ 1000000000 := by rw [List.length_append]; split <;> simp <;> omega
      obtain ⟨z0, z1, z2, z3, -, zl⟩ := HA2.out.facts
      generalize (l ++ if b = true then [p] else []) = l1 at HR hl2 Hbx2
      clear hbx hgr hB2 HG1 HA1 Hrow1 Hk1 Hc1 Hbx1 y1 y2 y3 y4 m1 m2 m3 hnN
      go_wp2_with fail
      go_loopg [20] ks.length (fun g i wr => ∃ (k : Nat) (l2 : List (List Int)) (ov2 : Value) (cs2 : List Value), i = .int .i64 k ∧ k + g = ks.length ∧ l2 ++ pathsK want (ks.drop k) k p = R ∧ l2.length + wtAll (ks.drop k) ≤ 1000000000 ∧ BoxesAt wr tb ob eb cb caps M l2 ov2 cs2 ∧ Grew ob ov1 ov2 wc wr)
      case atStart => exact ⟨0, l1, ov1, cs1, rfl, by omega, HR.out, hl2, Hbx2.out, Grew.refl _ _ _⟩
      case round =>
        obtain ⟨k, l2, ov2, cs2, rfl, hg, hke, hl3, hbx, hgr⟩ := hrel
        have Hke := Lib.hid hke
        have hB3 : Below B wc wr := hgr.below hBo (by omega) (fun k hk => by have := (Hbx2.out.own.lt k hk).1; omega)
        have hk3 := Hk2.out.keep hB3 (Nat.le_refl _); have hc3 := KidsC.keep hB3 (Nat.le_refl _) ks css Hc2.out
        have hM3 : M ≤ wr.heap.size := Nat.le_trans hM2 hgr.size
        have Hrow3 := Lib.hid (Hrow2.out.stay (hgr.stay Hbx2.out.lt.2.1))
        have HG3 := Lib.hid hgr; have Hbx3 := Lib.hid hbx
        clear hke hgr hB3
        by_cases hlt : k < ks.length
        · have hlti : (k : Int) < ks.length := by omega
          have hmem := Hw3.out _ (List.getElem_mem hlt)
          have hdr : wtAll (ks.drop k) = ks[k].wt + wtAll (ks.drop (k + 1)) := by
            conv => lhs; rw [List.drop_eq_getElem_cons hlt]
            simp only [wtAll]
          rw [hdr] at hl3
          have Hst : Hid ((l2 ++ pathsW want ks[k] (p ++ [(k : Int)])) ++ pathsK want (ks.drop (k + 1)) (k + 1) p = R) := by
            show _ = R
            rw [List.append_assoc, ← pathsK_step hlt]; exact Hke.out
          have hpwl := pathsW_len want ks[k] (p ++ [(k : Int)])
          obtain ⟨kb, ko, lk, a1, n1, c1, a2, n2, c2, a3, n3, c3, rfl, hkb, hkn, g0, g1, g2, g3⟩ := hk3.kid_at hc3 k hlt
          generalize ks[k] = q at hmem Hst hpwl hl3 hkn
          go_upto_region 6 with fail
          have hb2 := (Below.refl wr.heap.size wr).alloc (Nat.le_refl _) (Obj.cells #[.bool lk, .slice a1 n1 c1, .slice a2 n2 c2, .slice a3 n3 c3] 35)
          have hA2 := NodeAt.fresh wr (.bool lk) (.slice a1 n1 c1) (.slice a2 n2 c2) (.slice a3 n3 c3)
          obtain ⟨w2, hw2⟩ : ∃ w2, w2 = wr.alloc (Obj.cells #[.bool lk, .slice a1 n1 c1, .slice a2 n2 c2, .slice a3 n3 c3] 35) := ⟨_, rfl⟩
          rw [← hw2] at hb2 hA2 ⊢
          clear hw2
          have Hbx4 := Lib.hid (Hbx3.out.below hb2)
          have Hrow4 := Lib.hid (Hrow3.out.keep (w' := w2) (ok' := fun b => M ≤ b ∧ ov2.ownBlock ≠ some b) hb2.size (fun b _ hlt => hb2.block b hlt) (fun _ hb _ => hb))
          have Hkn := Lib.hid (NodeC.keep (hb2.mono (Nat.le_trans hBM hM3)) (Nat.le_refl _) _ _ hkn)
          have hM4 : M ≤ w2.heap.size := Nat.le_trans hM3 hb2.size
          have hle : p.length ≤ pc := Hrow3.out.le
          obtain ⟨x0, x1, x2, x3, -, xl⟩ := hA2.facts
          obtain ⟨y1, y2, y3, y4, m1, m2, m3⟩ := Hbx4.out.cells
          have Hb2 := Lib.hid hb2; have HA4 := Lib.hid hA2
          clear hb2 hA2 hkn hk3 hc3 g0 g1 g2 g3 Hrow3 Hw3 Hke hdr
          go_region_law (first
            | (refine step_grow rfl _ _ 47 rfl 3 (.int .i64 0) 1 8 Tryz.underlying47 info_int rfl (by decide) pa p.length w2.heap.size (p.map (Value.int .i64)) ?_ (Hrow4.out.row.full.keep ?_ (Nat.le_refl _)) ⟨w2.heap.size, 0, none⟩ 1 1 (w2.heap.size + 1) [.int .i64 k] ?_ ((row_one w2 _ _ _ rfl (by omega)).keep (Below.refl _ _).drew (Nat.le_refl _)) (by decide) ?_ ?_ ?_
               · go_simp
               · exact ((Below.refl _ _).alloc (Nat.le_refl _) _).drew
               · go_simp
               · unfold maxLen; omega
               · omega
               intro v' w3 hown hbel
               have hz : p.map (Value.int .i64) ++ [.int .i64 (k : Int)] = (p ++ [(k : Int)]).map (Value.int .i64) := by simp
               rw [hz] at hown
               obtain ⟨va, vc, rfl, hq⟩ := rowq_own hown (ints_one .i64 _)
               have hb3 : Below w2.heap.size w2 w3 := (((Below.refl _ _).alloc (Nat.le_refl _) _).drew).trans (hbel.mono (by simp))
               have hA3 := HA4.out.keep (hb3.mono (by omega))
               have hbx5 := Hbx4.out.below hb3
               have hq2 : RowQ w3 (fun b => M ≤ b ∧ ov2.ownBlock ≠ some b) 1 va (p ++ [(k : Int)]).length vc ((p ++ [(k : Int)]).map (Value.int .i64)) := by
                 have := hq.keep (ok' := fun b => M ≤ b ∧ ov2.ownBlock ≠ some b) (Nat.le_refl _) (fun _ _ _ => rfl) (fun b hb _ => by
                   have hb' : w2.heap.size + 1 ≤ b := by simpa using hb
                   exact ⟨by omega, Hbx4.out.notOwn (.inr (by omega))⟩)
                 simpa using this
               have HC := IH.out q (.agg #[.bool lk, .slice a1 n1 c1, .slice a2 n2 c2, .slice a3 n3 c3]) (p ++ [(k : Int)]) va vc l2 ov2 cs2 w3 hmem.1 hmem.2.1 (by omega) (by simp; omega) ⟨_, rfl, NodeC.keep (hb3.mono (by omega)) (Nat.le_refl _) _ _ Hkn.out⟩ (Nat.le_trans hM4 hb3.size) hbx5 hq2
               have HC2 := Lib.hid (show Calls Tryz.prog 89 (([.agg #[.bool lk, .slice a1 n1 c1, .slice a2 n2 c2, .slice a3 n3 c3], .slice va (p.length + 1) vc] : List Value).toArray ++ #[.pointer (some ⟨tb, 0, none⟩), .pointer (some ⟨ob, 0, none⟩), .pointer (some ⟨eb, 0, none⟩)]) w3 (PathsP tb ob eb cb caps M ov2 w3 (l2 ++ pathsW want q (p ++ [(k : Int)]))) by simpa using HC)
               have HG5 := Lib.hid ((HG3.out.then Hb2.out).then hb3)
               obtain ⟨t0, t1, t2, t3, -, tl⟩ := hA3.facts
               obtain ⟨r1, r2, r3, r4, s1, s2, s3⟩ := hbx5.cells
               clear hown hbel hz hq hb3 hA3 hbx5 hq2 HC)
            | (refine step_callv rfl 89 _ #[.pointer (some ⟨tb, 0, none⟩), .pointer (some ⟨ob, 0, none⟩), .pointer (some ⟨eb, 0, none⟩)] _ _ rfl ?_ paths1_ent [.agg #[.bool lk, .slice a1 n1 c1, .slice a2 n2 c2, .slice a3 n3 c3], .slice va (p.length + 1) vc] ?_ _ HC2.out ?_
               · go_simp
               · go_simp
               rintro e w4 ⟨rfl, ov3, cs3, hbx6, hgr6⟩
               refine ⟨_, rfl, ?_⟩
               have Hbx6 := Lib.hid hbx6
               have HG6 := Lib.hid (HG5.out.trans hgr6)
               clear hbx6 hgr6))
          all_goals
            go_wp2_with fail
            go_roundg (gk - 1)
            case measure => omega
            case rel => exact ⟨k + 1, _, ov3, cs3, by go_num, by omega, Hst.out, by rw [List.length_append]; omega, Hbx6.out, HG6.out⟩
        · obtain rfl : k = ks.length := by omega
          have HR2 : Hid (l2 = R) := by
            show l2 = R
            rw [← Hke.out, List.drop_length, pathsK, List.append_nil]
          clear Hke hk3 hc3
          go_wp2_with fail
          go_end0
          refine ⟨rfl, ov2, cs2, ?_, HG2.out.trans HG3.out⟩
          rw [← HR2.out]
          exact Hbx3.out
end

end Go.Proofs.YtajclfjedlkbcaaGreatDoor
/- Walks: tree's paths, Paths. -/
namespace Go.Proofs.YtajclfjedlkbcaaGreatDoor
open Go.RowKit Go.Redl
set_option linter.unusedVariables false

/-- A list of paths, made by the call. -/
def ListP (W : World) (L : List (List Int)) (e : Ending) (w' : World) : Prop :=
  ∃ a c cs, e = .returned (.slice a L.length c) ∧ RowQ w' (fun b => W.heap.size ≤ b) 1 a L.length c cs ∧ PathsQ w' (fun b => W.heap.size ≤ b) L cs ∧ Below W.heap.size W w'

/-- The same, its row its own. -/
def ListO (W : World) (L : List (List Int)) (e : Ending) (w' : World) : Prop :=
  ∃ v cs, e = .returned v ∧ w'.ownsRow W.heap.size 47 1 v L.length cs ∧ PathsQ w' (fun b => W.heap.size ≤ b ∧ v.ownBlock ≠ some b) L cs ∧ Below W.heap.size W w'
theorem ListO.p {W : World} {L : List (List Int)} {e : Ending} {w' : World} (h : ListO W L e w') : ListP W L e w' := by
  obtain ⟨v, cs, rfl, h1, h2, h3⟩ := h
  obtain ⟨a, c, rfl, hq⟩ := rowq_own h1 h2.one
  exact ⟨a, c, cs, rfl, hq, h2.keep (Nat.le_refl _) (fun _ _ _ => rfl) (fun b hb _ => hb.1), h3⟩
theorem own_from {w : World} {M M' e sz n : Nat} {v : Value} {cs : List Value} (h : w.ownsRow M e sz v n cs) (hM : M' ≤ M) : w.ownsRow M' e sz v n cs := by
  obtain ⟨hl, h2⟩ := h
  exact ⟨hl, h2.imp id fun ⟨g, cap, cur, hv, hb, hr⟩ => ⟨g, cap, cur, hv, by omega, hr⟩⟩

set_option maxRecDepth 100000 in
set_option maxHeartbeats 2000000 in
theorem pathsO_c {cb MX : Nat} {caps : Array Value} {want : NodeD → Bool} (hcb : ∀ args w, (callFunc cb args).run Tryz.prog w = .ok (.enter cb args) w) (n : NodeD) (v : Value) (W : World) (hA : WantC W.heap.size cb caps want MX) (hMX : n.wt ≤ MX) (hw : n.wt ≤ 100000000) (hv : NodeV W W.heap.size n v) :
    Calls Tryz.prog 41 #[v, .func (.func cb) #[] caps] W (ListO W (pathsW want n [])) := by
  have hv0 := hv
  obtain ⟨lf, ps, t, ks⟩ := n
  obtain ⟨ap, cp, at_, ct, ak, ck, css, rfl, -, -, -, -⟩ := hv0.open
  generalize NodeD.mk lf ps t ks = n at hv hMX hw ⊢
  obtain ⟨tb, htb⟩ : ∃ tb, tb = W.heap.size + 1 := ⟨_, rfl⟩
  obtain ⟨ob, hob⟩ : ∃ ob, ob = tb + 1 := ⟨_, rfl⟩
  obtain ⟨eb, heb⟩ : ∃ eb, eb = ob + 1 := ⟨_, rfl⟩
  obtain ⟨w0, hw0⟩ : ∃ w0, w0 = (((W.alloc (Obj.cells #[.bool lf, .slice ap ps.length cp, .slice at_ t.length ct, .slice ak ks.length ck] 35)).alloc (Obj.cells #[.func (.func cb) #[] caps] 84)).alloc (Obj.cells #[.slice none 0 0] 36)).alloc (Obj.cells #[.nilFunc] 122) := ⟨_, rfl⟩
  have hb0 : Below W.heap.size W w0 := by
    rw [hw0]
    exact ((((Below.refl _ _).alloc (Nat.le_refl _) _).alloc (by simp) _).alloc (by simp; omega) _).alloc (by simp; omega) _
  have hs0 : w0.heap.size = W.heap.size + 4 := by rw [hw0]; simp
  have h0 : NodeAt w0 W.heap.size (.bool lf) (.slice ap ps.length cp) (.slice at_ t.length ct) (.slice ak ks.length ck) := by
    rw [hw0]
    exact (((NodeAt.fresh W _ _ _ _).alloc _).alloc _).alloc _
  have ht : w0.heap[tb]? = some (Obj.cells #[.func (.func cb) #[] caps] 84 (0, 0)) := by
    rw [hw0, Lib.alloc_old _ _ _ (by simp; omega), Lib.alloc_old _ _ _ (by simp; omega), htb]
    simpa using heap_alloc_new (W.alloc (Obj.cells #[.bool lf, .slice ap ps.length cp, .slice at_ t.length ct, .slice ak ks.length ck] 35)) (Obj.cells #[.func (.func cb) #[] caps] 84)
  have ho : w0.heap[ob]? = some (Obj.cells #[.slice none 0 0] 36 (0, 0)) := by
    rw [hw0, Lib.alloc_old _ _ _ (by simp; omega), hob, htb]
    simpa using heap_alloc_new ((W.alloc (Obj.cells #[.bool lf, .slice ap ps.length cp, .slice at_ t.length ct, .slice ak ks.length ck] 35)).alloc (Obj.cells #[.func (.func cb) #[] caps] 84)) (Obj.cells #[.slice none 0 0] 36)
  have he : w0.heap[eb]? = some (Obj.cells #[.nilFunc] 122 (0, 0)) := by
    rw [hw0, heb, hob, htb]
    simpa using heap_alloc_new (((W.alloc (Obj.cells #[.bool lf, .slice ap ps.length cp, .slice at_ t.length ct, .slice ak ks.length ck] 35)).alloc (Obj.cells #[.func (.func cb) #[] caps] 84)).alloc (Obj.cells #[.slice none 0 0] 36)) (Obj.cells #[.nilFunc] 122)
  have c0 : w0.cell? ⟨eb, 0, none⟩ = some .nilFunc := by rw [cell_of_row _ _ _ _ _ _ he]; rfl
  have c1 : w0.frozen? ⟨eb, 0, none⟩ = false := Lib.frozen_of_heap he _
  obtain ⟨w1, hw1⟩ : ∃ w1, w1 = w0.setCell ⟨eb, 0, none⟩ (.func (.func 89) #[] #[.pointer (some ⟨tb, 0, none⟩), .pointer (some ⟨ob, 0, none⟩), .pointer (some ⟨eb, 0, none⟩)]) := ⟨_, rfl⟩
  have hs1 : w1.heap.size = W.heap.size + 4 := by rw [hw1, ← hs0]; simp [World.setCell]
  have hb1 : Below W.heap.size W w1 := by rw [hw1]; exact hb0.setCell (p := ⟨eb, 0, none⟩) (by show W.heap.size ≤ eb; omega) _
  have h1 : NodeAt w1 W.heap.size (.bool lf) (.slice ap ps.length cp) (.slice at_ t.length ct) (.slice ak ks.length ck) := by rw [hw1]; exact h0.set (by omega)
  have hbx : BoxesAt w1 tb ob eb cb caps (W.heap.size + 4) [] (.slice none 0 0) [] := by
    refine ⟨?_, ?_, ?_, World.ownsRow_nil _ _ _ _, rfl, by omega⟩
    · rw [hw1, Below.heap_setCell _ _ _ _ (by show tb ≠ eb; omega)]; exact ht
    · rw [hw1]; exact Lib.heap_setCell_same (i := 0) he _
    · rw [hw1, Below.heap_setCell _ _ _ _ (by show ob ≠ eb; omega)]; exact ho
  have HC := Lib.hid (paths1_c hcb hA (ob := ob) (M := W.heap.size + 4) (by omega) (by omega) n.wt n (.agg #[.bool lf, .slice ap ps.length cp, .slice at_ t.length ct, .slice ak ks.length ck]) [] none 0 [] (.slice none 0 0) [] w1 (Nat.le_refl _) hMX (by simp; omega) (by simp; omega) (hv.keep hb1 (Nat.le_refl _)) (by omega) hbx (RowQ.empty _ _ _))
  obtain ⟨x0, x1, x2, x3, -, xl⟩ := h1.facts
  obtain ⟨y1, y2, y3, y4, m1, m2, m3⟩ := hbx.cells
  have Hb0 := Lib.hid hb1
  have Hbx := Lib.hid hbx
  have hmf : ∀ (fn : Fn) (first cap : Array Value) (w : World), (Instr.makeFunc fn first cap).run Tryz.prog w = .ok (.func fn first cap) w := fun _ _ _ _ => rfl
  have hst := fun (W : World) (a : Addr) (fn : Fn) (first cap : Array Value) (m : Mode) => run_store Tryz.prog W a (.func fn first cap) m rfl
  clear hb0 h0 hb1 h1 hbx hv hv0 hA hMX hw ht ho he
  have H1 := Lib.hid htb; have H2 := Lib.hid hob; have H3 := Lib.hid heb; have H4 := Lib.hid hw0; have H5 := Lib.hid hw1
  have hlt : W.heap.size < tb ∧ tb < ob ∧ ob < eb := by omega
  have hcl : W.heap.size ≤ ob := by omega
  clear htb hob heb hw0 hw1 hs0
  go_enter Tryz.func41, Tryz.ntmps41
  go_upto_region 3 with fail
  rw [← H4.out, ← H1.out, ← H2.out, ← H3.out]
  clear H1 H2 H3 H4
  go_upto_region 4 with fail
  rw [← H5.out]
  clear H5 c0 c1
  go_wp2_with fail
  refine HC.out.mono ?_
  rintro e w1 ⟨rfl, ov, cs, hbx1, hgr⟩
  have Hown := Lib.hid hbx1.own; have Hrows := Lib.hid hbx1.rows
  obtain ⟨a, c, rfl, hq⟩ := rowq_own hbx1.own hbx1.rows.one
  have Hq := Lib.hid hq
  obtain ⟨z1, z2, z3, z4, n1, n2, n3⟩ := hbx1.cells
  have Hb1 := Lib.hid (Hb0.out.trans (hgr.below (B := W.heap.size) hcl (by omega) (by simp [Value.ownBlock])))
  clear hbx1 hgr hq HC x0 x1 x2 x3 y1 y2 y3 y4 Hbx hcb
  go_wp2_with fail
  go_ret
  simp only [List.nil_append] at Hown Hrows ⊢
  exact ⟨_, cs, rfl, own_from Hown.out (by omega), Hrows.out.keep (Nat.le_refl _) (fun _ _ _ => rfl) (fun b hb _ => ⟨by have := hb.1; omega, hb.2⟩), Hb1.out⟩
theorem paths_c {cb MX : Nat} {caps : Array Value} {want : NodeD → Bool} (hcb : ∀ args w, (callFunc cb args).run Tryz.prog w = .ok (.enter cb args) w) (n : NodeD) (v : Value) (W : World) (hA : WantC W.heap.size cb caps want MX) (hMX : n.wt ≤ MX) (hw : n.wt ≤ 100000000) (hv : NodeV W W.heap.size n v) :
    Calls Tryz.prog 41 #[v, .func (.func cb) #[] caps] W (ListP W (pathsW want n [])) := (pathsO_c hcb n v W hA hMX hw hv).mono fun _ _ h => h.p

theorem all1_ent : ∀ args w, (callFunc 42 args).run Tryz.prog w = .ok (.enter 42 args) w := by intro args w; kernel_rfl
set_option maxRecDepth 100000 in
theorem all_want (B M : Nat) : WantC B 42 #[] (fun _ => true) M := by
  intro n v W hM hv hB
  obtain ⟨lf, ps, t, ks⟩ := n
  obtain ⟨ap, cp, at_, ct, ak, ck, css, rfl, -, -, -, -⟩ := hv.open
  have hb0 := (Below.refl W.heap.size W).alloc (Nat.le_refl _) (Obj.cells #[.bool lf, .slice ap ps.length cp, .slice at_ t.length ct, .slice ak ks.length ck] 35)
  clear hv hM
  show Calls Tryz.prog 42 #[.agg #[.bool lf, .slice ap ps.length cp, .slice at_ t.length ct, .slice ak ks.length ck]] W _
  go_enter Tryz.func42, Tryz.ntmps42
  go_wp2_with fail
  go_ret
  exact ⟨rfl, hb0⟩

set_option maxRecDepth 100000 in
set_option maxHeartbeats 1000000 in
/-- All paths of a tree. -/
theorem allO_c (n : NodeD) (v : Value) (W : World) (hw : n.wt ≤ 100000000) (hv : NodeV W W.heap.size n v) :
    Calls Tryz.prog 20 #[v] W (ListO W (pathsW (fun _ => true) n [])) := by
  have hv0 := hv
  obtain ⟨lf, ps, t, ks⟩ := n
  obtain ⟨ap, cp, at_, ct, ak, ck, css, rfl, -, -, -, -⟩ := hv0.open
  generalize NodeD.mk lf ps t ks = n at hv hw ⊢
  have hb0 := (Below.refl W.heap.size W).alloc (Nat.le_refl _) (Obj.cells #[.bool lf, .slice ap ps.length cp, .slice at_ t.length ct, .slice ak ks.length ck] 35)
  have HC := Lib.hid (pathsO_c all1_ent n _ _ (all_want _ n.wt) (Nat.le_refl _) hw (hv.keep hb0 hb0.size))
  have Hb0 := Lib.hid hb0
  clear hb0 hv hv0 hw
  go_enter Tryz.func20, Tryz.ntmps20
  go_wp2_with fail
  refine HC.out.mono ?_
  rintro e w1 ⟨u, cs, rfl, hq, hp, hb⟩
  have Hq := Lib.hid hq; have Hp := Lib.hid hp; have Hb := Lib.hid (Hb0.out.trans (hb.mono Hb0.out.size))
  have hs := Hb0.out.size
  obtain ⟨a, c, hu, -⟩ := rowq_own hq hp.one
  subst hu
  clear hq hp hb HC
  go_wp2_with fail
  go_ret
  exact ⟨_, cs, rfl, own_from Hq.out hs, Hp.out.keep (Nat.le_refl _) (fun _ _ _ => rfl) (fun b hb _ => ⟨Nat.le_trans hs hb.1, hb.2⟩), Hb.out⟩
theorem all_c (n : NodeD) (v : Value) (W : World) (hw : n.wt ≤ 100000000) (hv : NodeV W W.heap.size n v) :
    Calls Tryz.prog 20 #[v] W (ListP W (pathsW (fun _ => true) n [])) := (allO_c n v W hw hv).mono fun _ _ h => h.p

end Go.Proofs.YtajclfjedlkbcaaGreatDoor
/- Walks: dirty's elements; rows of paths that are read, and copied; a path put behind a row. -/
namespace Go.Proofs.YtajclfjedlkbcaaGreatDoor
open Go.RowKit Go.Redl
set_option linter.unusedVariables false

theorem pxs_filter (xs : List PX) (f : List Int → Bool) : pxs (xs.filter fun x => !!f x.1) = (pxs xs).filter f := by
  simp only [Bool.not_not]
  rw [List.filter_map]
  rfl
theorem elements_ent : ∀ args w, (callFunc 38 args).run Tryz.prog w = .ok (.enter 38 args) w := by intro args w; kernel_rfl
set_option maxRecDepth 100000 in
set_option maxHeartbeats 1000000 in
theorem elements_c (n : NodeD) (v : Value) (B M L : Nat) (vx : Value) (xs : List PX) (W : World) (hbig : n.wt ≤ 100000000) (hv : NodeV W B n v) (hB : B ≤ W.heap.size) (hBM : B ≤ M) (hx : RowX W M L vx xs) (hn : xs.length ≤ 100000000) :
    Calls Tryz.prog 38 #[v, vx] W (InP W M L vx xs (setL ((pxs xs).filter (isElem n)))) := by
  have hv0 := hv
  obtain ⟨lf, ps, t, ks⟩ := n
  obtain ⟨ap, cp, at_, ct, ak, ck, css, rfl, -, -, -, -⟩ := hv0.open
  generalize NodeD.mk lf ps t ks = n at hv hbig ⊢
  obtain ⟨w0, hw0⟩ : ∃ w0, w0 = W.alloc (Obj.cells #[.bool lf, .slice ap ps.length cp, .slice at_ t.length ct, .slice ak ks.length ck] 35) := ⟨_, rfl⟩
  have hb0 : Below W.heap.size W w0 := by rw [hw0]; exact one_below _ _
  have hA : At w0 W.heap.size [.bool lf, .slice ap ps.length cp, .slice at_ t.length ct, .slice ak ks.length ck] 35 := by rw [hw0]; exact At.fresh W _ _
  have hx0 := hx.below hb0
  have HD := Lib.hid (delx_c 85 #[.pointer (some ⟨W.heap.size, 0, none⟩)] (fun x => !isElem n x.1) M L vx xs w0 elem1_ent hx0 hn fun x hx' W' hg => by
    obtain ⟨x0, xa, xc⟩ := x
    have hne : some W.heap.size ≠ vx.ownBlock := fun e => by have := (hx.own.lt _ e.symm).2; omega
    have hA' : At W' W.heap.size [.bool lf, .slice ap ps.length cp, .slice at_ t.length ct, .slice ak ks.length ck] 35 := by
      unfold At; rw [hg.block _ hA.lt hne]; exact hA
    have hb' : Below B w0 W' := hg.old (Nat.le_trans hB hb0.size) fun k hk => Nat.le_trans hBM (hx0.ge k hk)
    have hb2 : Below B W W' := (hb0.mono hB).trans hb'
    exact elem1_c n _ _ _ _ W.heap.size x0 xa xc W' hbig (hv.keep hb2 (Nat.le_trans hB hb2.size)) hA' (PxQ.own (hx0.all _ hx') hg).row)
  have HS := Lib.hid (fun (w1 : World) (v' : Value) (hz : RowX w1 M L v' (xs.filter fun x => !(fun x : PX => !isElem n x.1) x)) => set_c M L v' _ w1 hz (Nat.le_trans (List.length_filter_le _ _) hn))
  obtain ⟨fs, hfs⟩ : ∃ fs, fs = xs.filter fun x => !(fun x : PX => !isElem n x.1) x := ⟨_, rfl⟩
  rw [← hfs] at HD HS
  have Hfs := Lib.hid hfs
  have hmf : ∀ (fn : Fn) (first cap : Array Value) (w : World), (Instr.makeFunc fn first cap).run Tryz.prog w = .ok (.func fn first cap) w := fun _ _ _ _ => rfl
  have Hb0 := Lib.hid hb0; have Hw0 := Lib.hid hw0
  obtain ⟨a, c, hvx⟩ := hx.form
  subst hvx
  clear hv hv0 hbig hb0 hw0 hA hx hx0 hB hBM hfs
  go_enter Tryz.func38, Tryz.ntmps38
  go_upto_region 1 with fail
  rw [← Hw0.out]
  clear Hw0
  go_wp2_with fail
  refine HD.out.mono ?_
  rintro e w1 ⟨v', rfl, hz, hk, hg⟩
  have HS1 := Lib.hid (HS.out w1 v' hz)
  obtain ⟨a', c', hv'⟩ := hz.form
  subst hv'
  have Hk := Lib.hid hk; have Hg := Lib.hid hg
  clear HD HS hz hk hg
  go_wp2_with fail
  refine HS1.out.mono ?_
  rintro e w2 ⟨v2, ys, rfl, hy, hp, hm, hk, hg⟩
  obtain ⟨a2, c2, hv2⟩ := hy.form
  subst hv2
  have Hy := Lib.hid hy; have Hp := Lib.hid hp; have Hm := Lib.hid hm; have Hk2 := Lib.hid hk; have Hg2 := Lib.hid hg
  clear HS1 hy hp hm hk hg
  go_wp2_with fail
  go_ret
  refine ⟨_, ys, rfl, Hy.out, ?_, fun x hx => (List.mem_filter.1 (Hfs.out ▸ Hm.out x hx)).1, fun k hk => Hk.out k (Hk2.out k hk), ?_⟩
  · rw [Hp.out, Hfs.out, pxs_filter]
  · refine (grown_of_below Hb0.out).trans (Hg.out.trans ?_)
    refine ⟨Hg2.out.os, Hg2.out.tape, Hg2.out.output, Hg2.out.size, fun k hk hne => Hg2.out.block k hk fun e => hne ?_⟩
    rw [Hk.out k e.symm]

end Go.Proofs.YtajclfjedlkbcaaGreatDoor
/- Walks: xpath's small, Move at no operation; dirty's marks at none. -/
namespace Go.Proofs.YtajclfjedlkbcaaGreatDoor
open Go.RowKit Go.Redl
set_option linter.unusedVariables false
set_option linter.unusedSimpArgs false

def bigB (z : Int) : Bool := decide (z < 0) || decide (1048576 < z)
/-- All numbers are 0 to the greatest one. -/
def smallB1 (l : List Int) : Bool := l.all fun z => !bigB z
set_option maxRecDepth 100000 in
set_option maxHeartbeats 1000000 in
theorem idx_int (n : Nat) (a : Option Addr) (cap cb : Nat) (caps : Array Value) (pred : Nat → Bool) (W : World) (hn : n ≤ 100000000) (hcb : ∀ args w, (callFunc cb args).run Tryz.prog w = .ok (.enter cb args) w)
    (H : ∀ (k : Nat) (W' : World), k < n → Below W.heap.size W W' → ∃ b off c0, a = some ⟨b, off, none⟩ ∧ W'.cell? ⟨b, off + k, none⟩ = some c0 ∧ Calls Tryz.prog cb (#[c0] ++ caps) W' fun e w' => e = .returned (.bool (pred k)) ∧ Below W'.heap.size W' w') :
    Calls Tryz.prog 135 #[.slice a n cap, .func (.func cb) #[] caps] W fun e w' => e = .returned (.int .i64 (idxP pred n)) ∧ Below W.heap.size W w' := by
  have HH := Lib.hid H
  clear H
  go_enter Tryz.func135, Tryz.ntmps135
  go_wp2_with fail
  go_loopg [8] n (fun g i wr => ∃ k : Nat, k + g = n ∧ i = .int .i64 k ∧ (∀ j, j < k → pred j = false) ∧ Below W.heap.size W wr)
  case atStart => exact ⟨0, by omega, rfl, by intro j hj; omega, Below.refl _ _⟩
  case round =>
    obtain ⟨k, hg, rfl, hb, hbr⟩ := hrel
    have Hbr := Lib.hid hbr; have Hb := Lib.hid hb
    by_cases hlt : k < n
    · obtain ⟨b, off, c0, rfl, h0, hC⟩ := HH.out k wr hlt hbr
      have hlti : (k : Int) < n := by omega
      clear hb hbr HH
      cases hp : pred k with
      | true =>
        rw [hp] at hC
        have HC := Lib.hid hC
        have Hr := Lib.hid (idxP_some hlt hp Hb.out)
        clear hC hp
        go_wp2_with fail
        refine HC.out.mono ?_
        rintro e w1 ⟨rfl, hbel⟩
        have Hb1 := Lib.hid (Hbr.out.trans (hbel.mono Hbr.out.size))
        clear hbel HC
        go_wp2_with fail
        go_ret
        exact ⟨ret_int Hr.out.symm, Hb1.out⟩
      | false =>
        rw [hp] at hC
        have HC := Lib.hid hC
        have Hr := Lib.hid (show ∀ j, j < k + 1 → pred j = false from fun j hj => by
          rcases Nat.lt_or_ge j k with h | h
          · exact Hb.out j h
          · obtain rfl : j = k := by omega
            exact hp)
        clear hC hp
        go_wp2_with fail
        refine HC.out.mono ?_
        rintro e w1 ⟨rfl, hbel⟩
        have Hb1 := Lib.hid (Hbr.out.trans (hbel.mono Hbr.out.size))
        clear hbel HC
        go_wp2_with fail
        go_roundg (gk - 1)
        case measure => omega
        case rel => exact ⟨k + 1, by omega, by go_num, Hr.out, Hb1.out⟩
    · obtain rfl : k = n := by omega
      have Hr := Lib.hid (idxP_none hb)
      clear hb hbr HH
      go_wp2_with fail
      go_ret
      exact ⟨ret_int Hr.out.symm, Hbr.out⟩

theorem small1_ent : ∀ args w, (callFunc 114 args).run Tryz.prog w = .ok (.enter 114 args) w := by intro args w; kernel_rfl
set_option maxRecDepth 100000 in
theorem small1_c (z : Int) (W : World) : Calls Tryz.prog 114 #[.int .i64 z] W fun e w' => e = .returned (.bool (bigB z)) ∧ Below W.heap.size W w' := by
  unfold bigB
  by_cases h : z < 0
  · have H := Lib.hid h
    go_enter Tryz.func114, Tryz.ntmps114
    go_wp2_with fail
    go_ret
    exact ⟨ret_bool (by simp [H.out]), Below.refl _ _⟩
  · have H := Lib.hid h
    have hd : decide (z < 0) = false := decide_eq_false h
    go_enter Tryz.func114, Tryz.ntmps114
    go_wp2_with fail
    go_ret
    exact ⟨ret_bool (by simp [H.out]), Below.refl _ _⟩
theorem cfint_ent : ∀ args w, (callFunc 113 args).run Tryz.prog w = .ok (.enter 113 args) w := by intro args w; kernel_rfl
theorem small_ent : ∀ args w, (callFunc 80 args).run Tryz.prog w = .ok (.enter 80 args) w := by intro args w; kernel_rfl
theorem smallB1_idx (l : List Int) : decide (0 ≤ idxP (fun k => bigB (l.getD k 0)) l.length) = !smallB1 l := by
  unfold smallB1
  rcases idxP_cases (fun k => bigB (l.getD k 0)) l.length with ⟨k, hk, h1, -, he⟩ | ⟨h1, he⟩
  · rw [he]
    have : l.all (fun z => !bigB z) = false := by
      rw [List.all_eq_false]
      refine ⟨l[k], List.getElem_mem hk, ?_⟩
      rw [getD_of_lt hk] at h1
      simp [h1]
    rw [this]; simp
  · rw [he]
    have : l.all (fun z => !bigB z) = true := by
      rw [List.all_eq_true]
      intro z hz
      obtain ⟨k, hk, rfl⟩ := List.mem_iff_getElem.1 hz
      have := h1 k hk
      rw [getD_of_lt hk] at this
      simp [this]
    rw [this]; rfl
set_option maxRecDepth 100000 in
theorem cfint_c (xs : List Int) (a : Option Addr) (cap B : Nat) (W : World) (hr : RowA W B 1 a xs.length cap (xs.map (Value.int .i64))) (hB : B ≤ W.heap.size) (hn : xs.length ≤ 100000000) :
    Calls Tryz.prog 113 #[.slice a xs.length cap, .func (.func 114) #[] #[]] W fun e w' => e = .returned (.bool (!smallB1 xs)) ∧ Below W.heap.size W w' := by
  have HI := Lib.hid (idx_int xs.length a cap 114 #[] (fun k => bigB (xs.getD k 0)) W hn small1_ent fun k W' hk hb => by
    obtain ⟨b, off, rfl, hlt, hc⟩ := hr.int_at k hk
    exact ⟨b, off, .int .i64 (xs.getD k 0), rfl, (hb.cell (by exact Nat.lt_of_lt_of_le hlt hB)).trans (hc k hk), small1_c _ W'⟩)
  have Hd := Lib.hid (smallB1_idx xs)
  generalize idxP (fun k => bigB (xs.getD k 0)) xs.length = z at HI Hd
  clear hr
  go_enter Tryz.func113, Tryz.ntmps113
  go_wp2_with fail
  refine HI.out.mono ?_
  rintro e w1 ⟨rfl, hbel⟩
  have Hb := Lib.hid hbel
  clear hbel HI
  go_wp2_with fail
  go_ret
  exact ⟨ret_bool Hd.out, Hb.out⟩
set_option maxRecDepth 100000 in
theorem small_c (xs : List Int) (a : Option Addr) (cap B : Nat) (W : World) (hr : RowA W B 1 a xs.length cap (xs.map (Value.int .i64))) (hB : B ≤ W.heap.size) (hn : xs.length ≤ 100000000) :
    Calls Tryz.prog 80 #[.slice a xs.length cap] W fun e w' => e = .returned (.bool (smallB1 xs)) ∧ Below W.heap.size W w' := by
  have HI := Lib.hid (cfint_c xs a cap B W hr hB hn)
  clear hr
  generalize smallB1 xs = z at HI ⊢
  go_enter Tryz.func80, Tryz.ntmps80
  go_wp2_with fail
  refine HI.out.mono ?_
  rintro e w1 ⟨rfl, hbel⟩
  have Hb := Lib.hid hbel
  clear hbel HI
  go_wp2_with fail
  go_ret
  exact ⟨ret_bool (by simp), Hb.out⟩
theorem stands_ent : ∀ args w, (callFunc 81 args).run Tryz.prog w = .ok (.enter 81 args) w := by intro args w; kernel_rfl
set_option maxRecDepth 100000 in
theorem stands0_c (v : Value) (W : World) : Calls Tryz.prog 81 #[.slice none 0 0, v] W fun e w' => e = .returned (.int .i64 0) ∧ w' = W := by
  go_enter Tryz.func81, Tryz.ntmps81
  go_wp2_with fail
  go_ret
  exact ⟨rfl, rfl⟩

theorem move_ent : ∀ args w, (callFunc 37 args).run Tryz.prog w = .ok (.enter 37 args) w := by intro args w; kernel_rfl
/-- Where a path goes when nothing is done. -/
def MoveP (W : World) (p : List Int) (e : Ending) (w' : World) : Prop :=
  Below W.heap.size W w' ∧ if smallB1 p then ∃ v, e = .returned (.tuple #[v, .bool true]) ∧ w'.ownsRow W.heap.size 3 1 v p.length (p.map (Value.int .i64)) else e = .returned (.tuple #[.slice none 0 0, .bool false])
set_option maxRecDepth 100000 in
set_option maxHeartbeats 1000000 in
theorem move0_c (xs : List Int) (a : Option Addr) (cap B : Nat) (W : World) (hr : RowA W B 1 a xs.length cap (xs.map (Value.int .i64))) (hB : B ≤ W.heap.size) (hn : xs.length ≤ 100000000) :
    Calls Tryz.prog 37 #[.slice a xs.length cap, .agg #[.int .i64 0, .slice none 0 0, .slice none 0 0, .int .i64 0, .bool false, .slice none 0 0, .slice none 0 0, .slice none 0 0, .slice none 0 0, .slice none 0 0, .slice none 0 0, .bool false, .slice none 0 0, .int .i64 0, .slice none 0 0, .int .i64 0, .bool false, .slice none 0 0, .int .i64 0, .slice none 0 0, .int .i64 0]] W (MoveP W xs) := by
  obtain ⟨w0, hw0⟩ : ∃ w0, w0 = W.alloc (Obj.cells #[.int .i64 0, .slice none 0 0, .slice none 0 0, .int .i64 0, .bool false, .slice none 0 0, .slice none 0 0, .slice none 0 0, .slice none 0 0, .slice none 0 0, .slice none 0 0, .bool false, .slice none 0 0, .int .i64 0, .slice none 0 0, .int .i64 0, .bool false, .slice none 0 0, .int .i64 0, .slice none 0 0, .int .i64 0] 59) := ⟨_, rfl⟩
  have hb0 : Below W.heap.size W w0 := by rw [hw0]; exact one_below _ _
  have hA : At w0 W.heap.size [.int .i64 0, .slice none 0 0, .slice none 0 0, .int .i64 0, .bool false, .slice none 0 0, .slice none 0 0, .slice none 0 0, .slice none 0 0, .slice none 0 0, .slice none 0 0, .bool false, .slice none 0 0, .int .i64 0, .slice none 0 0, .int .i64 0, .bool false, .slice none 0 0, .int .i64 0, .slice none 0 0, .int .i64 0] 59 := by rw [hw0]; exact At.fresh W _ _
  have HS := Lib.hid (small_c xs a cap B w0 (hr.keep (hb0.mono hB) (Nat.le_refl _)) (Nat.le_trans hB hb0.size) hn)
  have HN := Lib.hid (fun (w1 : World) => small_c [] none 0 0 w1 (RowA.empty _ _ _) (Nat.zero_le _) (by simp))
  have HZ := Lib.hid (fun (w1 : World) (p : Option Addr) (hp : RowA w1 w1.heap.size 1 p 1 1 [.int .i64 0]) => small_c [0] p 1 w1.heap.size w1 hp (Nat.le_refl _) (by simp))
  have HT := Lib.hid (fun (w1 : World) => stands0_c (.slice a xs.length cap) w1)
  have HC := Lib.hid (fun (w1 : World) (hb : Below w0.heap.size w0 w1) => clone_int B xs.length a cap (xs.map (Value.int .i64)) w1 (hr.keep ((hb0.trans (hb.mono hb0.size)).mono hB) (Nat.le_refl _)) (Nat.le_trans hB (hb0.trans (hb.mono hb0.size)).size) hn)
  have e0 : smallB1 [] = true := rfl
  have e1 : smallB1 [0] = true := by decide
  rw [e0] at HN; rw [e1] at HZ
  have HA := Lib.hid hA; have Hb0 := Lib.hid hb0; have Hw0 := Lib.hid hw0
  unfold MoveP
  cases hsm : smallB1 xs with
  | false =>
    rw [hsm] at HS
    clear hr hb0 hA hw0 hsm e0 e1
    go_enter Tryz.func37, Tryz.ntmps37
    go_upto_region 1 with fail
    rw [← Hw0.out]
    clear Hw0
    go_wp2_with fail
    refine HS.out.mono ?_
    rintro e w1 ⟨rfl, hbel⟩
    have Hb1 := Lib.hid (Hb0.out.trans (hbel.mono Hb0.out.size))
    clear hbel HS HN HZ HT HC HA
    go_wp2_with fail
    go_ret2
    exact ⟨Hb1.out, rfl⟩
  | true =>
    rw [hsm] at HS
    have c0 := hA.cell 0 rfl; have c1 := hA.cell 1 rfl; have c2 := hA.cell 2 rfl; have c3 := hA.cell 3 rfl
    have cl := hA.lt
    clear hr hb0 hA hw0 hsm e0 e1
    go_enter Tryz.func37, Tryz.ntmps37
    go_upto_region 1 with fail
    rw [← Hw0.out]
    clear Hw0
    go_wp2_with fail
    refine HS.out.mono ?_
    rintro e w1 ⟨rfl, hbel⟩
    have hA1 := HA.out.kept hbel
    have d1 := hA1.cell 1 rfl; have dl := hA1.lt
    have Hb1 := Lib.hid hbel
    clear hbel HS hA1 c0 c1 c2 c3 cl
    go_wp2_with fail
    refine (HN.out w1).mono ?_
    rintro e w2 ⟨rfl, hbel⟩
    have Hb2 := Lib.hid (below_and Hb1.out hbel)
    have hA2 := HA.out.kept Hb2.out
    have f2 := hA2.cell 2 rfl; have fl := hA2.lt
    clear hbel hA2 d1 dl
    go_wp2_with fail
    refine (HN.out w2).mono ?_
    rintro e w3 ⟨rfl, hbel⟩
    have Hb3 := Lib.hid (below_and Hb2.out hbel)
    have hA3 := HA.out.kept Hb3.out
    have g3 := hA3.cell 3 rfl; have gl := hA3.lt
    clear hbel hA3 f2 fl HN
    go_wp2_with fail
    refine (HZ.out _ _ (row_one w3 (.int .i64 0) 3 _ rfl (by simp))).mono ?_
    rintro e w4 ⟨rfl, hbel⟩
    have Hb4 := Lib.hid (below_and (Hb3.out.trans ((one_below w3 (Obj.cells #[Value.int .i64 0] 3)).mono Hb3.out.size)) hbel)
    have hA4 := HA.out.kept Hb4.out
    have k1 := hA4.cell 1 rfl; have kl := hA4.lt
    clear hbel hA4 g3 gl HZ
    go_wp2_with fail
    refine (HT.out w4).mono ?_
    rintro e w5 ⟨rfl, rfl⟩
    clear HT k1 kl
    go_wp2_with fail
    refine (HC.out w5 Hb4.out).mono ?_
    rintro e w6 ⟨v, rfl, hown, hbel⟩
    obtain ⟨va, vc, hv, -⟩ := rowq_own hown (ints_one .i64 xs)
    subst hv
    have Hown := Lib.hid hown; have Hb6 := Lib.hid (Hb0.out.trans ((below_and Hb4.out hbel).mono Hb0.out.size))
    have Hs4 := Lib.hid (Hb0.out.trans (Hb4.out.mono Hb0.out.size)).size
    clear hown hbel HC
    go_wp2_with fail
    go_ret2
    exact ⟨Hb6.out, _, rfl, own_from Hown.out Hs4.out⟩

end Go.Proofs.YtajclfjedlkbcaaGreatDoor
