/- Parts of the proof, one behind the other: RQL, RQM, RMA. -/
import Derived.Test.YtajclfjedlkbcaaGreatDoorWD11
import Derived.Test.YtajclfjedlkbcaaGreatDoorWD3
import Derived.Test.YtajclfjedlkbcaaGreatDoorWD5
import Derived.Test.YtajclfjedlkbcaaGreatDoorWD10
/- Walks: the reference's Copy of a tree, Get; a path with numbers behind it (RVB's walks, for a seat that has no operations). -/
namespace Go.Proofs.YtajclfjedlkbcaaGreatDoor
open Go.RowKit Go.Redl
set_option linter.unusedVariables false
set_option linter.unusedSimpArgs false

/-! ### paths -/
set_option maxRecDepth 100000 in
set_option maxHeartbeats 400000 in
theorem rpcopy_c (B n : Nat) (a : Option Addr) (cap : Nat) (cs : List Value) (w : World) (hr : RowA w B 1 a n cap cs) (hB : B ≤ w.heap.size) (hn : n ≤ 100000000) :
    Calls Tryz.prog 117 #[.slice a n cap] w (MadeRow w 3 1 n cs) := by
  go_enter Tryz.func117, Tryz.ntmps117
  go_wp2_with (at_builtin; refine wpList_app rfl _ _ 47 rfl w.heap.size 3 (.int .i64 0) 1 8 Tryz.underlying47 info_int rfl (by decide) _ 0 [] rfl (World.ownsRow_nil _ _ _ _) _ n cap B cs rfl hr ?h63 ?hb ?hbase ?_)
  case h63 => unfold maxLen; omega
  case hb => omega
  case hbase => simp
  intro v' w1 hown hgrow
  have Ho := Lib.hid hown; have Hg := Lib.hid hgrow; clear hown hgrow hr
  go_wp2_with fail
  go_ret
  exact ⟨v', rfl, by simpa using Ho.out, (Below.refl _ _).grown Hg.out (Nat.le_refl _) (by simp [Value.ownBlock])⟩
theorem with_ent : ∀ args w, (callFunc 90 args).run Tryz.prog w = .ok (.enter 90 args) w := by intro args w; kernel_rfl
set_option maxRecDepth 100000 in
set_option maxHeartbeats 1000000 in
theorem with_c (p l : List Int) (pa : Option Addr) (pc : Nat) (la : Option Addr) (lc : Nat) (W : World) (hp : RowA W W.heap.size 1 pa p.length pc (p.map (Value.int .i64))) (hl : RowA W W.heap.size 1 la l.length lc (l.map (Value.int .i64))) (hn : p.length + l.length ≤ 100000000) :
    Calls Tryz.prog 90 #[.slice pa p.length pc, .slice la l.length lc] W (PathP W (p ++ l)) := by
  have HC := Lib.hid (rpcopy_c _ p.length pa pc _ W hp (Nat.le_refl _) (by omega))
  have Hl := Lib.hid hl
  obtain ⟨zs, hzs⟩ : ∃ zs, zs = p ++ l := ⟨_, rfl⟩
  rw [← hzs]
  have Hzs := Lib.hid hzs
  clear hp hl hzs
  go_enter Tryz.func90, Tryz.ntmps90
  go_wp2_with fail
  refine HC.out.mono ?_
  rintro e w1 ⟨v, rfl, hown, hbel⟩
  have Ho := Lib.hid hown; have Hb1 := Lib.hid hbel
  have Hl1 := Lib.hid (Hl.out.keep hbel hbel.size)
  clear hown hbel HC
  go_wp2_with (at_builtin; refine wpList_app rfl _ _ 47 rfl W.heap.size 3 (.int .i64 0) 1 8 Tryz.underlying47 info_int rfl (by decide) _ _ _ rfl Ho.out _ l.length lc _ (l.map (Value.int .i64)) rfl Hl1.out ?h63 ?hb ?hbase ?_)
  case h63 => unfold maxLen; omega
  case hb => omega
  case hbase => exact Hb1.out.size
  intro v' w2 hown hgrow
  have hb2 := Hb1.out.grown hgrow Hb1.out.size (fun k hk => (Ho.out.lt k hk).1)
  rw [← List.map_append, show p.length + l.length = (p ++ l).length by simp, ← Hzs.out] at hown
  obtain ⟨a, c, rfl, hq⟩ := rowq_own hown (ints_one _)
  have Hq := Lib.hid hq; have Hb2 := Lib.hid hb2
  clear hown hgrow hb2 hq
  go_wp2_with fail
  go_ret
  exact ⟨_, _, rfl, Hq.out, Hb2.out⟩

/-! ### Copy -/
theorem r4copy_ent : ∀ args w, (callFunc 44 args).run Tryz.prog w = .ok (.enter 44 args) w := by intro args w; kernel_rfl
theorem r3copy_ent : ∀ args w, (callFunc 91 args).run Tryz.prog w = .ok (.enter 91 args) w := by intro args w; kernel_rfl
set_option maxRecDepth 100000 in
set_option maxHeartbeats 400000 in
theorem r3copy_c (B n : Nat) (a : Option Addr) (cap : Nat) (cs : List Value) (w : World) (hr : RowA w B 1 a n cap cs) (hB : B ≤ w.heap.size) (hn : n ≤ 100000000) :
    Calls Tryz.prog 91 #[.slice a n cap] w (MadeRow w 21 1 n cs) := by
  go_enter Tryz.func91, Tryz.ntmps91
  go_wp2_with (at_builtin; refine wpList_app rfl _ _ 32 rfl w.heap.size 21 (.int .i32 0) 1 4 Tryz.underlying32 info_int32 rfl (by decide) _ 0 [] rfl (World.ownsRow_nil _ _ _ _) _ n cap B cs rfl hr ?h63 ?hb ?hbase ?_)
  case h63 => unfold maxLen; omega
  case hb => omega
  case hbase => simp
  intro v' w1 hown hgrow
  have Ho := Lib.hid hown; have Hg := Lib.hid hgrow; clear hown hgrow hr
  go_wp2_with fail
  go_ret
  exact ⟨v', rfl, by simpa using Ho.out, (Below.refl _ _).grown Hg.out (Nat.le_refl _) (by simp [Value.ownBlock])⟩

set_option maxRecDepth 100000 in
set_option maxHeartbeats 4000000 in
theorem r4copy_c (m : Nat) : ∀ (n : NodeD) (v : Value) (W : World), n.wt ≤ m → n.wt ≤ 100000000 → NodeV W W.heap.size n v → Calls Tryz.prog 44 #[v] W (CopyP W n) := by
  induction m with
  | zero => intro n v W hm; have := wt_pos n; omega
  | succ m IH =>
    intro n v W hm hbig hv
    obtain ⟨lf, ps, t, ks⟩ := n
    obtain ⟨ap, cp, at_, ct, ak, ck, css, rfl, hp, ht, hk, hkk⟩ := hv.open
    have hwt : wtAll ks ≤ m := by simp only [NodeD.wt] at hm; omega
    have hpl : ps.length ≤ 100000000 := by have := propsWt_len ps; simp only [NodeD.wt] at hbig; omega
    have htl : t.length ≤ 100000000 := by simp only [NodeD.wt] at hbig; omega
    have hkl : ks.length ≤ 100000000 := by have := wtAll_len ks; simp only [NodeD.wt] at hbig; omega
    have hkw : wtAll ks ≤ 100000000 := by simp only [NodeD.wt] at hbig; omega
    obtain ⟨⟨at2, ct2, htv, htr⟩, htw⟩ := ht
    injection htv with e1 e2 e3
    subst e1; subst e3
    obtain ⟨w0, hw0⟩ : ∃ w0, w0 = (W.alloc (Obj.cells #[.bool lf, .slice ap ps.length cp, .slice at_ t.length ct, .slice ak ks.length ck] 35)).alloc (Obj.cells #[.bool false, .slice none 0 0, .slice none 0 0, .slice none 0 0] 35) := ⟨_, rfl⟩
    have hb0 : Below W.heap.size W w0 := by rw [hw0]; exact two_below _ _ _
    have hA : At w0 W.heap.size [.bool lf, .slice ap ps.length cp, .slice at_ t.length ct, .slice ak ks.length ck] 35 := by rw [hw0]; exact (At.fresh _ _ _).alloc _
    have hZ : At w0 (W.heap.size + 1) [.bool false, .slice none 0 0, .slice none 0 0, .slice none 0 0] 35 := by rw [hw0]; exact At.second _ _ _ _
    have HI := Lib.hid (fun (i : Nat) (h : i < ks.length) (v : Value) (W2 : World) (q : NodeV W2 W2.heap.size ks[i] v) => IH ks[i] v W2 (Nat.le_trans (wtAll_mem (List.getElem_mem h)) hwt) (Nat.le_trans (wtAll_mem (List.getElem_mem h)) hkw) q)
    have Htone := Lib.hid (show ∀ u ∈ t.map (Value.int .i32), u.oneCell' = true by intro u hu; obtain ⟨z, -, rfl⟩ := List.mem_map.1 hu; rfl)
    have Hp := Lib.hid (fun (w1 : World) (hb : Below w0.heap.size w0 w1) => hp.keep (hb0.trans (hb.mono hb0.size)) (hb0.trans (hb.mono hb0.size)).size)
    have HT := Lib.hid (fun (w1 : World) (hb : Below w0.heap.size w0 w1) => r3copy_c _ t.length at_ ct _ w1 (htr.keep (hb0.trans (hb.mono hb0.size)) (hb0.trans (hb.mono hb0.size)).size) (Nat.le_refl _) htl)
    have Hk := Lib.hid hk; have Hkk := Lib.hid hkk; have Htw := Lib.hid htw
    have Hw0 := Lib.hid hw0; have Hb0 := Lib.hid hb0; have HA := Lib.hid hA; have HZ := Lib.hid hZ
    have Hsz0 := Lib.hid (show w0.heap.size = W.heap.size + 1 + 1 by rw [hw0]; simp)
    have HS0 := Lib.hid (fun (w' : World) (hb : Below w0.heap.size w0 w') => (HA.out.kept hb).f4.1)
    clear IH hm hbig hv hp htr htw hk hkk hwt hkw hw0 hb0 hA hZ
    go_enter Tryz.func44, Tryz.ntmps44
    go_upto_region 1 with fail
    rw [← Hw0.out]
    clear Hw0
    go_cut [3] (fun q wx => ∃ N qa qc ra rc, q = .pointer (some ⟨N, 0, none⟩) ∧ At wx N [.bool lf, .slice qa ps.length qc, .slice ra t.length rc, .slice none 0 0] 35 ∧ w0.heap.size ≤ N ∧ RowQ wx (fun b => w0.heap.size ≤ b ∧ b ≠ N) 2 qa ps.length qc (propCells ps) ∧ RowQ wx (fun b => w0.heap.size ≤ b ∧ b ≠ N) 1 ra t.length rc (t.map (Value.int .i32)) ∧ Below w0.heap.size w0 wx)
    case first =>
      go_region_held3 (fun w' => w'.cell? ⟨W.heap.size, 0, none⟩ = some (.bool lf) ∧ w'.cell? ⟨W.heap.size, 1, none⟩ = some (.slice ap ps.length cp) ∧ w'.cell? ⟨W.heap.size, 2, none⟩ = some (.slice at_ t.length ct) ∧ w'.cell? ⟨W.heap.size, 3, none⟩ = some (.slice ak ks.length ck)) (refine HS0.out _ (by ((repeat (first | with_reducible exact Hb2.out | with_reducible exact Hb1.out | with_reducible exact Below.refl _ _ | with_reducible refine Below.drew ?_ | with_reducible refine Below.alloc ?_ ?_ _ | with_reducible refine Below.setCell ?_ ?_ _)) <;> (first | with_reducible exact Nat.le_refl _ | with_reducible exact Hb2.out.size | with_reducible exact Hb1.out.size | (have hsz := Hb2.out.size; simp [World.setCell]; omega) | (have hsz := Hb1.out.size; simp [World.setCell]; omega) | (simp; done) | (simp; omega) | omega))))
        (first
        | (refine step_app rfl _ _ 31 rfl _ 68 (.agg #[.string ⟨#[]⟩, .string ⟨#[]⟩]) 2 32 Tryz.underlying31 info_propC rfl (by decide) (.slice none 0 0) 0 [] ?_ (World.ownsRow_nil _ _ _ _) ap ps.length cp _ _ ?_ (Hp.out _ (by ((repeat (first | with_reducible exact Below.refl _ _ | with_reducible refine Below.drew ?_ | with_reducible refine Below.alloc ?_ ?_ _ | with_reducible refine Below.setCell ?_ ?_ _)) <;> (first | with_reducible exact Nat.le_refl _ | (simp; done) | (simp; omega) | omega)))) ?_ ?_ (Nat.le_refl _) ?_
           · go_simp
           · go_simp
           · unfold maxLen; omega
           · omega
           intro v1 w1 hown hgrow
           have hbel := below_of_grown hgrow
           have Hz1 := Lib.hid hbel.size
           have Hb1 := Lib.hid (Below.and (w0 := w0) (by ((repeat (first | with_reducible exact Below.refl _ _ | with_reducible refine Below.drew ?_ | with_reducible refine Below.alloc ?_ ?_ _ | with_reducible refine Below.setCell ?_ ?_ _)) <;> (first | with_reducible exact Nat.le_refl _ | (simp; done) | (simp; omega) | omega))) hbel)
           rw [Nat.zero_add, List.nil_append] at hown
           obtain ⟨qa, qc, rfl, hq⟩ := rowq_own hown (propCells_one _)
           have Hq := Lib.hid (hq.keep (Nat.le_refl _) (fun _ _ _ => rfl) (fun b hb hlt => And.intro hb hlt))
           first
             | (refine At.lay (N := ?_) (cs := [.bool false, .slice none 0 0, .slice none 0 0, .slice none 0 0]) (T := 35) (At.kept ?_ hbel) ?_
                rotate_left
                · (repeat (first | with_reducible exact At.second _ _ _ _ | with_reducible exact At.fresh _ _ _ | with_reducible refine At.drew ?_ | with_reducible refine At.alloc ?_ _))
                intro HN1)
             | skip
           clear hown hgrow hbel hq)
        | (refine step_call rfl 91 _ _ rfl r3copy_ent [.slice at_ t.length ct] ?_ _ (HT.out _ (by ((repeat (first | with_reducible exact Hb1.out | with_reducible exact Below.refl _ _ | with_reducible refine Below.drew ?_ | with_reducible refine Below.alloc ?_ ?_ _ | with_reducible refine Below.setCell ?_ ?_ _)) <;> (first | with_reducible exact Nat.le_refl _ | with_reducible exact Hb1.out.size | (have hsz := Hb1.out.size; simp [World.setCell]; omega) | (simp; done) | (simp; omega) | omega)))) ?_
           · go_simp
           rintro e w2 ⟨v2, rfl, hown, hbel⟩
           obtain ⟨ra, rc, rfl, hr⟩ := rowq_own hown Htone.out
           refine ⟨_, rfl, ?_⟩
           have Hz2 := Lib.hid hbel.size
           have Hs2 := Lib.hid (Below.and (w0 := w1) (by ((repeat (first | with_reducible exact Below.refl _ _ | with_reducible refine Below.drew ?_ | with_reducible refine Below.alloc ?_ ?_ _ | with_reducible refine Below.setCell ?_ ?_ _)) <;> (first | with_reducible exact Nat.le_refl _ | (simp; done) | (simp; omega) | omega))) hbel)
           have Hb2 := Lib.hid (Below.and (w0 := w0) (by ((repeat (first | with_reducible exact Hb1.out | with_reducible exact Below.refl _ _ | with_reducible refine Below.drew ?_ | with_reducible refine Below.alloc ?_ ?_ _ | with_reducible refine Below.setCell ?_ ?_ _)) <;> (first | with_reducible exact Nat.le_refl _ | with_reducible exact Hb1.out.size | (have hsz := Hb1.out.size; simp [World.setCell]; omega) | (simp; done) | (simp; omega) | omega))) hbel)
           have Hr := Lib.hid (hr.keep (Nat.le_refl _) (fun _ _ _ => rfl) (fun b hb hlt => And.intro hb hlt))
           first
             | (refine At.lay (N := ?_) (cs := [.bool false, .slice none 0 0, .slice none 0 0, .slice none 0 0]) (T := 35) (At.kept ?_ hbel) ?_
                rotate_left
                · (repeat (first | with_reducible exact HN1.out | with_reducible exact At.second _ _ _ _ | with_reducible exact At.fresh _ _ _ | with_reducible refine At.drew ?_ | with_reducible refine At.alloc ?_ _))
                intro HN2)
             | skip
           first
             | (obtain ⟨⟨n0, n1, n2, n3⟩, nf, nl⟩ := HN2.out.f4)
             | skip
           clear hown hbel hr))
      all_goals
        go_wp2_with fail
        go_meet
        case rel =>
          have hz1 := Hz1.out; have hz2 := Hz2.out
          simp at hz1 hz2
          refine ⟨_, qa, qc, ra, rc, rfl, ?_, ?_, ?_, ?_, ?_⟩
          · (repeat (first | with_reducible exact HN2.out | with_reducible exact HN2.out.s4 _ _ _ _ | with_reducible exact (HN2.out.alloc _).s4 _ _ _ _ | with_reducible exact At.second _ _ _ _ | with_reducible exact At.fresh _ _ _ | (with_reducible refine At.fresh2 ?_; (simp [World.setCell]; done)) | with_reducible refine At.drew ?_ | with_reducible refine At.alloc ?_ _ | (with_reducible refine At.n4 ?_ ?_ _ _ _ _; rotate_left; (omega))))
          · omega
          · (repeat (first | with_reducible refine rowq_s4 ?_ (by simp) _ _ _ _ | with_reducible refine rowq_alloc ?_ _))
            refine (Hq.out.since Hs2.out).keep (Nat.le_refl _) (fun _ _ _ => rfl) (fun b hb hlt => ?_)
            try simp at hb
            constructor <;> omega
          · (repeat (first | with_reducible refine rowq_s4 ?_ (by simp) _ _ _ _ | with_reducible refine rowq_alloc ?_ _))
            refine Hr.out.keep (Nat.le_refl _) (fun _ _ _ => rfl) (fun b hb hlt => ?_)
            try simp at hb
            constructor <;> omega
          · ((repeat (first | with_reducible exact Hb2.out | with_reducible exact Below.refl _ _ | with_reducible refine Below.drew ?_ | with_reducible refine Below.alloc ?_ ?_ _ | with_reducible refine Below.setCell ?_ ?_ _)) <;> (first | with_reducible exact Nat.le_refl _ | with_reducible exact Hb2.out.size | (have hsz := Hb2.out.size; simp [World.setCell]; omega) | (simp; done) | (simp; omega) | omega))
    case rest =>
      obtain ⟨N, qa, qc, ra, rc, rfl, hN, hN0, hq, hr, hbc⟩ := hcut
      have HA1 := Lib.hid (HA.out.kept hbc); have HZ1 := Lib.hid (HZ.out.kept hbc)
      have Hbc := Lib.hid (Hb0.out.trans (hbc.mono Hb0.out.size))
      have HN := Lib.hid hN; have Hq := Lib.hid hq; have Hr := Lib.hid hr
      have hA1 := HA1.out
      have hNl := hN.lt
      obtain ⟨⟨x0, x1, x2, x3⟩, -, xl⟩ := hA1.f4
      clear hN hq hr hbc hA1 HS0 HT Hp HA HZ
      go_wp2_with fail
      clear x0 x1 x2 x3 xl
      go_loopg [18] ks.length (fun g i wr => ∃ (j : Nat) (kv : Value) (csN : List Value), i = .int .i64 j ∧ j + g = ks.length ∧ At wr N [.bool lf, .slice qa ps.length qc, .slice ra t.length rc, kv] 35 ∧ At wr (W.heap.size + 1) [.bool false, .slice none 0 0, .slice none 0 0, .slice none 0 0] 35 ∧
        wr.ownsRow wc.heap.size 35 4 kv j csN ∧ KidsQ wr (fun b => wc.heap.size ≤ b ∧ kv.ownBlock ≠ some b) (ks.take j) csN ∧ RowQ wr (fun b => w0.heap.size ≤ b ∧ b ≠ N ∧ b < wc.heap.size) 2 qa ps.length qc (propCells ps) ∧ RowQ wr (fun b => w0.heap.size ≤ b ∧ b ≠ N ∧ b < wc.heap.size) 1 ra t.length rc (t.map (Value.int .i32)) ∧ Below W.heap.size W wr ∧ wc.heap.size ≤ wr.heap.size)
      case atStart => exact ⟨0, .slice none 0 0, [], rfl, by omega, HN.out, HZ1.out, World.ownsRow_nil _ _ _ _, by simp only [List.take_zero]; unfold KidsQ; rfl, Hq.out.keep (Nat.le_refl _) (fun _ _ _ => rfl) (fun b hb hlt => ⟨hb.1, hb.2, hlt⟩), Hr.out.keep (Nat.le_refl _) (fun _ _ _ => rfl) (fun b hb hlt => ⟨hb.1, hb.2, hlt⟩), Hbc.out, Nat.le_refl _⟩
      case round =>
        obtain ⟨j, kv, csN, rfl, hg, hN, hZ, hown, hkq, hq, hr, hbr, hcs⟩ := hrel
        by_cases hlt : j < ks.length
        · --<3
          have hlti : (j : Int) < ks.length := by omega
          have hkr := Hk.out.keep hbr hbr.size; have hkkr := KidsC.keep hbr hbr.size _ _ Hkk.out
          obtain ⟨kb, ko, a1, c1, a2, c2, a3, c3, rfl, hkb, hnv, -, g0, g1, g2, g3⟩ := kidO hkr hkkr j hlt
          have HIj := Lib.hid (HI.out j hlt)
          have htk : ks.take (j + 1) = ks.take j ++ [ks[j]] := List.take_succ_eq_append_getElem hlt
          generalize ks[j] = q at hnv HIj htk g0 g1 g2 g3
          obtain ⟨va, vc, rfl, -⟩ := row_of_own hown (KidsQ.onec hkq)
          have Htk := Lib.hid htk
          obtain ⟨w4, hw4⟩ : ∃ w4, w4 = wr.alloc (Obj.cells #[.bool (leafOf q), .slice a1 (propsOf q).length c1, .slice a2 (textOf q).length c2, .slice a3 (kidsOf q).length c3] 35) := ⟨_, rfl⟩
          have hb4 : Below wr.heap.size wr w4 := by rw [hw4]; exact one_below _ _
          have hK4 : At w4 wr.heap.size [.bool (leafOf q), .slice a1 (propsOf q).length c1, .slice a2 (textOf q).length c2, .slice a3 (kidsOf q).length c3] 35 := by rw [hw4]; exact At.fresh _ _ _
          have HNV := Lib.hid (hnv.keep hb4.drew hb4.drew.size)
          have hN4 := hN.kept hb4
          have Hw4 := Lib.hid hw4; have Hb4 := Lib.hid hb4
          have HN := Lib.hid hN; have HZ := Lib.hid hZ; have Hown := Lib.hid hown; have Hkq := Lib.hid hkq; have Hq := Lib.hid hq; have Hr := Lib.hid hr; have Hbr := Lib.hid hbr
          have hnl := hN.lt
          clear hkr hkkr hnv htk hw4 hN hZ hown hkq hq hr hbr
          go_upto_region 5 with fail
          rw [← Hw4.out]
          clear Hw4
          obtain ⟨⟨y0, y1, y2, y3⟩, yf, yl⟩ := hN4.f4
          obtain ⟨⟨z0, z1, z2, z3⟩, zf, zl⟩ := hK4.f4
          have HN4 := Lib.hid hN4
          clear hN4 hK4 hb4 g0 g1 g2 g3
          go_region_law (first
            | (refine step_call rfl 44 _ _ rfl r4copy_ent [.agg #[.bool (leafOf q), .slice a1 (propsOf q).length c1, .slice a2 (textOf q).length c2, .slice a3 (kidsOf q).length c3]] ?_ _ (HIj.out _ _ HNV.out) ?_
               · go_simp
               rintro e w5 ⟨cs, rfl, hn, hbel⟩
               obtain ⟨l, b1, m1, k1, b2, m2, k2, b3, m3, k3, rfl⟩ := hn.form
               refine ⟨_, rfl, ?_⟩
               have hb5 := ((Below.refl w4.heap.size w4).drew).trans hbel
               have Hb5 := Lib.hid (Hb4.out.trans (hb5.mono Hb4.out.size))
               have hN5 := HN4.out.kept hb5
               obtain ⟨⟨p0, p1, p2, p3⟩, pf, pl⟩ := hN5.f4
               have HN5 := Lib.hid hN5
               have hs5 := Hb5.out.size
               have Hown5 := Lib.hid (own_keep Hown.out Hb5.out)
               have HZ5 := Lib.hid (HZ.out.kept Hb5.out)
               have Hn := Lib.hid (NodeQ.keep (ok' := fun b => wr.heap.size ≤ b) (Nat.le_refl _) (fun _ _ _ => rfl) (fun b hb _ => Nat.le_trans Hb4.out.size hb) _ _ hn)
               clear hbel hb5 hn hN5)
            | (refine step_app2 rfl _ _ 33 rfl wc.heap.size 35 (.agg #[.bool false, .slice none 0 0, .slice none 0 0, .slice none 0 0]) 4 80 Tryz.underlying33 info_nodeC rfl (by decide) (.slice va j vc) j csN ?_ (Hown5.out.alloc _) ⟨w5.heap.size, 0, none⟩ 1 1 (w5.heap.size + 1) [.bool l, .slice b1 m1 k1, .slice b2 m2 k2, .slice b3 m3 k3] ?_ ?_ ?_ ?_ ?_ ?_
               · go_simp
               · go_simp
               · exact row_four w5 _ _ _ _ _ _ rfl rfl rfl rfl (by omega)
               · unfold maxLen; omega
               · omega
               · simp; omega
               intro v' w7 hown' hgrow hwhere
               have hba := one_below w5 (Obj.cells #[.bool l, .slice b1 m1 k1, .slice b2 m2 k2, .slice b3 m3 k3] 35)
               have hge := fun k e => (Hown.out.lt k e).1
               have hNx : (Value.slice va j vc).ownBlock ≠ some N := fun e => by have := hge _ e; omega
               have hN7 := (HN5.out.alloc (Obj.cells #[.bool l, .slice b1 m1 k1, .slice b2 m2 k2, .slice b3 m3 k3] 35)).grown hgrow hNx
               have HZ7 := Lib.hid ((HZ5.out.alloc (Obj.cells #[.bool l, .slice b1 m1 k1, .slice b2 m2 k2, .slice b3 m3 k3] 35)).grown hgrow (fun e => by have := hge _ e; have := Hsz0.out; omega))
               obtain ⟨va', vc', rfl, -⟩ := row_of_own hown' (by intro u hu; rcases List.mem_append.1 hu with h | h; exact KidsQ.onec Hkq.out u h; simp at h; rcases h with rfl | rfl | rfl | rfl <;> rfl)
               have Hst := Lib.hid (stay_kids Hown.out Hb5.out hba hgrow hwhere)
               have Hst2 := Lib.hid (stay_kid Hown.out hcs hba hgrow hwhere)
               have HqS := Lib.hid (Hq.out.keep (w' := w7) (ok' := fun b => w0.heap.size ≤ b ∧ b ≠ N ∧ b < wc.heap.size) Hst.out.size (fun b hb hlt => by rw [hgrow.block b (by simp; omega) (fun e => by have := hge _ e.symm; omega), hba.block b (by omega), Hb5.out.block b hlt]) (fun _ h _ => h))
               have HrS := Lib.hid (Hr.out.keep (w' := w7) (ok' := fun b => w0.heap.size ≤ b ∧ b ≠ N ∧ b < wc.heap.size) Hst.out.size (fun b hb hlt => by rw [hgrow.block b (by simp; omega) (fun e => by have := hge _ e.symm; omega), hba.block b (by omega), Hb5.out.block b hlt]) (fun _ h _ => h))
               have Hb7 := Lib.hid ((Hbr.out.trans ((Hb5.out.trans (hba.mono hs5)).mono Hbr.out.size)).grown hgrow (by simp; have := Hbr.out.size; omega) (fun k e => by have := hge k e; have := Hbc.out.size; omega))
               have Hown7 := Lib.hid hown'
               have HN7 := Lib.hid hN7
               obtain ⟨⟨t0, t1, t2, t3⟩, tf, tl⟩ := hN7.f4
               clear hown' hgrow hwhere hba hN7))
          all_goals
            go_wp2_with fail
            go_roundg (ks.length - (j + 1))
            case measure => omega
            case rel =>
              have hNw : W.heap.size ≤ N := by have := Hsz0.out; omega
              have hk3 : ¬ (wc.heap.size ≤ N ∧ (Value.slice va' (j + 1) vc').ownBlock ≠ some N) := fun h => by omega
              refine ⟨j + 1, .slice va' (j + 1) vc', csN ++ [.bool l, .slice b1 m1 k1, .slice b2 m2 k2, .slice b3 m3 k3], by go_num, by omega, HN7.out.set 3 _, HZ7.out.set_ne (by have := Hsz0.out; omega) _, ?_, ?_, rowq_set HqS.out (by simp), rowq_set HrS.out (by simp), Hb7.out.setCell (p := ⟨N, 3, none⟩) hNw _, ?_⟩
              · exact ownsRow_setCell_below (a := ⟨N, 3, none⟩) Hown7.out (by show N < wc.heap.size; omega) _
              · rw [Htk.out]
                exact kidsq_set (KidsQ.append (Hkq.out.stay Hst.out) (KidsQ.one (Hn.out.stay Hst2.out))) hk3
              · have := Hst.out.size; simp [World.setCell]; omega
        · --<4
          obtain rfl : j = ks.length := by omega
          rw [List.take_of_length_le (Nat.le_refl _)] at hkq
          obtain ⟨va, vc, rfl, hrow⟩ := row_of_own hown (KidsQ.onec hkq)
          have hZl := hZ.lt
          have Hgv := Lib.hid (show ∀ b, (Value.slice va ks.length vc).ownBlock = some b → wc.heap.size ≤ b from fun b e => (hown.lt b e).1)
          obtain ⟨⟨x0, x1, x2, x3⟩, xf, xl⟩ := hN.f4
          obtain ⟨⟨z0, z1, z2, z3⟩, zf, zl⟩ := hZ.f4
          obtain ⟨ka, kc, hka, hkr⟩ := rowq_own hown (KidsQ.onec hkq)
          injection hka with e1 e2 e3
          subst e1; subst e3
          have Hkr := Lib.hid hkr; have Hkq := Lib.hid hkq; have Hq := Lib.hid hq; have Hr := Lib.hid hr; have Hbr := Lib.hid hbr
          clear hkr hkq hq hr hbr hrow hown hN hZ
          go_wp2_with fail
          refine bodyPost_ret (v := .agg #[.bool lf, .slice qa ps.length qc, .slice ra t.length rc, .slice va ks.length vc]) (by simp [results, Tryz.results44, go_sem, z0, z1, z2, z3]) rfl ?_
          have hcl : W.heap.size ≤ W.heap.size + 1 := by omega
          have hw1 := Hsz0.out
          have hwc : W.heap.size ≤ wc.heap.size := by omega
          refine ⟨[.bool lf, .slice qa ps.length qc, .slice ra t.length rc, .slice va ks.length vc], rfl, ?_, below_all Hbr.out hcl _ _ _ _⟩
          unfold NodeQ
          have f1 : ¬ (w0.heap.size ≤ W.heap.size + 1 ∧ W.heap.size + 1 ≠ N ∧ W.heap.size + 1 < wc.heap.size) := by omega
          have f2 : ¬ (wc.heap.size ≤ W.heap.size + 1) := by omega
          refine ⟨qa, qc, ra, rc, va, vc, csN, rfl, (rowq_s4 Hq.out f1 _ _ _ _).imp (fun b hb => by omega), (rowq_s4 Hr.out f1 _ _ _ _).imp (fun b hb => by omega), Htw.out, (rowq_s4 Hkr.out f2 _ _ _ _).imp (fun b hb => by omega), ?_⟩
          exact KidsQ.keep (ok := fun b => wc.heap.size ≤ b) (Nat.le_refl _) (fun _ _ _ => rfl) (fun b hb _ => by omega) _ _ (kidsq_set (kidsq_set (kidsq_set (kidsq_set (KidsQ.keep (Nat.le_refl _) (fun _ _ _ => rfl) (fun b hb _ => hb.1) _ _ Hkq.out) f2) f2) f2) f2)

/-! ### Get -/
theorem rget_ent : ∀ args w, (callFunc 22 args).run Tryz.prog w = .ok (.enter 22 args) w := by intro args w; kernel_rfl
set_option maxRecDepth 100000 in
set_option maxHeartbeats 4000000 in
theorem rget_c (n : NodeD) (p : List Int) (v : Value) (pa : Option Addr) (pc : Nat) (W : World) (hbig : n.wt ≤ 100000000) (hv : NodeV W W.heap.size n v) (hp : RowA W W.heap.size 1 pa p.length pc (p.map (Value.int .i64))) :
    Calls Tryz.prog 22 #[v, .slice pa p.length pc] W (GetP W (atN n p)) := by
  have hm : p.length ≤ 9223372036854775807 := by have h1 := hp.le; have h2 := hp.max; unfold maxLen at h2; omega
  obtain ⟨csn, rfl, hc⟩ := hv
  obtain ⟨l, a1, m1, k1, a2, m2, k2, a3, m3, k3, rfl⟩ := hc.form
  obtain ⟨R, hR⟩ : ∃ R, R = atN n p := ⟨_, rfl⟩
  have hRw : ∀ m, R = some m → m.wt ≤ 100000000 := fun m h => Nat.le_trans (atN_wt p n m (hR ▸ h)) hbig
  rw [← hR]
  obtain ⟨w0, hw0⟩ : ∃ w0, w0 = (W.alloc (Obj.cells #[.bool l, .slice a1 m1 k1, .slice a2 m2 k2, .slice a3 m3 k3] 35)).alloc (Obj.cells #[.bool false, .slice none 0 0, .slice none 0 0, .slice none 0 0] 35) := ⟨_, rfl⟩
  have hb0 : Below W.heap.size W w0 := by rw [hw0]; exact two_below _ _ _
  have hA : At w0 W.heap.size [.bool l, .slice a1 m1 k1, .slice a2 m2 k2, .slice a3 m3 k3] 35 := by rw [hw0]; exact (At.fresh _ _ _).alloc _
  have hZ : At w0 (W.heap.size + 1) [.bool false, .slice none 0 0, .slice none 0 0, .slice none 0 0] 35 := by rw [hw0]; exact At.second _ _ _ _
  have HR := Lib.hid hR; have HRw := Lib.hid hRw; have Hc := Lib.hid hc; have Hp := Lib.hid hp
  have Hw0 := Lib.hid hw0; have Hb0 := Lib.hid hb0; have HA := Lib.hid hA; have HZ := Lib.hid hZ
  clear hR hRw hc hp hw0 hb0 hA hZ hbig
  go_enter Tryz.func22, Tryz.ntmps22
  go_upto_region 1 with fail
  rw [← Hw0.out]
  clear Hw0
  go_wp2_with fail
  go_loopg [10] p.length (fun g i wr => ∃ (k : Nat) (n' : NodeD) (l : Bool) (a1 : Option Addr) (m1 k1 : Nat) (a2 : Option Addr) (m2 k2 : Nat) (a3 : Option Addr) (m3 k3 : Nat), i = .int .i64 k ∧ k + g = p.length ∧ atN n' (p.drop k) = R ∧ NodeC W W.heap.size n' [.bool l, .slice a1 m1 k1, .slice a2 m2 k2, .slice a3 m3 k3] ∧ At wr W.heap.size [.bool l, .slice a1 m1 k1, .slice a2 m2 k2, .slice a3 m3 k3] 35 ∧ At wr (W.heap.size + 1) [.bool false, .slice none 0 0, .slice none 0 0, .slice none 0 0] 35 ∧ Below W.heap.size W wr)
  case atStart => exact ⟨0, n, l, a1, m1, k1, a2, m2, k2, a3, m3, k3, rfl, by omega, HR.out.symm, Hc.out, HA.out, HZ.out, Hb0.out⟩
  case round =>
    obtain ⟨k, n', l, a1, m1, k1, a2, m2, k2, a3, m3, k3, rfl, hg, hat, hnc, hA, hZ, hbr⟩ := hrel
    have Hat := Lib.hid hat; have HA := Lib.hid hA; have HZ := Lib.hid hZ; have Hbr := Lib.hid hbr
    have Hnc := Lib.hid hnc
    obtain ⟨⟨x0, x1, x2, x3⟩, xf, xl⟩ := hA.f4
    have hpr := Hp.out.keep hbr hbr.size
    clear hat HR hA hZ hbr
    by_cases hlt : k < p.length
    · have hd : p.drop k = p[k] :: p.drop (k + 1) := List.drop_eq_getElem_cons hlt
      have Hd := Lib.hid hd
      obtain ⟨pb, po, rfl, hpb, hcell0⟩ := hpr.int_at k hlt
      have hcell := hcell0 k hlt
      rw [getD_of_lt hlt] at hcell
      clear hcell0
      generalize p[k] = i at hcell Hd
      have hlti : (k : Int) < p.length := by omega
      clear hd
      obtain ⟨l', ps', t', ks'⟩ := n'
      have hnc2 := hnc
      unfold NodeC at hnc2
      obtain ⟨ap, cp, at_, ct, ak, ck, css, hcs, -, -, -, hk, hkk⟩ := hnc2
      injection hcs with e0 e1; injection e1 with e1 e2; injection e2 with e2 e3; injection e3 with e3 e4
      injection e3 with f1 f2 f3
      subst f1; subst f2; subst f3
      clear e0 e1 e2 e4 hnc
      by_cases h0 : 0 ≤ i
      · obtain ⟨j, rfl⟩ : ∃ j : Nat, i = j := ⟨i.toNat, by omega⟩
        by_cases hj : j < ks'.length
        · obtain ⟨kb, ko, l1, b1, o1, d1, b2, o2, d2, b3, o3, d3, rfl, hkb, hkn, g0, g1, g2, g3⟩ := hk.kid_at hkk j hj
          have Hat2 : Hid (atN ks'[j] (p.drop (k + 1)) = R) := by
            show _ = R
            rw [← Hat.out, Hd.out]
            simp [atN, kidsOf, List.getElem?_eq_getElem hj]
          have f0 := (Hbr.out.cell (p := ⟨kb, ko + j * 4, none⟩) hkb).trans g0
          have f1 := (Hbr.out.cell (p := ⟨kb, ko + j * 4 + 1, none⟩) hkb).trans g1
          have f2 := (Hbr.out.cell (p := ⟨kb, ko + j * 4 + 2, none⟩) hkb).trans g2
          have f3 := (Hbr.out.cell (p := ⟨kb, ko + j * 4 + 3, none⟩) hkb).trans g3
          have Hkn := Lib.hid hkn
          have hnl : decide ((j : Int) < 0) = false := by simp
          have hji : (j : Int) < ks'.length := by omega
          have hge : decide ((ks'.length : Int) ≤ j) = false := by simp; omega
          clear hkn hk hkk Hat g0 g1 g2 g3
          generalize ks'[j] = q at Hat2 Hkn
          go_wp2_with fail
          go_roundg (gk - 1)
          case measure => omega
          case rel => exact ⟨k + 1, q, l1, b1, o1, d1, b2, o2, d2, b3, o3, d3, by go_num, by omega, Hat2.out, Hkn.out, HA.out.s4 _ _ _ _, HZ.out.n4 (by omega) _ _ _ _, below_all Hbr.out (Nat.le_refl _) _ _ _ _⟩
        · have HR2 : Hid (R = none) := by
            show R = none
            rw [← Hat.out, Hd.out]
            simp [atN, kidsOf, List.getElem?_eq_none (Nat.le_of_not_lt hj)]
          have hnl : decide ((j : Int) < 0) = false := by simp
          have hge : decide ((ks'.length : Int) ≤ j) = true := by simp; omega
          have hZ := HZ.out
          obtain ⟨⟨z0, z1, z2, z3⟩, zf, zl⟩ := hZ.f4
          clear hk hkk Hat hZ
          go_wp2_with fail
          refine bodyPost_ret (v := .tuple #[.agg #[.bool false, .slice none 0 0, .slice none 0 0, .slice none 0 0], .int .i64 5]) (by simp [results, Tryz.results22, go_sem, z0, z1, z2, z3]) rfl ?_
          rw [HR2.out]
          exact ⟨rfl, below_all Hbr.out (show W.heap.size ≤ W.heap.size + 1 by omega) _ _ _ _⟩
      · have HR2 : Hid (R = none) := by
          show R = none
          rw [← Hat.out, Hd.out]
          simp only [atN]
          rw [if_neg h0]
        have hneg : i < 0 := by omega
        have hZ := HZ.out
        obtain ⟨⟨z0, z1, z2, z3⟩, zf, zl⟩ := hZ.f4
        clear hk hkk Hat hZ
        go_wp2_with fail
        refine bodyPost_ret (v := .tuple #[.agg #[.bool false, .slice none 0 0, .slice none 0 0, .slice none 0 0], .int .i64 5]) (by simp [results, Tryz.results22, go_sem, z0, z1, z2, z3]) rfl ?_
        rw [HR2.out]
        exact ⟨rfl, below_all Hbr.out (show W.heap.size ≤ W.heap.size + 1 by omega) _ _ _ _⟩
    · have hnl : decide ((k : Int) < p.length) = false := by simp; omega
      have HR2 : Hid (R = some n') := by
        show R = _
        rw [← Hat.out, List.drop_eq_nil_of_le (by omega)]
        rfl
      have HC := Lib.hid (r4copy_c _ n' (.agg #[.bool l, .slice a1 m1 k1, .slice a2 m2 k2, .slice a3 m3 k3]) wr (Nat.le_refl _) (HRw.out n' HR2.out) ⟨_, rfl, NodeC.keep Hbr.out Hbr.out.size _ _ hnc⟩)
      clear hnc
      go_wp2_with fail
      refine HC.out.mono ?_
      rintro e w2 ⟨cs, rfl, hn, hbel⟩
      obtain ⟨l', b1, o1, d1, b2, o2, d2, b3, o3, d3, rfl⟩ := hn.form
      have hZ2 := HZ.out.kept hbel
      obtain ⟨⟨z0, z1, z2, z3⟩, zf, zl⟩ := hZ2.f4
      have Hn := Lib.hid hn; have Hb2 := Lib.hid (Hbr.out.trans (hbel.mono Hbr.out.size)); have HZr := Lib.hid HZ.out.lt
      have Hs := Lib.hid hbel.size
      clear hbel hn hZ2 HC x0 x1 x2 x3 xf xl hpr
      go_wp2_with fail
      refine bodyPost_ret (v := .tuple #[.agg #[.bool l', .slice b1 o1 d1, .slice b2 o2 d2, .slice b3 o3 d3], .int .i64 0]) (by simp [results, Tryz.results22, go_sem, z0, z1, z2, z3]) rfl ?_
      rw [HR2.out]
      have hne : ¬ (wr.heap.size ≤ W.heap.size + 1) := by have := HZr.out; omega
      exact ⟨_, rfl, NodeQ.keep (ok := fun b => wr.heap.size ≤ b) (Nat.le_refl _) (fun _ _ _ => rfl) (fun b hb _ => by have := Hbr.out.size; omega) _ _ (nodeq_set (nodeq_set (nodeq_set (nodeq_set Hn.out hne) hne) hne) hne), below_all Hb2.out (show W.heap.size ≤ W.heap.size + 1 by omega) _ _ _ _⟩

end Go.Proofs.YtajclfjedlkbcaaGreatDoor
/- Walks: the reference's Above; a row of paths put behind a row; the reference's Paths. -/
namespace Go.Proofs.YtajclfjedlkbcaaGreatDoor
open Go.RowKit Go.Redl
set_option linter.unusedVariables false
set_option linter.unusedSimpArgs false

/-! ### Above -/
def raboveB (a b : List Int) : Bool := decide (a.length < b.length) && decide (a = b.take a.length)
theorem rabove_ent : ∀ args w, (callFunc 24 args).run Tryz.prog w = .ok (.enter 24 args) w := by intro args w; kernel_rfl
theorem rsame_ent : ∀ args w, (callFunc 23 args).run Tryz.prog w = .ok (.enter 23 args) w := by intro args w; kernel_rfl
set_option maxRecDepth 100000 in
theorem rabove_c (xs ys : List Int) (a a' : Option Addr) (cap cap' B : Nat) (w : World) (hr : RowA w B 1 a xs.length cap (xs.map (Value.int .i64))) (hr' : RowA w B 1 a' ys.length cap' (ys.map (Value.int .i64))) :
    Calls Tryz.prog 24 #[.slice a xs.length cap, .slice a' ys.length cap'] w fun e w' => e = .returned (.bool (raboveB xs ys)) ∧ Drawn w w' := by
  by_cases hlt : xs.length < ys.length
  · obtain ⟨a3, c3, hs3, hr3⟩ := hr'.cut_h 47 3 Tryz.underlying47 (fun W => by kernel_rfl) xs.length (Nat.le_of_lt hlt)
    have hl3 : (ys.take xs.length).length = xs.length := by simp; omega
    have HC := Lib.hid (show Calls Tryz.prog 23 #[.slice a xs.length cap, .slice a3 xs.length c3] w (fun e w' => e = .returned (.bool (decide (xs = ys.take xs.length))) ∧ Drawn w w') by
      have h := rpath_c a a3 cap c3 B xs (ys.take xs.length) w hr (by rw [hl3, List.map_take]; simpa using hr3)
      rw [hl3] at h
      exact h)
    have hR : raboveB xs ys = decide (xs = ys.take xs.length) := by unfold raboveB; rw [decide_eq_true hlt]; simp
    rw [hR]
    generalize decide (xs = ys.take xs.length) = R at HC
    have hlti : (xs.length : Int) < ys.length := by omega
    clear hr hr' hr3 hR hl3
    go_enter Tryz.func24, Tryz.ntmps24
    go_wp2_with fail
    refine HC.out.mono ?_
    rintro e w1 ⟨rfl, hd⟩
    have Hd := Lib.hid hd
    clear hd HC
    go_wp2_with fail
    go_ret
    exact ⟨rfl, Hd.out⟩
  · have hlti : ¬ (xs.length : Int) < ys.length := by omega
    have HR := Lib.hid (show raboveB xs ys = false by unfold raboveB; rw [decide_eq_false hlt]; rfl)
    clear hlt
    go_enter Tryz.func24, Tryz.ntmps24
    go_wp2_with fail
    go_ret
    exact ⟨ret_bool (by rw [HR.out]), ⟨0, rfl⟩⟩
theorem prefix_same {xs ys : List Int} : (decide (xs = ys) || raboveB xs ys) = xs.isPrefixOf ys := by
  rw [Bool.eq_iff_iff]
  simp only [raboveB, Bool.or_eq_true, Bool.and_eq_true, decide_eq_true_eq, List.isPrefixOf_iff_prefix]
  constructor
  · rintro (rfl | ⟨-, h⟩)
    · exact List.prefix_refl _
    · exact h ▸ List.take_prefix _ _
  · intro h
    have hl := h.length_le
    rcases Nat.lt_or_eq_of_le hl with hl | hl
    · exact .inr ⟨hl, List.prefix_iff_eq_take.1 h⟩
    · exact .inl (h.eq_of_length hl)

/-! ### rows -/
theorem step_appj {P : Program} {ops : Array Oper} {o : Oper} {a : Act} {w : World} {K : Act → World → Prop} {Q : Exit → Act → World → Prop} {E : Prop}
    (hg : o.guard = none) (s x : Operand) (ho : o.op = .call { callee := .builtin .append, args := #[s, x], argTypes := #[36, 36] })
    (ht : P.underlying 36 = some (.slice 47)) (hi : (P.info? 47).map (fun i => (i.zero, i.size, i.bytes)) = some (some (.slice none 0 0), 1, 24))
    (M L : Nat) (v : Value) (xs : List PX) (hs : a.eval s = v) (hO : RowX w M L v xs) (ys : List PX) (ya : Option Addr) (yc B : Nat) (hx : a.eval x = .slice ya ys.length yc) (hr : RowA w B 1 ya ys.length yc (ys.map pxV)) (hy : ∀ y ∈ ys, PxQ w (fun b => L ≤ b ∧ v.ownBlock ≠ some b) y)
    (hn : xs.length + ys.length ≤ 100000000) (hM : M ≤ w.heap.size)
    (h : ∀ v' w', RowX w' M L v' (xs ++ ys) → Below M w w' → w.grownBy w' v.ownBlock → K (a.put o.dst v') w') : if Region.wanted o (yielded ops a.tmps) = true then Oper.wp P o a w K Q else E := by
  cases ya with
  | none =>
    have hc0 : yc = 0 := hr.nil rfl
    have hn0 : ys.length = 0 := by have := hr.le; omega
    obtain rfl : ys = [] := List.eq_nil_of_length_eq_zero hn0
    subst hc0
    have hw : Region.wanted o (yielded ops a.tmps) = true := by simp [Region.wanted, hg]
    rw [if_pos hw]
    obtain ⟨i, hi', -, hsize, -⟩ := info_parts hi
    have hrun := run_append_owned_none (P := P) (w := w) M 36 o.type 47 i 1 ht hi' v xs.length (xs.map pxV) hO.own
    unfold Oper.wp execOp
    simp only [ho, resolve, invoke, builtin, Sem.run_bind, Sem.run_pure, Result.andThen_ok, List.map_toArray, List.map_cons, List.map_nil, hs, hx, List.length_nil, hrun]
    exact h v w (by rw [List.append_nil]; exact hO) (Below.refl _ _) (World.grownBy.refl _ _)
  | some ad =>
    refine step_app2 hg s x 36 ho M 47 (.slice none 0 0) 1 24 ht hi rfl (by decide) v xs.length (xs.map pxV) hs hO.own ad ys.length yc B (ys.map pxV) hx hr (by unfold maxLen; omega) (by omega) hM fun v' w' hown hgrow hwh => ?_
    refine h v' w' ⟨by rw [List.length_append, List.map_append]; exact hown, fun z hz => ?_⟩ ((Below.refl M w).grown hgrow hM (fun k hk => hO.ge k hk)) hgrow
    have hall : PxQ w (fun b => L ≤ b ∧ v.ownBlock ≠ some b) z := by
      rcases List.mem_append.1 hz with hz | hz
      · exact hO.all z hz
      · exact hy z hz
    refine hall.keep hgrow.size (fun b hb hlt => hgrow.block b hlt (fun e => hb.2 e.symm)) fun b hb hlt => ⟨hb.1, ?_⟩
    rcases hwh with e | e
    · rw [e]; exact hb.2
    · intro e2; have := e b e2; omega

/-! ### Paths -/
theorem rowq_at2 {w : World} {N : Nat} {cs : List Value} {T : TypeId} {ok : Nat → Prop} (h : At w N cs T) (n sz : Nat) (hl : cs.length = n * sz) (hn : n ≤ 100000000) (h1 : ∀ u ∈ cs, u.oneCell' = true) (hok : ok N) : RowQ w ok sz (some ⟨N, 0, none⟩) n n cs :=
  ⟨hl, Nat.le_refl _, by unfold maxLen; omega, h1, (fun e => by cases e), fun _ => ⟨N, 0, rfl, hok, h.lt, fun j u hj => by rw [Nat.zero_add]; exact h.cell j hj⟩⟩
theorem rpaths_ent : ∀ args w, (callFunc 43 args).run Tryz.prog w = .ok (.enter 43 args) w := by intro args w; kernel_rfl
/-- A list of paths, its row the call's own, its paths in no block ahead of L. -/
def ListL (W : World) (L : Nat) (l : List (List Int)) (e : Ending) (w' : World) : Prop :=
  ∃ v xs, e = .returned v ∧ RowX w' W.heap.size L v xs ∧ pxs xs = l ∧ Below W.heap.size W w'
set_option maxRecDepth 100000 in
set_option maxHeartbeats 4000000 in
theorem rpaths_c (m : Nat) : ∀ (n : NodeD) (p : List Int) (pa : Option Addr) (pc L : Nat) (v : Value) (W : World), n.wt ≤ m → p.length + n.wt ≤ 10000000 → NodeV W W.heap.size n v → PxQ W (fun b => L ≤ b) (p, pa, pc) → L ≤ W.heap.size →
    Calls Tryz.prog 43 #[v, .slice pa p.length pc, .bool false] W (ListL W L (pathsW (fun _ => true) n p)) := by
  induction m with
  | zero => intro n p pa pc L v W hm; have := wt_pos n; omega
  | succ m IH =>
    intro n p pa pc L v W hm hbig hv hp hL
    obtain ⟨lf, ps, t, ks⟩ := n
    obtain ⟨ap, cp, at_, ct, ak, ck, css, rfl, -, -, hk, hkk⟩ := hv.open
    have hwt : wtAll ks ≤ m := by simp only [NodeD.wt] at hm; omega
    have hkb : p.length + 1 + wtAll ks ≤ 10000000 := by simp only [NodeD.wt] at hbig; omega
    have hkl : ks.length ≤ 10000000 := by have := wtAll_len ks; omega
    have hlen0 := Lib.hid (show p.length ≤ 10000000 by omega)
    obtain ⟨w0, hw0⟩ : ∃ w0, w0 = W.alloc (Obj.cells #[.bool lf, .slice ap ps.length cp, .slice at_ t.length ct, .slice ak ks.length ck] 35) := ⟨_, rfl⟩
    have hb0 : Below W.heap.size W w0 := by rw [hw0]; exact one_below _ _
    have hA : At w0 W.heap.size [.bool lf, .slice ap ps.length cp, .slice at_ t.length ct, .slice ak ks.length ck] 35 := by rw [hw0]; exact At.fresh W _ _
    have HI := Lib.hid (fun (i : Nat) (h : i < ks.length) (qa : Option Addr) (qc L2 : Nat) (v : Value) (W2 : World) (hq : NodeV W2 W2.heap.size ks[i] v) (h2 : PxQ W2 (fun b => L2 ≤ b) (p ++ [(i : Int)], qa, qc)) (h3 : L2 ≤ W2.heap.size) => IH ks[i] (p ++ [(i : Int)]) qa qc L2 v W2 (Nat.le_trans (wtAll_mem (List.getElem_mem h)) hwt) (by have := wtAll_mem (List.getElem_mem h); simp; omega) hq h2 h3)
    obtain ⟨R, hR⟩ : ∃ R, R = pathsW (fun _ => true) (.mk lf ps t ks) p := ⟨_, rfl⟩
    have HR := Lib.hid (show [p] ++ pathsK (fun _ => true) ks 0 p = R by rw [hR, pathsW]; simp)
    have Hlen := Lib.hid (show R.length ≤ 10000000 by have := pathsW_len (fun _ => true) (.mk lf ps t ks) p; rw [hR]; omega)
    rw [← hR]
    have Hk := Lib.hid hk; have Hkk := Lib.hid hkk; have Hp := Lib.hid hp; have HL := Lib.hid hL
    have Hw0 := Lib.hid hw0; have Hb0 := Lib.hid hb0; have HA := Lib.hid hA
    obtain ⟨⟨x0, x1, x2, x3⟩, -, xl⟩ := hA.f4
    clear IH hm hbig hv hp hL hk hkk hwt hkb hw0 hb0 hA hR
    go_enter Tryz.func43, Tryz.ntmps43
    go_upto_region 1 with fail
    rw [← Hw0.out]
    clear Hw0
    go_cut [7] (fun b wx => ∃ a c, b = .slice a 0 c ∧ Hid (RowX wx w0.heap.size L (.slice a 0 c) []) ∧ Hid (w0 = wx))
    case first =>
      go_wp2_with fail
      go_meet
      case rel => exact ⟨none, 0, rfl, RowX.nil _ _ _, (show w0 = w0 from rfl)⟩
    case rest =>
      obtain ⟨na, nc, rfl, hnil, hww⟩ := hcut
      have hww2 := hww.out
      subst hww2
      clear hww
      go_upto_region 2 with fail
      go_cut [15] (fun b wx => b = .bool true ∧ Hid (w0 = wx))
      case first =>
        cases lf with
        | true =>
          go_wp2_with fail
          go_meet
          case rel => exact ⟨rfl, (show w0 = w0 from rfl)⟩
        | false =>
          go_wp2_with fail
          go_meet
          case rel => exact ⟨rfl, (show w0 = w0 from rfl)⟩
      case rest =>
        obtain ⟨rfl, hww⟩ := hcut
        have hww2 := hww.out
        subst hww2
        clear hww
        go_wp2_with (at_builtin; refine wpList_pushx rfl _ _ rfl Tryz.underlying36 info_slc w0.heap.size L (Value.slice na 0 nc) [] rfl ?hO (p, pa, pc) rfl rfl ?hq ?hn ?hM ?_)
        case hO => exact hnil.out
        case hq => exact RowQ.keep Hp.out Hb0.out.size (fun b _ hlt => Hb0.out.block b hlt) (fun b hb hlt => ⟨hb, fun e => by have := (hnil.out.own.lt b e).1; have := Hb0.out.size; omega⟩)
        case hn => simp
        case hM => exact Nat.le_refl _
        intro v1 w1 hv1 hb1
        obtain ⟨va, vc, hvf⟩ := hv1.form
        subst hvf
        have Hv1 := Lib.hid hv1; have Hb1 := Lib.hid hb1
        have HS0 := Lib.hid (fun (w' : World) (hb : Below w0.heap.size w0 w') => (HA.out.kept hb).f4.1)
        obtain ⟨y0, y1, y2, y3⟩ := HS0.out w1 hb1
        have yl := (HA.out.kept hb1).lt
        clear hv1 hb1 hnil x0 x1 x2 x3 xl
        go_wp2_with fail
        clear y0 y1 y2 y3 yl
        go_loopg [23, 7] ks.length (fun g i o wr => ∃ (k : Nat) (os : List PX), i = .int .i64 k ∧ k + g = ks.length ∧ Hid (pxs os ++ pathsK (fun _ => true) (ks.drop k) k p = R) ∧ Hid (RowX wr w0.heap.size L o os) ∧ Hid (Below w0.heap.size w0 wr))
        case atStart => exact ⟨0, [(p, pa, pc)], rfl, by omega, (show [p] ++ pathsK (fun _ => true) (ks.drop 0) 0 p = R from HR.out), Hv1, Hb1⟩
        case round =>
          obtain ⟨k, os, rfl, hg, hst, ho, hbr⟩ := hrel
          obtain ⟨oa, oc, hof⟩ := ho.out.form
          subst hof
          by_cases hlt : k < ks.length
          · have hlti : (k : Int) < ks.length := by omega
            have hbW := Hb0.out.trans (hbr.out.mono Hb0.out.size)
            have hk3 := Hk.out.keep hbW (Nat.le_refl _); have hc3 := KidsC.keep hbW (Nat.le_refl _) ks css Hkk.out
            obtain ⟨kb, ko, lk, a1, n1, c1, a2, n2, c2, a3, n3, c3, rfl, hkb, hkn, g0, g1, g2, g3⟩ := hk3.kid_at hc3 k hlt
            have HIk := Lib.hid (HI.out k hlt)
            have Hst := Lib.hid (show pxs os ++ (pathsW (fun _ => true) ks[k] (p ++ [(k : Int)]) ++ pathsK (fun _ => true) (ks.drop (k + 1)) (k + 1) p) = R by
              have h := hst.out
              rw [pathsK_step hlt] at h
              exact h)
            generalize ks[k] = q at hkn HIk Hst
            obtain ⟨w2, hw2⟩ : ∃ w2, w2 = wr.alloc (Obj.cells #[.bool lk, .slice a1 n1 c1, .slice a2 n2 c2, .slice a3 n3 c3] 35) := ⟨_, rfl⟩
            have hb2 : Below wr.heap.size wr w2 := by rw [hw2]; exact one_below _ _
            have hN2 : At w2 wr.heap.size [.bool lk, .slice a1 n1 c1, .slice a2 n2 c2, .slice a3 n3 c3] 35 := by rw [hw2]; exact At.fresh wr _ _
            have hbW2 := hbW.trans (hb2.mono hbW.size)
            have HW := Lib.hid (fun (w' : World) (la : Option Addr) (hb : Below w2.heap.size w2 w') (hl : RowA w' w'.heap.size 1 la 1 1 [.int .i64 (k : Int)]) => (show Calls Tryz.prog 90 #[.slice pa p.length pc, .slice la 1 1] w' (fun e wx => ∃ a c, e = .returned (.slice a (p.length + 1) c) ∧ PxQ wx (fun b => w2.heap.size ≤ b) (p ++ [(k : Int)], a, c) ∧ Below w'.heap.size w' wx) from
              (with_c p [(k : Int)] pa pc la 1 w' (RowQ.row (RowQ.keep Hp.out (hbW2.trans (hb.mono hbW2.size)).size (fun b _ hlt => (hbW2.trans (hb.mono hbW2.size)).block b hlt) (fun _ h _ => h))) hl (by have := hlen0.out; simp; omega)).mono (by
                rintro e wx ⟨a, c, rfl, hq, hbx⟩
                exact ⟨a, c, by simp, rowq_imp hq fun b hb2 => Nat.le_trans hb.size hb2, hbx⟩)))
            have HIq := Lib.hid (fun (qa : Option Addr) (qc : Nat) (w' : World) (hb : Below w2.heap.size w2 w') (h2 : PxQ w' (fun b => w2.heap.size ≤ b) (p ++ [(k : Int)], qa, qc)) => (show Calls Tryz.prog 43 #[.agg #[.bool lk, .slice a1 n1 c1, .slice a2 n2 c2, .slice a3 n3 c3], .slice qa (p.length + 1) qc, .bool false] w' (ListL w' w2.heap.size (pathsW (fun _ => true) q (p ++ [(k : Int)]))) from by
              have h := HIk.out qa qc w2.heap.size (.agg #[.bool lk, .slice a1 n1 c1, .slice a2 n2 c2, .slice a3 n3 c3]) w' ⟨_, rfl, NodeC.keep ((hb2.trans (hb.mono hb2.size)).mono hbW.size) (Nat.le_trans hbW2.size hb.size) _ _ hkn⟩ h2 hb.size
              simpa using h))
            have HO := Lib.hid (fun (w' : World) (hb : Below w2.heap.size w2 w') => ho.out.below (hb2.trans (hb.mono hb2.size)))
            have Hge := Lib.hid (show ∀ b, (Value.slice oa os.length oc).ownBlock = some b → b < w2.heap.size from fun b e => Nat.lt_of_lt_of_le (ho.out.own.lt b e).2 hb2.size)
            have HN2 := Lib.hid hN2; have Hge2 := Lib.hid (show ∀ b, (Value.slice oa os.length oc).ownBlock = some b → b < wr.heap.size from fun b e => (ho.out.own.lt b e).2)
            have HLw := Lib.hid (show L ≤ w2.heap.size from Nat.le_trans HL.out hbW2.size)
            have HS2 := Lib.hid (fun (w' : World) (hb : Below w2.heap.size w2 w') => (hN2.kept hb).f4.1)
            have Hw2 := Lib.hid hw2; have Hb2 := Lib.hid (hbr.out.trans (hb2.mono hbr.out.size))
            clear hbW hk3 hc3 hkn hw2 hb2 hN2 hbW2 HIk ho hst
            go_upto_region 7 with fail
            rw [← Hw2.out]
            clear Hw2 g0 g1 g2 g3
            go_region_held3 (fun w' => w'.cell? ⟨wr.heap.size, 0, none⟩ = some (.bool lk) ∧ w'.cell? ⟨wr.heap.size, 1, none⟩ = some (.slice a1 n1 c1) ∧ w'.cell? ⟨wr.heap.size, 2, none⟩ = some (.slice a2 n2 c2) ∧ w'.cell? ⟨wr.heap.size, 3, none⟩ = some (.slice a3 n3 c3)) (first | exact HX5.out | refine HS2.out _ (by ((repeat (first | with_reducible exact Hb4.out | with_reducible exact Hb3.out | with_reducible exact Below.refl _ _ | with_reducible refine Below.drew ?_ | with_reducible refine Below.alloc ?_ ?_ _ | with_reducible refine Below.setCell ?_ ?_ _)) <;> (first | with_reducible exact Nat.le_refl _ | with_reducible exact Hb4.out.size | with_reducible exact Hb3.out.size | (have hsz := Hb4.out.size; simp [World.setCell]; omega) | (have hsz := Hb3.out.size; simp [World.setCell]; omega) | (simp; done) | (simp; omega) | omega))))
              (first
              | (refine step_call rfl 90 _ _ rfl with_ent [.slice pa p.length pc, .slice (some ⟨w2.heap.size, 0, none⟩) 1 1] ?_ _ (HW.out _ _ (by ((repeat (first | with_reducible exact Below.refl _ _ | with_reducible refine Below.drew ?_ | with_reducible refine Below.alloc ?_ ?_ _ | with_reducible refine Below.setCell ?_ ?_ _)) <;> (first | with_reducible exact Nat.le_refl _ | (simp; done) | (simp; omega) | omega))) (RowQ.row (ok := fun _ => True) (rowq_at2 (T := 3) (by (repeat (first | with_reducible exact At.second _ _ _ _ | with_reducible exact At.fresh _ _ _ | with_reducible refine At.drew ?_ | with_reducible refine At.alloc ?_ _))) 1 1 rfl (by omega) (ints_one [(k : Int)]) trivial))) ?_
                 · go_simp
                 rintro e w3 ⟨qa, qc, rfl, hq, hbel⟩
                 refine ⟨_, rfl, ?_⟩
                 have Hb3 := Lib.hid (below_and (w0 := w2) (by ((repeat (first | with_reducible exact Below.refl _ _ | with_reducible refine Below.drew ?_ | with_reducible refine Below.alloc ?_ ?_ _ | with_reducible refine Below.setCell ?_ ?_ _)) <;> (first | with_reducible exact Nat.le_refl _ | (simp; done) | (simp; omega) | omega))) hbel)
                 have Hq := Lib.hid hq
                 clear hbel hq)
              | (refine step_call rfl 43 _ _ rfl rpaths_ent [.agg #[.bool lk, .slice a1 n1 c1, .slice a2 n2 c2, .slice a3 n3 c3], .slice qa (p.length + 1) qc, .bool false] ?_ _ (HIq.out qa qc _ (by ((repeat (first | with_reducible exact Hb3.out | with_reducible exact Below.refl _ _ | with_reducible refine Below.drew ?_ | with_reducible refine Below.alloc ?_ ?_ _ | with_reducible refine Below.setCell ?_ ?_ _)) <;> (first | with_reducible exact Nat.le_refl _ | with_reducible exact Hb3.out.size | (have hsz := Hb3.out.size; simp [World.setCell]; omega) | (simp; done) | (simp; omega) | omega))) Hq.out) ?_
                 · go_simp
                 rintro e w4 ⟨u, ys, rfl, hy, hyp, hbel⟩
                 obtain ⟨ya, yc, hyf⟩ := hy.form
                 subst hyf
                 refine ⟨_, rfl, ?_⟩
                 have Hb4 := Lib.hid (below_and (w0 := w2) (by ((repeat (first | with_reducible exact Hb3.out | with_reducible exact Below.refl _ _ | with_reducible refine Below.drew ?_ | with_reducible refine Below.alloc ?_ ?_ _ | with_reducible refine Below.setCell ?_ ?_ _)) <;> (first | with_reducible exact Nat.le_refl _ | with_reducible exact Hb3.out.size | (have hsz := Hb3.out.size; simp [World.setCell]; omega) | (simp; done) | (simp; omega) | omega))) hbel)
                 have Hyr := Lib.hid (show RowA w4 w4.heap.size 1 ya ys.length yc (ys.map pxV) by
                   obtain ⟨a', c', hv', hr'⟩ := hy.read.row
                   injection hv' with e1 e2 e3
                   subst e1; subst e3
                   exact hr')
                 have Hyq := Lib.hid (show ∀ y ∈ ys, PxQ w4 (fun b => L ≤ b ∧ (Value.slice oa os.length oc).ownBlock ≠ some b) y from fun y hy' => rowq_imp (hy.all y hy') fun b hb => ⟨Nat.le_trans HLw.out hb.1, fun e => by have := Hge.out b e; omega⟩)
                 have Hyn := Lib.hid (show os.length + ys.length ≤ 100000000 by
                   have h1 := congrArg List.length Hst.out
                   rw [← hyp] at h1
                   simp only [List.length_append, List.length_map] at h1
                   have := Hlen.out
                   omega)
                 have Hyp := Lib.hid hyp
                 clear hbel hy hyp)
              | (refine step_appj rfl _ _ rfl Tryz.underlying36 info_slc w0.heap.size L (.slice oa os.length oc) os ?_ (HO.out _ (by ((repeat (first | with_reducible exact Hb4.out | with_reducible exact Below.refl _ _ | with_reducible refine Below.drew ?_ | with_reducible refine Below.alloc ?_ ?_ _ | with_reducible refine Below.setCell ?_ ?_ _)) <;> (first | with_reducible exact Nat.le_refl _ | with_reducible exact Hb4.out.size | (have hsz := Hb4.out.size; simp [World.setCell]; omega) | (simp; done) | (simp; omega) | omega)))) ys ya yc w4.heap.size ?_ ?_ ?_ ?_ ?_ ?_
                 · go_simp
                 · go_simp
                 · exact Hyr.out
                 · exact Hyq.out
                 · exact Hyn.out
                 · exact Nat.le_trans Hb2.out.size Hb4.out.size
                 intro v5 w5 hv5 hb5 hg5
                 obtain ⟨v5a, v5c, hvf⟩ := hv5.form
                 subst hvf
                 have Hb5 := Lib.hid (Below.trans (Hb2.out.trans (Hb4.out.mono Hb2.out.size)) hb5)
                 have Hv5 := Lib.hid hv5
                 have HX5 := Lib.hid ((HN2.out.kept Hb4.out).grown hg5 (fun e => by have := Hge2.out _ e; omega)).f4.1
                 clear hv5 hb5 hg5))
            all_goals
              go_wp2_with fail
              go_roundg (ks.length - (k + 1))
              case measure => omega
              case rel => exact ⟨k + 1, os ++ ys, by go_num, by omega, (show pxs (os ++ ys) ++ pathsK (fun _ => true) (ks.drop (k + 1)) (k + 1) p = R by rw [pxs_append, Hyp.out, List.append_assoc]; exact Hst.out), (by rw [← List.length_append]; exact Hv5), Hb5⟩
          · obtain rfl : k = ks.length := by omega
            have Hfin := Lib.hid (show pxs os = R by have h := hst.out; rw [List.drop_length, pathsK, List.append_nil] at h; exact h)
            clear hst
            go_wp2_with fail
            go_ret
            exact ⟨_, os, rfl, ho.out.from Hb0.out.size (Nat.le_refl _), Hfin.out, Hb0.out.trans (hbr.out.mono Hb0.out.size)⟩

end Go.Proofs.YtajclfjedlkbcaaGreatDoor
/- Plain words: which schemas may be, and how far their fills go (table.Check, table.Fills). No walk yet. -/
namespace Go.Proofs.YtajclfjedlkbcaaGreatDoor
open Go.RowKit Go.Redl
set_option linter.unusedVariables false

/-- A text is a name. -/
def nameB (t : List UInt8) : Bool := decide (t ≠ []) && valB t
/-- An action may be. -/
def actB (lift : Bool) (a : ActD) : Bool := if a.1 = 4 then nameB a.2 else if a.1 = 3 then lift && decide (a.2 = []) else if a.1 = 1 ∨ a.1 = 2 then decide (a.2 = []) else false
/-- Names, and they rise. -/
def riseGo : Option (List UInt8) → List (List UInt8) → Bool
  | _, [] => true
  | none, t :: l => nameB t && riseGo (some t) l
  | some p, t :: l => nameB t && (!leB t p && riseGo (some t) l)
def riseB (l : List (List UInt8)) : Bool := riseGo none l && decide (l.length ≤ 32)
def fillB (r : RuleD) : Bool := (decide (r.fill = 0 ∨ r.fill = 1) && decide (r.fillT = [])) || (decide (r.fill = 2) && nameB r.fillT)
/-- A rule may be by itself. -/
def formedB (r : RuleD) : Bool := r.kids.all (fun p => actB true p.2) && (fillB r && (actB false r.text && (actB true r.other && riseB (r.kids.map (·.1)))))
/-- All rules. -/
abbrev allR (s : SchemaD) : List RuleD := s.rules ++ [s.els]
def ruleNames (r : RuleD) : List (List UInt8) := [r.type, r.text.2, r.other.2, r.fillT] ++ r.kids.flatMap (fun p => [p.1, p.2.2])
/-- All names, and the empty one; in no order. -/
def namesS (s : SchemaD) : List (List UInt8) := (allR s).flatMap ruleNames ++ [[]]
def wrapOk (s : SchemaD) (r : RuleD) (n : List UInt8) : Bool := !(decide ((actIn r n).1 = 4) && (decide ((actIn r (actIn r n).2).1 ≠ 1) || decide ((actIn (ruleOf s (actIn r n).2) n).1 ≠ 1)))
/-- What a rule wraps, and fills with, stays. -/
def settledB (s : SchemaD) (r : RuleD) : Bool :=
  !(decide (r.text.1 = 4) && (decide ((actIn r r.text.2).1 ≠ 1) || decide ((ruleOf s r.text.2).text.1 ≠ 1))) && ((namesS s).all (wrapOk s r) &&
    (if r.fill = 1 then decide (r.text.1 = 1) else if r.fill = 2 then decide ((actIn r r.fillT).1 = 1) else true))
/-- How many nodes fill an element of a rule, with so much fuel; -1: without an end. -/
def depthF (s : SchemaD) : Nat → List (List UInt8) → RuleD → Nat → Int
  | 0, _, _, _ => -1
  | f + 1, met, r, n => if r.fill = 0 then n else if r.fill = 1 then (n : Int) + 1 else if r.type ∈ met then -1 else depthF s f (r.type :: met) (ruleOf s r.fillT) (n + 1)
def depthN (s : SchemaD) (r : RuleD) : Int := depthF s (s.rules.length + 2) [] r 0
def orderB (s : SchemaD) : Bool := [1, 2, 3, 4, 5, 6].all fun c => decide ((s.order.filter (fun x => decide (x = c))).length = 1)
/-- Whether a schema may be: 12, or 0. -/
def checkS (s : SchemaD) : Int :=
  if orderB s && (decide (1 ≤ s.cap) && decide (s.cap ≤ 1048576)) && (decide (s.els.type = []) && (riseB (s.rules.map (·.type)) && (allR s).all formedB)) && (allR s).all (fun r => settledB s r && decide (0 ≤ depthN s r)) then 0 else 12
/-- How far fills go. -/
def fillsS (s : SchemaD) : Int × Int := if checkS s ≠ 0 then (0, checkS s) else ((allR s).foldl (fun m r => max m (depthN s r)) 0, 0)
theorem fills_ge (s : SchemaD) : 0 ≤ (fillsS s).1 := by
  unfold fillsS
  split
  · simp
  · have h : ∀ (l : List RuleD) (m : Int), 0 ≤ m → 0 ≤ l.foldl (fun m r => max m (depthN s r)) m := by
      intro l
      induction l with
      | nil => intro m hm; exact hm
      | cons r l ih => intro m hm; exact ih _ (by show 0 ≤ max m (depthN s r); omega)
    exact h _ 0 (Int.le_refl _)

end Go.Proofs.YtajclfjedlkbcaaGreatDoor
