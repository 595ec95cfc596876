/- Walks: the reference's Copy of a tree, Get; a path with numbers behind it. -/
import Derived.Test.YtiinmgccjlmoaaaRHS
import Derived.Test.YtiinmgccjlmoaaaRCQ
import Derived.Test.YtiinmgccjlmoaaaRVM
namespace Go.Proofs.Ytiinmgccjlmoaaa
open Go.RowKit Go.Redl
set_option linter.unusedVariables false
set_option linter.unusedSimpArgs false

/-! ### paths -/
set_option maxRecDepth 100000 in
set_option maxHeartbeats 400000 in
theorem rpcopy_c (B n : Nat) (a : Option Addr) (cap : Nat) (cs : List Value) (w : World) (hr : RowA w B 1 a n cap cs) (hB : B ≤ w.heap.size) (hn : n ≤ 1000000) :
    Calls Try.prog 65 #[.slice a n cap] w (MadeRow w 3 1 n cs) := by
  go_enter Try.func65, Try.ntmps65
  go_wp2_with (at_builtin; refine wpList_app rfl _ _ 36 rfl w.heap.size 3 (.int .i64 0) 1 8 Try.underlying36 info_int rfl (by decide) _ 0 [] rfl (World.ownsRow_nil _ _ _ _) _ n cap B cs rfl hr ?h63 ?hb ?hbase ?_)
  case h63 => unfold maxLen; omega
  case hb => omega
  case hbase => simp
  intro v' w1 hown hgrow
  have Ho := Lib.hid hown; have Hg := Lib.hid hgrow; clear hown hgrow hr
  go_wp2_with fail
  go_ret
  exact ⟨v', rfl, by simpa using Ho.out, (Below.refl _ _).grown Hg.out (Nat.le_refl _) (by simp [Value.ownBlock])⟩
theorem with_ent : ∀ args w, (callFunc 36 args).run Try.prog w = .ok (.enter 36 args) w := by intro args w; kernel_rfl
set_option maxRecDepth 100000 in
set_option maxHeartbeats 1000000 in
theorem with_c (p l : List Int) (pa : Option Addr) (pc : Nat) (la : Option Addr) (lc : Nat) (W : World) (hp : RowA W W.heap.size 1 pa p.length pc (p.map (Value.int .i64))) (hl : RowA W W.heap.size 1 la l.length lc (l.map (Value.int .i64))) (hn : p.length + l.length ≤ 1000000) :
    Calls Try.prog 36 #[.slice pa p.length pc, .slice la l.length lc] W (PathP W (p ++ l)) := by
  have HC := Lib.hid (rpcopy_c _ p.length pa pc _ W hp (Nat.le_refl _) (by omega))
  have Hl := Lib.hid hl
  obtain ⟨zs, hzs⟩ : ∃ zs, zs = p ++ l := ⟨_, rfl⟩
  rw [← hzs]
  have Hzs := Lib.hid hzs
  clear hp hl hzs
  go_enter Try.func36, Try.ntmps36
  go_wp2_with fail
  refine HC.out.mono ?_
  rintro e w1 ⟨v, rfl, hown, hbel⟩
  have Ho := Lib.hid hown; have Hb1 := Lib.hid hbel
  have Hl1 := Lib.hid (Hl.out.keep hbel hbel.size)
  clear hown hbel HC
  go_wp2_with (at_builtin; refine wpList_app rfl _ _ 36 rfl W.heap.size 3 (.int .i64 0) 1 8 Try.underlying36 info_int rfl (by decide) _ _ _ rfl Ho.out _ l.length lc _ (l.map (Value.int .i64)) rfl Hl1.out ?h63 ?hb ?hbase ?_)
  case h63 => unfold maxLen; omega
  case hb => omega
  case hbase => exact Hb1.out.size
  intro v' w2 hown hgrow
  have hb2 := Hb1.out.grown hgrow Hb1.out.size (fun k hk => (Ho.out.lt k hk).1)
  rw [← List.map_append, show p.length + l.length = (p ++ l).length by simp, ← Hzs.out] at hown
  obtain ⟨a, c, rfl, hq⟩ := rowq_own hown (ints_one _)
  have Hq := Lib.hid hq; have Hb2 := Lib.hid hb2
  clear hown hgrow hb2 hq
  go_wp2_with fail
  go_ret
  exact ⟨_, _, rfl, Hq.out, Hb2.out⟩

/-! ### Copy -/
theorem r4copy_ent : ∀ args w, (callFunc 62 args).run Try.prog w = .ok (.enter 62 args) w := by intro args w; kernel_rfl
theorem r3copy_ent : ∀ args w, (callFunc 93 args).run Try.prog w = .ok (.enter 93 args) w := by intro args w; kernel_rfl
set_option maxRecDepth 100000 in
set_option maxHeartbeats 400000 in
theorem r3copy_c (B n : Nat) (a : Option Addr) (cap : Nat) (cs : List Value) (w : World) (hr : RowA w B 1 a n cap cs) (hB : B ≤ w.heap.size) (hn : n ≤ 100000000) :
    Calls Try.prog 93 #[.slice a n cap] w (MadeRow w 21 1 n cs) := by
  go_enter Try.func93, Try.ntmps93
  go_wp2_with (at_builtin; refine wpList_app rfl _ _ 32 rfl w.heap.size 21 (.int .i32 0) 1 4 Try.underlying32 info_int32 rfl (by decide) _ 0 [] rfl (World.ownsRow_nil _ _ _ _) _ n cap B cs rfl hr ?h63 ?hb ?hbase ?_)
  case h63 => unfold maxLen; omega
  case hb => omega
  case hbase => simp
  intro v' w1 hown hgrow
  have Ho := Lib.hid hown; have Hg := Lib.hid hgrow; clear hown hgrow hr
  go_wp2_with fail
  go_ret
  exact ⟨v', rfl, by simpa using Ho.out, (Below.refl _ _).grown Hg.out (Nat.le_refl _) (by simp [Value.ownBlock])⟩

set_option maxRecDepth 100000 in
set_option maxHeartbeats 4000000 in
theorem r4copy_c (m : Nat) : ∀ (n : NodeD) (v : Value) (W : World), n.wt ≤ m → n.wt ≤ 100000000 → NodeV W W.heap.size n v → Calls Try.prog 62 #[v] W (CopyP W n) := by
  induction m with
  | zero => intro n v W hm; have := wt_pos n; omega
  | succ m IH =>
    intro n v W hm hbig hv
    obtain ⟨lf, ps, t, ks⟩ := n
    obtain ⟨ap, cp, at_, ct, ak, ck, css, rfl, hp, ht, hk, hkk⟩ := hv.open
    have hwt : wtAll ks ≤ m := by simp only [NodeD.wt] at hm; omega
    have hpl : ps.length ≤ 100000000 := by have := propsWt_len ps; simp only [NodeD.wt] at hbig; omega
    have htl : t.length ≤ 100000000 := by simp only [NodeD.wt] at hbig; omega
    have hkl : ks.length ≤ 100000000 := by have := wtAll_len ks; simp only [NodeD.wt] at hbig; omega
    have hkw : wtAll ks ≤ 100000000 := by simp only [NodeD.wt] at hbig; omega
    obtain ⟨⟨at2, ct2, htv, htr⟩, htw⟩ := ht
    injection htv with e1 e2 e3
    subst e1; subst e3
    obtain ⟨w0, hw0⟩ : ∃ w0, w0 = (W.alloc (Obj.cells #[.bool lf, .slice ap ps.length cp, .slice at_ t.length ct, .slice ak ks.length ck] 35)).alloc (Obj.cells #[.bool false, .slice none 0 0, .slice none 0 0, .slice none 0 0] 35) := ⟨_, rfl⟩
    have hb0 : Below W.heap.size W w0 := by rw [hw0]; exact two_below _ _ _
    have hA : At w0 W.heap.size [.bool lf, .slice ap ps.length cp, .slice at_ t.length ct, .slice ak ks.length ck] 35 := by rw [hw0]; exact (At.fresh _ _ _).alloc _
    have hZ : At w0 (W.heap.size + 1) [.bool false, .slice none 0 0, .slice none 0 0, .slice none 0 0] 35 := by rw [hw0]; exact At.second _ _ _ _
    have HI := Lib.hid (fun (i : Nat) (h : i < ks.length) (v : Value) (W2 : World) (q : NodeV W2 W2.heap.size ks[i] v) => IH ks[i] v W2 (Nat.le_trans (wtAll_mem (List.getElem_mem h)) hwt) (Nat.le_trans (wtAll_mem (List.getElem_mem h)) hkw) q)
    have Htone := Lib.hid (show ∀ u ∈ t.map (Value.int .i32), u.oneCell' = true by intro u hu; obtain ⟨z, -, rfl⟩ := List.mem_map.1 hu; rfl)
    have Hp := Lib.hid (fun (w1 : World) (hb : Below w0.heap.size w0 w1) => hp.keep (hb0.trans (hb.mono hb0.size)) (hb0.trans (hb.mono hb0.size)).size)
    have HT := Lib.hid (fun (w1 : World) (hb : Below w0.heap.size w0 w1) => r3copy_c _ t.length at_ ct _ w1 (htr.keep (hb0.trans (hb.mono hb0.size)) (hb0.trans (hb.mono hb0.size)).size) (Nat.le_refl _) htl)
    have Hk := Lib.hid hk; have Hkk := Lib.hid hkk; have Htw := Lib.hid htw
    have Hw0 := Lib.hid hw0; have Hb0 := Lib.hid hb0; have HA := Lib.hid hA; have HZ := Lib.hid hZ
    have Hsz0 := Lib.hid (show w0.heap.size = W.heap.size + 1 + 1 by rw [hw0]; simp)
    have HS0 := Lib.hid (fun (w' : World) (hb : Below w0.heap.size w0 w') => (HA.out.kept hb).f4.1)
    clear IH hm hbig hv hp htr htw hk hkk hwt hkw hw0 hb0 hA hZ
    go_enter Try.func62, Try.ntmps62
    go_upto_region 1 with fail
    rw [← Hw0.out]
    clear Hw0
    go_cut [3] (fun q wx => ∃ N qa qc ra rc, q = .pointer (some ⟨N, 0, none⟩) ∧ At wx N [.bool lf, .slice qa ps.length qc, .slice ra t.length rc, .slice none 0 0] 35 ∧ w0.heap.size ≤ N ∧ RowQ wx (fun b => w0.heap.size ≤ b ∧ b ≠ N) 2 qa ps.length qc (propCells ps) ∧ RowQ wx (fun b => w0.heap.size ≤ b ∧ b ≠ N) 1 ra t.length rc (t.map (Value.int .i32)) ∧ Below w0.heap.size w0 wx)
    case first =>
      go_region_held3 (fun w' => w'.cell? ⟨W.heap.size, 0, none⟩ = some (.bool lf) ∧ w'.cell? ⟨W.heap.size, 1, none⟩ = some (.slice ap ps.length cp) ∧ w'.cell? ⟨W.heap.size, 2, none⟩ = some (.slice at_ t.length ct) ∧ w'.cell? ⟨W.heap.size, 3, none⟩ = some (.slice ak ks.length ck)) (refine HS0.out _ (by ((repeat (first | with_reducible exact Hb2.out | with_reducible exact Hb1.out | with_reducible exact Below.refl _ _ | with_reducible refine Below.drew ?_ | with_reducible refine Below.alloc ?_ ?_ _ | with_reducible refine Below.setCell ?_ ?_ _)) <;> (first | with_reducible exact Nat.le_refl _ | with_reducible exact Hb2.out.size | with_reducible exact Hb1.out.size | (have hsz := Hb2.out.size; simp [World.setCell]; omega) | (have hsz := Hb1.out.size; simp [World.setCell]; omega) | (simp; done) | (simp; omega) | omega))))
        (first
        | (refine step_app rfl _ _ 31 rfl _ 89 (.agg #[.string ⟨#[]⟩, .string ⟨#[]⟩]) 2 32 Try.underlying31 info_propC rfl (by decide) (.slice none 0 0) 0 [] ?_ (World.ownsRow_nil _ _ _ _) ap ps.length cp _ _ ?_ (Hp.out _ (by ((repeat (first | with_reducible exact Below.refl _ _ | with_reducible refine Below.drew ?_ | with_reducible refine Below.alloc ?_ ?_ _ | with_reducible refine Below.setCell ?_ ?_ _)) <;> (first | with_reducible exact Nat.le_refl _ | (simp; done) | (simp; omega) | omega)))) ?_ ?_ (Nat.le_refl _) ?_
           · go_simp
           · go_simp
           · unfold maxLen; omega
           · omega
           intro v1 w1 hown hgrow
           have hbel := below_of_grown hgrow
           have Hz1 := Lib.hid hbel.size
           have Hb1 := Lib.hid (Below.and (w0 := w0) (by ((repeat (first | with_reducible exact Below.refl _ _ | with_reducible refine Below.drew ?_ | with_reducible refine Below.alloc ?_ ?_ _ | with_reducible refine Below.setCell ?_ ?_ _)) <;> (first | with_reducible exact Nat.le_refl _ | (simp; done) | (simp; omega) | omega))) hbel)
           rw [Nat.zero_add, List.nil_append] at hown
           obtain ⟨qa, qc, rfl, hq⟩ := rowq_own hown (propCells_one _)
           have Hq := Lib.hid (hq.keep (Nat.le_refl _) (fun _ _ _ => rfl) (fun b hb hlt => And.intro hb hlt))
           first
             | (refine At.lay (N := ?_) (cs := [.bool false, .slice none 0 0, .slice none 0 0, .slice none 0 0]) (T := 35) (At.kept ?_ hbel) ?_
                rotate_left
                · (repeat (first | with_reducible exact At.second _ _ _ _ | with_reducible exact At.fresh _ _ _ | with_reducible refine At.drew ?_ | with_reducible refine At.alloc ?_ _))
                intro HN1)
             | skip
           clear hown hgrow hbel hq)
        | (refine step_call rfl 93 _ _ rfl r3copy_ent [.slice at_ t.length ct] ?_ _ (HT.out _ (by ((repeat (first | with_reducible exact Hb1.out | with_reducible exact Below.refl _ _ | with_reducible refine Below.drew ?_ | with_reducible refine Below.alloc ?_ ?_ _ | with_reducible refine Below.setCell ?_ ?_ _)) <;> (first | with_reducible exact Nat.le_refl _ | with_reducible exact Hb1.out.size | (have hsz := Hb1.out.size; simp [World.setCell]; omega) | (simp; done) | (simp; omega) | omega)))) ?_
           · go_simp
           rintro e w2 ⟨v2, rfl, hown, hbel⟩
           obtain ⟨ra, rc, rfl, hr⟩ := rowq_own hown Htone.out
           refine ⟨_, rfl, ?_⟩
           have Hz2 := Lib.hid hbel.size
           have Hs2 := Lib.hid (Below.and (w0 := w1) (by ((repeat (first | with_reducible exact Below.refl _ _ | with_reducible refine Below.drew ?_ | with_reducible refine Below.alloc ?_ ?_ _ | with_reducible refine Below.setCell ?_ ?_ _)) <;> (first | with_reducible exact Nat.le_refl _ | (simp; done) | (simp; omega) | omega))) hbel)
           have Hb2 := Lib.hid (Below.and (w0 := w0) (by ((repeat (first | with_reducible exact Hb1.out | with_reducible exact Below.refl _ _ | with_reducible refine Below.drew ?_ | with_reducible refine Below.alloc ?_ ?_ _ | with_reducible refine Below.setCell ?_ ?_ _)) <;> (first | with_reducible exact Nat.le_refl _ | with_reducible exact Hb1.out.size | (have hsz := Hb1.out.size; simp [World.setCell]; omega) | (simp; done) | (simp; omega) | omega))) hbel)
           have Hr := Lib.hid (hr.keep (Nat.le_refl _) (fun _ _ _ => rfl) (fun b hb hlt => And.intro hb hlt))
           first
             | (refine At.lay (N := ?_) (cs := [.bool false, .slice none 0 0, .slice none 0 0, .slice none 0 0]) (T := 35) (At.kept ?_ hbel) ?_
                rotate_left
                · (repeat (first | with_reducible exact HN1.out | with_reducible exact At.second _ _ _ _ | with_reducible exact At.fresh _ _ _ | with_reducible refine At.drew ?_ | with_reducible refine At.alloc ?_ _))
                intro HN2)
             | skip
           first
             | (obtain ⟨⟨n0, n1, n2, n3⟩, nf, nl⟩ := HN2.out.f4)
             | skip
           clear hown hbel hr))
      all_goals
        go_wp2_with fail
        go_meet
        case rel =>
          have hz1 := Hz1.out; have hz2 := Hz2.out
          simp at hz1 hz2
          refine ⟨_, qa, qc, ra, rc, rfl, ?_, ?_, ?_, ?_, ?_⟩
          · (repeat (first | with_reducible exact HN2.out | with_reducible exact HN2.out.s4 _ _ _ _ | with_reducible exact (HN2.out.alloc _).s4 _ _ _ _ | with_reducible exact At.second _ _ _ _ | with_reducible exact At.fresh _ _ _ | (with_reducible refine At.fresh2 ?_; (simp [World.setCell]; done)) | with_reducible refine At.drew ?_ | with_reducible refine At.alloc ?_ _ | (with_reducible refine At.n4 ?_ ?_ _ _ _ _; rotate_left; (omega))))
          · omega
          · (repeat (first | with_reducible refine rowq_s4 ?_ (by simp) _ _ _ _ | with_reducible refine rowq_alloc ?_ _))
            refine (Hq.out.since Hs2.out).keep (Nat.le_refl _) (fun _ _ _ => rfl) (fun b hb hlt => ?_)
            try simp at hb
            constructor <;> omega
          · (repeat (first | with_reducible refine rowq_s4 ?_ (by simp) _ _ _ _ | with_reducible refine rowq_alloc ?_ _))
            refine Hr.out.keep (Nat.le_refl _) (fun _ _ _ => rfl) (fun b hb hlt => ?_)
            try simp at hb
            constructor <;> omega
          · ((repeat (first | with_reducible exact Hb2.out | with_reducible exact Below.refl _ _ | with_reducible refine Below.drew ?_ | with_reducible refine Below.alloc ?_ ?_ _ | with_reducible refine Below.setCell ?_ ?_ _)) <;> (first | with_reducible exact Nat.le_refl _ | with_reducible exact Hb2.out.size | (have hsz := Hb2.out.size; simp [World.setCell]; omega) | (simp; done) | (simp; omega) | omega))
    case rest =>
      obtain ⟨N, qa, qc, ra, rc, rfl, hN, hN0, hq, hr, hbc⟩ := hcut
      have HA1 := Lib.hid (HA.out.kept hbc); have HZ1 := Lib.hid (HZ.out.kept hbc)
      have Hbc := Lib.hid (Hb0.out.trans (hbc.mono Hb0.out.size))
      have HN := Lib.hid hN; have Hq := Lib.hid hq; have Hr := Lib.hid hr
      have hA1 := HA1.out
      have hNl := hN.lt
      obtain ⟨⟨x0, x1, x2, x3⟩, -, xl⟩ := hA1.f4
      clear hN hq hr hbc hA1 HS0 HT Hp HA HZ
      go_wp2_with fail
      clear x0 x1 x2 x3 xl
      go_loopg [18] ks.length (fun g i wr => ∃ (j : Nat) (kv : Value) (csN : List Value), i = .int .i64 j ∧ j + g = ks.length ∧ At wr N [.bool lf, .slice qa ps.length qc, .slice ra t.length rc, kv] 35 ∧ At wr (W.heap.size + 1) [.bool false, .slice none 0 0, .slice none 0 0, .slice none 0 0] 35 ∧
        wr.ownsRow wc.heap.size 35 4 kv j csN ∧ KidsQ wr (fun b => wc.heap.size ≤ b ∧ kv.ownBlock ≠ some b) (ks.take j) csN ∧ RowQ wr (fun b => w0.heap.size ≤ b ∧ b ≠ N ∧ b < wc.heap.size) 2 qa ps.length qc (propCells ps) ∧ RowQ wr (fun b => w0.heap.size ≤ b ∧ b ≠ N ∧ b < wc.heap.size) 1 ra t.length rc (t.map (Value.int .i32)) ∧ Below W.heap.size W wr ∧ wc.heap.size ≤ wr.heap.size)
      case atStart => exact ⟨0, .slice none 0 0, [], rfl, by omega, HN.out, HZ1.out, World.ownsRow_nil _ _ _ _, by simp only [List.take_zero]; unfold KidsQ; rfl, Hq.out.keep (Nat.le_refl _) (fun _ _ _ => rfl) (fun b hb hlt => ⟨hb.1, hb.2, hlt⟩), Hr.out.keep (Nat.le_refl _) (fun _ _ _ => rfl) (fun b hb hlt => ⟨hb.1, hb.2, hlt⟩), Hbc.out, Nat.le_refl _⟩
      case round =>
        obtain ⟨j, kv, csN, rfl, hg, hN, hZ, hown, hkq, hq, hr, hbr, hcs⟩ := hrel
        by_cases hlt : j < ks.length
        · --<3
          have hlti : (j : Int) < ks.length := by omega
          have hkr := Hk.out.keep hbr hbr.size; have hkkr := KidsC.keep hbr hbr.size _ _ Hkk.out
          obtain ⟨kb, ko, a1, c1, a2, c2, a3, c3, rfl, hkb, hnv, -, g0, g1, g2, g3⟩ := kidO hkr hkkr j hlt
          have HIj := Lib.hid (HI.out j hlt)
          have htk : ks.take (j + 1) = ks.take j ++ [ks[j]] := List.take_succ_eq_append_getElem hlt
          generalize ks[j] = q at hnv HIj htk g0 g1 g2 g3
          obtain ⟨va, vc, rfl, -⟩ := row_of_own hown (KidsQ.onec hkq)
          have Htk := Lib.hid htk
          obtain ⟨w4, hw4⟩ : ∃ w4, w4 = wr.alloc (Obj.cells #[.bool (leafOf q), .slice a1 (propsOf q).length c1, .slice a2 (textOf q).length c2, .slice a3 (kidsOf q).length c3] 35) := ⟨_, rfl⟩
          have hb4 : Below wr.heap.size wr w4 := by rw [hw4]; exact one_below _ _
          have hK4 : At w4 wr.heap.size [.bool (leafOf q), .slice a1 (propsOf q).length c1, .slice a2 (textOf q).length c2, .slice a3 (kidsOf q).length c3] 35 := by rw [hw4]; exact At.fresh _ _ _
          have HNV := Lib.hid (hnv.keep hb4.drew hb4.drew.size)
          have hN4 := hN.kept hb4
          have Hw4 := Lib.hid hw4; have Hb4 := Lib.hid hb4
          have HN := Lib.hid hN; have HZ := Lib.hid hZ; have Hown := Lib.hid hown; have Hkq := Lib.hid hkq; have Hq := Lib.hid hq; have Hr := Lib.hid hr; have Hbr := Lib.hid hbr
          have hnl := hN.lt
          clear hkr hkkr hnv htk hw4 hN hZ hown hkq hq hr hbr
          go_upto_region 5 with fail
          rw [← Hw4.out]
          clear Hw4
          obtain ⟨⟨y0, y1, y2, y3⟩, yf, yl⟩ := hN4.f4
          obtain ⟨⟨z0, z1, z2, z3⟩, zf, zl⟩ := hK4.f4
          have HN4 := Lib.hid hN4
          clear hN4 hK4 hb4 g0 g1 g2 g3
          go_region_law (first
            | (refine step_call rfl 62 _ _ rfl r4copy_ent [.agg #[.bool (leafOf q), .slice a1 (propsOf q).length c1, .slice a2 (textOf q).length c2, .slice a3 (kidsOf q).length c3]] ?_ _ (HIj.out _ _ HNV.out) ?_
               · go_simp
               rintro e w5 ⟨cs, rfl, hn, hbel⟩
               obtain ⟨l, b1, m1, k1, b2, m2, k2, b3, m3, k3, rfl⟩ := hn.form
               refine ⟨_, rfl, ?_⟩
               have hb5 := ((Below.refl w4.heap.size w4).drew).trans hbel
               have Hb5 := Lib.hid (Hb4.out.trans (hb5.mono Hb4.out.size))
               have hN5 := HN4.out.kept hb5
               obtain ⟨⟨p0, p1, p2, p3⟩, pf, pl⟩ := hN5.f4
               have HN5 := Lib.hid hN5
               have hs5 := Hb5.out.size
               have Hown5 := Lib.hid (own_keep Hown.out Hb5.out)
               have HZ5 := Lib.hid (HZ.out.kept Hb5.out)
               have Hn := Lib.hid (NodeQ.keep (ok' := fun b => wr.heap.size ≤ b) (Nat.le_refl _) (fun _ _ _ => rfl) (fun b hb _ => Nat.le_trans Hb4.out.size hb) _ _ hn)
               clear hbel hb5 hn hN5)
            | (refine step_app2 rfl _ _ 33 rfl wc.heap.size 35 (.agg #[.bool false, .slice none 0 0, .slice none 0 0, .slice none 0 0]) 4 80 Try.underlying33 info_nodeC rfl (by decide) (.slice va j vc) j csN ?_ (Hown5.out.alloc _) ⟨w5.heap.size, 0, none⟩ 1 1 (w5.heap.size + 1) [.bool l, .slice b1 m1 k1, .slice b2 m2 k2, .slice b3 m3 k3] ?_ ?_ ?_ ?_ ?_ ?_
               · go_simp
               · go_simp
               · exact row_four w5 _ _ _ _ _ _ rfl rfl rfl rfl (by omega)
               · unfold maxLen; omega
               · omega
               · simp; omega
               intro v' w7 hown' hgrow hwhere
               have hba := one_below w5 (Obj.cells #[.bool l, .slice b1 m1 k1, .slice b2 m2 k2, .slice b3 m3 k3] 35)
               have hge := fun k e => (Hown.out.lt k e).1
               have hNx : (Value.slice va j vc).ownBlock ≠ some N := fun e => by have := hge _ e; omega
               have hN7 := (HN5.out.alloc (Obj.cells #[.bool l, .slice b1 m1 k1, .slice b2 m2 k2, .slice b3 m3 k3] 35)).grown hgrow hNx
               have HZ7 := Lib.hid ((HZ5.out.alloc (Obj.cells #[.bool l, .slice b1 m1 k1, .slice b2 m2 k2, .slice b3 m3 k3] 35)).grown hgrow (fun e => by have := hge _ e; have := Hsz0.out; omega))
               obtain ⟨va', vc', rfl, -⟩ := row_of_own hown' (by intro u hu; rcases List.mem_append.1 hu with h | h; exact KidsQ.onec Hkq.out u h; simp at h; rcases h with rfl | rfl | rfl | rfl <;> rfl)
               have Hst := Lib.hid (stay_kids Hown.out Hb5.out hba hgrow hwhere)
               have Hst2 := Lib.hid (stay_kid Hown.out hcs hba hgrow hwhere)
               have HqS := Lib.hid (Hq.out.keep (w' := w7) (ok' := fun b => w0.heap.size ≤ b ∧ b ≠ N ∧ b < wc.heap.size) Hst.out.size (fun b hb hlt => by rw [hgrow.block b (by simp; omega) (fun e => by have := hge _ e.symm; omega), hba.block b (by omega), Hb5.out.block b hlt]) (fun _ h _ => h))
               have HrS := Lib.hid (Hr.out.keep (w' := w7) (ok' := fun b => w0.heap.size ≤ b ∧ b ≠ N ∧ b < wc.heap.size) Hst.out.size (fun b hb hlt => by rw [hgrow.block b (by simp; omega) (fun e => by have := hge _ e.symm; omega), hba.block b (by omega), Hb5.out.block b hlt]) (fun _ h _ => h))
               have Hb7 := Lib.hid ((Hbr.out.trans ((Hb5.out.trans (hba.mono hs5)).mono Hbr.out.size)).grown hgrow (by simp; have := Hbr.out.size; omega) (fun k e => by have := hge k e; have := Hbc.out.size; omega))
               have Hown7 := Lib.hid hown'
               have HN7 := Lib.hid hN7
               obtain ⟨⟨t0, t1, t2, t3⟩, tf, tl⟩ := hN7.f4
               clear hown' hgrow hwhere hba hN7))
          all_goals
            go_wp2_with fail
            go_roundg (ks.length - (j + 1))
            case measure => omega
            case rel =>
              have hNw : W.heap.size ≤ N := by have := Hsz0.out; omega
              have hk3 : ¬ (wc.heap.size ≤ N ∧ (Value.slice va' (j + 1) vc').ownBlock ≠ some N) := fun h => by omega
              refine ⟨j + 1, .slice va' (j + 1) vc', csN ++ [.bool l, .slice b1 m1 k1, .slice b2 m2 k2, .slice b3 m3 k3], by go_num, by omega, HN7.out.set 3 _, HZ7.out.set_ne (by have := Hsz0.out; omega) _, ?_, ?_, rowq_set HqS.out (by simp), rowq_set HrS.out (by simp), Hb7.out.setCell (p := ⟨N, 3, none⟩) hNw _, ?_⟩
              · exact ownsRow_setCell_below (a := ⟨N, 3, none⟩) Hown7.out (by show N < wc.heap.size; omega) _
              · rw [Htk.out]
                exact kidsq_set (KidsQ.append (Hkq.out.stay Hst.out) (KidsQ.one (Hn.out.stay Hst2.out))) hk3
              · have := Hst.out.size; simp [World.setCell]; omega
        · --<4
          obtain rfl : j = ks.length := by omega
          rw [List.take_of_length_le (Nat.le_refl _)] at hkq
          obtain ⟨va, vc, rfl, hrow⟩ := row_of_own hown (KidsQ.onec hkq)
          have hZl := hZ.lt
          have Hgv := Lib.hid (show ∀ b, (Value.slice va ks.length vc).ownBlock = some b → wc.heap.size ≤ b from fun b e => (hown.lt b e).1)
          obtain ⟨⟨x0, x1, x2, x3⟩, xf, xl⟩ := hN.f4
          obtain ⟨⟨z0, z1, z2, z3⟩, zf, zl⟩ := hZ.f4
          obtain ⟨ka, kc, hka, hkr⟩ := rowq_own hown (KidsQ.onec hkq)
          injection hka with e1 e2 e3
          subst e1; subst e3
          have Hkr := Lib.hid hkr; have Hkq := Lib.hid hkq; have Hq := Lib.hid hq; have Hr := Lib.hid hr; have Hbr := Lib.hid hbr
          clear hkr hkq hq hr hbr hrow hown hN hZ
          go_wp2_with fail
          refine bodyPost_ret (v := .agg #[.bool lf, .slice qa ps.length qc, .slice ra t.length rc, .slice va ks.length vc]) (by simp [results, Try.results62, go_sem, z0, z1, z2, z3]) rfl ?_
          have hcl : W.heap.size ≤ W.heap.size + 1 := by omega
          have hw1 := Hsz0.out
          have hwc : W.heap.size ≤ wc.heap.size := by omega
          refine ⟨[.bool lf, .slice qa ps.length qc, .slice ra t.length rc, .slice va ks.length vc], rfl, ?_, below_all Hbr.out hcl _ _ _ _⟩
          unfold NodeQ
          have f1 : ¬ (w0.heap.size ≤ W.heap.size + 1 ∧ W.heap.size + 1 ≠ N ∧ W.heap.size + 1 < wc.heap.size) := by omega
          have f2 : ¬ (wc.heap.size ≤ W.heap.size + 1) := by omega
          refine ⟨qa, qc, ra, rc, va, vc, csN, rfl, (rowq_s4 Hq.out f1 _ _ _ _).imp (fun b hb => by omega), (rowq_s4 Hr.out f1 _ _ _ _).imp (fun b hb => by omega), Htw.out, (rowq_s4 Hkr.out f2 _ _ _ _).imp (fun b hb => by omega), ?_⟩
          exact KidsQ.keep (ok := fun b => wc.heap.size ≤ b) (Nat.le_refl _) (fun _ _ _ => rfl) (fun b hb _ => by omega) _ _ (kidsq_set (kidsq_set (kidsq_set (kidsq_set (KidsQ.keep (Nat.le_refl _) (fun _ _ _ => rfl) (fun b hb _ => hb.1) _ _ Hkq.out) f2) f2) f2) f2)

/-! ### Get -/
theorem rget_ent : ∀ args w, (callFunc 32 args).run Try.prog w = .ok (.enter 32 args) w := by intro args w; kernel_rfl
set_option maxRecDepth 100000 in
set_option maxHeartbeats 4000000 in
theorem rget_c (n : NodeD) (p : List Int) (v : Value) (pa : Option Addr) (pc : Nat) (W : World) (hbig : n.wt ≤ 100000000) (hv : NodeV W W.heap.size n v) (hp : RowA W W.heap.size 1 pa p.length pc (p.map (Value.int .i64))) :
    Calls Try.prog 32 #[v, .slice pa p.length pc] W (GetP W (atN n p)) := by
  have hm : p.length ≤ 9223372036854775807 := by have h1 := hp.le; have h2 := hp.max; unfold maxLen at h2; omega
  obtain ⟨csn, rfl, hc⟩ := hv
  obtain ⟨l, a1, m1, k1, a2, m2, k2, a3, m3, k3, rfl⟩ := hc.form
  obtain ⟨R, hR⟩ : ∃ R, R = atN n p := ⟨_, rfl⟩
  have hRw : ∀ m, R = some m → m.wt ≤ 100000000 := fun m h => Nat.le_trans (atN_wt p n m (hR ▸ h)) hbig
  rw [← hR]
  obtain ⟨w0, hw0⟩ : ∃ w0, w0 = (W.alloc (Obj.cells #[.bool l, .slice a1 m1 k1, .slice a2 m2 k2, .slice a3 m3 k3] 35)).alloc (Obj.cells #[.bool false, .slice none 0 0, .slice none 0 0, .slice none 0 0] 35) := ⟨_, rfl⟩
  have hb0 : Below W.heap.size W w0 := by rw [hw0]; exact two_below _ _ _
  have hA : At w0 W.heap.size [.bool l, .slice a1 m1 k1, .slice a2 m2 k2, .slice a3 m3 k3] 35 := by rw [hw0]; exact (At.fresh _ _ _).alloc _
  have hZ : At w0 (W.heap.size + 1) [.bool false, .slice none 0 0, .slice none 0 0, .slice none 0 0] 35 := by rw [hw0]; exact At.second _ _ _ _
  have HR := Lib.hid hR; have HRw := Lib.hid hRw; have Hc := Lib.hid hc; have Hp := Lib.hid hp
  have Hw0 := Lib.hid hw0; have Hb0 := Lib.hid hb0; have HA := Lib.hid hA; have HZ := Lib.hid hZ
  clear hR hRw hc hp hw0 hb0 hA hZ hbig
  go_enter Try.func32, Try.ntmps32
  go_upto_region 1 with fail
  rw [← Hw0.out]
  clear Hw0
  go_wp2_with fail
  go_loopg [10] p.length (fun g i wr => ∃ (k : Nat) (n' : NodeD) (l : Bool) (a1 : Option Addr) (m1 k1 : Nat) (a2 : Option Addr) (m2 k2 : Nat) (a3 : Option Addr) (m3 k3 : Nat), i = .int .i64 k ∧ k + g = p.length ∧ atN n' (p.drop k) = R ∧ NodeC W W.heap.size n' [.bool l, .slice a1 m1 k1, .slice a2 m2 k2, .slice a3 m3 k3] ∧ At wr W.heap.size [.bool l, .slice a1 m1 k1, .slice a2 m2 k2, .slice a3 m3 k3] 35 ∧ At wr (W.heap.size + 1) [.bool false, .slice none 0 0, .slice none 0 0, .slice none 0 0] 35 ∧ Below W.heap.size W wr)
  case atStart => exact ⟨0, n, l, a1, m1, k1, a2, m2, k2, a3, m3, k3, rfl, by omega, HR.out.symm, Hc.out, HA.out, HZ.out, Hb0.out⟩
  case round =>
    obtain ⟨k, n', l, a1, m1, k1, a2, m2, k2, a3, m3, k3, rfl, hg, hat, hnc, hA, hZ, hbr⟩ := hrel
    have Hat := Lib.hid hat; have HA := Lib.hid hA; have HZ := Lib.hid hZ; have Hbr := Lib.hid hbr
    have Hnc := Lib.hid hnc
    obtain ⟨⟨x0, x1, x2, x3⟩, xf, xl⟩ := hA.f4
    have hpr := Hp.out.keep hbr hbr.size
    clear hat HR hA hZ hbr
    by_cases hlt : k < p.length
    · have hd : p.drop k = p[k] :: p.drop (k + 1) := List.drop_eq_getElem_cons hlt
      have Hd := Lib.hid hd
      obtain ⟨pb, po, rfl, hpb, hcell0⟩ := hpr.int_at k hlt
      have hcell := hcell0 k hlt
      rw [getD_of_lt hlt] at hcell
      clear hcell0
      generalize p[k] = i at hcell Hd
      have hlti : (k : Int) < p.length := by omega
      clear hd
      obtain ⟨l', ps', t', ks'⟩ := n'
      have hnc2 := hnc
      unfold NodeC at hnc2
      obtain ⟨ap, cp, at_, ct, ak, ck, css, hcs, -, -, -, hk, hkk⟩ := hnc2
      injection hcs with e0 e1; injection e1 with e1 e2; injection e2 with e2 e3; injection e3 with e3 e4
      injection e3 with f1 f2 f3
      subst f1; subst f2; subst f3
      clear e0 e1 e2 e4 hnc
      by_cases h0 : 0 ≤ i
      · obtain ⟨j, rfl⟩ : ∃ j : Nat, i = j := ⟨i.toNat, by omega⟩
        by_cases hj : j < ks'.length
        · obtain ⟨kb, ko, l1, b1, o1, d1, b2, o2, d2, b3, o3, d3, rfl, hkb, hkn, g0, g1, g2, g3⟩ := hk.kid_at hkk j hj
          have Hat2 : Hid (atN ks'[j] (p.drop (k + 1)) = R) := by
            show _ = R
            rw [← Hat.out, Hd.out]
            simp [atN, kidsOf, List.getElem?_eq_getElem hj]
          have f0 := (Hbr.out.cell (p := ⟨kb, ko + j * 4, none⟩) hkb).trans g0
          have f1 := (Hbr.out.cell (p := ⟨kb, ko + j * 4 + 1, none⟩) hkb).trans g1
          have f2 := (Hbr.out.cell (p := ⟨kb, ko + j * 4 + 2, none⟩) hkb).trans g2
          have f3 := (Hbr.out.cell (p := ⟨kb, ko + j * 4 + 3, none⟩) hkb).trans g3
          have Hkn := Lib.hid hkn
          have hnl : decide ((j : Int) < 0) = false := by simp
          have hji : (j : Int) < ks'.length := by omega
          have hge : decide ((ks'.length : Int) ≤ j) = false := by simp; omega
          clear hkn hk hkk Hat g0 g1 g2 g3
          generalize ks'[j] = q at Hat2 Hkn
          go_wp2_with fail
          go_roundg (gk - 1)
          case measure => omega
          case rel => exact ⟨k + 1, q, l1, b1, o1, d1, b2, o2, d2, b3, o3, d3, by go_num, by omega, Hat2.out, Hkn.out, HA.out.s4 _ _ _ _, HZ.out.n4 (by omega) _ _ _ _, below_all Hbr.out (Nat.le_refl _) _ _ _ _⟩
        · have HR2 : Hid (R = none) := by
            show R = none
            rw [← Hat.out, Hd.out]
            simp [atN, kidsOf, List.getElem?_eq_none (Nat.le_of_not_lt hj)]
          have hnl : decide ((j : Int) < 0) = false := by simp
          have hge : decide ((ks'.length : Int) ≤ j) = true := by simp; omega
          have hZ := HZ.out
          obtain ⟨⟨z0, z1, z2, z3⟩, zf, zl⟩ := hZ.f4
          clear hk hkk Hat hZ
          go_wp2_with fail
          refine bodyPost_ret (v := .tuple #[.agg #[.bool false, .slice none 0 0, .slice none 0 0, .slice none 0 0], .int .i64 5]) (by simp [results, Try.results32, go_sem, z0, z1, z2, z3]) rfl ?_
          rw [HR2.out]
          exact ⟨rfl, below_all Hbr.out (show W.heap.size ≤ W.heap.size + 1 by omega) _ _ _ _⟩
      · have HR2 : Hid (R = none) := by
          show R = none
          rw [← Hat.out, Hd.out]
          simp only [atN]
          rw [if_neg h0]
        have hneg : i < 0 := by omega
        have hZ := HZ.out
        obtain ⟨⟨z0, z1, z2, z3⟩, zf, zl⟩ := hZ.f4
        clear hk hkk Hat hZ
        go_wp2_with fail
        refine bodyPost_ret (v := .tuple #[.agg #[.bool false, .slice none 0 0, .slice none 0 0, .slice none 0 0], .int .i64 5]) (by simp [results, Try.results32, go_sem, z0, z1, z2, z3]) rfl ?_
        rw [HR2.out]
        exact ⟨rfl, below_all Hbr.out (show W.heap.size ≤ W.heap.size + 1 by omega) _ _ _ _⟩
    · have hnl : decide ((k : Int) < p.length) = false := by simp; omega
      have HR2 : Hid (R = some n') := by
        show R = _
        rw [← Hat.out, List.drop_eq_nil_of_le (by omega)]
        rfl
      have HC := Lib.hid (r4copy_c _ n' (.agg #[.bool l, .slice a1 m1 k1, .slice a2 m2 k2, .slice a3 m3 k3]) wr (Nat.le_refl _) (HRw.out n' HR2.out) ⟨_, rfl, NodeC.keep Hbr.out Hbr.out.size _ _ hnc⟩)
      clear hnc
      go_wp2_with fail
      refine HC.out.mono ?_
      rintro e w2 ⟨cs, rfl, hn, hbel⟩
      obtain ⟨l', b1, o1, d1, b2, o2, d2, b3, o3, d3, rfl⟩ := hn.form
      have hZ2 := HZ.out.kept hbel
      obtain ⟨⟨z0, z1, z2, z3⟩, zf, zl⟩ := hZ2.f4
      have Hn := Lib.hid hn; have Hb2 := Lib.hid (Hbr.out.trans (hbel.mono Hbr.out.size)); have HZr := Lib.hid HZ.out.lt
      have Hs := Lib.hid hbel.size
      clear hbel hn hZ2 HC x0 x1 x2 x3 xf xl hpr
      go_wp2_with fail
      refine bodyPost_ret (v := .tuple #[.agg #[.bool l', .slice b1 o1 d1, .slice b2 o2 d2, .slice b3 o3 d3], .int .i64 0]) (by simp [results, Try.results32, go_sem, z0, z1, z2, z3]) rfl ?_
      rw [HR2.out]
      have hne : ¬ (wr.heap.size ≤ W.heap.size + 1) := by have := HZr.out; omega
      exact ⟨_, rfl, NodeQ.keep (ok := fun b => wr.heap.size ≤ b) (Nat.le_refl _) (fun _ _ _ => rfl) (fun b hb _ => by have := Hbr.out.size; omega) _ _ (nodeq_set (nodeq_set (nodeq_set (nodeq_set Hn.out hne) hne) hne) hne), below_all Hb2.out (show W.heap.size ≤ W.heap.size + 1 by omega) _ _ _ _⟩

end Go.Proofs.Ytiinmgccjlmoaaa
