/- Parts of the proof, one behind the other: RTJ, ROB, ROC. -/
import Derived.Test.YtbommcakcmhalaaGreatDoorLM8
import Derived.Deep.RegionHeld3
/- Walks: what Cut and Add do with the node above. -/
set_option linter.unusedVariables false
set_option linter.unusedSimpArgs false
set_option maxHeartbeats 4000000
set_option maxRecDepth 100000
namespace Go.Proofs.YtbommcakcmhalaaGreatDoor
open Go.RowKit Go.Redl
theorem cut1_c (m : NodeD) (i M : Nat) (W : World) (hM : W.cell? ⟨M, 0, none⟩ = some (.int .i64 i)) (hMW : M < W.heap.size) (hi : i < (kidsOf m).length) (hn : (kidsOf m).length <= 100000000) :
 HowC 186 #[.pointer (some ⟨M, 0, none⟩)] W m (setKids m ((kidsOf m).eraseIdx i), 0) := by
 intro w b off lo hi_ cm hbel hb hlo hhi hI hc4 hno hfz
 obtain ⟨l, ps, t, ks⟩ := m
 simp only [kidsOf] at hi hn
 unfold NodeI at hI
 obtain ⟨mid, ap, cp, at_, ct, ak, ck, css, h1, rfl, h3, h4, h5, h6, h7, h8⟩ := hI
 have x0 := hc4.2 0 _ rfl; have x1 := hc4.2 1 _ rfl; have x2 := hc4.2 2 _ rfl; have x3 := hc4.2 3 _ rfl
 simp only [Nat.add_zero] at x0
 have hmh := KidsI.le h8
 have hone : ∀ u ∈ css, u.oneCell' = true := KidsQ.onec (KidsI.q (ok := fun _ => True) (fun _ _ _ => trivial) h8)
 have hbw : b < w.heap.size := World.block_lt_of_cell? w _ x0
 have hBw := hbel.size
 have y0 : w.cell? ⟨M, 0, none⟩ = some (.int .i64 i) := (hbel.cell (p := ⟨M, 0, none⟩) hMW).trans hM
 have hib : ((i + 1 : Nat) : Int) = ((i : Int) + 1) := by omega
 have hD := fun (W' : World) (h : W'.ownsRow lo 35 4 (.slice ak ks.length ck) ks.length css) => deln_c lo (.slice ak ks.length ck) ks.length i css W' h hone hi hn
 rw [hib] at hD
 have HD := Lib.hid hD
 clear hD hib
 have hk7 : ∀ g, (Value.slice ak ks.length ck).ownBlock = some g -> lo <= g /\ g < mid := fun g hg => ⟨(h6.lt g hg).1, h7 g hg⟩
 have HP := Lib.hid (fun (w2 : World) v' css' hown hq hg hv' hqb => kids_changed (B := W.heap.size) (w := w) (w2 := w2) (b := b) (off := off) (lo := lo) (hi := hi_) (mid := mid) (ks' := ks.eraseIdx i) (css' := css') (v' := v') hb hlo hhi h1 hmh hno hbw hBw x0 x1 x2 x3 h3 h4 h5 hk7 hown hq hg hv' hqb)
 have hkq := KidsI.q (ok := fun x => mid <= x /\ x < hi_) (fun x hx hx2 => ⟨hx, hx2⟩) h8
 have Hkq := Lib.hid hkq; have Hk7 := Lib.hid hk7; have H6 := Lib.hid h6
 have f3 := hfz (off + 3)
 have hne : ∀ g, (Value.slice ak ks.length ck).ownBlock = some g -> g ≠ b := fun g hg e => by have := hk7 g hg; omega
 have Hne := Lib.hid hne
 have hw1 : IntKind.i64.wrap ((i : Int) + 1) = (i : Int) + 1 := by rw [IntKind.wrap_i64]; omega
 have Hx3 := Lib.hid x3; have Hf3 := Lib.hid f3
 have Hno := Lib.hid hno; have Hle := Lib.hid (show lo <= mid /\ mid <= hi_ /\ hi_ <= w.heap.size from ⟨h1, hmh, hhi⟩)
 clear h1 h3 h4 h5 h6 h7 h8 hmh hone hk7 hkq hne hc4 hfz hno hM hbel hlo hhi x0 x1 x2
 go_enter Tryz.func186, Tryz.ntmps186
 go_wp2_with fail
 go_region_law (first
  | (refine step_call rfl 187 _ _ rfl deln_ent [Value.slice ak ks.length ck, .int .i64 i, .int .i64 ((i : Int) + 1)] ?_ _ (HD.out _ H6.out) ?_
     . go_simp
     rintro e w2 ⟨v', rfl, hown, hg, hv'⟩
     have hone' : ∀ u ∈ css.take (i * 4) ++ css.drop ((i + 1) * 4), u.oneCell' = true := (kidsq_erase Hkq.out hi).onec
     obtain ⟨a', c', rfl, -⟩ := row_of_own hown hone'
     refine ⟨_, rfl, ?_⟩
     have Hown := Lib.hid hown
     have Hg := Lib.hid (grown_drew.trans hg)
     have Hv' := Lib.hid hv'
     have g3 : w2.cell? ⟨b, off + 3, none⟩ = some (.slice ak ks.length ck) := (World.cell?_of_block (a := ⟨b, off + 3, none⟩) (Hg.out.block b hbw (fun e => Hne.out b e.symm rfl))).trans Hx3.out
     have k3 : w2.frozen? ⟨b, off + 3, none⟩ = false := (World.frozen?_of_block (a := ⟨b, off + 3, none⟩) (Hg.out.block b hbw (fun e => Hne.out b e.symm rfl))).trans Hf3.out
     clear hown hg hv'))
 all_goals
  go_wp2_with fail
  go_ret
  have hl : (ks.eraseIdx i).length = ks.length - 1 := by rw [List.length_eraseIdx, if_pos hi]
  have hown := Hown.out
  have hv := Hv'.out
  rw [<- hl] at hown hv
  have hq2 := KidsQ.keep (ok' := fun x => lo <= x /\ x < hi_ ∨ w.heap.size <= x) Hg.out.size (fun x hx hlt => Hg.out.block x hlt (fun e => by have := (Hk7.out x e.symm).2; have := hx.1; omega)) (fun x hx _ => .inl ⟨by have := Hle.out; have := hx.1; omega, hx.2⟩) _ _ Hkq.out
  have h := HP.out w2 _ _ hown (kidsq_erase hq2 hi) Hg.out hv (fun x hx e => by subst e; rcases hx with hx | hx; exact Hno.out hx; omega)
  rw [hl] at h
  exact h
theorem one_ins {css c : List Value} {k : Nat} (h1 : ∀ u ∈ css, u.oneCell' = true) (h2 : ∀ u ∈ c, u.oneCell' = true) : ∀ u ∈ css.take k ++ (c ++ css.drop k), u.oneCell' = true := by
 intro u hu
 rcases List.mem_append.1 hu with hu | hu
 . exact h1 u (List.mem_of_mem_take hu)
 . rcases List.mem_append.1 hu with hu | hu
   . exact h2 u hu
   . exact h1 u (List.mem_of_mem_drop hu)
/-- What Add does with the node above. -/
def addR (i : Int) (m k : NodeD) : NodeD × Int := if leafOf k then (zeroN, 7) else if i < 0 ∨ ((kidsOf k).length : Int) < i then (zeroN, 8) else (setKids k (insK (kidsOf k) i.toNat m), 0)
theorem keeps_refl {w : World} {B b off lo hi : Nat} (hB : Below B w w) : Keeps w w B b off lo hi := ⟨hB, fun _ _ _ _ => rfl, fun _ _ => rfl⟩
theorem keeps_drewN {w : World} {B b off lo hi : Nat} (hB : Below B w w) (q : Nat) : Keeps w (w.drewN q) B b off lo hi := ⟨below_drewN hB q, fun _ _ _ _ => rfl, fun _ _ => rfl⟩
theorem add1_no (m' m : NodeD) (i : Int) (M N : Nat) (W : World) (hM : W.cell? ⟨M, 0, none⟩ = some (.int .i64 i)) (hMW : M < W.heap.size) (he : (addR i m' m).2 ≠ 0) :
 HowC 188 #[.pointer (some ⟨M, 0, none⟩), .pointer (some ⟨N, 0, none⟩)] W m (addR i m' m) := by
 intro w b off lo hi_ cm hbel hb hlo hhi hI hc4 hno hfz
 obtain ⟨l, ps, t, ks⟩ := m
 unfold NodeI at hI
 obtain ⟨mid, ap, cp, at_, ct, ak, ck, css, h1, rfl, h3, h4, h5, h6, h7, h8⟩ := hI
 have x0 := hc4.2 0 _ rfl; have x3 := hc4.2 3 _ rfl
 simp only [Nat.add_zero] at x0
 have y0 : w.cell? ⟨M, 0, none⟩ = some (.int .i64 i) := (hbel.cell (p := ⟨M, 0, none⟩) hMW).trans hM
 have HB := Lib.hid (Below.refl W.heap.size w)
 have HE := Lib.hid he
 clear h1 h3 h4 h5 h6 h7 h8 hc4 hfz hno hM hbel hlo hhi he hb
 cases l with
 | true =>
   have hr : addR i m' (.mk true ps t ks) = (zeroN, 7) := rfl
   rw [hr]
   clear hr
   go_enter Tryz.func188, Tryz.ntmps188
   go_wp2_with fail
   go_ret
   exact ⟨rfl, keeps_refl (HB.out), fun h => by cases h⟩
 | false =>
   by_cases hlt : i < 0
   . have hr : addR i m' (.mk false ps t ks) = (zeroN, 8) := by unfold addR; rw [if_neg (by simp [leafOf]), if_pos (.inl hlt)]
     rw [hr]
     have hd : decide (i < 0) = true := by simpa using hlt
     clear hr
     go_enter Tryz.func188, Tryz.ntmps188
     go_wp2_with fail
     go_quiet (fail)
     go_wp2_with fail
     all_goals go_ret
     all_goals exact ⟨rfl, keeps_drewN HB.out _, fun h => by cases h⟩
   . by_cases hgt : (ks.length : Int) < i
     . have hr : addR i m' (.mk false ps t ks) = (zeroN, 8) := by unfold addR; rw [if_neg (by simp [leafOf]), if_pos (.inr hgt)]
       rw [hr]
       have hd : decide (i < 0) = false := by simpa using hlt
       have hd2 : decide ((ks.length : Int) < i) = true := by simpa using hgt
       clear hr
       go_enter Tryz.func188, Tryz.ntmps188
       go_wp2_with fail
       go_quiet (fail)
       go_wp2_with fail
       all_goals go_ret
       all_goals exact ⟨rfl, keeps_drewN HB.out _, fun h => by cases h⟩
     . exfalso
       refine HE.out ?_
       unfold addR
       rw [if_neg (by simp [leafOf]), if_neg (by simp only [kidsOf]; omega)]
theorem add1_ok (m' m : NodeD) (i M N : Nat) (e0 : Bool) (a1 a2 a3 : Option Addr) (n1 n2 n3 q1 q2 q3 : Nat) (W : World) (hM : W.cell? ⟨M, 0, none⟩ = some (.int .i64 i)) (hMW : M < W.heap.size) (hN : At W N [.bool e0, .slice a1 n1 q1, .slice a2 n2 q2, .slice a3 n3 q3] 35) (hv : NodeV W W.heap.size m' (.agg #[.bool e0, .slice a1 n1 q1, .slice a2 n2 q2, .slice a3 n3 q3])) (hbig : m'.wt <= 100000000)
 (hl : leafOf m = false) (hi : i <= (kidsOf m).length) (hn : (kidsOf m).length <= 100000000) :
 HowC 188 #[.pointer (some ⟨M, 0, none⟩), .pointer (some ⟨N, 0, none⟩)] W m (setKids m (insK (kidsOf m) i m'), 0) := by
 intro w b off lo hi_ cm hbel hb hlo hhi hI hc4 hno hfz
 obtain ⟨l, ps, t, ks⟩ := m
 simp only [kidsOf] at hi hn
 have : l = false := hl
 subst this
 unfold NodeI at hI
 obtain ⟨mid, ap, cp, at_, ct, ak, ck, css, h1, rfl, h3, h4, h5, h6, h7, h8⟩ := hI
 have x0 := hc4.2 0 _ rfl; have x1 := hc4.2 1 _ rfl; have x2 := hc4.2 2 _ rfl; have x3 := hc4.2 3 _ rfl
 simp only [Nat.add_zero] at x0
 have hmh := KidsI.le h8
 have hone : ∀ u ∈ css, u.oneCell' = true := KidsQ.onec (KidsI.q (ok := fun _ => True) (fun _ _ _ => trivial) h8)
 have hbw : b < w.heap.size := World.block_lt_of_cell? w _ x0
 have hBw := hbel.size
 have hMw : M < w.heap.size := by omega
 have y0 : w.cell? ⟨M, 0, none⟩ = some (.int .i64 i) := (hbel.cell (p := ⟨M, 0, none⟩) hMW).trans hM
 have hNw : NodeAt w N (.bool e0) (.slice a1 n1 q1) (.slice a2 n2 q2) (.slice a3 n3 q3) := hN.kept hbel
 obtain ⟨z0, z1, z2, z3, -, -⟩ := hNw.facts
 have HC := Lib.hid (fun (w' : World) (h : Below w.heap.size w w') => copy_c m'.wt m' _ w' (Nat.le_refl _) hbig (hv.keep (hbel.trans (h.mono hBw)) (hbel.trans (h.mono hBw)).size))
 have hk7 : ∀ g, (Value.slice ak ks.length ck).ownBlock = some g -> lo <= g /\ g < mid := fun g hg => ⟨(h6.lt g hg).1, h7 g hg⟩
 have HI := Lib.hid (fun (w2 : World) (h : Below w.heap.size w w2) (l' : Bool) (p1 p2 p3 : Option Addr) (o1 o2 o3 d1 d2 d3 : Nat) => insn_c lo (.slice ak ks.length ck) ks.length i css w2.heap.size [.bool l', .slice p1 o1 d1, .slice p2 o2 d2, .slice p3 o3 d3] (w2.alloc (Obj.cells #[.bool l', .slice p1 o1 d1, .slice p2 o2 d2, .slice p3 o3 d3] 35)) (own_keep (own_keep h6 h) (one_below _ _)) hone hi hn (by have := h.size; simp; omega) (At.fresh _ _ _) rfl (by intro u hu; simp only [List.mem_cons, List.not_mem_nil, or_false] at hu; rcases hu with rfl | rfl | rfl | rfl <;> rfl) (fun e => by have := (hk7 _ e).2; have := h.size; omega))
 have HP := Lib.hid (fun (w2 : World) v' css' hown hq hg hv' hqb => kids_changed (B := W.heap.size) (w := w) (w2 := w2) (b := b) (off := off) (lo := lo) (hi := hi_) (mid := mid) (ks' := insK ks i m') (css' := css') (v' := v') hb hlo hhi h1 hmh hno hbw hBw x0 x1 x2 x3 h3 h4 h5 hk7 hown hq hg hv' hqb)
 have hkq := KidsI.q (ok := fun x => mid <= x /\ x < hi_) (fun x hx hx2 => ⟨hx, hx2⟩) h8
 have Hkq := Lib.hid hkq; have Hk7 := Lib.hid hk7
 have f3 := hfz (off + 3)
 have hne : ∀ g, (Value.slice ak ks.length ck).ownBlock = some g -> g ≠ b := fun g hg e => by have := hk7 g hg; omega
 have Hone := Lib.hid hone
 have Hne := Lib.hid hne
 have Hx3 := Lib.hid x3; have Hf3 := Lib.hid f3; have Hy0 := Lib.hid y0
 have Hno := Lib.hid hno; have Hle := Lib.hid (show lo <= mid /\ mid <= hi_ /\ hi_ <= w.heap.size from ⟨h1, hmh, hhi⟩)
 have hd : decide ((i : Int) < 0) = false := by simp
 have hd2 : decide ((ks.length : Int) < (i : Int)) = false := by simp; omega
 have hlen : (insK ks i m').length = ks.length + 1 := by unfold insK; simp; omega
 have Hlen := Lib.hid hlen
 clear h1 h3 h4 h5 h6 h7 h8 hmh hone hk7 hkq hne hc4 hfz hno hM hbel hlo hhi x1 x2 hN hv hNw hlen
 go_enter Tryz.func188, Tryz.ntmps188
 go_wp2_with fail
 go_quiet (fail)
 go_wp2_with fail
 go_region_law (first
  | (refine step_call rfl 64 _ _ rfl copy_ent [.agg #[.bool e0, .slice a1 n1 q1, .slice a2 n2 q2, .slice a3 n3 q3]] ?_ _ (HC.out _ ?_) ?_
     . go_simp
     . exact (below_drewN (Below.refl _ _) _).drew
     rintro e w2 ⟨cs, rfl, hq, hb2⟩
     obtain ⟨l', p1, o1, d1, p2, o2, d2, p3, o3, d3, rfl⟩ := hq.form
     refine ⟨_, rfl, ?_⟩
     have hb2' := ((below_drewN (Below.refl w.heap.size w) nq).drew).trans hb2
     have Hb2 := Lib.hid hb2'; have Hq := Lib.hid hq
     have g3 : w2.cell? ⟨b, off + 3, none⟩ = some (.slice ak ks.length ck) := (hb2'.cell (p := ⟨b, off + 3, none⟩) hbw).trans Hx3.out
     have g0 : w2.cell? ⟨M, 0, none⟩ = some (.int .i64 i) := (hb2'.cell (p := ⟨M, 0, none⟩) hMw).trans Hy0.out
     have gb : b < w2.heap.size := Nat.lt_of_lt_of_le hbw hb2'.size
     have gM : M < w2.heap.size := Nat.lt_of_lt_of_le hMw hb2'.size
     clear hb2 hb2' hq)
  | (refine step_call rfl 189 _ _ rfl insn_ent [Value.slice ak ks.length ck, .int .i64 i, .slice (some ⟨w2.heap.size, 0, none⟩) 1 1] ?_ _ (HI.out w2 Hb2.out l' p1 p2 p3 o1 o2 o3 d1 d2 d3) ?_
     . go_simp
     rintro e w4 ⟨v', rfl, hown, hg, hv'⟩
     have hone' := one_ins (k := i * 4) Hone.out (NodeQ.node _ _ Hq.out).one
     obtain ⟨a', c', rfl, -⟩ := row_of_own hown hone'
     refine ⟨_, rfl, ?_⟩
     have Hown := Lib.hid hown
     have Hg := Lib.hid hg
     have Hv' := Lib.hid hv'
     have Hg4 := Lib.hid (((grown_of_below (Hb2.out.trans ((one_below w2 (Obj.cells #[.bool l', .slice p1 o1 d1, .slice p2 o2 d2, .slice p3 o3 d3] 35)).mono Hb2.out.size)))).trans hg)
     have g3' : w4.cell? ⟨b, off + 3, none⟩ = some (.slice ak ks.length ck) := (World.cell?_of_block (a := ⟨b, off + 3, none⟩) (Hg4.out.block b hbw (fun e => Hne.out b e.symm rfl))).trans Hx3.out
     have k3' : w4.frozen? ⟨b, off + 3, none⟩ = false := (World.frozen?_of_block (a := ⟨b, off + 3, none⟩) (Hg4.out.block b hbw (fun e => Hne.out b e.symm rfl))).trans Hf3.out
     clear hown hg hv'))
 all_goals
  go_wp2_with fail
  go_ret
  have hown := Hown.out
  have hv := Hv'.out
  rw [<- Hlen.out] at hown hv
  have hne4 : ∀ x, ((lo <= x /\ x < hi_) /\ mid <= x ∨ w.heap.size <= x) -> (Value.slice ak ks.length ck).ownBlock ≠ some x := fun x hx e => by have := (Hk7.out x e).2; have := Hle.out; omega
  have hq2 := KidsQ.keep (ok' := fun x => lo <= x /\ x < hi_ ∨ w.heap.size <= x) Hg4.out.size (fun x hx hlt => Hg4.out.block x hlt (fun e => by have := (Hk7.out x e.symm).2; have := hx.1; omega)) (fun x hx _ => .inl ⟨by have := Hle.out; have := hx.1; omega, hx.2⟩) _ _ Hkq.out
  have hm2 := NodeQ.keep (w' := w4) (ok' := fun x => lo <= x /\ x < hi_ ∨ w.heap.size <= x) (by have := Hg.out.size; simp at this; omega) (fun x hx hlt => (Hg.out.block x (by simp; omega) (fun e => by have := (Hk7.out x e.symm).2; have := Hle.out; have hx' : w.heap.size <= x := hx; omega)).trans (Lib.alloc_old _ _ _ hlt)) (fun x hx _ => .inr hx) _ _ Hq.out
  have h := HP.out w4 _ _ hown (kidsq_insert hm2 hq2 hi) Hg4.out (by rcases hv with e | e; exact .inl e; exact .inr fun k hk => by have := e k hk; have := Hb2.out.size; simp at *; omega) (fun x hx e => by subst e; rcases hx with hx | hx; exact Hno.out hx; omega)
  rw [Hlen.out] at h
  exact h
end Go.Proofs.YtbommcakcmhalaaGreatDoor
/- Plain laws: one node of a tree changed. -/
namespace Go.Proofs.YtbommcakcmhalaaGreatDoor
open Go.RowKit Go.Redl
theorem atN_cons_some {n m : NodeD} {i : Int} {p : List Int} (h : atN n (i :: p) = some m) : ∃ j : Nat, i = (j : Int) /\ ∃ hj : j < (kidsOf n).length, atN (kidsOf n)[j] p = some m := by
 unfold atN at h
 split at h
 . rename_i h0
   obtain ⟨j, rfl⟩ : ∃ j : Nat, i = j := ⟨i.toNat, by omega⟩
   rw [Int.toNat_natCast] at h
   by_cases hj : j < (kidsOf n).length
   . rw [List.getElem?_eq_getElem hj] at h
     exact ⟨j, rfl, hj, h⟩
   . rw [List.getElem?_eq_none (by omega)] at h
     cases h
 . cases h
theorem atN_cons {n : NodeD} {j : Nat} {p : List Int} (hj : j < (kidsOf n).length) : atN n ((j : Int) :: p) = atN (kidsOf n)[j] p := by
 conv => lhs; unfold atN
 rw [if_pos (by omega), Int.toNat_natCast, List.getElem?_eq_getElem hj]
theorem putN_mk (l : Bool) (ps : List PropD) (t : List Int) (ks : List NodeD) (i : Int) (p : List Int) (m : NodeD) : putN (.mk l ps t ks) (i :: p) m = .mk l ps t (ks.set i.toNat (putN (ks.getD i.toNat (.mk false [] [] [])) p m)) := by rw [putN]
theorem atN_step (n : NodeD) (i : Int) (p : List Int) : atN n (i :: p) = if 0 <= i then (match (kidsOf n)[i.toNat]? with | some k => atN k p | none => none) else none := by
 conv => lhs; unfold atN
 rfl
theorem putN_cons {n m : NodeD} {j : Nat} {p : List Int} (hj : j < (kidsOf n).length) : putN n ((j : Int) :: p) m = setKids n ((kidsOf n).set j (putN (kidsOf n)[j] p m)) := by
 obtain ⟨l, ps, t, ks⟩ := n
 simp only [kidsOf] at hj ⊢
 rw [putN_mk, Int.toNat_natCast]
 simp [List.getD, List.getElem?_eq_getElem hj, setKids]
theorem kids_setKids (n : NodeD) (ks : List NodeD) : kidsOf (setKids n ks) = ks := by cases n; rfl
theorem leaf_setKids (n : NodeD) (ks : List NodeD) : leafOf (setKids n ks) = leafOf n := by cases n; rfl
theorem setKids_setKids (n : NodeD) (a b : List NodeD) : setKids (setKids n a) b = setKids n b := by cases n; rfl
theorem setKids_self (n : NodeD) : setKids n (kidsOf n) = n := by cases n; rfl
theorem atN_append : ∀ (p q : List Int) (n : NodeD), atN n (p ++ q) = (atN n p).bind (fun k => atN k q)
 | [], q, n => by simp [atN]
 | i :: p, q, n => by
   rw [List.cons_append, atN_step n i (p ++ q), atN_step n i p]
   split
   . cases (kidsOf n)[i.toNat]? with
     | none => rfl
     | some k => exact atN_append p q k
   . rfl
theorem atN_put : ∀ (p : List Int) (n k k' : NodeD), atN n p = some k -> atN (putN n p k') p = some k'
 | [], n, k, k', h => by simp [putN, atN]
 | i :: p, n, k, k', h => by
   obtain ⟨j, rfl, hj, h2⟩ := atN_cons_some h
   rw [putN_cons hj]
   have hj2 : j < (kidsOf (setKids n ((kidsOf n).set j (putN (kidsOf n)[j] p k')))).length := by rw [kids_setKids]; simpa using hj
   rw [atN_cons hj2]
   simp only [kids_setKids, List.getElem_set_self]
   exact atN_put p _ k k' h2
theorem putN_put : ∀ (p : List Int) (n k a b : NodeD), atN n p = some k -> putN (putN n p a) p b = putN n p b
 | [], n, k, a, b, h => by simp [putN]
 | i :: p, n, k, a, b, h => by
   obtain ⟨j, rfl, hj, h2⟩ := atN_cons_some h
   rw [putN_cons hj, putN_cons hj]
   have hj2 : j < (kidsOf (setKids n ((kidsOf n).set j (putN (kidsOf n)[j] p a)))).length := by rw [kids_setKids]; simpa using hj
   rw [putN_cons hj2, setKids_setKids]
   simp only [kids_setKids, List.getElem_set_self, List.set_set]
   rw [putN_put p _ k a b h2]
theorem putN_append : ∀ (p q : List Int) (n k m : NodeD), atN n p = some k -> putN n (p ++ q) m = putN n p (putN k q m)
 | [], q, n, k, m, h => by
   have e : n = k := by simpa [atN] using h
   subst e
   simp [putN]
 | i :: p, q, n, k, m, h => by
   obtain ⟨j, rfl, hj, h2⟩ := atN_cons_some h
   rw [List.cons_append, putN_cons hj, putN_cons hj, putN_append p q _ k m h2]
theorem putN_same : ∀ (p : List Int) (n k : NodeD), atN n p = some k -> putN n p k = n
 | [], n, k, h => by
   have e : n = k := by simpa [atN] using h
   subst e
   simp [putN]
 | i :: p, n, k, h => by
   obtain ⟨j, rfl, hj, h2⟩ := atN_cons_some h
   rw [putN_cons hj, putN_same p _ k h2, List.set_getElem_self, setKids_self]
theorem leaf_put (p : List Int) (n k k' : NodeD) (h : atN n p = some k) (hl : leafOf k' = leafOf k) : leafOf (putN n p k') = leafOf n := by
 cases p with
 | nil =>
   have e : n = k := by simpa [atN] using h
   subst e
   simpa [putN] using hl
 | cons i p =>
   obtain ⟨j, rfl, hj, h2⟩ := atN_cons_some h
   rw [putN_cons hj, leaf_setKids]
theorem kidsE_all : ∀ {ks : List NodeD}, kidsE ks = 0 ↔ ∀ k ∈ ks, nodeE k = 0
 | [] => by simp [kidsE]
 | k :: ks => by
   rw [kidsE_cons]
   have := kidsE_all (ks := ks)
   constructor
   . intro h
     split at h
     . contradiction
     . rename_i h0
       simp only [ne_eq, Decidable.not_not] at h0
       intro x hx
       rcases List.mem_cons.1 hx with rfl | hx
       . exact h0
       . exact this.1 h x hx
   . intro h
     rw [h k (by simp)]
     simp only [ne_eq, not_true, if_false]
     exact this.2 fun x hx => h x (by simp [hx])
theorem nodeE_zero {l : Bool} {ps : List PropD} {t : List Int} {ks : List NodeD} : nodeE (.mk l ps t ks) = 0 ↔ ownE l ps t ks.length = 0 /\ ∀ k ∈ ks, nodeE k = 0 := by
 rw [nodeE_mk]
 split
 . rename_i h; simp [h]
 . rename_i h
   simp only [ne_eq, Decidable.not_not] at h
   rw [kidsE_all]
   simp [h]
theorem ownE_zero {l : Bool} {ps : List PropD} {t : List Int} {m : Nat} : ownE l ps t m = 0 ↔ propsE ps = 0 /\ (l = true -> m = 0) /\ (l = false -> t = []) /\ checkE t = 0 := by
 unfold ownE
 by_cases h : propsE ps = 0
 . simp only [h, ne_eq, not_true, if_false, true_and]
   cases l <;> simp
   . by_cases ht : t = []
     . subst ht; simp
     . have : 0 < t.length := by cases t with
        | nil => exact absurd rfl ht
        | cons => simp
       simp [ht, this]
   . by_cases hm : m = 0
     . subst hm; simp
     . simp [hm, Nat.pos_of_ne_zero hm]
 . simp [h]
theorem nodeE_at : ∀ (p : List Int) (n k : NodeD), nodeE n = 0 -> atN n p = some k -> nodeE k = 0
 | [], n, k, h, ha => by
   have e : n = k := by simpa [atN] using ha
   subst e; exact h
 | i :: p, n, k, h, ha => by
   obtain ⟨j, rfl, hj, h2⟩ := atN_cons_some ha
   obtain ⟨l, ps, t, ks⟩ := n
   exact nodeE_at p _ k ((nodeE_zero.1 h).2 _ (List.getElem_mem hj)) h2
theorem nodeE_put : ∀ (p : List Int) (n k k' : NodeD), nodeE n = 0 -> atN n p = some k -> nodeE k' = 0 -> nodeE (putN n p k') = 0
 | [], n, k, k', h, ha, hk => by simpa [putN] using hk
 | i :: p, n, k, k', h, ha, hk => by
   obtain ⟨j, rfl, hj, h2⟩ := atN_cons_some ha
   rw [putN_cons hj]
   obtain ⟨l, ps, t, ks⟩ := n
   obtain ⟨h3, h4⟩ := nodeE_zero.1 h
   simp only [kidsOf, setKids] at hj h2 ⊢
   refine nodeE_zero.2 ⟨by rw [List.length_set]; exact h3, fun x hx => ?_⟩
   rcases List.mem_or_eq_of_mem_set hx with hx | rfl
   . exact h4 x hx
   . exact nodeE_put p _ k k' (h4 _ (List.getElem_mem hj)) h2 hk
theorem sizeK_set : ∀ (ks : List NodeD) (j : Nat) (hj : j < ks.length) (m : NodeD), sizeK (ks.set j m) + sizeN ks[j] = sizeK ks + sizeN m
 | k :: ks, 0, hj, m => by simp [sizeK]; omega
 | k :: ks, j + 1, hj, m => by
   have := sizeK_set ks j (by simpa using hj) m
   simp [sizeK] at this ⊢; omega
theorem sizeN_setKids (n : NodeD) (ks : List NodeD) : sizeN (setKids n ks) + sizeK (kidsOf n) = sizeN n + sizeK ks := by
 obtain ⟨l, ps, t, ks0⟩ := n
 simp [sizeN, setKids, kidsOf]; omega
theorem sizeN_put : ∀ (p : List Int) (n k k' : NodeD), atN n p = some k -> sizeN (putN n p k') + sizeN k = sizeN n + sizeN k'
 | [], n, k, k', ha => by
   have e : n = k := by simpa [atN] using ha
   subst e
   simp only [putN]; omega
 | i :: p, n, k, k', ha => by
   obtain ⟨j, rfl, hj, h2⟩ := atN_cons_some ha
   have h3 := sizeN_put p _ k k' h2
   have h4 := sizeK_set (kidsOf n) j hj (putN (kidsOf n)[j] p k')
   have h5 := sizeN_setKids n ((kidsOf n).set j (putN (kidsOf n)[j] p k'))
   rw [putN_cons hj]; omega
theorem wtAll_set : ∀ (ks : List NodeD) (j : Nat) (hj : j < ks.length) (m : NodeD), wtAll (ks.set j m) + ks[j].wt = wtAll ks + m.wt
 | k :: ks, 0, hj, m => by simp [wtAll]; omega
 | k :: ks, j + 1, hj, m => by
   have := wtAll_set ks j (by simpa using hj) m
   simp [wtAll] at this ⊢; omega
theorem wt_setKids (n : NodeD) (ks : List NodeD) : (setKids n ks).wt + wtAll (kidsOf n) = n.wt + wtAll ks := by
 obtain ⟨l, ps, t, ks0⟩ := n
 simp [NodeD.wt, setKids, kidsOf]; omega
theorem wt_put : ∀ (p : List Int) (n k k' : NodeD), atN n p = some k -> (putN n p k').wt + k.wt = n.wt + k'.wt
 | [], n, k, k', ha => by
   have e : n = k := by simpa [atN] using ha
   subst e
   simp only [putN]; omega
 | i :: p, n, k, k', ha => by
   obtain ⟨j, rfl, hj, h2⟩ := atN_cons_some ha
   have h3 := wt_put p _ k k' h2
   have h4 := wtAll_set (kidsOf n) j hj (putN (kidsOf n)[j] p k')
   have h5 := wt_setKids n ((kidsOf n).set j (putN (kidsOf n)[j] p k'))
   rw [putN_cons hj]; omega
theorem last_snoc (p : List Int) (i : Int) : lastN (p ++ [i]) = i := by simp [lastN]
theorem drop_snoc (p : List Int) (i : Int) : (p ++ [i]).dropLast = p := by simp
theorem atN_snoc {n k : NodeD} {p : List Int} {i : Nat} (h : atN n p = some k) (hi : i < (kidsOf k).length) : atN n (p ++ [(i : Int)]) = some (kidsOf k)[i] := by
 rw [atN_append, h]
 show atN k [(i : Int)] = _
 rw [atN_cons hi]
 rfl
theorem addN_kid {n k m : NodeD} {p : List Int} {i : Nat} (h : atN n p = some k) (hl : leafOf k = false) (hi : i <= (kidsOf k).length) : addN n (p ++ [(i : Int)]) m = (putN n p (setKids k (insK (kidsOf k) i m)), 0) := by
 unfold addN
 rw [if_neg (by simp), drop_snoc, h]
 simp only [hl, last_snoc, Bool.false_eq_true, if_false, Int.toNat_natCast]
 rw [if_neg (by omega)]
theorem cutN_kid {n k : NodeD} {p : List Int} {i : Nat} (h : atN n p = some k) (hi : i < (kidsOf k).length) : cutN n (p ++ [(i : Int)]) = (putN n p (setKids k ((kidsOf k).eraseIdx i)), (kidsOf k)[i], 0) := by
 unfold cutN
 rw [if_neg (by simp), drop_snoc, atN_snoc h hi, h]
 simp only [last_snoc, Int.toNat_natCast]
end Go.Proofs.YtbommcakcmhalaaGreatDoor
/- Plain laws: what the operations of a repair come to. -/
namespace Go.Proofs.YtbommcakcmhalaaGreatDoor
open Go.RowKit Go.Redl
set_option linter.unusedSectionVars false
theorem nodeE_setKids {x : NodeD} {L : List NodeD} (h : nodeE x = 0) (hL : ∀ k ∈ L, nodeE k = 0) (hl : leafOf x = true -> L = []) : nodeE (setKids x L) = 0 := by
 obtain ⟨l, ps, t, ks⟩ := x
 obtain ⟨h1, h2⟩ := nodeE_zero.1 h
 obtain ⟨g1, g2, g3, g4⟩ := ownE_zero.1 h1
 exact nodeE_zero.2 ⟨ownE_zero.2 ⟨g1, fun e => by rw [hl e]; rfl, g3, g4⟩, hL⟩
theorem nodeE_kids {x : NodeD} (h : nodeE x = 0) : ∀ k ∈ kidsOf x, nodeE k = 0 := by
 obtain ⟨l, ps, t, ks⟩ := x
 exact (nodeE_zero.1 h).2
theorem leaf_kids {x : NodeD} (h : nodeE x = 0) (hl : leafOf x = true) : kidsOf x = [] := by
 obtain ⟨l, ps, t, ks⟩ := x
 have := (ownE_zero.1 (nodeE_zero.1 h).1).2.1 hl
 exact List.eq_nil_of_length_eq_zero this
/-- A tree in which an element's Kids are others may be. -/
theorem nodeE_putK {n k : NodeD} {p : List Int} {L : List NodeD} (hn : nodeE n = 0) (ha : atN n p = some k) (hk : leafOf k = false) (hL : ∀ x ∈ L, nodeE x = 0) : nodeE (putN n p (setKids k L)) = 0 :=
 nodeE_put p n k _ hn ha (nodeE_setKids (nodeE_at p n k hn ha) hL (fun h => by rw [hk] at h; cases h))
theorem leaf_putK {n k : NodeD} {p : List Int} {L : List NodeD} (ha : atN n p = some k) : leafOf (putN n p (setKids k L)) = leafOf n := leaf_put p n k _ ha (leaf_setKids _ _)
theorem apply_ok {n : NodeD} {o : OpF} (h1 : nodeE n = 0) (h2 : leafOf n = false) (h3 : formN o = 0) : applyN n o = shapedN n o := by
 unfold applyN
 rw [if_neg (by simp [h1]), h2, if_neg (by simp), if_neg (by simp [h3])]
theorem form_ins (p : List Int) (i : Int) (m : NodeD) : formN (OpD.full ⟨1, p ++ [i], [], 0, m, []⟩) = 0 := by
 simp [formN, fieldsOf, setF, selZ]
theorem form_rem (p : List Int) (i : Int) (m : NodeD) : formN (OpD.full ⟨2, p ++ [i], [], 0, m, []⟩) = 0 := by
 simp [formN, fieldsOf, setF, selZ]
theorem same_zero : sameN zeroN zeroN = true := sameN_self _
theorem form_mov (p q : List Int) (i j : Int) : formN (OpD.full ⟨5, p ++ [i], q ++ [j], 0, zeroN, []⟩) = 0 := by
 simp [formN, fieldsOf, setF, selZ, same_zero]
theorem form_mrg (p : List Int) (i x : Int) (ps : List PropD) : formN (OpD.full ⟨3, p ++ [i], [], x, zeroN, ps⟩) = 0 := by
 simp [formN, fieldsOf, setF, selZ, same_zero]
theorem shaped_one {n : NodeD} {o : OpF} (h : o.kind = 1) : shapedN n o = if nodeE o.node ≠ 0 then (zeroN, nodeE o.node) else addN n o.path o.node := by
 unfold shapedN; rw [if_pos h]
theorem shaped_two {n rest k : NodeD} {o : OpF} (h : o.kind = 2) (hc : cutN n o.path = (rest, k, 0)) : shapedN n o = if sameN k o.node then (rest, 0) else (zeroN, 9) := by
 unfold shapedN; rw [if_neg (by omega), hc, if_neg (by simp), if_pos h]
theorem shaped_three {n rest k : NodeD} {o : OpF} (h : o.kind = 3) (hc : cutN n o.path = (rest, k, 0)) : shapedN n o = mergedN rest k o := by
 unfold shapedN; rw [if_neg (by omega), hc, if_neg (by simp), if_neg (by omega), if_pos h]
theorem shaped_five {n rest k : NodeD} {o : OpF} (h : o.kind = 5) (hc : cutN n o.path = (rest, k, 0)) : shapedN n o = addN rest o.dest k := by
 unfold shapedN; rw [if_neg (by omega), hc, if_neg (by simp), if_neg (by omega), if_neg (by omega)]
section
variable {n k : NodeD} {p : List Int} (hn : nodeE n = 0) (hr : leafOf n = false) (ha : atN n p = some k) (hk : leafOf k = false)
include hn hr ha hk
theorem ins_kid {i : Nat} {m : NodeD} (hm : nodeE m = 0) (hi : i <= (kidsOf k).length) : applyN n (OpD.full ⟨1, p ++ [(i : Int)], [], 0, m, []⟩) = (putN n p (setKids k (insK (kidsOf k) i m)), 0) := by
 rw [apply_ok hn hr (form_ins _ _ _), shaped_one rfl, if_neg (by simp [hm])]
 exact addN_kid ha hk hi
theorem rem_kid {i : Nat} (hi : i < (kidsOf k).length) : applyN n (OpD.full ⟨2, p ++ [(i : Int)], [], 0, (kidsOf k)[i], []⟩) = (putN n p (setKids k ((kidsOf k).eraseIdx i)), 0) := by
 rw [apply_ok hn hr (form_rem _ _ _), shaped_two rfl (cutN_kid ha hi)]
 simp [sameN_self]
/-- A Kid moved. -/
theorem mov_kid {q : List Int} {i j : Nat} {rest k2 : NodeD} {x : NodeD} {p1 p2 : List Int} (hc : cutN n (p1 ++ [(i : Int)]) = (rest, x, 0)) (h2 : atN rest p2 = some k2) (hl2 : leafOf k2 = false) (hj : j <= (kidsOf k2).length) :
 applyN n (OpD.full ⟨5, p1 ++ [(i : Int)], p2 ++ [(j : Int)], 0, zeroN, []⟩) = (putN rest p2 (setKids k2 (insK (kidsOf k2) j x)), 0) := by
 rw [apply_ok hn hr (form_mov _ _ _ _), shaped_five rfl hc]
 exact addN_kid h2 hl2 hj
theorem mrg_kid {i : Nat} (hi : i + 1 < (kidsOf k).length) (h1 : leafOf (kidsOf k)[i] = true) (h2 : leafOf (kidsOf k)[i + 1] = true) :
 applyN n (OpD.full ⟨3, p ++ [((i + 1 : Nat) : Int)], [], (textOf (kidsOf k)[i]).length, zeroN, propsOf (kidsOf k)[i + 1]⟩) = (putN n p (setKids k (((kidsOf k).eraseIdx (i + 1)).set i (joinN (kidsOf k)[i] (kidsOf k)[i + 1]))), 0) := by
 rw [apply_ok hn hr (form_mrg _ _ _ _), shaped_three rfl (cutN_kid ha hi)]
 unfold mergedN backP
 simp only [last_snoc, drop_snoc]
 rw [if_neg (by simp), show (((i + 1 : Nat) : Int) - 1) = (i : Int) by omega]
 have hl : i < (kidsOf (setKids k ((kidsOf k).eraseIdx (i + 1)))).length := by rw [kids_setKids, List.length_eraseIdx]; split <;> omega
 have hput := atN_put p n k (setKids k ((kidsOf k).eraseIdx (i + 1))) ha
 have hat := atN_snoc hput hl
 have hge : (kidsOf (setKids k ((kidsOf k).eraseIdx (i + 1))))[i] = (kidsOf k)[i] := by
  simp only [kids_setKids]
  rw [List.getElem_eraseIdx, dif_pos (by omega)]
 rw [hge] at hat
 rw [hat]
 simp only
 rw [h1, h2, if_neg (by simp)]
 unfold lengthN
 rw [h1]
 simp only [if_true, ne_eq, not_true, if_false]
 rw [putN_append p [(i : Int)] _ _ _ hput, putN_cons hl, putN_put p n k _ _ ha]
 simp [kids_setKids, setKids_setKids, putN]
end
/-- Operations done one behind the other. -/
def playN : NodeD -> List OpF -> Option NodeD
 | n, [] => some n
 | n, o :: l => if (applyN n o).2 = 0 then playN (applyN n o).1 l else none
theorem playN_cons {n m : NodeD} {o : OpF} {l : List OpF} (h : applyN n o = (m, 0)) : playN n (o :: l) = playN m l := by
 conv => lhs; unfold playN
 rw [h]; simp
theorem playN_step (n : NodeD) (o : OpF) (l : List OpF) : playN n (o :: l) = if (applyN n o).2 = 0 then playN (applyN n o).1 l else none := by
 conv => lhs; unfold playN
theorem playN_append : ∀ (a b : List OpF) (n : NodeD), playN n (a ++ b) = (playN n a).bind (fun m => playN m b)
 | [], b, n => by simp [playN]
 | o :: a, b, n => by
   rw [List.cons_append, playN_step n o (a ++ b), playN_step n o a]
   split
   . exact playN_append a b _
   . rfl
/-- Kids of which the one at j is being lifted: t of its own are. -/
def liftL (ks : List NodeD) (j : Nat) (x : NodeD) (t : Nat) : List NodeD := ks.take j ++ setKids x ((kidsOf x).drop t) :: ((kidsOf x).take t ++ ks.drop (j + 1))
theorem liftL_zero {ks : List NodeD} {j : Nat} (hj : j < ks.length) : liftL ks j ks[j] 0 = ks := by
 unfold liftL
 simp only [List.drop_zero, setKids_self, List.take_zero, List.nil_append]
 rw [<- List.drop_eq_getElem_cons hj, List.take_append_drop]
theorem liftL_len {ks : List NodeD} {j : Nat} {x : NodeD} {t : Nat} (hj : j < ks.length) (ht : t <= (kidsOf x).length) : (liftL ks j x t).length = ks.length + t := by
 unfold liftL
 simp [Nat.min_eq_left (Nat.le_of_lt hj), Nat.min_eq_left ht]; omega
theorem liftL_mem {ks : List NodeD} {j : Nat} {x : NodeD} {t : Nat} (hj : j < ks.length) (hx : x = ks[j]) (hE : ∀ k ∈ ks, nodeE k = 0) : ∀ y ∈ liftL ks j x t, nodeE y = 0 := by
 have hxE : nodeE x = 0 := hE x (by rw [hx]; exact List.getElem_mem hj)
 intro y hy
 unfold liftL at hy
 rcases List.mem_append.1 hy with hy | hy
 . exact hE y (List.mem_of_mem_take hy)
 . rcases List.mem_cons.1 hy with rfl | hy
   . exact nodeE_setKids hxE (fun k hk => nodeE_kids hxE k (List.mem_of_mem_drop hk)) (fun hl => by rw [leaf_kids hxE hl]; simp)
   . rcases List.mem_append.1 hy with hy | hy
     . exact nodeE_kids hxE y (List.mem_of_mem_take hy)
     . exact hE y (List.mem_of_mem_drop hy)
theorem liftL_at {ks : List NodeD} {j : Nat} {x : NodeD} {t : Nat} (hj : j < ks.length) : (liftL ks j x t)[j]? = some (setKids x ((kidsOf x).drop t)) := by
 unfold liftL
 rw [List.getElem?_append_right (by simp; omega)]
 simp [Nat.min_eq_left (Nat.le_of_lt hj)]
theorem liftL_step {ks : List NodeD} {j : Nat} {x : NodeD} {t : Nat} (hj : j < ks.length) (ht : t < (kidsOf x).length) :
 insK ((liftL ks j x t).set j (setKids x ((kidsOf x).drop (t + 1)))) (j + 1 + t) (kidsOf x)[t] = liftL ks j x (t + 1) := by
 have e : (liftL ks j x t).set j (setKids x ((kidsOf x).drop (t + 1))) = ks.take j ++ setKids x ((kidsOf x).drop (t + 1)) :: ((kidsOf x).take t ++ ks.drop (j + 1)) := by
  unfold liftL
  rw [List.set_append_right _ _ (by simp; omega)]
  simp [Nat.min_eq_left (Nat.le_of_lt hj)]
 rw [e]
 unfold insK liftL
 have hl : (ks.take j ++ setKids x ((kidsOf x).drop (t + 1)) :: (kidsOf x).take t).length = j + 1 + t := by simp; omega
 rw [show ks.take j ++ setKids x ((kidsOf x).drop (t + 1)) :: ((kidsOf x).take t ++ ks.drop (j + 1)) = (ks.take j ++ setKids x ((kidsOf x).drop (t + 1)) :: (kidsOf x).take t) ++ ks.drop (j + 1) by simp, List.take_left' hl, List.drop_left' hl, List.take_succ_eq_append_getElem ht]
 simp only [List.append_assoc, List.cons_append, List.nil_append]
section
variable {n k : NodeD} {p : List Int} (hn : nodeE n = 0) (hr : leafOf n = false) (ha : atN n p = some k) (hk : leafOf k = false)
include hn hr ha hk
/-- One of a Kid's Kids moved out behind it. -/
theorem lift_one {j t : Nat} (hj : j < (kidsOf k).length) (ht : t < (kidsOf (kidsOf k)[j]).length) :
 applyN (putN n p (setKids k (liftL (kidsOf k) j (kidsOf k)[j] t))) (OpD.full ⟨5, p ++ [(j : Int), 0], p ++ [(j : Int) + (1 + (t : Int))], 0, zeroN, []⟩) = (putN n p (setKids k (liftL (kidsOf k) j (kidsOf k)[j] (t + 1))), 0) := by
 have hE := nodeE_kids (nodeE_at p n k hn ha)
 have hat := atN_put p n k (setKids k (liftL (kidsOf k) j (kidsOf k)[j] t)) ha
 have hjl : j < (kidsOf (setKids k (liftL (kidsOf k) j (kidsOf k)[j] t))).length := by rw [kids_setKids, liftL_len hj (by omega)]; omega
 have hx : (kidsOf (setKids k (liftL (kidsOf k) j (kidsOf k)[j] t)))[j] = setKids (kidsOf k)[j] ((kidsOf (kidsOf k)[j]).drop t) := by
  have := liftL_at (x := (kidsOf k)[j]) (t := t) hj
  simp only [kids_setKids]
  rw [List.getElem?_eq_getElem (by rw [kids_setKids] at hjl; exact hjl)] at this
  exact Option.some.inj this
 have hat2 := atN_snoc hat hjl
 rw [hx] at hat2
 have hc := cutN_kid (i := 0) hat2 (by rw [kids_setKids]; simp; omega)
 have e1 : p ++ [(j : Int), 0] = p ++ [(j : Int)] ++ [((0 : Nat) : Int)] := by simp
 have e2 : (j : Int) + (1 + (t : Int)) = ((j + 1 + t : Nat) : Int) := by omega
 simp only [kids_setKids, setKids_setKids, List.getElem_drop, Nat.add_zero, List.eraseIdx_zero, List.tail_drop] at hc
 rw [putN_append p _ _ _ _ hat, putN_cons hjl, putN_put p n k _ _ ha] at hc
 simp only [kids_setKids, setKids_setKids, putN] at hc
 rw [e1, e2]
 have hat3 := atN_put p n k (setKids k ((liftL (kidsOf k) j (kidsOf k)[j] t).set j (setKids (kidsOf k)[j] ((kidsOf (kidsOf k)[j]).drop (t + 1))))) ha
 refine (mov_kid (q := []) (nodeE_putK hn ha hk (liftL_mem hj rfl hE)) ((leaf_putK ha).trans hr) hat ((leaf_setKids _ _).trans hk) hc hat3 ((leaf_setKids _ _).trans hk) (by rw [kids_setKids, List.length_set, liftL_len hj (by omega)]; omega)).trans ?_
 rw [kids_setKids, setKids_setKids, putN_put p n k _ _ ha, liftL_step hj ht]
theorem lift_all {j : Nat} (hj : j < (kidsOf k).length) : ∀ (m t : Nat), t + m = (kidsOf (kidsOf k)[j]).length ->
 playN (putN n p (setKids k (liftL (kidsOf k) j (kidsOf k)[j] t))) ((List.range' t m).map fun i : Nat => OpD.full ⟨5, p ++ [(j : Int), 0], p ++ [(j : Int) + (1 + (i : Int))], 0, zeroN, []⟩) = some (putN n p (setKids k (liftL (kidsOf k) j (kidsOf k)[j] (kidsOf (kidsOf k)[j]).length)))
 | 0, t, h => by
   obtain rfl : t = (kidsOf (kidsOf k)[j]).length := by omega
   simp [playN]
 | m + 1, t, h => by
   rw [List.range'_succ, List.map_cons, playN_cons (lift_one hn hr ha hk hj (by omega))]
   exact lift_all hj m (t + 1) (by omega)
end
/-- Kids of which some from j on are being wrapped: t of them are. -/
def wrapL (ks : List NodeD) (j : Nat) (x : NodeD) (t : Nat) : List NodeD := ks.take j ++ setKids x ((ks.drop j).take t) :: ks.drop (j + t)
theorem wrapL_zero {ks : List NodeD} {j : Nat} {x : NodeD} (hx : kidsOf x = []) : wrapL ks j x 0 = insK ks j x := by
 unfold wrapL insK
 rw [List.take_zero, <- hx, setKids_self, Nat.add_zero]
theorem wrapL_mem {ks : List NodeD} {j : Nat} {x : NodeD} {t : Nat} (hx : nodeE x = 0) (hl : leafOf x = false) (hE : ∀ k ∈ ks, nodeE k = 0) : ∀ y ∈ wrapL ks j x t, nodeE y = 0 := by
 intro y hy
 unfold wrapL at hy
 rcases List.mem_append.1 hy with hy | hy
 . exact hE y (List.mem_of_mem_take hy)
 . rcases List.mem_cons.1 hy with rfl | hy
   . exact nodeE_setKids hx (fun k hk => hE k (List.mem_of_mem_drop (List.mem_of_mem_take hk))) (fun h => by rw [hl] at h; cases h)
   . exact hE y (List.mem_of_mem_drop hy)
theorem wrapL_len {ks : List NodeD} {j : Nat} {x : NodeD} {t : Nat} (hj : j + t <= ks.length) : (wrapL ks j x t).length = ks.length - t + 1 := by
 unfold wrapL
 simp; omega
theorem wrapL_at {ks : List NodeD} {j : Nat} {x : NodeD} {t : Nat} (hj : j <= ks.length) : (wrapL ks j x t)[j]? = some (setKids x ((ks.drop j).take t)) := by
 unfold wrapL
 rw [List.getElem?_append_right (by simp; omega)]
 simp [Nat.min_eq_left hj]
theorem wrapL_next {ks : List NodeD} {j : Nat} {x : NodeD} {t : Nat} (hj : j + t < ks.length) : (wrapL ks j x t)[j + 1]? = some ks[j + t] := by
 unfold wrapL
 rw [List.getElem?_append_right (by simp; omega)]
 simp [Nat.min_eq_left (show j <= ks.length by omega), show j + 1 - j = 1 by omega, List.getElem?_eq_getElem hj]
theorem wrapL_step {ks : List NodeD} {j : Nat} {x : NodeD} {t : Nat} (hj : j + t < ks.length) :
 ((wrapL ks j x t).eraseIdx (j + 1)).set j (setKids x (insK ((ks.drop j).take t) t ks[j + t])) = wrapL ks j x (t + 1) := by
 have hl : (ks.take j).length = j := by simp; omega
 unfold wrapL
 rw [List.eraseIdx_append_of_length_le (by omega), hl, show j + 1 - j = 1 by omega, List.eraseIdx_cons_succ, List.set_append_right _ _ (by omega), hl, Nat.sub_self, List.set_cons_zero, List.eraseIdx_zero, List.tail_drop]
 have e : insK ((ks.drop j).take t) t ks[j + t] = (ks.drop j).take (t + 1) := by
  have hd : t < (ks.drop j).length := by simp; omega
  unfold insK
  rw [List.take_take, Nat.min_self, List.drop_eq_nil_of_le (List.length_take_le _ _), List.take_succ_eq_append_getElem hd, List.getElem_drop]
 rw [e, Nat.add_assoc]
section
variable {n k : NodeD} {p : List Int} (hn : nodeE n = 0) (hr : leafOf n = false) (ha : atN n p = some k) (hk : leafOf k = false)
include hn hr ha hk
/-- One Kid moved into the one ahead of it. -/
theorem wrap_one {j t : Nat} {x : NodeD} (hx : nodeE x = 0) (hl : leafOf x = false) (hj : j + t < (kidsOf k).length) :
 applyN (putN n p (setKids k (wrapL (kidsOf k) j x t))) (OpD.full ⟨5, p ++ [(j : Int) + 1], p ++ [(j : Int), (t : Int)], 0, zeroN, []⟩) = (putN n p (setKids k (wrapL (kidsOf k) j x (t + 1))), 0) := by
 have hE := nodeE_kids (nodeE_at p n k hn ha)
 have hat := atN_put p n k (setKids k (wrapL (kidsOf k) j x t)) ha
 have hwl : (wrapL (kidsOf k) j x t).length = (kidsOf k).length - t + 1 := wrapL_len (by omega)
 have hjl : j + 1 < (kidsOf (setKids k (wrapL (kidsOf k) j x t))).length := by rw [kids_setKids, hwl]; omega
 have hc := cutN_kid hat hjl
 have hy : (kidsOf (setKids k (wrapL (kidsOf k) j x t)))[j + 1] = (kidsOf k)[j + t] := by
  have := wrapL_next (x := x) hj
  simp only [kids_setKids]
  rw [List.getElem?_eq_getElem (by rw [kids_setKids] at hjl; exact hjl)] at this
  exact Option.some.inj this
 rw [hy] at hc
 rw [kids_setKids, setKids_setKids, putN_put p n k _ _ ha] at hc
 have hat3 := atN_put p n k (setKids k ((wrapL (kidsOf k) j x t).eraseIdx (j + 1))) ha
 have hjl2 : j < (kidsOf (setKids k ((wrapL (kidsOf k) j x t).eraseIdx (j + 1)))).length := by rw [kids_setKids, List.length_eraseIdx]; split <;> omega
 have hz : (kidsOf (setKids k ((wrapL (kidsOf k) j x t).eraseIdx (j + 1))))[j] = setKids x (((kidsOf k).drop j).take t) := by
  have := wrapL_at (ks := kidsOf k) (j := j) (x := x) (t := t) (by omega)
  simp only [kids_setKids]
  rw [List.getElem_eraseIdx, dif_pos (by omega)]
  rw [List.getElem?_eq_getElem (by omega)] at this
  exact Option.some.inj this
 have hat4 := atN_snoc hat3 hjl2
 rw [hz] at hat4
 have e1 : p ++ [(j : Int) + 1] = p ++ [((j + 1 : Nat) : Int)] := by simp
 have e2 : p ++ [(j : Int), (t : Int)] = p ++ [(j : Int)] ++ [(t : Int)] := by simp
 rw [e1, e2]
 refine (mov_kid (q := []) (nodeE_putK hn ha hk (wrapL_mem hx hl hE)) ((leaf_putK ha).trans hr) hat ((leaf_setKids _ _).trans hk) hc hat4 ((leaf_setKids _ _).trans hl) (by rw [kids_setKids]; simp; omega)).trans ?_
 rw [putN_append p _ _ _ _ hat3, putN_cons hjl2, putN_put p n k _ _ ha]
 simp only [kids_setKids, setKids_setKids, putN]
 rw [wrapL_step hj]
theorem wrap_all {j : Nat} {x : NodeD} (hx : nodeE x = 0) (hl : leafOf x = false) : ∀ (m t : Nat), j + t + m <= (kidsOf k).length ->
 playN (putN n p (setKids k (wrapL (kidsOf k) j x t))) ((List.range' t m).map fun i : Nat => OpD.full ⟨5, p ++ [(j : Int) + 1], p ++ [(j : Int), (i : Int)], 0, zeroN, []⟩) = some (putN n p (setKids k (wrapL (kidsOf k) j x (t + m))))
 | 0, t, h => by simp [playN]
 | m + 1, t, h => by
   rw [List.range'_succ, List.map_cons, playN_cons (wrap_one hn hr ha hk hx hl (by omega))]
   rw [wrap_all hx hl m (t + 1) (by omega), show t + 1 + m = t + (m + 1) by omega]
end
/-- An element's Kids behind its repair. -/
def fixK (r : RuleD) (ks : List NodeD) (f : FindD) : List NodeD :=
 if f.1 = 1 ∨ f.1 = 5 then ks.eraseIdx f.2.1.toNat
 else if f.1 = 2 then ks.take f.2.1.toNat ++ (kidsOf (kidAt ks f.2.1.toNat) ++ ks.drop (f.2.1.toNat + 1))
 else if f.1 = 3 then wrapL ks f.2.1.toNat (elemN (actOf r (kidAt ks f.2.1.toNat)).2) f.2.2.toNat
 else if f.1 = 4 then (ks.eraseIdx f.2.1.toNat).set (f.2.1.toNat - 1) (joinN (kidAt ks (f.2.1.toNat - 1)) (kidAt ks f.2.1.toNat))
 else [if r.fill = 1 then .mk true [] [] [] else elemN r.fillT]
theorem fixK_one {r : RuleD} {ks : List NodeD} {f : FindD} (h : f.1 = 1 ∨ f.1 = 5) : fixK r ks f = ks.eraseIdx f.2.1.toNat := by
 unfold fixK; rw [if_pos h]
theorem fixK_two {r : RuleD} {ks : List NodeD} {f : FindD} (h : f.1 = 2) : fixK r ks f = ks.take f.2.1.toNat ++ (kidsOf (kidAt ks f.2.1.toNat) ++ ks.drop (f.2.1.toNat + 1)) := by
 unfold fixK; rw [if_neg (by omega), if_pos h]
theorem fixK_three {r : RuleD} {ks : List NodeD} {f : FindD} (h : f.1 = 3) : fixK r ks f = wrapL ks f.2.1.toNat (elemN (actOf r (kidAt ks f.2.1.toNat)).2) f.2.2.toNat := by
 unfold fixK; rw [if_neg (by omega), if_neg (by omega), if_pos h]
theorem fixK_four {r : RuleD} {ks : List NodeD} {f : FindD} (h : f.1 = 4) : fixK r ks f = (ks.eraseIdx f.2.1.toNat).set (f.2.1.toNat - 1) (joinN (kidAt ks (f.2.1.toNat - 1)) (kidAt ks f.2.1.toNat)) := by
 unfold fixK; rw [if_neg (by omega), if_neg (by omega), if_neg (by omega), if_pos h]
theorem fixK_six {r : RuleD} {ks : List NodeD} {f : FindD} (h : f.1 = 6) : fixK r ks f = [if r.fill = 1 then .mk true [] [] [] else elemN r.fillT] := by
 unfold fixK; rw [if_neg (by omega), if_neg (by omega), if_neg (by omega), if_neg (by omega)]
theorem fixL_one {r : RuleD} {ks : List NodeD} {p : List Int} {f : FindD} (h : f.1 = 1 ∨ f.1 = 5) : fixL r ks p f = [⟨2, p ++ [f.2.1], [], 0, kidAt ks f.2.1.toNat, []⟩] := by
 unfold fixL; rw [if_pos h]
theorem fixL_two {r : RuleD} {ks : List NodeD} {p : List Int} {f : FindD} (h : f.1 = 2) : fixL r ks p f = (List.range (kidsOf (kidAt ks f.2.1.toNat)).length).map (fun i : Nat => (⟨5, p ++ [f.2.1, 0], p ++ [f.2.1 + (1 + (i : Int))], 0, zeroN, []⟩ : OpD)) ++ [⟨2, p ++ [f.2.1], [], 0, noKids (kidAt ks f.2.1.toNat), []⟩] := by
 unfold fixL; rw [if_neg (by omega), if_pos h]
theorem fixL_three {r : RuleD} {ks : List NodeD} {p : List Int} {f : FindD} (h : f.1 = 3) : fixL r ks p f = ⟨1, p ++ [f.2.1], [], 0, elemN (actOf r (kidAt ks f.2.1.toNat)).2, []⟩ :: (List.range f.2.2.toNat).map (fun i : Nat => (⟨5, p ++ [f.2.1 + 1], p ++ [f.2.1, (i : Int)], 0, zeroN, []⟩ : OpD)) := by
 unfold fixL; rw [if_neg (by omega), if_neg (by omega), if_pos h]
theorem fixL_four {r : RuleD} {ks : List NodeD} {p : List Int} {f : FindD} (h : f.1 = 4) : fixL r ks p f = [⟨3, p ++ [f.2.1], [], (textOf (kidAt ks (f.2.1.toNat - 1))).length, zeroN, propsOf (kidAt ks f.2.1.toNat)⟩] := by
 unfold fixL; rw [if_neg (by omega), if_neg (by omega), if_neg (by omega), if_pos h]
theorem fixL_six {r : RuleD} {ks : List NodeD} {p : List Int} {f : FindD} (h : f.1 = 6) : fixL r ks p f = [⟨1, p ++ [f.2.1], [], 0, if r.fill = 1 then .mk true [] [] [] else elemN r.fillT, []⟩] := by
 unfold fixL; rw [if_neg (by omega), if_neg (by omega), if_neg (by omega), if_neg (by omega)]
theorem kid_at {ks : List NodeD} {j : Nat} (h : j < ks.length) : kidAt ks j = ks[j] := by simp [List.getElem?_eq_getElem h]
theorem many_fits (r : RuleD) (ks : List NodeD) (j : Nat) (hj : j < ks.length) (h : lookN r ks 3 = j) : j + manyN r ks 3 <= ks.length := by
 unfold manyN
 rw [if_pos rfl, h]
 unfold runA
 have := (List.takeWhile_sublist (fun a => decide (a = (actsOf r ks).getD ((j : Int)).toNat (0, []))) (l := (actsOf r ks).drop (((j : Int)).toNat + 1))).length_le
 simp only [List.length_drop, List.length_map, Int.toNat_natCast] at this
 simp only [Int.toNat_natCast]
 omega
end Go.Proofs.YtbommcakcmhalaaGreatDoor
