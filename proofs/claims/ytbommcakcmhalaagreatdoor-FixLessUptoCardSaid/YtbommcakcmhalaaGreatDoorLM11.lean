/- Parts of the proof, one behind the other: RTN, ROI, ROJ, ROK, ROP, ROQ. -/
import Derived.Test.YtbommcakcmhalaaGreatDoorLM10
import Derived.Test.YtbommcakcmhalaaGreatDoorLM7
import Derived.BigQuiet
import Derived.Test.YtbommcakcmhalaaGreatDoorLM5
import Derived.Deep.RegionHeld3
/- Walks: tree.Get, its node's own rows lying apart. -/
set_option linter.unusedVariables false
set_option linter.unusedSimpArgs false
set_option maxHeartbeats 4000000
set_option maxRecDepth 100000
namespace Go.Proofs.YtbommcakcmhalaaGreatDoor
open Go.RowKit Go.Redl
theorem NodeO.q {w : World} {M : Nat} {n : NodeD} {cs : List Value} (h : NodeO w M n cs) : NodeQ w (fun b => M <= b) n cs := by
 obtain ⟨l, ps, t, ks⟩ := n
 unfold NodeO at h
 unfold NodeQ
 obtain ⟨ap, cp, at_, ct, ak, ck, css, h1, h2, h3, h4, h5, h6, h7⟩ := h
 obtain ⟨a1, c1, hv1, hr1⟩ := RowQ.of_own h3 (by intro u hu; obtain ⟨z, -, rfl⟩ := List.mem_map.1 hu; rfl)
 obtain ⟨a2, c2, hv2, hr2⟩ := RowQ.of_own h5 h6.onec
 injection hv1 with e1 e2 e3
 injection hv2 with g1 g2 g3
 subst e1; subst e3; subst g1; subst g3
 exact ⟨ap, cp, at_, ct, ak, ck, css, h1, h2.keep (Nat.le_refl _) (fun _ _ _ => rfl) (fun b hb _ => hb.1), hr1.keep (Nat.le_refl _) (fun _ _ _ => rfl) (fun b hb _ => (h3.lt b hb).1), h4, hr2.keep (Nat.le_refl _) (fun _ _ _ => rfl) (fun b hb _ => (h5.lt b hb).1), KidsQ.keep (Nat.le_refl _) (fun _ _ _ => rfl) (fun b hb _ => hb.1) _ _ h6⟩
theorem NodeO.form {w : World} {M : Nat} {n : NodeD} {cs : List Value} (h : NodeO w M n cs) : ∃ l a1 n1 c1 a2 n2 c2 a3 n3 c3, cs = [.bool l, .slice a1 n1 c1, .slice a2 n2 c2, .slice a3 n3 c3] := h.q.form
theorem NodeO.set {w : World} {M N o : Nat} {n : NodeD} {cs : List Value} {u : Value} (h : NodeO w M n cs) (hN : N < M) : NodeO (w.setCell ⟨N, o, none⟩ u) M n cs := by
 obtain ⟨l, ps, t, ks⟩ := n
 unfold NodeO at h ⊢
 obtain ⟨ap, cp, at_, ct, ak, ck, css, h1, h2, h3, h4, h5, h6, h7⟩ := h
 have hh : ∀ b, M <= b -> (w.setCell ⟨N, o, none⟩ u).heap[b]? = w.heap[b]? := fun b hb => Below.heap_setCell w ⟨N, o, none⟩ u b (by show b ≠ N; omega)
 exact ⟨ap, cp, at_, ct, ak, ck, css, h1, h2.keep (by simp [World.setCell]) (fun b hb _ => hh b hb.1) (fun _ hb _ => hb), ownsRow_setCell_below (a := ⟨N, o, none⟩) h3 hN _, h4, ownsRow_setCell_below (a := ⟨N, o, none⟩) h5 hN _, KidsQ.keep (by simp [World.setCell]) (fun b hb _ => hh b hb.1) (fun _ hb _ => hb) _ _ h6, h7⟩
theorem NodeO.since {w w' : World} {M : Nat} {n : NodeD} {cs : List Value} (h : NodeO w M n cs) (hb : Below w.heap.size w w') : NodeO w' M n cs := by
 obtain ⟨l, ps, t, ks⟩ := n
 unfold NodeO at h ⊢
 obtain ⟨ap, cp, at_, ct, ak, ck, css, h1, h2, h3, h4, h5, h6, h7⟩ := h
 exact ⟨ap, cp, at_, ct, ak, ck, css, h1, h2.keep hb.size (fun b _ hlt => hb.block b hlt) (fun _ h _ => h), own_keep h3 hb, h4, own_keep h5 hb, KidsQ.keep hb.size (fun b _ hlt => hb.block b hlt) (fun _ h _ => h) _ _ h6, h7⟩
theorem NodeO.from {w : World} {M M' : Nat} {n : NodeD} {cs : List Value} (h : NodeO w M n cs) (hM : M' <= M) : NodeO w M' n cs := by
 obtain ⟨l, ps, t, ks⟩ := n
 unfold NodeO at h ⊢
 obtain ⟨ap, cp, at_, ct, ak, ck, css, h1, h2, h3, h4, h5, h6, h7⟩ := h
 exact ⟨ap, cp, at_, ct, ak, ck, css, h1, h2.keep (Nat.le_refl _) (fun _ _ _ => rfl) (fun b hb _ => ⟨by omega, hb.2⟩), own_mono h3 hM, h4, own_mono h5 hM, KidsQ.keep (Nat.le_refl _) (fun _ _ _ => rfl) (fun b hb _ => ⟨by omega, hb.2⟩) _ _ h6, h7⟩
/-- What Get answers where there is a node. -/
def GetO (W : World) (m : NodeD) (e : Ending) (w' : World) : Prop := ∃ cs, e = .returned (.tuple #[.agg cs.toArray, .int .i64 0]) /\ NodeO w' W.heap.size m cs /\ Below W.heap.size W w'
theorem getO_c (n m : NodeD) (p : List Int) (v : Value) (pa : Option Addr) (pc : Nat) (W : World) (hbig : n.wt <= 100000000) (hv : NodeV W W.heap.size n v) (hp : RowA W W.heap.size 1 pa p.length pc (p.map (Value.int .i64))) (hat : atN n p = some m) :
 Calls Tryz.prog 14 #[v, .slice pa p.length pc] W (GetO W m) := by
 have hwt := atN_wt p n
 obtain ⟨csn, rfl, hc⟩ := hv
 obtain ⟨l, a1, n1, c1, a2, n2, c2, a3, n3, c3, rfl⟩ := hc.form
 have hA := (NodeAt.fresh W (.bool l) (.slice a1 n1 c1) (.slice a2 n2 c2) (.slice a3 n3 c3)).alloc (Obj.cells #[.bool false, .slice none 0 0, .slice none 0 0, .slice none 0 0] 35)
 have hB := node_second W (Obj.cells #[.bool l, .slice a1 n1 c1, .slice a2 n2 c2, .slice a3 n3 c3] 35) (.bool false) (.slice none 0 0) (.slice none 0 0) (.slice none 0 0)
 have hb0 : Below W.heap.size W ((W.alloc (Obj.cells #[.bool l, .slice a1 n1 c1, .slice a2 n2 c2, .slice a3 n3 c3] 35)).alloc (Obj.cells #[.bool false, .slice none 0 0, .slice none 0 0, .slice none 0 0] 35)) := ((Below.refl _ _).alloc (Nat.le_refl _) _).alloc (by simp) _
 have hs0 : ((W.alloc (Obj.cells #[.bool l, .slice a1 n1 c1, .slice a2 n2 c2, .slice a3 n3 c3] 35)).alloc (Obj.cells #[.bool false, .slice none 0 0, .slice none 0 0, .slice none 0 0] 35)).heap.size = W.heap.size + 2 := by simp
 obtain ⟨y0, y1, y2, y3, -, -⟩ := hA.facts
 have HAt := Lib.hid (at_c n p pa pc W.heap.size 0 W.heap.size _ ⟨l, a1, n1, c1, a2, n2, c2, a3, n3, c3, NodeC.keep hb0 (Nat.le_refl _) _ _ hc, y0, y1, y2, y3⟩ (hp.keep hb0 (Nat.le_refl _)))
 have Hb0 := Lib.hid hb0; have HB := Lib.hid hB; have Hs0 := Lib.hid hs0
 clear hc hA hB hb0 hs0 y0 y1 y2 y3 hp
 rw [hat] at HAt
 have hmw := hwt m hat
 clear hat hwt
 go_enter Tryz.func14, Tryz.ntmps14
 obtain ⟨w0, hw0⟩ : ∃ w0, w0 = (W.alloc (Obj.cells #[.bool l, .slice a1 n1 c1, .slice a2 n2 c2, .slice a3 n3 c3] 35)).alloc (Obj.cells #[.bool false, .slice none 0 0, .slice none 0 0, .slice none 0 0] 35) := ⟨_, rfl⟩
 go_wp2_with fail
 rw [<- hw0] at HAt Hb0 HB Hs0 ⊢
 refine HAt.out.mono ?_
 rintro e w1 ⟨⟨b, off, rfl, l', b1, o1, d1, b2, o2, d2, b3, o3, d3, hmc, x0, x1, x2, x3⟩, rfl⟩
 have HC := Lib.hid (copyO_c m (.agg #[.bool l', .slice b1 o1 d1, .slice b2 o2 d2, .slice b3 o3 d3]) w0 (by omega) ⟨_, rfl, NodeC.keep (Below.refl _ _) (by rw [Hs0.out]; omega) _ _ hmc⟩)
 clear HAt hw0 hmc
 go_wp2_with fail
 refine HC.out.mono ?_
 rintro e w2 ⟨cs, rfl, hnode, hbel⟩
 obtain ⟨m1, p1, q1, r1, p2, q2, r2, p3, q3, r3, rfl⟩ := hnode.form
 have hB2 := HB.out.keep (hbel.mono (by rw [Hs0.out]; omega))
 obtain ⟨z0, z1, z2, z3, ⟨g0, g1, g2, g3⟩, hB5⟩ := hB2.facts
 have Hb2 := Lib.hid (Hb0.out.trans (hbel.mono (by rw [Hs0.out]; omega)))
 have Hnode := Lib.hid hnode
 clear HC hnode hbel x0 x1 x2 x3 hB2 HB
 go_wp2_with fail
 refine bodyPost_ret (v := .tuple #[.agg #[.bool m1, .slice p1 q1 r1, .slice p2 q2 r2, .slice p3 q3 r3], .int .i64 0]) (by simp [results, Tryz.results14, go_sem, z0, z1, z2, z3]) rfl ?_
 refine ⟨_, rfl, ?_, ?_⟩
 . have hlt : W.heap.size + 1 < w0.heap.size := by rw [Hs0.out]; omega
   exact NodeO.from (NodeO.set (NodeO.set (NodeO.set (NodeO.set Hnode.out hlt) hlt) hlt) hlt) (by rw [Hs0.out]; omega)
 . with_reducible exact below_all Hb2.out (Nat.le_succ _) _ _ _ _
end Go.Proofs.YtbommcakcmhalaaGreatDoor
/- Walks: trail's beside, Back, Next, Parent. -/
namespace Go.Proofs.YtbommcakcmhalaaGreatDoor
open Go.RowKit Go.Redl
/-- The path beside one, so much further. -/
def besideN (p : List Int) (d : Int) : List Int × Int := if p = [] then ([], 6) else if (0 < d /\ lastN p = 9223372036854775807) ∨ (d < 0 /\ lastN p <= 0) then ([], 8) else (p.dropLast ++ [lastN p + d], 0)
/-- A path of the call's own, or why there is none. -/
def BesideP (W : World) (r : List Int × Int) (e : Ending) (w' : World) : Prop :=
 Below W.heap.size W w' /\ ∃ v, e = .returned (.tuple #[v, .int .i64 r.2]) /\ w'.ownsRow W.heap.size 3 1 v r.1.length (r.1.map (Value.int .i64))
theorem beside_c (p : List Int) (d : Int) (a : Option Addr) (c : Nat) (B : Nat) (W : World) (hr : RowA W B 1 a p.length c (p.map (Value.int .i64))) (hB : B <= W.heap.size) (hn : p.length <= 1000000) (hd : d = 1 ∨ d = -1) (hw : ∀ z ∈ p, -9223372036854775807 <= z /\ z <= 9223372036854775807) :
 Calls Tryz.prog 197 #[.slice a p.length c, .int .i64 d] W (BesideP W (besideN p d)) := by
 rcases List.eq_nil_or_concat p with rfl | ⟨q, i, rfl⟩
 . have hb : besideN [] d = ([], 6) := rfl
   rw [hb]
   clear hr hb
   go_enter Tryz.func197, Tryz.ntmps197
   go_wp2_with fail
   go_ret2
   exact ⟨Below.refl _ _, _, rfl, World.ownsRow_nil _ _ _ _⟩
 . rw [List.concat_eq_append] at *
   have hiw := hw i (by simp)
   have hbs : besideN (q ++ [i]) d = if (0 < d /\ i = 9223372036854775807) ∨ (d < 0 /\ i <= 0) then ([], 8) else (q ++ [i + d], 0) := by
    unfold besideN; rw [if_neg (by simp), last_snoc, drop_snoc]
   have HBS := Lib.hid hbs
   generalize besideN (q ++ [i]) d = R at HBS ⊢
   have HC := Lib.hid (clone_int B (q ++ [i]).length a c _ W hr hB (by omega))
   have hl : (q ++ [i]).length = q.length + 1 := by simp
   have hq : q.length <= 1000000 := by omega
   rw [hl] at HC ⊢
   have h1 : ((q.length : Int) + 1) - 1 = (q.length : Int) := by omega
   clear hr hw hbs hl hn
   go_enter Tryz.func197, Tryz.ntmps197
   go_wp2_with fail
   refine HC.out.mono ?_
   rintro e w1 ⟨v, rfl, hown, hbel⟩
   obtain ⟨a', c', rfl, -⟩ := row_of_own hown (by intro u hu; obtain ⟨z, -, rfl⟩ := List.mem_map.1 hu; rfl)
   obtain ⟨g, rfl, hg⟩ := own_some hown (by simp)
   have hcell := own_at hown q.length (.int .i64 i) (by simp)
   have hfz := hown.frozenAt q.length
   have hle : q.length + 1 <= c' := by
    rcases hown.2 with ⟨h, _⟩ | ⟨g', cap, cur, h, _, _, h2, _⟩
    . cases h
    . injection h with _ _ h; omega
   have Hown := Lib.hid hown; have Hbel := Lib.hid hbel
   clear HC hown hbel
   have hset : ∀ z : Int, ((q ++ [i]).map (Value.int .i64)).set q.length (.int .i64 z) = (q ++ [z]).map (Value.int .i64) := fun z => by
    rw [List.map_append, List.set_append_right _ _ (by simp)]; simp
   have Hset := Lib.hid hset
   clear hset
   rcases hd with rfl | rfl
   . by_cases hm : i = 9223372036854775807
     . have hR : R = ([], 8) := by rw [HBS.out, if_pos (.inl ⟨by decide, hm⟩)]
       subst hR
       have hb1 : (i == 9223372036854775807) = true := by simpa using hm
       go_wp2_with fail
       go_ret2
       exact ⟨Hbel.out, _, rfl, World.ownsRow_nil _ _ _ _⟩
     . have hR : R = (q ++ [i + 1], 0) := by rw [HBS.out, if_neg (by omega)]
       subst hR
       have hb1 : (i == 9223372036854775807) = false := by simpa using hm
       have hw1 : IntKind.i64.wrap (i + 1) = i + 1 := by rw [IntKind.wrap_i64]; omega
       go_wp2_with fail
       go_ret2
       have h := (Hown.out.stored q.length (.int .i64 (i + 1))).1
       rw [Hset.out] at h
       refine ⟨Hbel.out.setCell (p := ⟨g, q.length, none⟩) hg _, _, rfl, ?_⟩
       rw [List.length_append, List.length_singleton]
       exact h
   . by_cases hm : i <= 0
     . have hR : R = ([], 8) := by rw [HBS.out, if_pos (.inr ⟨by decide, hm⟩)]
       subst hR
       have hb1 : decide (i <= 0) = true := by simpa using hm
       go_wp2_with fail
       go_ret2
       exact ⟨Hbel.out, _, rfl, World.ownsRow_nil _ _ _ _⟩
     . have hR : R = (q ++ [i + -1], 0) := by rw [HBS.out, if_neg (by omega)]
       subst hR
       have hb1 : decide (i <= 0) = false := by simpa using hm
       have hw1 : IntKind.i64.wrap (i + -1) = i + -1 := by rw [IntKind.wrap_i64]; omega
       go_wp2_with fail
       go_ret2
       have h := (Hown.out.stored q.length (.int .i64 (i + -1))).1
       rw [Hset.out] at h
       refine ⟨Hbel.out.setCell (p := ⟨g, q.length, none⟩) hg _, _, rfl, ?_⟩
       rw [List.length_append, List.length_singleton]
       exact h
theorem back_c (p : List Int) (a : Option Addr) (c : Nat) (B : Nat) (W : World) (hr : RowA W B 1 a p.length c (p.map (Value.int .i64))) (hB : B <= W.heap.size) (hn : p.length <= 1000000) (hw : ∀ z ∈ p, -9223372036854775807 <= z /\ z <= 9223372036854775807) :
 Calls Tryz.prog 140 #[.slice a p.length c] W (BesideP W (besideN p (-1))) := by
 have HC := Lib.hid (beside_c p (-1) a c B W hr hB hn (.inr rfl) hw)
 generalize besideN p (-1) = R at HC ⊢
 obtain ⟨R1, R2⟩ := R
 clear hr hw
 go_enter Tryz.func140, Tryz.ntmps140
 go_wp2_with fail
 refine HC.out.mono ?_
 rintro e w1 ⟨hb, v, rfl, ho⟩
 have Hb := Lib.hid hb; have Ho := Lib.hid ho
 clear HC hb ho
 go_wp2_with fail
 go_ret2
 exact ⟨Hb.out, _, rfl, Ho.out⟩
end Go.Proofs.YtbommcakcmhalaaGreatDoor
/- Walks: trail.Left; xpath's stands, shift, inserted. -/
namespace Go.Proofs.YtbommcakcmhalaaGreatDoor
open Go.RowKit Go.Redl
theorem left_c (q p : List Int) (a a' : Option Addr) (c c' B : Nat) (w : World) (hr : RowA w B 1 a q.length c (q.map (Value.int .i64))) (hr' : RowA w B 1 a' p.length c' (p.map (Value.int .i64))) :
 Calls Tryz.prog 202 #[.slice a q.length c, .slice a' p.length c'] w fun e w' => e = .returned (.bool (leftB q p)) /\ Drawn w w' := by
 have HC := Lib.hid (alike_c q p a a' c c' B w hr hr')
 have hkle := alikeN_le q p
 have hx : leftB q p = (decide (alikeN q p + 1 = q.length) && (decide (alikeN q p < p.length) && decide (q.getD (alikeN q p) 0 < p.getD (alikeN q p) 0))) := rfl
 have hql : q.length <= 9223372036854775807 := by have h1 := hr.le; have h2 := hr.max; unfold maxLen at h2; omega
 generalize alikeN q p = k at HC hkle hx
 have Hx := Lib.hid hx
 generalize leftB q p = R at Hx ⊢
 clear hx
 by_cases h1 : k + 1 = q.length
 . have hb1 : ((k : Int) == (q.length : Int) - 1) = true := by simp; omega
   by_cases h2 : k < p.length
   . have hb2 : decide ((k : Int) < p.length) = true := by simp; omega
     have hkq : k < q.length := by omega
     obtain ⟨b, o, rfl, hb, hc⟩ := hr.int_at k hkq
     obtain ⟨b', o', rfl, hb', hc'⟩ := hr'.int_at k h2
     have x0 := hc k hkq; have x1 := hc' k h2
     have hki : (k : Int) < q.length := by omega
     have hki2 : (k : Int) < p.length := by omega
     have hR : Hid (R = decide (q.getD k 0 < p.getD k 0)) := by show _ = _; rw [Hx.out]; simp [h1, h2]
     clear hr hr' hc hc' Hx
     generalize q.getD k 0 = x at x0 hR
     generalize p.getD k 0 = y at x1 hR
     have Hh := Lib.hid h1
     clear h1
     go_enter Tryz.func202, Tryz.ntmps202
     go_wp2_with fail
     refine HC.out.mono ?_
     rintro e w1 ⟨rfl, n1, rfl⟩
     clear HC
     go_wp2_with fail
     go_quiet (fail)
     go_wp2_with fail
     go_ret
     exact ⟨by rw [hR.out]; rfl, by first | exact drawn_two _ _ _ | exact drawn_one _ _⟩
   . have hb2 : decide ((k : Int) < p.length) = false := by simp; omega
     have hR : Hid (R = false) := by show _ = _; rw [Hx.out]; simp [h2]
     have Hh := Lib.hid h1
     clear hr hr' Hx h1
     go_enter Tryz.func202, Tryz.ntmps202
     go_wp2_with fail
     refine HC.out.mono ?_
     rintro e w1 ⟨rfl, n1, rfl⟩
     clear HC
     go_wp2_with fail
     go_quiet (fail)
     go_wp2_with fail
     go_ret
     exact ⟨by rw [hR.out]; rfl, by first | exact drawn_two _ _ _ | exact drawn_one _ _⟩
 . have hb1 : ((k : Int) == (q.length : Int) - 1) = false := by simp; omega
   have hR : Hid (R = false) := by show _ = _; rw [Hx.out]; simp [h1]
   clear hr hr' Hx
   go_enter Tryz.func202, Tryz.ntmps202
   go_wp2_with fail
   refine HC.out.mono ?_
   rintro e w1 ⟨rfl, n1, rfl⟩
   clear HC
   go_wp2_with fail
   go_quiet (fail)
   go_wp2_with fail
   go_ret
   exact ⟨by rw [hR.out]; rfl, by first | exact drawn_two _ _ _ | exact drawn_one _ _⟩
theorem drawn_then {w w1 w2 : World} (h : Drawn w w1) (k : Drawn w1 w2) : Drawn w w2 := by
 obtain ⟨n, rfl⟩ := h; obtain ⟨m, rfl⟩ := k; exact drawn_two _ _ _
theorem rowa_drawn {w w' : World} {B sz n c : Nat} {a : Option Addr} {cs : List Value} (h : RowA w B sz a n c cs) (hd : Drawn w w') : RowA w' B sz a n c cs := h.keep (hd.below B) (Nat.le_refl _)
theorem stands_c (q p : List Int) (a a' : Option Addr) (c c' B : Nat) (w : World) (hr : RowA w B 1 a q.length c (q.map (Value.int .i64))) (hr' : RowA w B 1 a' p.length c' (p.map (Value.int .i64))) :
 Calls Tryz.prog 150 #[.slice a q.length c, .slice a' p.length c'] w fun e w' => e = .returned (.int .i64 (standsN q p : Nat)) /\ Drawn w w' := by
 have HS := Lib.hid (tsame_c q p a a' c c' B w hr hr')
 have HA := Lib.hid (fun (w1 : World) (h : Drawn w w1) => above_c q p a a' c c' B w1 (rowa_drawn hr h) (rowa_drawn hr' h))
 have HL := Lib.hid (fun (w1 : World) (h : Drawn w w1) => left_c q p a a' c c' B w1 (rowa_drawn hr h) (rowa_drawn hr' h))
 have hx : standsN q p = if q = [] then 0 else if q = p then 3 else if aboveB q p then 2 else if leftB q p then 1 else 0 := rfl
 have Hx := Lib.hid hx
 generalize standsN q p = R at Hx ⊢
 have hq0 : q.length = 0 ↔ q = [] := List.length_eq_zero_iff
 have hql : q.length <= 9223372036854775807 := by have h1 := hr.le; have h2 := hr.max; unfold maxLen at h2; omega
 generalize aboveB q p = A at HA Hx
 generalize leftB q p = L at HL Hx
 clear hr hr' hx
 by_cases h0 : q.length = 0
 . have hR : R = 0 := by rw [Hx.out, if_pos (hq0.1 h0)]
   subst hR
   rw [h0]
   clear h0 hq0 Hx HS HA HL
   go_enter Tryz.func150, Tryz.ntmps150
   go_wp2_with fail
   go_ret
   exact ⟨rfl, drawn_zero _⟩
 . have hb0 : ((q.length : Int) == 0) = false := by simpa using h0
   have hne : q ≠ [] := fun e => h0 (hq0.2 e)
   have hx2 : R = if q = p then 3 else if A then 2 else if L then 1 else 0 := by rw [Hx.out, if_neg hne]
   have Hx2 := Lib.hid hx2
   clear Hx h0 hq0 hne hx2
   by_cases h1 : q = p
   . have hd : decide (q = p) = true := by simpa using h1
     rw [hd] at HS
     have hR : R = 3 := by rw [Hx2.out, if_pos h1]
     clear Hx2 h1 hd HA HL
     go_enter Tryz.func150, Tryz.ntmps150
     go_wp2_with fail
     refine HS.out.mono ?_
     rintro e w1 ⟨rfl, hd⟩
     have Hd := Lib.hid hd
     clear HS hd
     subst hR
     go_wp2_with fail
     go_ret
     exact ⟨rfl, Hd.out⟩
   . have hd : decide (q = p) = false := by simpa using h1
     rw [hd] at HS
     have hx3 : R = if A then 2 else if L then 1 else 0 := by rw [Hx2.out, if_neg h1]
     have Hx3 := Lib.hid hx3
     clear Hx2 h1 hd hx3
     go_enter Tryz.func150, Tryz.ntmps150
     go_wp2_with fail
     refine HS.out.mono ?_
     rintro e w1 ⟨rfl, hd⟩
     have Hd := Lib.hid hd
     clear HS hd
     go_wp2_with fail
     refine (HA.out w1 Hd.out).mono ?_
     rintro e w2 ⟨rfl, hd2⟩
     have Hd2 := Lib.hid (drawn_then Hd.out hd2)
     clear HA hd2
     cases A with
     | true =>
       have hR : R = 2 := by rw [Hx3.out]; rfl
       clear Hx3
       subst hR
       go_wp2_with fail
       go_ret
       exact ⟨rfl, Hd2.out⟩
     | false =>
       have hx4 : R = if L then 1 else 0 := by rw [Hx3.out]; rfl
       have Hx4 := Lib.hid hx4
       clear Hx3 hx4
       go_wp2_with fail
       refine (HL.out w2 Hd2.out).mono ?_
       rintro e w3 ⟨rfl, hd3⟩
       have Hd3 := Lib.hid (drawn_then Hd2.out hd3)
       clear HL hd3
       cases L with
       | true =>
         have hR : R = 1 := by rw [Hx4.out]; rfl
         clear Hx4
         subst hR
         go_wp2_with fail
         go_ret
         exact ⟨rfl, Hd3.out⟩
       | false =>
         have hR : R = 0 := by rw [Hx4.out]; rfl
         clear Hx4
         subst hR
         go_wp2_with fail
         go_ret
         exact ⟨rfl, Hd3.out⟩
end Go.Proofs.YtbommcakcmhalaaGreatDoor
/- Walks: xpath's shift, inserted. -/
namespace Go.Proofs.YtbommcakcmhalaaGreatDoor
open Go.RowKit Go.Redl
theorem stands_lt' {q p : List Int} (h : standsN q p ≠ 0) : q.length - 1 < p.length /\ 0 < q.length := by
 unfold standsN at h
 split at h
 . exact absurd rfl h
 . rename_i hq
   have hpos := List.length_pos_iff.2 hq
   split at h
   . rename_i e; subst e; omega
   . split at h
     . rename_i ha
       unfold aboveB at ha
       simp only [Bool.and_eq_true, decide_eq_true_eq] at ha
       omega
     . split at h
       . rename_i hl
         unfold leftB at hl
         simp only [Bool.and_eq_true, decide_eq_true_eq] at hl
         omega
       . exact absurd rfl h
/-- A path of the call's own. -/
abbrev MadeI (W : World) (zs : List Int) (e : Ending) (w' : World) : Prop := MadeRow W 3 1 zs.length (zs.map (Value.int .i64)) e w'
theorem shift_len (p : List Int) (k : Nat) (d : Int) : (shiftP p k d).length = p.length := by simp [shiftP]
theorem shift_c (p : List Int) (k : Nat) (d : Int) (a : Option Addr) (c B : Nat) (W : World) (hr : RowA W B 1 a p.length c (p.map (Value.int .i64))) (hB : B <= W.heap.size) (hn : p.length <= 1000000) (hk : k < p.length) (hw : -9223372036854775807 <= p.getD k 0 + d /\ p.getD k 0 + d <= 9223372036854775807) :
 Calls Tryz.prog 152 #[.slice a p.length c, .int .i64 k, .int .i64 d] W (MadeI W (shiftP p k d)) := by
 have HC := Lib.hid (clone_int B p.length a c _ W hr hB (by omega))
 have hset : (p.map (Value.int .i64)).set k (.int .i64 (p.getD k 0 + d)) = (shiftP p k d).map (Value.int .i64) := by unfold shiftP; rw [List.map_set]
 have Hset := Lib.hid hset
 have Hlen := Lib.hid (shift_len p k d)
 have hki : (k : Int) < p.length := by omega
 have hat : (p.map (Value.int .i64))[k]? = some (.int .i64 (p.getD k 0)) := by simp [List.getD, List.getElem?_eq_getElem hk]
 generalize shiftP p k d = S at Hset Hlen ⊢
 generalize p.getD k 0 = x at hset Hset hw hat
 have hw1 : IntKind.i64.wrap (x + d) = x + d := by rw [IntKind.wrap_i64]; omega
 clear hr hset
 go_enter Tryz.func152, Tryz.ntmps152
 go_wp2_with fail
 refine HC.out.mono ?_
 rintro e w1 ⟨v, rfl, hown, hbel⟩
 obtain ⟨a', c', rfl, -⟩ := row_of_own hown (by intro u hu; obtain ⟨z, -, rfl⟩ := List.mem_map.1 hu; rfl)
 obtain ⟨g, rfl, hg⟩ := own_some hown (by intro e; rw [e] at hat; cases hat)
 have hcell := own_at hown k _ hat
 have hfz := hown.frozenAt k
 have Hown := Lib.hid hown; have Hbel := Lib.hid hbel
 clear HC hown hbel hat
 go_wp2_with fail
 go_ret
 have h := (Hown.out.stored k (.int .i64 (x + d))).1
 rw [Hset.out] at h
 refine ⟨_, rfl, ?_, Hbel.out.setCell (p := ⟨g, k, none⟩) hg _⟩
 rw [Hlen.out]
 exact h
theorem inserted_c (p q : List Int) (a a' : Option Addr) (c c' B : Nat) (W : World) (hr : RowA W B 1 a p.length c (p.map (Value.int .i64))) (hr' : RowA W B 1 a' q.length c' (q.map (Value.int .i64))) (hB : B <= W.heap.size) (hn : p.length <= 1000000) (hn' : q.length <= 1000000) (hw : ∀ z ∈ p, -1 <= z /\ z <= 9000000000000) :
 Calls Tryz.prog 151 #[.slice a p.length c, .slice a' q.length c'] W (MadeI W (insertedP p q)) := by
 have HS := Lib.hid (stands_c q p a' a c' c B W hr' hr)
 have hx : insertedP p q = if standsN q p = 0 then p else shiftP p (q.length - 1) 1 := rfl
 have hk : standsN q p ≠ 0 -> q.length - 1 < p.length /\ 0 < q.length := fun h => stands_lt' h
 have HC := Lib.hid (fun (w1 : World) (h : Drawn W w1) => clone_int B p.length a c _ w1 (rowa_drawn hr h) (by have := (h.below W.heap.size).size; omega) (by omega))
 have HSh := Lib.hid (fun (w1 : World) (h : Drawn W w1) (hk : q.length - 1 < p.length) => shift_c p (q.length - 1) 1 a c B w1 (rowa_drawn hr h) (by have := (h.below W.heap.size).size; omega) hn hk (by
  have hm : p.getD (q.length - 1) 0 ∈ p := by rw [getD_of_lt hk]; exact List.getElem_mem hk
  have := hw _ hm; omega))
 generalize standsN q p = s at HS hx hk
 clear hr hr' hw
 by_cases hs : s = 0
 . subst hs
   rw [if_pos rfl] at hx
   rw [hx]
   clear hx hk HSh
   go_enter Tryz.func151, Tryz.ntmps151
   go_wp2_with fail
   refine HS.out.mono ?_
   rintro e w1 ⟨rfl, hd⟩
   have HC1 := Lib.hid (HC.out w1 hd)
   have Hd := Lib.hid hd
   clear HS HC hd
   go_wp2_with fail
   refine HC1.out.mono ?_
   rintro e w2 ⟨v, rfl, hown, hbel⟩
   have Hb := Lib.hid ((Hd.out.below W.heap.size).trans (hbel.mono (Hd.out.below W.heap.size).size))
   have Ho := Lib.hid (own_mono hown (Hd.out.below W.heap.size).size)
   clear HC1 hown hbel
   go_wp2_with fail
   go_ret
   exact ⟨_, rfl, Ho.out, Hb.out⟩
 . rw [if_neg hs] at hx
   rw [hx]
   obtain ⟨hk1, hk2⟩ := hk hs
   have hb : ((s : Int) == 0) = false := by simpa using hs
   have hq1 : ((q.length : Int) - 1) = ((q.length - 1 : Nat) : Int) := by omega
   generalize shiftP p (q.length - 1) 1 = S at HSh ⊢
   generalize q.length - 1 = m at HSh hq1 hk1
   have Hq1 := Lib.hid hq1
   clear hx hs hk HC
   go_enter Tryz.func151, Tryz.ntmps151
   go_wp2_with fail
   refine HS.out.mono ?_
   rintro e w1 ⟨rfl, hd⟩
   have HC1 := Lib.hid (HSh.out w1 hd hk1)
   have Hd := Lib.hid hd
   clear HS HSh hd
   go_wp2_with fail
   refine HC1.out.mono ?_
   rintro e w2 ⟨v, rfl, hown, hbel⟩
   have Hb := Lib.hid ((Hd.out.below W.heap.size).trans (hbel.mono (Hd.out.below W.heap.size).size))
   have Ho := Lib.hid (own_mono hown (Hd.out.below W.heap.size).size)
   clear HC1 hown hbel
   go_wp2_with fail
   go_ret
   exact ⟨_, rfl, Ho.out, Hb.out⟩
end Go.Proofs.YtbommcakcmhalaaGreatDoor
/- Walks: xpath.Move at the empty path. -/
namespace Go.Proofs.YtbommcakcmhalaaGreatDoor
open Go.RowKit Go.Redl
/-- Where the empty path goes: to an empty one, or nowhere. -/
def MovedZ (W : World) (e : Ending) (w' : World) : Prop := Below W.heap.size W w' /\ ∃ a c b, e = .returned (.tuple #[.slice a 0 c, .bool b])
theorem standsN_nil (p : List Int) (h : p ≠ []) : standsN p [] = 0 := by
 unfold standsN
 rw [if_neg h, if_neg h]
 cases p with
 | nil => exact absurd rfl h
 | cons z zs => simp [aboveB, leftB]
theorem insertedP_nil (d : List Int) : insertedP [] d = [] := by
 unfold insertedP shiftP
 split <;> rfl
theorem moveZ_c (p d : List Int) (kd pos : Int) (pa ta : Option Addr) (pc tc : Nat) (v4 v5 v6 v7 v8 v9 v10 v11 v12 v13 v14 v15 v16 v17 v18 v19 v20 : Value) (W : World) (hk : kd = 1 ∨ kd = 2 ∨ kd = 3 ∨ kd = 4 ∨ kd = 5)
 (hp : RowA W W.heap.size 1 pa p.length pc (p.map (Value.int .i64))) (hd : RowA W W.heap.size 1 ta d.length tc (d.map (Value.int .i64))) (hpl : p.length <= 1000000) (hdl : d.length <= 1000000) (hne : p ≠ []) :
 Calls Tryz.prog 76 #[.slice none 0 0, .agg #[.int .i64 kd, .slice pa p.length pc, .slice ta d.length tc, .int .i64 pos, v4, v5, v6, v7, v8, v9, v10, v11, v12, v13, v14, v15, v16, v17, v18, v19, v20]] W (MovedZ W) := by
 obtain ⟨w0, hw0⟩ : ∃ w0, w0 = W.alloc (Obj.cells #[.int .i64 kd, .slice pa p.length pc, .slice ta d.length tc, .int .i64 pos, v4, v5, v6, v7, v8, v9, v10, v11, v12, v13, v14, v15, v16, v17, v18, v19, v20] 63) := ⟨_, rfl⟩
 have hb0 : Below W.heap.size W w0 := by rw [hw0]; exact one_below _ _
 have hA : At w0 W.heap.size [.int .i64 kd, .slice pa p.length pc, .slice ta d.length tc, .int .i64 pos, v4, v5, v6, v7, v8, v9, v10, v11, v12, v13, v14, v15, v16, v17, v18, v19, v20] 63 := by rw [hw0]; exact At.fresh W _ _
 have HN := Lib.hid (fun (w1 : World) => small_c [] none 0 0 w1 (RowA.empty _ _ _) (Nat.zero_le _) (by simp))
 have HP := Lib.hid (fun (w1 : World) (hb : Below w0.heap.size w0 w1) => small_c p pa pc W.heap.size w1 (hp.keep (hb0.trans (hb.mono hb0.size)) (Nat.le_refl _)) (hb0.trans (hb.mono hb0.size)).size (by omega))
 have HD := Lib.hid (fun (w1 : World) (hb : Below w0.heap.size w0 w1) => small_c d ta tc W.heap.size w1 (hd.keep (hb0.trans (hb.mono hb0.size)) (Nat.le_refl _)) (hb0.trans (hb.mono hb0.size)).size (by omega))
 have HZ := Lib.hid (fun (w1 : World) (q : Option Addr) (hp : RowA w1 w1.heap.size 1 q 1 1 [.int .i64 pos]) => small_c [pos] q 1 w1.heap.size w1 hp (Nat.le_refl _) (by simp))
 have HT := Lib.hid (fun (w1 : World) (hb : Below w0.heap.size w0 w1) => stands_c p [] pa none pc 0 W.heap.size w1 (hp.keep (hb0.trans (hb.mono hb0.size)) (Nat.le_refl _)) (RowA.empty _ _ _))
 rw [standsN_nil p hne] at HT
 have hz0 : ((0 : Nat) : Int) = 0 := rfl
 rw [hz0] at HT
 have HI1 := Lib.hid (fun (w1 : World) (hb : Below w0.heap.size w0 w1) => inserted_c [] p none pa 0 pc W.heap.size w1 (RowA.empty _ _ _) (hp.keep (hb0.trans (hb.mono hb0.size)) (Nat.le_refl _)) (hb0.trans (hb.mono hb0.size)).size (by simp) hpl (by simp))
 have HI2 := Lib.hid (fun (w1 : World) (hb : Below w0.heap.size w0 w1) => inserted_c [] d none ta 0 tc W.heap.size w1 (RowA.empty _ _ _) (hd.keep (hb0.trans (hb.mono hb0.size)) (Nat.le_refl _)) (hb0.trans (hb.mono hb0.size)).size (by simp) hdl (by simp))
 rw [insertedP_nil] at HI1 HI2
 have HC := Lib.hid (fun (w1 : World) => clone_int 0 0 none 0 [] w1 (RowA.empty _ _ _) (Nat.zero_le _) (by omega))
 have e0 : smallB1 [] = true := rfl
 rw [e0] at HN
 obtain ⟨q, i, hqi⟩ : ∃ q i, p = q ++ [i] := by
  rcases List.eq_nil_or_concat p with rfl | ⟨q, i, h⟩
  . exact absurd rfl hne
  . exact ⟨q, i, by rw [h, List.concat_eq_append]⟩
 have hpx := hp
 rw [hqi] at hpx
 obtain ⟨pb, po, hpa, hpb, hpi, -⟩ := row_up hpx
 have hpll : p.length = q.length + 1 := by rw [hqi]; simp
 have hHpi : ∀ w1, Below w0.heap.size w0 w1 -> w1.cell? ⟨pb, po + q.length, none⟩ = some (.int .i64 i) := fun w1 hb => ((hb0.trans (hb.mono hb0.size)).cell (p := ⟨pb, po + q.length, none⟩) hpb).trans hpi
 have hpcl := hp.le
 have hpmx := hp.max
 unfold maxLen at hpmx
 rw [hpll] at hpcl
 have HPi := Lib.hid hHpi; have HPa := Lib.hid hpa
 have HA := Lib.hid hA; have Hb0 := Lib.hid hb0; have Hw0 := Lib.hid hw0; have Hll := Lib.hid hpll
 have c1 := hA.cell 1 rfl; have cl := hA.lt
 clear hp hd hpx hb0 hA hw0 hne hqi hpi hHpi hpa e0 hpll
 unfold MovedZ
 go_enter Tryz.func76, Tryz.ntmps76
 go_upto_region 1 with fail
 rw [<- Hw0.out]
 clear Hw0
 go_wp2_with fail
 refine (HN.out w0).mono ?_
 rintro e w1 ⟨rfl, hbel⟩
 have hA1 := HA.out.kept hbel
 have d1 := hA1.cell 1 rfl; have dl := hA1.lt
 have Hb1 := Lib.hid hbel
 clear hbel hA1 c1 cl HN
 go_wp2_with fail
 refine (HP.out w1 Hb1.out).mono ?_
 generalize smallB1 p = s1
 rintro e w2 ⟨rfl, hbel⟩
 have Hb2 := Lib.hid (below_and Hb1.out hbel)
 clear hbel HP d1 dl
 cases s1 with
 | false =>
   have HbW := Lib.hid (Hb0.out.trans (Hb2.out.mono Hb0.out.size))
   clear HD HZ HT HI1 HI2 HC HA HPi
   go_wp2_with fail
   go_ret2
   exact ⟨HbW.out, none, 0, false, rfl⟩
 | true =>
 have hA2 := HA.out.kept Hb2.out
 have f2 := hA2.cell 2 rfl; have fl := hA2.lt
 clear hA2
 go_wp2_with fail
 refine (HD.out w2 Hb2.out).mono ?_
 generalize smallB1 d = s2
 rintro e w3 ⟨rfl, hbel⟩
 have Hb3 := Lib.hid (below_and Hb2.out hbel)
 clear hbel HD f2 fl
 cases s2 with
 | false =>
   have HbW := Lib.hid (Hb0.out.trans (Hb3.out.mono Hb0.out.size))
   clear HZ HT HI1 HI2 HC HA HPi
   go_wp2_with fail
   go_ret2
   exact ⟨HbW.out, none, 0, false, rfl⟩
 | true =>
 have hA3 := HA.out.kept Hb3.out
 have g3 := hA3.cell 3 rfl; have gl := hA3.lt
 clear hA3
 go_wp2_with fail
 refine (HZ.out _ _ (row_one w3 (.int .i64 pos) 3 _ rfl (by simp))).mono ?_
 generalize smallB1 [pos] = s3
 rintro e w4 ⟨rfl, hbel⟩
 have Hb4 := Lib.hid (below_and (Hb3.out.trans ((one_below w3 (Obj.cells #[Value.int .i64 pos] 3)).mono Hb3.out.size)) hbel)
 clear hbel g3 gl HZ
 cases s3 with
 | false =>
   have HbW := Lib.hid (Hb0.out.trans (Hb4.out.mono Hb0.out.size))
   clear HT HI1 HI2 HC HA HPi
   go_wp2_with fail
   go_ret2
   exact ⟨HbW.out, none, 0, false, rfl⟩
 | true =>
 have hA4 := HA.out.kept Hb4.out
 have k1 := hA4.cell 1 rfl; have kl := hA4.lt
 clear hA4
 go_wp2_with fail
 refine (HT.out w4 Hb4.out).mono ?_
 rintro e w5 ⟨rfl, hdr⟩
 have Hb5 := Lib.hid (below_and Hb4.out (hdr.below _))
 have hA5 := HA.out.kept Hb5.out
 have m0 := hA5.cell 0 rfl; have m2 := hA5.cell 2 rfl; have m3 := hA5.cell 3 rfl; have ml := hA5.lt
 have mi := HPi.out w5 Hb5.out
 have Hll2 := Hll.out
 have HPa2 := HPa.out
 subst HPa2
 clear hdr HT hA5 k1 kl HPi
 have HbW := Lib.hid (Hb0.out.trans (Hb5.out.mono Hb0.out.size))
 have hq0 : decide ((q.length : Int) < 0) = false := by simp
 have hqw : IntKind.i64.wrap ((q.length : Int) + 1 - 1) = (q.length : Int) := by rw [IntKind.wrap_i64]; omega
 rw [Hll2] at HI1
 clear Hll
 rw [Hll2]
 rcases hk with rfl | rfl | rfl | rfl | rfl
 . have HI := Lib.hid (HI1.out w5 Hb5.out)
   clear HI1 HI2 HC HA
   go_wp2_with fail
   refine HI.out.mono ?_
   rintro e w6 ⟨v, rfl, hown, hbel⟩
   obtain ⟨va, vc, rfl, -⟩ := row_of_own hown (by intro u hu; cases hu)
   have HbF := Lib.hid (HbW.out.trans (hbel.mono HbW.out.size))
   clear HI hown hbel
   go_wp2_with fail
   go_ret2
   exact ⟨HbF.out, va, vc, true, rfl⟩
 . clear HI1 HI2 HA
   go_wp2_with fail
   refine (HC.out w5).mono ?_
   rintro e w6 ⟨v, rfl, hown, hbel⟩
   obtain ⟨va, vc, rfl, -⟩ := row_of_own hown (by intro u hu; cases hu)
   have HbF := Lib.hid (HbW.out.trans (hbel.mono HbW.out.size))
   clear HC hown hbel
   go_wp2_with fail
   go_ret2
   exact ⟨HbF.out, va, vc, true, rfl⟩
 . clear HI1 HI2 HA
   by_cases hi0 : i = 0
   . have hib : (i == 0) = true := by simpa using hi0
     go_wp2_with fail
     go_ret2
     exact ⟨HbW.out, none, 0, false, rfl⟩
   . have hib : (i == 0) = false := by simpa using hi0
     go_wp2_with fail
     refine (HC.out w5).mono ?_
     rintro e w6 ⟨v, rfl, hown, hbel⟩
     obtain ⟨va, vc, rfl, -⟩ := row_of_own hown (by intro u hu; cases hu)
     have HbF := Lib.hid (HbW.out.trans (hbel.mono HbW.out.size))
     clear HC hown hbel
     go_wp2_with fail
     go_ret2
     exact ⟨HbF.out, va, vc, true, rfl⟩
 . clear HI1 HI2 HA
   go_upto_region 25 with fail
   go_quiet (fail)
   go_wp2_with fail
   refine (HC.out _).mono ?_
   rintro e w6 ⟨v, rfl, hown, hbel⟩
   obtain ⟨va, vc, rfl, -⟩ := row_of_own hown (by intro u hu; cases hu)
   have HbF := Lib.hid (HbW.out.trans (((below_drewN (Below.refl w5.heap.size w5) _).trans (hbel.mono (Below.size (B := w5.heap.size) (below_drewN (Below.refl w5.heap.size w5) _)))).mono HbW.out.size))
   clear HC hown hbel
   go_wp2_with fail
   go_ret2
   exact ⟨HbF.out, va, vc, true, rfl⟩
 . have HI := Lib.hid (HI2.out w5 Hb5.out)
   clear HI1 HI2 HC HA
   go_wp2_with fail
   refine HI.out.mono ?_
   rintro e w6 ⟨v, rfl, hown, hbel⟩
   obtain ⟨va, vc, rfl, -⟩ := row_of_own hown (by intro u hu; cases hu)
   have HbF := Lib.hid (HbW.out.trans (hbel.mono HbW.out.size))
   clear HI hown hbel
   go_wp2_with fail
   go_ret2
   exact ⟨HbF.out, va, vc, true, rfl⟩
end Go.Proofs.YtbommcakcmhalaaGreatDoor
/- Walks: point's Compare, Same, SameSel, CheckSel. -/
namespace Go.Proofs.YtbommcakcmhalaaGreatDoor
open Go.RowKit Go.Redl
theorem or2_c (x y : Int) (b : Nat) (W : World) (h0 : W.cell? ⟨b, 0, none⟩ = some (.int .i64 x)) (h1 : W.cell? ⟨b, 1, none⟩ = some (.int .i64 y)) :
 Calls Tryz.prog 237 #[.slice (some ⟨b, 0, none⟩) 2 2] W (fun e w' => e = .returned (.int .i64 (if x = 0 then y else x)) /\ w' = W) := by
 obtain ⟨z, hz⟩ : ∃ z, z = if x = 0 then y else x := ⟨_, rfl⟩
 rw [<- hz]
 have Hz := Lib.hid hz
 clear hz
 go_enter Tryz.func237, Tryz.ntmps237
 go_wp2_with fail
 go_loopg [8, 5] 2 (fun g i _ wr => wr = W /\ ((i = .int .i64 0 /\ g = 2) ∨ (i = .int .i64 1 /\ g = 1 /\ x = 0) ∨ (i = .int .i64 2 /\ g = 0 /\ x = 0 /\ y = 0)))
 case atStart => exact ⟨rfl, .inl ⟨rfl, rfl⟩⟩
 case round =>
  obtain ⟨rfl, ⟨rfl, rfl⟩ | ⟨rfl, rfl, hx⟩ | ⟨rfl, rfl, hx, hy⟩⟩ := hrel
  . by_cases hx : x = 0
    . have hxb : (x != 0) = false := by simpa using hx
      go_wp2_with fail
      go_roundg 1
      case measure => omega
      case rel => exact ⟨rfl, .inr (.inl ⟨rfl, rfl, hx⟩)⟩
    . have hxb : (x != 0) = true := by simpa using hx
      have Hr := Lib.hid (show z = x by rw [Hz.out, if_neg hx])
      go_wp2_with fail
      go_ret
      exact ⟨ret_int Hr.out.symm, rfl⟩
  . by_cases hy : y = 0
    . have hyb : (y != 0) = false := by simpa using hy
      go_wp2_with fail
      go_roundg 0
      case measure => omega
      case rel => exact ⟨rfl, .inr (.inr ⟨rfl, rfl, hx, hy⟩)⟩
    . have hyb : (y != 0) = true := by simpa using hy
      have Hr := Lib.hid (show z = y by rw [Hz.out, if_pos hx])
      clear hx
      go_wp2_with fail
      go_ret
      exact ⟨ret_int Hr.out.symm, rfl⟩
  . have Hr := Lib.hid (show z = 0 by rw [Hz.out, if_pos hx, hy])
    clear hx hy
    go_wp2_with fail
    go_ret
    exact ⟨ret_int Hr.out.symm, rfl⟩
theorem or_ent : ∀ args w, (callFunc 237 args).run Tryz.prog w = .ok (.enter 237 args) w := by intro args w; kernel_rfl
theorem tcmp2_ent : ∀ args w, (callFunc 205 args).run Tryz.prog w = .ok (.enter 205 args) w := by intro args w; kernel_rfl
theorem cmpi2_ent : ∀ args w, (callFunc 238 args).run Tryz.prog w = .ok (.enter 238 args) w := by intro args w; kernel_rfl
/-- The order of points. -/
def ptCmp (p q : List Int) (i j : Int) : Int := if cmpL p q = 0 then cmpI i j else cmpL p q
theorem ptcmp_c (p q : List Int) (i j : Int) (a a' : Option Addr) (c c' : Nat) (W : World) (hp : RowA W W.heap.size 1 a p.length c (p.map (Value.int .i64))) (hq : RowA W W.heap.size 1 a' q.length c' (q.map (Value.int .i64))) :
 Calls Tryz.prog 184 #[.agg #[.slice a p.length c, .int .i64 i], .agg #[.slice a' q.length c', .int .i64 j]] W (fun e w' => e = .returned (.int .i64 (ptCmp p q i j)) /\ Below W.heap.size W w') := by
 obtain ⟨w0, hw0⟩ : ∃ w0, w0 = (W.alloc (Obj.cells #[.slice a p.length c, .int .i64 i] 57)).alloc (Obj.cells #[.slice a' q.length c', .int .i64 j] 57) := ⟨_, rfl⟩
 have hb0 : Below W.heap.size W w0 := by rw [hw0]; exact (one_below _ _).alloc (by simp) _
 have hA : At w0 W.heap.size [.slice a p.length c, .int .i64 i] 57 := by rw [hw0]; exact (At.fresh W _ _).alloc _
 have hB : At w0 (W.heap.size + 1) [.slice a' q.length c', .int .i64 j] 57 := by rw [hw0]; exact At.second W _ _ _
 have HC := Lib.hid (fun (w' : World) (hb : Below w0.heap.size w0 w') => tcmp_c p q a a' c c' W.heap.size w' (hp.keep (hb0.trans (hb.mono hb0.size)) (Nat.le_refl _)) (hq.keep (hb0.trans (hb.mono hb0.size)) (Nat.le_refl _)))
 have HI := Lib.hid (fun (w' : World) => cmpi_c i j w')
 have HR : Hid (ptCmp p q i j = if cmpL p q = 0 then cmpI i j else cmpL p q) := Lib.hid rfl
 generalize ptCmp p q i j = R at HR ⊢
 generalize cmpL p q = x at HC HR
 generalize cmpI i j = y at HI HR
 have HO := Lib.hid (fun (w' : World) (b : Nat) h0 h1 => or2_c x y b w' h0 h1)
 rw [<- HR.out] at HO
 have HS0 := Lib.hid (fun (w' : World) (hb : Below w0.heap.size w0 w') => (show (w'.cell? ⟨W.heap.size, 0, none⟩ = some (.slice a p.length c) /\ w'.cell? ⟨W.heap.size, 1, none⟩ = some (.int .i64 i)) /\ (w'.cell? ⟨W.heap.size + 1, 0, none⟩ = some (.slice a' q.length c') /\ w'.cell? ⟨W.heap.size + 1, 1, none⟩ = some (.int .i64 j)) from ⟨⟨(hA.kept hb).cell 0 rfl, (hA.kept hb).cell 1 rfl⟩, (hB.kept hb).cell 0 rfl, (hB.kept hb).cell 1 rfl⟩))
 have Hb0 := Lib.hid hb0; have Hw0 := Lib.hid hw0
 clear hp hq hA hB hw0 hb0
 go_enter Tryz.func184, Tryz.ntmps184
 go_upto_region 1 with fail
 rw [<- Hw0.out]
 clear Hw0
 go_region_held3 (fun w' => (w'.cell? ⟨W.heap.size, 0, none⟩ = some (.slice a p.length c) /\ w'.cell? ⟨W.heap.size, 1, none⟩ = some (.int .i64 i)) /\ (w'.cell? ⟨W.heap.size + 1, 0, none⟩ = some (.slice a' q.length c') /\ w'.cell? ⟨W.heap.size + 1, 1, none⟩ = some (.int .i64 j))) (refine HS0.out _ (by ((repeat (first | with_reducible exact Below.refl _ _ | with_reducible refine Below.drew ?_ | with_reducible refine Below.alloc ?_ ?_ _ | with_reducible refine Below.setCell ?_ ?_ _)) <;> (first | with_reducible exact Nat.le_refl _ | (simp; done) | (simp; omega) | omega))))
  (first
  | (refine step_call rfl 205 _ _ rfl tcmp2_ent [.slice a p.length c, .slice a' q.length c'] ?_ _ (HC.out _ (by ((repeat (first | with_reducible exact Below.refl _ _ | with_reducible refine Below.drew ?_ | with_reducible refine Below.alloc ?_ ?_ _ | with_reducible refine Below.setCell ?_ ?_ _)) <;> (first | with_reducible exact Nat.le_refl _ | (simp; done) | (simp; omega) | omega)))) ?_
     . go_simp
     rintro e w1 ⟨rfl, rfl⟩
     refine ⟨_, rfl, ?_⟩)
  | (refine step_call rfl 238 _ _ rfl cmpi2_ent [.int .i64 i, .int .i64 j] ?_ _ (HI.out _) ?_
     . go_simp
     rintro e w1 ⟨rfl, rfl⟩
     refine ⟨_, rfl, ?_⟩)
  | (refine step_call rfl 237 _ _ rfl or_ent [.slice (some ⟨w0.heap.size, 0, none⟩) 2 2] ?_ _ (HO.out _ w0.heap.size ?_ ?_) ?_
     . go_simp
     . go_simp
     . go_simp
     rintro e w1 ⟨rfl, rfl⟩
     refine ⟨_, rfl, ?_⟩))
 all_goals
  go_wp2_with fail
  go_ret
  exact ⟨rfl, Hb0.out.trans (Below.mono (B := w0.heap.size) (by ((repeat (first | with_reducible exact Below.refl _ _ | with_reducible refine Below.drew ?_ | with_reducible refine Below.alloc ?_ ?_ _ | with_reducible refine Below.setCell ?_ ?_ _)) <;> (first | with_reducible exact Nat.le_refl _ | (simp; done) | (simp; omega) | omega))) Hb0.out.size)⟩
theorem ptCmp_zero (p q : List Int) (i j : Int) : (ptCmp p q i j == 0) = (decide (p = q) && decide (i = j)) := by
 unfold ptCmp
 by_cases h : p = q
 . subst h
   rw [cmpL_self, if_pos rfl]
   by_cases h2 : i = j
   . subst h2; simp [cmpI]
   . have := mt cmpI_zero.1 h2
     simp [h2, this]
 . have h2 : cmpL p q ≠ 0 := fun e => h (cmpL_eq e)
   rw [if_neg h2]
   simp [h, h2]
theorem ptsame_c (p q : List Int) (i j : Int) (a a' : Option Addr) (c c' : Nat) (W : World) (hp : RowA W W.heap.size 1 a p.length c (p.map (Value.int .i64))) (hq : RowA W W.heap.size 1 a' q.length c' (q.map (Value.int .i64))) :
 Calls Tryz.prog 126 #[.agg #[.slice a p.length c, .int .i64 i], .agg #[.slice a' q.length c', .int .i64 j]] W (fun e w' => e = .returned (.bool (decide (p = q) && decide (i = j))) /\ Below W.heap.size W w') := by
 obtain ⟨w0, hw0⟩ : ∃ w0, w0 = (W.alloc (Obj.cells #[.slice a p.length c, .int .i64 i] 57)).alloc (Obj.cells #[.slice a' q.length c', .int .i64 j] 57) := ⟨_, rfl⟩
 have hb0 : Below W.heap.size W w0 := by rw [hw0]; exact (one_below _ _).alloc (by simp) _
 have hA : At w0 W.heap.size [.slice a p.length c, .int .i64 i] 57 := by rw [hw0]; exact (At.fresh W _ _).alloc _
 have hB : At w0 (W.heap.size + 1) [.slice a' q.length c', .int .i64 j] 57 := by rw [hw0]; exact At.second W _ _ _
 have HC := Lib.hid (ptcmp_c p q i j a a' c c' w0 (hp.keep hb0 hb0.size) (hq.keep hb0 hb0.size))
 have HZ := Lib.hid (ptCmp_zero p q i j)
 generalize ptCmp p q i j = R at HC HZ
 have y0 := hA.cell 0 rfl; have y1 := hA.cell 1 rfl; have z0 := hB.cell 0 rfl; have z1 := hB.cell 1 rfl
 have Hb0 := Lib.hid hb0; have Hw0 := Lib.hid hw0
 clear hp hq hA hB hw0 hb0
 go_enter Tryz.func126, Tryz.ntmps126
 go_upto_region 1 with fail
 rw [<- Hw0.out]
 clear Hw0
 go_wp2_with fail
 refine HC.out.mono ?_
 rintro e w1 ⟨rfl, hbel⟩
 have Hb1 := Lib.hid (Hb0.out.trans (hbel.mono Hb0.out.size))
 clear hbel HC y0 y1 z0 z1
 go_wp2_with fail
 go_ret
 exact ⟨ret_bool HZ.out, Hb1.out⟩
/-- No selection. -/
abbrev selZV : Value := .agg #[.bool false, .slice none 0 0, .int .i64 0, .slice none 0 0, .int .i64 0]
theorem sameselZ_c (W : World) :
 Calls Tryz.prog 70 #[selZV, selZV] W (fun e w' => e = .returned (.bool true) /\ Below W.heap.size W w') := by
 obtain ⟨w0, hw0⟩ : ∃ w0, w0 = (W.alloc (Obj.cells #[.bool false, .slice none 0 0, .int .i64 0, .slice none 0 0, .int .i64 0] 61)).alloc (Obj.cells #[.bool false, .slice none 0 0, .int .i64 0, .slice none 0 0, .int .i64 0] 61) := ⟨_, rfl⟩
 have hb0 : Below W.heap.size W w0 := by rw [hw0]; exact (one_below _ _).alloc (by simp) _
 have hA : At w0 W.heap.size [.bool false, .slice none 0 0, .int .i64 0, .slice none 0 0, .int .i64 0] 61 := by rw [hw0]; exact (At.fresh W _ _).alloc _
 have hB : At w0 (W.heap.size + 1) [.bool false, .slice none 0 0, .int .i64 0, .slice none 0 0, .int .i64 0] 61 := by rw [hw0]; exact At.second W _ _ _
 have HC := Lib.hid (fun (w' : World) => ptsame_c [] [] 0 0 none none 0 0 w' (RowA.empty _ _ _) (RowA.empty _ _ _))
 have y0 := hA.cell 0 rfl; have y1 := hA.cell 1 rfl; have y2 := hA.cell 2 rfl
 have z0 := hB.cell 0 rfl; have z1 := hB.cell 1 rfl; have z2 := hB.cell 2 rfl
 have HA := Lib.hid hA; have HB := Lib.hid hB
 have Hb0 := Lib.hid hb0; have Hw0 := Lib.hid hw0
 clear hA hB hw0 hb0
 go_enter Tryz.func70, Tryz.ntmps70
 go_upto_region 1 with fail
 rw [<- Hw0.out]
 clear Hw0
 go_wp2_with fail
 refine (HC.out w0).mono ?_
 rintro e w1 ⟨rfl, hbel⟩
 have hA1 := HA.out.kept hbel; have hB1 := HB.out.kept hbel
 have k3 := hA1.cell 3 rfl; have k4 := hA1.cell 4 rfl; have l3 := hB1.cell 3 rfl; have l4 := hB1.cell 4 rfl
 have Hb1 := Lib.hid (Hb0.out.trans (hbel.mono Hb0.out.size))
 clear hbel y0 y1 y2 z0 z1 z2 hA1 hB1
 go_wp2_with fail
 refine (HC.out w1).mono ?_
 rintro e w2 ⟨rfl, hbel⟩
 have Hb2 := Lib.hid (Hb1.out.trans (hbel.mono Hb1.out.size))
 clear hbel k3 k4 l3 l4
 go_wp2_with fail
 go_ret
 exact ⟨ret_bool rfl, Hb2.out⟩
theorem checkselZ_c (v : Value) (n : NodeD) (W : World) (hv : NodeV W W.heap.size n v) :
 Calls Tryz.prog 71 #[v, selZV] W (fun e w' => e = .returned (.int .i64 0) /\ Below W.heap.size W w') := by
 obtain ⟨csn, rfl, hc⟩ := hv
 obtain ⟨l, a1, n1, c1, a2, n2, c2, a3, n3, c3, rfl⟩ := hc.form
 obtain ⟨w0, hw0⟩ : ∃ w0, w0 = (W.alloc (Obj.cells #[.bool l, .slice a1 n1 c1, .slice a2 n2 c2, .slice a3 n3 c3] 35)).alloc (Obj.cells #[.bool false, .slice none 0 0, .int .i64 0, .slice none 0 0, .int .i64 0] 61) := ⟨_, rfl⟩
 have hb0 : Below W.heap.size W w0 := by rw [hw0]; exact (one_below _ _).alloc (by simp) _
 have hB : At w0 (W.heap.size + 1) [.bool false, .slice none 0 0, .int .i64 0, .slice none 0 0, .int .i64 0] 61 := by rw [hw0]; exact At.second W _ _ _
 have HC := Lib.hid (fun (w' : World) => ptsame_c [] [] 0 0 none none 0 0 w' (RowA.empty _ _ _) (RowA.empty _ _ _))
 have z0 := hB.cell 0 rfl; have z1 := hB.cell 1 rfl; have z2 := hB.cell 2 rfl; have z3 := hB.cell 3 rfl; have z4 := hB.cell 4 rfl
 have HB := Lib.hid hB
 have Hb0 := Lib.hid hb0; have Hw0 := Lib.hid hw0
 clear hB hw0 hb0 hc
 go_enter Tryz.func71, Tryz.ntmps71
 go_upto_region 1 with fail
 rw [<- Hw0.out]
 clear Hw0
 go_wp2_with fail
 refine (HC.out w0).mono ?_
 rintro e w1 ⟨rfl, hbel⟩
 have hB1 := HB.out.kept hbel
 have l1 := hB1.cell 1 rfl; have l2 := hB1.cell 2 rfl
 have Hb1 := Lib.hid (Hb0.out.trans (hbel.mono Hb0.out.size))
 clear hbel z0 z1 z2 z3 z4 hB1
 go_wp2_with fail
 refine (HC.out w1).mono ?_
 rintro e w2 ⟨rfl, hbel⟩
 have Hb2 := Lib.hid (Hb1.out.trans (hbel.mono Hb1.out.size))
 clear hbel l1 l2
 go_wp2_with fail
 go_ret
 exact ⟨rfl, Hb2.out⟩
end Go.Proofs.YtbommcakcmhalaaGreatDoor
