/- Parts of the proof, one behind the other: RCQ, RTA, RTB, RTC. -/
import Derived.Test.YtbommcakcmhalaaGreatDoorLM2
/- Walks: tree's at, Get. -/
set_option linter.unusedVariables false
set_option linter.unusedSimpArgs false
set_option maxHeartbeats 4000000
set_option maxRecDepth 100000
namespace Go.Proofs.YtbommcakcmhalaaGreatDoor
open Go.RowKit Go.Redl
def kidsOf : NodeD -> List NodeD
 | .mk _ _ _ ks => ks
/-- The node at a path. -/
def atN : NodeD -> List Int -> Option NodeD
 | n, [] => some n
 | n, i :: p => if 0 <= i then (match (kidsOf n)[i.toNat]? with | some k => atN k p | none => none) else none
/-- A node that lies at an address. -/
def NodeP (w : World) (B b off : Nat) (n : NodeD) : Prop := ∃ l a1 n1 c1 a2 n2 c2 a3 n3 c3, NodeC w B n [.bool l, .slice a1 n1 c1, .slice a2 n2 c2, .slice a3 n3 c3] /\ w.cell? ⟨b, off, none⟩ = some (.bool l) /\ w.cell? ⟨b, off + 1, none⟩ = some (.slice a1 n1 c1) /\
 w.cell? ⟨b, off + 2, none⟩ = some (.slice a2 n2 c2) /\ w.cell? ⟨b, off + 3, none⟩ = some (.slice a3 n3 c3)
def AtP (w : World) (B : Nat) (R : Option NodeD) (e : Ending) (w' : World) : Prop :=
 match R with
 | some m => (∃ b off, e = .returned (.tuple #[.pointer (some ⟨b, off, none⟩), .int .i64 0]) /\ NodeP w B b off m) /\ w = w'
 | none => e = .returned (.tuple #[.pointer none, .int .i64 5]) /\ w = w'
theorem at_c (n : NodeD) (p : List Int) (a : Option Addr) (cap : Nat) (b off B : Nat) (w : World) (hn : NodeP w B b off n) (hr : RowA w B 1 a p.length cap (p.map (Value.int .i64))) :
 Calls Tryz.prog 63 #[.pointer (some ⟨b, off, none⟩), .slice a p.length cap] w (AtP w B (atN n p)) := by
 have hm : p.length <= 9223372036854775807 := by have h1 := hr.le; have h2 := hr.max; unfold maxLen at h2; omega
 obtain ⟨R, hR⟩ : ∃ R, R = atN n p := ⟨_, rfl⟩
 rw [<- hR]
 have HR := Lib.hid hR; have Hn := Lib.hid hn
 clear hR hn
 go_enter Tryz.func63, Tryz.ntmps63
 go_wp2_with fail
 go_loopg [0, 10] p.length (fun g q i wr => ∃ (k b' off' : Nat) (n' : NodeD), q = .pointer (some ⟨b', off', none⟩) /\ i = .int .i64 k /\ k + g = p.length /\ atN n' (p.drop k) = R /\ NodeP w B b' off' n' /\ wr = w)
 case atStart => exact ⟨0, b, off, n, rfl, rfl, by omega, HR.out.symm, Hn.out, rfl⟩
 case round =>
  obtain ⟨k, b', off', n', rfl, rfl, hg, hat, hn', rfl⟩ := hrel
  have Hat := Lib.hid hat; have Hn' := Lib.hid hn'
  obtain ⟨l, a1, n1, c1, a2, n2, c2, a3, n3, c3, hnc, x0, x1, x2, x3⟩ := hn'
  clear hat Hn HR
  by_cases hlt : k < p.length
  . have hd : p.drop k = p[k] :: p.drop (k + 1) := List.drop_eq_getElem_cons hlt
    have Hd := Lib.hid hd
    obtain ⟨pb, po, rfl, hpb, hcell0⟩ := hr.int_at k hlt
    have hcell := hcell0 k hlt
    rw [getD_of_lt hlt] at hcell
    clear hcell0
    generalize p[k] = i at hcell Hd
    have hlti : (k : Int) < p.length := by omega
    clear hd
    obtain ⟨l', ps', t', ks'⟩ := n'
    have hnc2 := hnc
    unfold NodeC at hnc2
    obtain ⟨ap, cp, at_, ct, ak, ck, css, hcs, -, -, -, hk, hkk⟩ := hnc2
    injection hcs with e0 e1; injection e1 with e1 e2; injection e2 with e2 e3; injection e3 with e3 e4
    injection e3 with f1 f2 f3
    subst f1; subst f2; subst f3
    clear e0 e1 e2 e4 hnc
    by_cases h0 : 0 <= i
    . obtain ⟨j, rfl⟩ : ∃ j : Nat, i = j := ⟨i.toNat, by omega⟩
      by_cases hj : j < ks'.length
      . obtain ⟨kb, ko, l1, b1, o1, d1, b2, o2, d2, b3, o3, d3, rfl, hkb, hkn, g0, g1, g2, g3⟩ := hk.kid_at hkk j hj
        have Hat2 : Hid (atN ks'[j] (p.drop (k + 1)) = R) := by
         show _ = R
         rw [<- Hat.out, Hd.out]
         simp [atN, kidsOf, List.getElem?_eq_getElem hj]
        have Hkn := Lib.hid (show NodeP wr B kb (ko + j * 4) ks'[j] from ⟨l1, b1, o1, d1, b2, o2, d2, b3, o3, d3, hkn, g0, g1, g2, g3⟩)
        have hnl : decide ((j : Int) < 0) = false := by simp
        have hji : (j : Int) < ks'.length := by omega
        have hge : decide ((ks'.length : Int) <= j) = false := by simp; omega
        clear hkn hk hkk Hat
        go_wp2_with fail
        go_roundg (gk - 1)
        case measure => omega
        case rel => exact ⟨k + 1, kb, ko + j * 4, ks'[j], rfl, rfl, by omega, Hat2.out, Hkn.out, rfl⟩
      . have HR2 : Hid (R = none) := by
         show R = none
         rw [<- Hat.out, Hd.out]
         simp [atN, kidsOf, List.getElem?_eq_none (Nat.le_of_not_lt hj)]
        have hnl : decide ((j : Int) < 0) = false := by simp
        have hge : decide ((ks'.length : Int) <= j) = true := by simp; omega
        clear hk hkk Hat
        go_wp2_with fail
        go_ret2
        rw [HR2.out]
        exact ⟨rfl, rfl⟩
    . have HR2 : Hid (R = none) := by
       show R = none
       rw [<- Hat.out, Hd.out]
       simp only [atN]
       rw [if_neg h0]
      have hneg : i < 0 := by omega
      clear hk hkk Hat
      go_wp2_with fail
      go_ret2
      rw [HR2.out]
      exact ⟨rfl, rfl⟩
  . have hnl : decide ((k : Int) < p.length) = false := by simp; omega
    have HR2 : Hid (R = some n') := by
     show R = _
     rw [<- Hat.out, List.drop_eq_nil_of_le (by omega)]
     rfl
    clear hnc
    go_wp2_with fail
    go_ret2
    rw [HR2.out]
    exact ⟨⟨b', off', rfl, Hn'.out⟩, rfl⟩
theorem atN_wt : ∀ (p : List Int) (n m : NodeD), atN n p = some m -> m.wt <= n.wt
 | [], n, m, h => by unfold atN at h; injection h with h; subst h; exact Nat.le_refl _
 | i :: p, n, m, h => by
   unfold atN at h
   split at h
   . split at h
     . rename_i k hk
       have h1 := atN_wt p k m h
       obtain ⟨l, ps, t, ks⟩ := n
       have hm : k ∈ ks := List.mem_of_getElem? hk
       have := wtAll_mem hm
       simp only [NodeD.wt]
       omega
     . cases h
   . cases h
def GetP (W : World) (R : Option NodeD) (e : Ending) (w' : World) : Prop :=
 match R with
 | some m => ∃ cs, e = .returned (.tuple #[.agg cs.toArray, .int .i64 0]) /\ NodeQ w' (fun b => W.heap.size <= b) m cs /\ Below W.heap.size W w'
 | none => e = .returned (.tuple #[.agg #[.bool false, .slice none 0 0, .slice none 0 0, .slice none 0 0], .int .i64 5]) /\ Below W.heap.size W w'
theorem get_c (n : NodeD) (p : List Int) (v : Value) (pa : Option Addr) (pc : Nat) (W : World) (hbig : n.wt <= 100000000) (hv : NodeV W W.heap.size n v) (hp : RowA W W.heap.size 1 pa p.length pc (p.map (Value.int .i64))) :
 Calls Tryz.prog 14 #[v, .slice pa p.length pc] W (GetP W (atN n p)) := by
 have hwt := atN_wt p n
 obtain ⟨csn, rfl, hc⟩ := hv
 obtain ⟨l, a1, n1, c1, a2, n2, c2, a3, n3, c3, rfl⟩ := hc.form
 have hA := (NodeAt.fresh W (.bool l) (.slice a1 n1 c1) (.slice a2 n2 c2) (.slice a3 n3 c3)).alloc (Obj.cells #[.bool false, .slice none 0 0, .slice none 0 0, .slice none 0 0] 35)
 have hB := node_second W (Obj.cells #[.bool l, .slice a1 n1 c1, .slice a2 n2 c2, .slice a3 n3 c3] 35) (.bool false) (.slice none 0 0) (.slice none 0 0) (.slice none 0 0)
 have hb0 : Below W.heap.size W ((W.alloc (Obj.cells #[.bool l, .slice a1 n1 c1, .slice a2 n2 c2, .slice a3 n3 c3] 35)).alloc (Obj.cells #[.bool false, .slice none 0 0, .slice none 0 0, .slice none 0 0] 35)) := ((Below.refl _ _).alloc (Nat.le_refl _) _).alloc (by simp) _
 have hs0 : ((W.alloc (Obj.cells #[.bool l, .slice a1 n1 c1, .slice a2 n2 c2, .slice a3 n3 c3] 35)).alloc (Obj.cells #[.bool false, .slice none 0 0, .slice none 0 0, .slice none 0 0] 35)).heap.size = W.heap.size + 2 := by simp
 obtain ⟨y0, y1, y2, y3, -, -⟩ := hA.facts
 have HAt := Lib.hid (at_c n p pa pc W.heap.size 0 W.heap.size _ ⟨l, a1, n1, c1, a2, n2, c2, a3, n3, c3, NodeC.keep hb0 (Nat.le_refl _) _ _ hc, y0, y1, y2, y3⟩ (hp.keep hb0 (Nat.le_refl _)))
 have Hb0 := Lib.hid hb0; have HB := Lib.hid hB; have Hs0 := Lib.hid hs0
 clear hc hA hB hb0 hs0 y0 y1 y2 y3 hp
 cases hat : atN n p with
 | none =>
   rw [hat] at HAt
   clear hat hwt
   go_enter Tryz.func14, Tryz.ntmps14
   go_wp2_with fail
   refine HAt.out.mono ?_
   rintro e w1 ⟨rfl, rfl⟩
   clear HAt
   go_wp2_with fail
   refine bodyPost_ret (v := .tuple #[.agg #[.bool false, .slice none 0 0, .slice none 0 0, .slice none 0 0], .int .i64 5]) (by simp [results, Tryz.results14, go_sem]) rfl ?_
   exact ⟨rfl, Hb0.out⟩
 | some m =>
   rw [hat] at HAt
   have hmw := hwt m hat
   clear hat hwt
   go_enter Tryz.func14, Tryz.ntmps14
   obtain ⟨w0, hw0⟩ : ∃ w0, w0 = (W.alloc (Obj.cells #[.bool l, .slice a1 n1 c1, .slice a2 n2 c2, .slice a3 n3 c3] 35)).alloc (Obj.cells #[.bool false, .slice none 0 0, .slice none 0 0, .slice none 0 0] 35) := ⟨_, rfl⟩
   go_wp2_with fail
   rw [<- hw0] at HAt Hb0 HB Hs0 ⊢
   refine HAt.out.mono ?_
   rintro e w1 ⟨⟨b, off, rfl, l', b1, o1, d1, b2, o2, d2, b3, o3, d3, hmc, x0, x1, x2, x3⟩, rfl⟩
   have HC := Lib.hid (copy_c m.wt m (.agg #[.bool l', .slice b1 o1 d1, .slice b2 o2 d2, .slice b3 o3 d3]) w0 (Nat.le_refl _) (by omega) ⟨_, rfl, NodeC.keep (Below.refl _ _) (by rw [Hs0.out]; omega) _ _ hmc⟩)
   clear HAt hw0 hmc
   go_wp2_with fail
   refine HC.out.mono ?_
   rintro e w2 ⟨cs, rfl, hnode, hbel⟩
   obtain ⟨m1, p1, q1, r1, p2, q2, r2, p3, q3, r3, rfl⟩ := hnode.form
   have hB2 := HB.out.keep (hbel.mono (by rw [Hs0.out]; omega))
   obtain ⟨z0, z1, z2, z3, ⟨g0, g1, g2, g3⟩, hB5⟩ := hB2.facts
   have Hb2 := Lib.hid (Hb0.out.trans (hbel.mono (by rw [Hs0.out]; omega)))
   have Hnode := Lib.hid hnode
   clear HC hnode hbel x0 x1 x2 x3 hB2 HB
   go_wp2_with fail
   refine bodyPost_ret (v := .tuple #[.agg #[.bool m1, .slice p1 q1 r1, .slice p2 q2 r2, .slice p3 q3 r3], .int .i64 0]) (by simp [results, Tryz.results14, go_sem, z0, z1, z2, z3]) rfl ?_
   have hne : ¬ (w0.heap.size <= W.heap.size + 1) := by rw [Hs0.out]; omega
   refine ⟨_, rfl, ?_, ?_⟩
   . have hq := nodeq_set (N := W.heap.size + 1) (o := 3) (u := .slice p3 q3 r3) (nodeq_set (N := W.heap.size + 1) (o := 2) (u := .slice p2 q2 r2) (nodeq_set (N := W.heap.size + 1) (o := 1) (u := .slice p1 q1 r1) (nodeq_set (N := W.heap.size + 1) (o := 0) (u := .bool m1) Hnode.out hne) hne) hne) hne
     exact NodeQ.keep (Nat.le_refl _) (fun _ _ _ => rfl) (fun b hb _ => by rw [Hs0.out] at hb; omega) _ _ hq
   . with_reducible exact below_all Hb2.out (Nat.le_succ _) _ _ _ _
end Go.Proofs.YtbommcakcmhalaaGreatDoor
/- Plain words: a tree whose parts lie apart; one node of it changed in place. -/
namespace Go.Proofs.YtbommcakcmhalaaGreatDoor
open Go.RowKit Go.Redl
/-- The four cells at a place. -/
def Cells4 (w : World) (b off : Nat) (cs : List Value) : Prop := cs.length = 4 /\ ∀ j u, cs[j]? = some u -> w.cell? ⟨b, off + j, none⟩ = some u
mutual
/-- A tree's cells: all that it leads to lies in the blocks from lo to hi, no two parts in one block, its rows of Kids in blocks of their own. -/
def NodeI (w : World) : NodeD -> Nat -> Nat -> List Value -> Prop
 | .mk l ps t ks, lo, hi, cs => ∃ (mid : Nat) (ap : Option Addr) (cp : Nat) (at_ : Option Addr) (ct : Nat) (ak : Option Addr) (ck : Nat) (css : List Value), lo <= mid /\ cs = [.bool l, .slice ap ps.length cp, .slice at_ t.length ct, .slice ak ks.length ck] /\
     RowQ w (fun b => lo <= b /\ b < mid /\ (Value.slice ak ks.length ck).ownBlock ≠ some b) 2 ap ps.length cp (propCells ps) /\
     RowQ w (fun b => lo <= b /\ b < mid /\ (Value.slice ak ks.length ck).ownBlock ≠ some b) 1 at_ t.length ct (t.map (Value.int .i32)) /\ (∀ z ∈ t, (Lit.int .i32 z).wf = true) /\
     w.ownsRow lo 35 4 (.slice ak ks.length ck) ks.length css /\ (∀ g, (Value.slice ak ks.length ck).ownBlock = some g -> g < mid) /\ KidsI w ks mid hi css
def KidsI (w : World) : List NodeD -> Nat -> Nat -> List Value -> Prop
 | [], lo, hi, css => css = [] /\ lo <= hi
 | k :: ks, lo, hi, css => ∃ (m : Nat) (c1 c2 : List Value), lo <= m /\ css = c1 ++ c2 /\ NodeI w k lo m c1 /\ KidsI w ks m hi c2
end
mutual
theorem NodeI.le {w : World} : ∀ {n : NodeD} {lo hi : Nat} {cs : List Value}, NodeI w n lo hi cs -> lo <= hi
 | .mk l ps t ks, lo, hi, cs, h => by
   unfold NodeI at h
   obtain ⟨mid, _, _, _, _, _, _, _, h1, _, _, _, _, _, _, h2⟩ := h
   exact Nat.le_trans h1 (KidsI.le h2)
theorem KidsI.le {w : World} : ∀ {ks : List NodeD} {lo hi : Nat} {css : List Value}, KidsI w ks lo hi css -> lo <= hi
 | [], lo, hi, css, h => by unfold KidsI at h; exact h.2
 | k :: ks, lo, hi, css, h => by
   unfold KidsI at h
   obtain ⟨m, c1, c2, h0, _, _, h2⟩ := h
   exact Nat.le_trans h0 (KidsI.le h2)
end
mutual
theorem NodeI.keep {w w' : World} (hs : w.heap.size <= w'.heap.size) : ∀ {n : NodeD} {lo hi : Nat} {cs : List Value}, (∀ b, lo <= b -> b < hi -> b < w.heap.size -> w'.heap[b]? = w.heap[b]?) -> NodeI w n lo hi cs -> NodeI w' n lo hi cs
 | .mk l ps t ks, lo, hi, cs, hk, h => by
   unfold NodeI at h ⊢
   obtain ⟨mid, ap, cp, at_, ct, ak, ck, css, h1, h2, h3, h4, h5, h6, h7, h8⟩ := h
   have hmh := KidsI.le h8
   refine ⟨mid, ap, cp, at_, ct, ak, ck, css, h1, h2, h3.keep hs (fun b hb hlt => hk b hb.1 (by omega) hlt) (fun _ h _ => h), h4.keep hs (fun b hb hlt => hk b hb.1 (by omega) hlt) (fun _ h _ => h), h5, ⟨h6.1, ?_⟩, h7, KidsI.keep hs (fun b hb hb2 hlt => hk b (by omega) hb2 hlt) h8⟩
   rcases h6.2 with hn | ⟨g, cap, cur, hv, hb, hg, hr⟩
   . exact .inl hn
   . refine .inr ⟨g, cap, cur, hv, hb, ?_, hr⟩
     have hgl : g < w.heap.size := by
      rcases Nat.lt_or_ge g w.heap.size with h | h
      . exact h
      . rw [Array.getElem?_eq_none h] at hg; cases hg
     rw [hk g hb (by have := h7 g (by rw [hv]; rfl); omega) hgl]
     exact hg
theorem KidsI.keep {w w' : World} (hs : w.heap.size <= w'.heap.size) : ∀ {ks : List NodeD} {lo hi : Nat} {css : List Value}, (∀ b, lo <= b -> b < hi -> b < w.heap.size -> w'.heap[b]? = w.heap[b]?) -> KidsI w ks lo hi css -> KidsI w' ks lo hi css
 | [], lo, hi, css, hk, h => by unfold KidsI at h ⊢; exact h
 | k :: ks, lo, hi, css, hk, h => by
   unfold KidsI at h ⊢
   obtain ⟨m, c1, c2, h0, h1, h2, h3⟩ := h
   have := KidsI.le h3
   exact ⟨m, c1, c2, h0, h1, NodeI.keep hs (fun b hb hb2 hlt => hk b hb (by omega) hlt) h2, KidsI.keep hs (fun b hb hb2 hlt => hk b (by omega) hb2 hlt) h3⟩
end
mutual
theorem NodeI.q {w : World} {ok : Nat -> Prop} : ∀ {n : NodeD} {lo hi : Nat} {cs : List Value}, (∀ b, lo <= b -> b < hi -> ok b) -> NodeI w n lo hi cs -> NodeQ w ok n cs
 | .mk l ps t ks, lo, hi, cs, hk, h => by
   unfold NodeI at h
   unfold NodeQ
   obtain ⟨mid, ap, cp, at_, ct, ak, ck, css, h1, h2, h3, h4, h5, h6, h7, h8⟩ := h
   have hmh := KidsI.le h8
   have hq8 := KidsI.q (ok := ok) (fun b hb hb2 => hk b (by omega) hb2) h8
   obtain ⟨a', c', hv, hr⟩ := RowQ.of_own h6 (KidsQ.onec hq8)
   injection hv with e1 e2 e3
   subst e1; subst e3
   refine ⟨ap, cp, at_, ct, ak, ck, css, h2, h3.keep (Nat.le_refl _) (fun _ _ _ => rfl) (fun b hb _ => hk b hb.1 (by omega)), h4.keep (Nat.le_refl _) (fun _ _ _ => rfl) (fun b hb _ => hk b hb.1 (by omega)), h5, hr.keep (Nat.le_refl _) (fun _ _ _ => rfl) (fun b hb _ => hk b (h6.lt b hb).1 (by have := h7 b hb; omega)), hq8⟩
theorem KidsI.q {w : World} {ok : Nat -> Prop} : ∀ {ks : List NodeD} {lo hi : Nat} {css : List Value}, (∀ b, lo <= b -> b < hi -> ok b) -> KidsI w ks lo hi css -> KidsQ w ok ks css
 | [], lo, hi, css, hk, h => by unfold KidsI at h; unfold KidsQ; exact h.1
 | k :: ks, lo, hi, css, hk, h => by
   unfold KidsI at h
   unfold KidsQ
   obtain ⟨m, c1, c2, h0, h1, h2, h3⟩ := h
   have := KidsI.le h3
   exact ⟨c1, c2, h1, NodeI.q (fun b hb hb2 => hk b hb (by omega)) h2, KidsI.q (fun b hb hb2 => hk b (by omega) hb2) h3⟩
end
theorem KidsI.up {w : World} : ∀ {ks : List NodeD} {lo hi hi' : Nat} {css : List Value}, KidsI w ks lo hi css -> hi <= hi' -> KidsI w ks lo hi' css
 | [], lo, hi, hi', css, h, he => by unfold KidsI at h ⊢; exact ⟨h.1, by omega⟩
 | k :: ks, lo, hi, hi', css, h, he => by
   unfold KidsI at h ⊢
   obtain ⟨m, c1, c2, h0, h1, h2, h3⟩ := h
   exact ⟨m, c1, c2, h0, h1, h2, KidsI.up h3 he⟩
theorem NodeI.wide {w : World} {n : NodeD} {lo hi lo' hi' : Nat} {cs : List Value} (h : NodeI w n lo hi cs) (hl : lo' <= lo) (hh : hi <= hi') : NodeI w n lo' hi' cs := by
 obtain ⟨l, ps, t, ks⟩ := n
 unfold NodeI at h ⊢
 obtain ⟨mid, ap, cp, at_, ct, ak, ck, css, h1, h2, h3, h4, h5, h6, h7, h8⟩ := h
 refine ⟨mid, ap, cp, at_, ct, ak, ck, css, by omega, h2, h3.keep (Nat.le_refl _) (fun _ _ _ => rfl) (fun b hb _ => ⟨by omega, hb.2⟩), h4.keep (Nat.le_refl _) (fun _ _ _ => rfl) (fun b hb _ => ⟨by omega, hb.2⟩), h5, ⟨h6.1, ?_⟩, h7, h8.up hh⟩
 rcases h6.2 with hn | ⟨g, cap, cur, hv, hb, hr⟩
 . exact .inl hn
 . exact .inr ⟨g, cap, cur, hv, by omega, hr⟩
theorem KidsI.snoc {w : World} : ∀ {ks : List NodeD} {k : NodeD} {lo m hi : Nat} {css c : List Value}, KidsI w ks lo m css -> NodeI w k m hi c -> KidsI w (ks ++ [k]) lo hi (css ++ c)
 | [], k, lo, m, hi, css, c, h, hn => by
   unfold KidsI at h
   obtain ⟨rfl, hm⟩ := h
   show KidsI w [k] lo hi c
   unfold KidsI
   exact ⟨hi, c, [], Nat.le_trans hm (NodeI.le hn), by simp, hn.wide hm (Nat.le_refl _), by unfold KidsI; exact ⟨rfl, Nat.le_refl _⟩⟩
 | x :: ks, k, lo, m, hi, css, c, h, hn => by
   unfold KidsI at h
   obtain ⟨m1, c1, c2, h0, rfl, h2, h3⟩ := h
   show KidsI w (x :: (ks ++ [k])) lo hi (c1 ++ c2 ++ c)
   unfold KidsI
   exact ⟨m1, c1, c2 ++ c, h0, by simp, h2, KidsI.snoc h3 hn⟩
theorem NodeI.four {w : World} {n : NodeD} {lo hi : Nat} {cs : List Value} (h : NodeI w n lo hi cs) : cs.length = 4 := by
 obtain ⟨l, ps, t, ks⟩ := n
 unfold NodeI at h
 obtain ⟨mid, ap, cp, at_, ct, ak, ck, css, h1, rfl, -⟩ := h
 rfl
theorem rowq_keepc {w w' : World} {ok ok' : Nat -> Prop} {sz n cap : Nat} {a : Option Addr} {cs : List Value} (h : RowQ w ok sz a n cap cs) (hs : w.heap.size <= w'.heap.size) (hk : ∀ b o, ok b -> b < w.heap.size -> w'.cell? ⟨b, o, none⟩ = w.cell? ⟨b, o, none⟩) (ho : ∀ b, ok b -> ok' b) : RowQ w' ok' sz a n cap cs := by
 refine ⟨h.len, h.le, h.max, h.one, h.nil, fun hne => ?_⟩
 obtain ⟨b, off, ha, hb, hlt, hcell⟩ := h.some_ hne
 exact ⟨b, off, ha, ho b hb, Nat.lt_of_lt_of_le hlt hs, fun j u hj => by rw [hk b _ hb hlt]; exact hcell j u hj⟩
mutual
theorem nodeq_keepc {w w' : World} {ok ok' : Nat -> Prop} (hs : w.heap.size <= w'.heap.size) (hk : ∀ b o, ok b -> b < w.heap.size -> w'.cell? ⟨b, o, none⟩ = w.cell? ⟨b, o, none⟩) (ho : ∀ b, ok b -> ok' b) : ∀ (n : NodeD) (cs : List Value), NodeQ w ok n cs -> NodeQ w' ok' n cs
 | .mk l ps t ks, cs => by
   intro h
   unfold NodeQ at h ⊢
   obtain ⟨ap, cp, at_, ct, ak, ck, css, h1, h2, h3, h4, h5, h6⟩ := h
   exact ⟨ap, cp, at_, ct, ak, ck, css, h1, rowq_keepc h2 hs hk ho, rowq_keepc h3 hs hk ho, h4, rowq_keepc h5 hs hk ho, kidsq_keepc hs hk ho ks css h6⟩
theorem kidsq_keepc {w w' : World} {ok ok' : Nat -> Prop} (hs : w.heap.size <= w'.heap.size) (hk : ∀ b o, ok b -> b < w.heap.size -> w'.cell? ⟨b, o, none⟩ = w.cell? ⟨b, o, none⟩) (ho : ∀ b, ok b -> ok' b) : ∀ (ks : List NodeD) (css : List Value), KidsQ w ok ks css -> KidsQ w' ok' ks css
 | [], css => by intro h; unfold KidsQ at h ⊢; exact h
 | k :: ks, css => by
   intro h
   unfold KidsQ at h ⊢
   obtain ⟨c1, c2, h1, h2, h3⟩ := h
   exact ⟨c1, c2, h1, nodeq_keepc hs hk ho k c1 h2, kidsq_keepc hs hk ho ks c2 h3⟩
end
/-- The Kid at a place; another one put there. -/
theorem KidsI.at_ {w : World} : ∀ {ks : List NodeD} {lo hi : Nat} {css : List Value}, KidsI w ks lo hi css -> ∀ (i : Nat) (h : i < ks.length), ∃ m1 m2 c, lo <= m1 /\ m2 <= hi /\ NodeI w ks[i] m1 m2 c /\ (∀ j, j < 4 -> css[i * 4 + j]? = c[j]?) /\
 ∀ (w' : World) (ok : Nat -> Prop) (k' : NodeD) (c' : List Value), w.heap.size <= w'.heap.size -> (∀ b, lo <= b -> b < hi -> ok b) -> (∀ b o, lo <= b -> b < hi -> b < w.heap.size -> ¬ (m1 <= b /\ b < m2) -> w'.cell? ⟨b, o, none⟩ = w.cell? ⟨b, o, none⟩) -> NodeQ w' ok k' c' -> KidsQ w' ok (ks.set i k') (css.take (i * 4) ++ c' ++ css.drop (i * 4 + 4))
 | [], _, _, _, _, i, h => by simp at h
 | k :: ks, lo, hi, css, h, i, hi' => by
   unfold KidsI at h
   obtain ⟨m, c1, c2, h0, rfl, h2, h3⟩ := h
   have hl := h2.four
   have hm := KidsI.le h3
   cases i with
   | zero =>
     refine ⟨lo, m, c1, Nat.le_refl _, hm, h2, fun j hj => by rw [List.getElem?_append_left (by omega)]; simp, fun w' ok k' c' hs ho hk hn => ?_⟩
     have hq := kidsq_keepc (ok' := ok) hs (fun b o hb hlt => hk b o (by omega) hb.2 hlt (by omega)) (fun b hb => ho b (by omega) hb.2) _ _ (KidsI.q (ok := fun b => m <= b /\ b < hi) (fun b hb hb2 => ⟨hb, hb2⟩) h3)
     show KidsQ w' ok (k' :: ks) _
     unfold KidsQ
     exact ⟨c', c2, by simp [List.drop_append, hl], hn, hq⟩
   | succ i =>
     obtain ⟨m1, m2, c, g1, g2, g3, g4, g5⟩ := KidsI.at_ h3 i (by simpa using hi')
     refine ⟨m1, m2, c, by omega, g2, g3, fun j hj => ?_, fun w' ok k' c' hs ho hk hn => ?_⟩
     . rw [List.getElem?_append_right (by omega), hl, show (i + 1) * 4 + j - 4 = i * 4 + j by omega]
       exact g4 j hj
     . have hq := nodeq_keepc (ok' := ok) hs (fun b o hb hlt => hk b o hb.1 (by omega) hlt (by omega)) (fun b hb => ho b hb.1 (by omega)) _ _ (NodeI.q (ok := fun b => lo <= b /\ b < m) (fun b hb hb2 => ⟨hb, hb2⟩) h2)
       have hr := g5 w' ok k' c' hs (fun b hb hb2 => ho b (by omega) hb2) (fun b o hb hb2 hlt hn => hk b o (by omega) hb2 hlt hn) hn
       show KidsQ w' ok (k :: ks.set i k') _
       unfold KidsQ
       refine ⟨c1, c2.take (i * 4) ++ c' ++ c2.drop (i * 4 + 4), ?_, hq, hr⟩
       rw [List.take_append, List.drop_append, hl, List.take_of_length_le (show c1.length <= (i + 1) * 4 by omega), List.drop_eq_nil_of_le (show c1.length <= (i + 1) * 4 + 4 by omega), show (i + 1) * 4 - 4 = i * 4 by omega, show (i + 1) * 4 + 4 - 4 = i * 4 + 4 by omega]
       simp
/-- Another node at a path. -/
def putN : NodeD -> List Int -> NodeD -> NodeD
 | _, [], m => m
 | .mk l ps t ks, i :: p, m => .mk l ps t (ks.set i.toNat (putN (ks.getD i.toNat (.mk false [] [] [])) p m))
/-- Where the node at a path lies. -/
def addrW (w : World) : List Int -> Nat -> Nat -> Nat × Nat
 | [], b, off => (b, off)
 | i :: p, b, off => match w.cell? ⟨b, off + 3, none⟩ with
   | some (.slice (some a) _ _) => addrW w p a.block (a.off + i.toNat * 4)
   | _ => (b, off)
theorem placeI {w : World} : ∀ (p : List Int) (n m : NodeD) (lo hi b off : Nat) (cs : List Value), NodeI w n lo hi cs -> Cells4 w b off cs -> ¬ (lo <= b /\ b < hi) -> atN n p = some m ->
 ∃ lo' hi' cm, lo <= lo' /\ hi' <= hi /\ NodeI w m lo' hi' cm /\ Cells4 w (addrW w p b off).1 (addrW w p b off).2 cm /\ ¬ (lo' <= (addrW w p b off).1 /\ (addrW w p b off).1 < hi') /\ (addrW w p b off = (b, off) ∨ lo <= (addrW w p b off).1 /\ (addrW w p b off).1 < hi) /\
 ∀ (w' : World) (ok : Nat -> Prop) (m' : NodeD) (cm' : List Value), w.heap.size <= w'.heap.size -> (∀ x, lo <= x -> x < hi -> ok x) ->
   (∀ x o, x < w.heap.size -> (lo <= x /\ x < hi ∨ x = b) -> ¬ (x = (addrW w p b off).1 /\ (addrW w p b off).2 <= o /\ o < (addrW w p b off).2 + 4) -> ¬ (lo' <= x /\ x < hi') -> w'.cell? ⟨x, o, none⟩ = w.cell? ⟨x, o, none⟩) ->
   NodeQ w' ok m' cm' -> Cells4 w' (addrW w p b off).1 (addrW w p b off).2 cm' -> ∃ cs', Cells4 w' b off cs' /\ NodeQ w' ok (putN n p m') cs'
 | [], n, m, lo, hi, b, off, cs, h, hc, hb, hat => by
   have e : n = m := by simpa [atN] using hat
   subst e
   exact ⟨lo, hi, cs, Nat.le_refl _, Nat.le_refl _, h, hc, hb, .inl rfl, fun w' ok m' cm' hs ho hk hn hc' => ⟨cm', hc', hn⟩⟩
 | i :: p, .mk l ps t ks, m, lo, hi, b, off, cs, h, hc, hb, hat => by
   unfold NodeI at h
   obtain ⟨mid, ap, cp, at_, ct, ak, ck, css, h1, rfl, h3, h4, h5, h6, h7, h8⟩ := h
   simp only [atN, kidsOf] at hat
   split at hat
   . rename_i h0
     obtain ⟨j, rfl⟩ : ∃ j : Nat, i = j := ⟨i.toNat, by omega⟩
     rw [Int.toNat_natCast] at hat
     by_cases hj : j < ks.length
     . rw [List.getElem?_eq_getElem hj] at hat
       simp only at hat
       obtain ⟨m1, m2, c, g1, g2, g3, g4, g5⟩ := KidsI.at_ h8 j hj
       have hcl := h6.1
       have hone : ∀ u ∈ css, u.oneCell' = true := KidsQ.onec (KidsI.q (ok := fun _ => True) (fun _ _ _ => trivial) h8)
       obtain ⟨K, rfl, hK⟩ := own_some h6 (by intro e; rw [e] at hcl; simp at hcl; omega)
       have hKm : K < mid := h7 K rfl
       have hcK : Cells4 w K (j * 4) c := by
        refine ⟨g3.four, fun q u hq => ?_⟩
        have hq4 : q < 4 := by
         rcases Nat.lt_or_ge q c.length with h | h
         . rw [g3.four] at h; exact h
         . rw [List.getElem?_eq_none h] at hq; cases hq
        exact own_at h6 _ _ (by rw [g4 q hq4]; exact hq)
       have hA : addrW w ((j : Int) :: p) b off = addrW w p K (j * 4) := by
        have := hc.2 3 _ rfl
        show (match w.cell? ⟨b, off + 3, none⟩ with | some (.slice (some a) _ _) => addrW w p a.block (a.off + (j : Int).toNat * 4) | _ => (b, off)) = _
        rw [this]
        simp
       have hmh := KidsI.le h8
       obtain ⟨lo', hi', cm, k1, k2, k3, k4, k5, k6, k7⟩ := placeI p ks[j] m m1 m2 K (j * 4) c g3 hcK (by omega) hat
       have hlh := k3.le
       rw [hA]
       generalize addrW w p K (j * 4) = A at k4 k5 k6 k7 ⊢
       obtain ⟨A1, A2⟩ := A
       simp only at k4 k5 k6 k7 ⊢
       have hAin : lo <= A1 /\ A1 < hi := by
        rcases k6 with e | e
        . injection e with e1 e2; omega
        . omega
       refine ⟨lo', hi', cm, by omega, by omega, k3, k4, k5, .inr hAin, fun w' ok m' cm' hs ho hk hn hc' => ?_⟩
       obtain ⟨c', q1, q2⟩ := k7 w' ok m' cm' hs (fun x hx hx2 => ho x (by omega) (by omega)) (fun x o hx hin hno hno2 => hk x o hx (by omega) hno hno2) hn hc'
       have hq := g5 w' ok _ c' hs (fun x hx hx2 => ho x (by omega) (by omega)) (fun x o hx hx2 hlt hno => hk x o hlt (by omega) (fun hh => by
        rcases k6 with e | e
        . injection e with e1 e2; omega
        . omega) (fun hh => hno ⟨by omega, by omega⟩)) q2
       have hbl : b < w.heap.size := by
        have := hc.2 0 _ rfl
        have := World.block_lt_of_cell? w _ this
        simpa using this
       refine ⟨[.bool l, .slice ap ps.length cp, .slice at_ t.length ct, .slice (some ⟨K, 0, none⟩) ks.length ck], ⟨rfl, fun q u hqu => ?_⟩, ?_⟩
       . rw [hk b _ hbl (.inr rfl) (fun hh => by omega) (fun hh => hb ⟨by omega, by omega⟩)]
         exact hc.2 q u hqu
       . have hgd : ks.getD j (.mk false [] [] []) = ks[j] := by simp [List.getD, List.getElem?_eq_getElem hj]
         have hKin : ∀ o, ¬ (A1 = K /\ A2 <= o /\ o < A2 + 4) -> w'.cell? ⟨K, o, none⟩ = w.cell? ⟨K, o, none⟩ := fun o hno => by
          have hKl : K < w.heap.size := (h6.lt K rfl).2
          exact hk K o hKl (.inl ⟨hK, by omega⟩) (fun hh => hno ⟨hh.1.symm, hh.2⟩) (by omega)
         show NodeQ w' ok (.mk l ps t (ks.set (j : Int).toNat (putN (ks.getD (j : Int).toNat (.mk false [] [] [])) p m'))) _
         rw [Int.toNat_natCast, hgd]
         unfold NodeQ
         have hside : ∀ x o, (lo <= x /\ x < mid /\ (Value.slice (some ⟨K, 0, none⟩) ks.length ck).ownBlock ≠ some x) -> x < w.heap.size -> w'.cell? ⟨x, o, none⟩ = w.cell? ⟨x, o, none⟩ := fun x o hx hlt => by
          have hxK : x ≠ K := fun e => hx.2.2 (by rw [e]; rfl)
          refine hk x o hlt (.inl ⟨hx.1, by omega⟩) (fun hh => ?_) (by omega)
          rcases k6 with e | e
          . injection e with e1 e2; omega
          . omega
         refine ⟨ap, cp, at_, ct, some ⟨K, 0, none⟩, ck, css.take (j * 4) ++ c' ++ css.drop (j * 4 + 4), by rw [List.length_set], rowq_keepc h3 hs hside (fun x hx => ho x hx.1 (by omega)), rowq_keepc h4 hs hside (fun x hx => ho x hx.1 (by omega)), h5, ?_, hq⟩
         have hc4 := q1.1
         obtain ⟨a', c'', hv, hr⟩ := row_of_own h6 hone
         injection hv with e1 e2 e3
         subst e3
         refine ⟨by rw [List.length_set]; simp [hcl, hc4]; omega, by rw [List.length_set]; exact hr.le, hr.max, KidsQ.onec hq, (fun e => by cases e), fun _ => ⟨K, 0, rfl, ho K hK (by omega), Nat.lt_of_lt_of_le (h6.lt K rfl).2 hs, fun q u hqu => ?_⟩⟩
         rw [Nat.zero_add]
         have hjl : j * 4 + 4 <= css.length := by rw [hcl]; omega
         rcases Nat.lt_or_ge q (j * 4) with hq1 | hq1
         . rw [List.append_assoc, List.getElem?_append_left (by simp; omega), List.getElem?_take_of_lt hq1] at hqu
           rw [hKin q (fun hh => ?_)]
           . exact own_at h6 _ _ hqu
           . rcases k6 with e | e
             . injection e with e1 e2; omega
             . omega
         . rcases Nat.lt_or_ge q (j * 4 + 4) with hq2 | hq2
           . rw [List.append_assoc, List.getElem?_append_right (by simp; omega), List.getElem?_append_left (by simp; omega)] at hqu
             have := q1.2 (q - j * 4) u (by simpa [Nat.min_eq_left (show j * 4 <= css.length by omega)] using hqu)
             rw [show j * 4 + (q - j * 4) = q by omega] at this
             exact this
           . rw [List.getElem?_append_right (by simp; omega), List.getElem?_drop] at hqu
             rw [hKin q (fun hh => ?_)]
             . refine own_at h6 _ _ ?_
               rw [<- hqu]
               congr 1
               simp [hc4]
               omega
             . rcases k6 with e | e
               . injection e with e1 e2; omega
               . omega
     . rw [List.getElem?_eq_none (by omega)] at hat
       cases hat
   . cases hat
end Go.Proofs.YtbommcakcmhalaaGreatDoor
/- Walks: node.Copy: the copy's parts lie apart. -/
namespace Go.Proofs.YtbommcakcmhalaaGreatDoor
open Go.RowKit Go.Redl
theorem NodeI.form {w : World} {n : NodeD} {lo hi : Nat} {cs : List Value} (h : NodeI w n lo hi cs) : ∃ l a1 n1 c1 a2 n2 c2 a3 n3 c3, cs = [.bool l, .slice a1 n1 c1, .slice a2 n2 c2, .slice a3 n3 c3] := (NodeI.q (ok := fun _ => True) (fun _ _ _ => trivial) h).form
theorem rowq_lt {w : World} {M : Nat} {r : Option Nat} {sz n cap : Nat} {a : Option Addr} {cs : List Value} (h : RowQ w (fun b => M <= b /\ r ≠ some b) sz a n cap cs) : RowQ w (fun b => M <= b /\ b < w.heap.size /\ r ≠ some b) sz a n cap cs := h.keep (Nat.le_refl _) (fun _ _ _ => rfl) (fun b hb hlt => ⟨hb.1, hlt, hb.2⟩)
theorem kidsi_set {w : World} {ks : List NodeD} {lo hi g o : Nat} {css : List Value} {u : Value} (h : KidsI w ks lo hi css) (hg : g < lo) : KidsI (w.setCell ⟨g, o, none⟩ u) ks lo hi css :=
 KidsI.keep (by simp [World.setCell]) (fun b hb _ _ => Below.heap_setCell w ⟨g, o, none⟩ u b (by show b ≠ g; omega)) h
/-- What Copy gives: the same tree, in memory of its own. -/
def CopyI (W : World) (n : NodeD) (e : Ending) (w' : World) : Prop := ∃ cs, e = .returned (.agg cs.toArray) /\ NodeI w' n W.heap.size w'.heap.size cs /\ Below W.heap.size W w'
theorem copyI_c (m : Nat) : ∀ (n : NodeD) (v : Value) (W : World), n.wt <= m -> n.wt <= 100000000 -> NodeV W W.heap.size n v -> Calls Tryz.prog 64 #[v] W (CopyI W n) := by
 induction m with
 | zero => intro n v W hm; have := wt_pos n; omega
 | succ m IH =>
   intro n v W hm hbig hv
   obtain ⟨l, ps, t, ks⟩ := n
   obtain ⟨ap, cp, at_, ct, ak, ck, css, rfl, hp, ht, hk, hkk⟩ := hv.open
   have hwt : wtAll ks <= m := by simp only [NodeD.wt] at hm; omega
   have hpl : ps.length <= 100000000 := by have := propsWt_len ps; simp only [NodeD.wt] at hbig; omega
   have htl : t.length <= 100000000 := by simp only [NodeD.wt] at hbig; omega
   have hkl : ks.length <= 100000000 := by have := wtAll_len ks; simp only [NodeD.wt] at hbig; omega
   have hkw : wtAll ks <= 100000000 := by simp only [NodeD.wt] at hbig; omega
   obtain ⟨⟨at2, ct2, htv, htr⟩, htw⟩ := ht
   injection htv with e1 e2 e3
   subst e1; subst e3
   have hA := (NodeAt.fresh W (.bool l) (.slice ap ps.length cp) (.slice at_ t.length ct) (.slice ak ks.length ck)).alloc (Obj.cells #[.bool false, .slice none 0 0, .slice none 0 0, .slice none 0 0] 35)
   have hB := node_second W (Obj.cells #[.bool l, .slice ap ps.length cp, .slice at_ t.length ct, .slice ak ks.length ck] 35) (.bool false) (.slice none 0 0) (.slice none 0 0) (.slice none 0 0)
   have hb0 : Below W.heap.size W ((W.alloc (Obj.cells #[.bool l, .slice ap ps.length cp, .slice at_ t.length ct, .slice ak ks.length ck] 35)).alloc (Obj.cells #[.bool false, .slice none 0 0, .slice none 0 0, .slice none 0 0] 35)) := ((Below.refl _ _).alloc (Nat.le_refl _) _).alloc (by simp) _
   have hs0 : ((W.alloc (Obj.cells #[.bool l, .slice ap ps.length cp, .slice at_ t.length ct, .slice ak ks.length ck] 35)).alloc (Obj.cells #[.bool false, .slice none 0 0, .slice none 0 0, .slice none 0 0] 35)).heap.size = W.heap.size + 2 := by simp
   have HI := Lib.hid (fun (i : Nat) (h : i < ks.length) (v : Value) (W2 : World) (q : NodeV W2 W2.heap.size ks[i] v) => IH ks[i] v W2 (Nat.le_trans (wtAll_mem (List.getElem_mem h)) hwt) (Nat.le_trans (wtAll_mem (List.getElem_mem h)) hkw) q)
   have Hp := Lib.hid (hp.keep hb0 (Nat.le_refl _)); have Ht := Lib.hid (htr.keep hb0 (Nat.le_refl _)); have Hk := Lib.hid (hk.keep hb0 (Nat.le_refl _)); have Hkk := Lib.hid (KidsC.keep hb0 (Nat.le_refl _) _ _ hkk)
   have Htone := Lib.hid (show ∀ u ∈ t.map (Value.int .i32), u.oneCell' = true by intro u hu; obtain ⟨z, -, rfl⟩ := List.mem_map.1 hu; rfl); have Hkkone := Lib.hid hkk.one
   have HkkW := Lib.hid hkk
   have Htw := Lib.hid htw; have Hb0 := Lib.hid hb0; have HA := Lib.hid hA; have HB := Lib.hid hB; have Hs0 := Lib.hid hs0
   clear IH hm hbig hv hp htr hk hkk htw hb0 hA hB hwt hkw hs0
   go_enter Tryz.func64, Tryz.ntmps64
   go_upto_region 1 with fail
   obtain ⟨w0, hw0⟩ : ∃ w0, w0 = (W.alloc (Obj.cells #[.bool l, .slice ap ps.length cp, .slice at_ t.length ct, .slice ak ks.length ck] 35)).alloc (Obj.cells #[.bool false, .slice none 0 0, .slice none 0 0, .slice none 0 0] 35) := ⟨_, rfl⟩
   rw [<- hw0] at Hp Ht Hk Hkk Hb0 HA HB Hs0 ⊢
   clear hw0
   obtain ⟨x0, x1, x2, x3, ⟨f0, f1, f2, f3⟩, hA4⟩ := HA.out.facts
   go_cut [] (fun wx => ∃ pa pc ta tc ka kc, NodeAt wx W.heap.size (.bool l) (.slice pa ps.length pc) (.slice ta t.length tc) (.slice ka ks.length kc) /\ NodeAt wx (W.heap.size + 1) (.bool false) (.slice none 0 0) (.slice none 0 0) (.slice none 0 0) /\
    RowQ wx (fun b => W.heap.size + 2 <= b /\ (Value.slice ka ks.length kc).ownBlock ≠ some b) 2 pa ps.length pc (propCells ps) /\ RowQ wx (fun b => W.heap.size + 2 <= b /\ (Value.slice ka ks.length kc).ownBlock ≠ some b) 1 ta t.length tc (t.map (Value.int .i32)) /\
    wx.ownsRow (W.heap.size + 2) 35 4 (.slice ka ks.length kc) ks.length css /\ Below W.heap.size W wx)
   case first =>
    go_region_law (first
     | (refine step_call rfl 116 _ _ rfl clp_ent [Value.slice ap ps.length cp] ?_ _ (clone_prop W.heap.size ps.length ap cp _ _ (Hp.out.keep ?_ (Nat.le_refl _)) ?_ hpl) ?_
        . go_simp
        . exact (Below.refl _ _).drew
        . show W.heap.size <= w0.heap.size; rw [Hs0.out]; omega
        rintro e w1 ⟨v1, rfl, hown, hbel⟩
        obtain ⟨pa, pc, rfl, -⟩ := row_of_own hown (propCells_one _)
        refine ⟨_, rfl, ?_⟩
        have Hbel1 := Lib.hid (((Below.refl w0.heap.size w0).drew).trans hbel); have Hown1 := Lib.hid hown
        have hA1 := HA.out.keep (Hbel1.out.mono (by rw [Hs0.out]; omega))
        obtain ⟨y0, y1, y2, y3, ⟨k0, k1, k2, k3⟩, hA5⟩ := hA1.facts
        clear hbel hown hA1)
     | (refine step_call rfl 117 _ _ rfl clr_ent [Value.slice at_ t.length ct] ?_ _ (clone_runes W.heap.size t.length at_ ct _ _ (Ht.out.keep (Hbel1.out.mono ?_) (Nat.le_refl _)) ?_ htl) ?_
        . go_simp
        . rw [Hs0.out]; omega
        . have := Hbel1.out.size; rw [Hs0.out] at this; omega
        rintro e w2 ⟨v2, rfl, hown, hbel⟩
        obtain ⟨ta, tc, rfl, -⟩ := row_of_own hown Htone.out
        refine ⟨_, rfl, ?_⟩
        have Hbel2 := Lib.hid (Hbel1.out.trans (hbel.mono Hbel1.out.size)); have Hown2 := Lib.hid hown; have Hbel12 := Lib.hid hbel
        have hA1 := HA.out.keep (Hbel2.out.mono (by rw [Hs0.out]; omega))
        obtain ⟨z0, z1, z2, z3, ⟨g0, g1, g2, g3⟩, hA6⟩ := hA1.facts
        clear hbel hown hA1)
     | (refine step_call rfl 118 _ _ rfl cln_ent [Value.slice ak ks.length ck] ?_ _ (clone_node W.heap.size ks.length ak ck _ _ (Hk.out.keep (Hbel2.out.mono ?_) (Nat.le_refl _)) ?_ hkl) ?_
        . go_simp
        . rw [Hs0.out]; omega
        . have := Hbel2.out.size; rw [Hs0.out] at this; omega
        rintro e w3 ⟨v3, rfl, hown, hbel⟩
        obtain ⟨ka, kc, rfl, -⟩ := row_of_own hown Hkkone.out
        refine ⟨_, rfl, ?_⟩
        have Hbel3 := Lib.hid (Hbel2.out.trans (hbel.mono Hbel2.out.size)); have Hown3 := Lib.hid hown; have Hbel23 := Lib.hid hbel
        have hA1 := HA.out.keep (Hbel3.out.mono (by rw [Hs0.out]; omega))
        obtain ⟨t0, t1, t2, t3, ⟨r0, r1, r2, r3⟩, hA7⟩ := hA1.facts
        have HA3 := Lib.hid hA1
        clear hbel hown hA1))
    all_goals
     go_wp2_with fail
     go_meet
     case rel =>
      have hM3 : W.heap.size + 2 <= w0.heap.size := by rw [Hs0.out]; omega
      have hrp := row_apart (M := W.heap.size + 2) Hown1.out (propCells_one _) (Hbel12.out.trans (Hbel23.out.mono Hbel12.out.size)) Hown3.out Hbel12.out.size hM3
      have hrt := row_apart (M := W.heap.size + 2) Hown2.out Htone.out Hbel23.out Hown3.out (Nat.le_refl _) (Nat.le_trans hM3 Hbel1.out.size)
      have hkM : W.heap.size + 2 <= w2.heap.size := Nat.le_trans hM3 Hbel2.out.size
      have hn1 : ¬ (W.heap.size + 2 <= W.heap.size /\ (Value.slice ka ks.length kc).ownBlock ≠ some W.heap.size) := fun h => by omega
      refine ⟨pa, pc, ta, tc, ka, kc, ?_, ?_, ?_, ?_, ?_, ?_⟩
      . exact ((HA3.out.s1 _).s2 _).s3 _
      . exact (((HB.out.keep (Hbel3.out.mono (by rw [Hs0.out]; omega))).set (by omega)).set (by omega)).set (by omega)
      . exact rowq_set (rowq_set (rowq_set hrp hn1) hn1) hn1
      . exact rowq_set (rowq_set (rowq_set hrt hn1) hn1) hn1
      . exact own_mono (ownsRow_setCell_below (a := ⟨W.heap.size, 3, none⟩) (ownsRow_setCell_below (a := ⟨W.heap.size, 2, none⟩) (ownsRow_setCell_below (a := ⟨W.heap.size, 1, none⟩) Hown3.out (show W.heap.size < w2.heap.size by omega) _) (show W.heap.size < w2.heap.size by omega) _) (show W.heap.size < w2.heap.size by omega) _) hkM
      . exact ((((Hb0.out.trans (Hbel3.out.mono (by rw [Hs0.out]; omega))).setCell (p := ⟨W.heap.size, 1, none⟩) (Nat.le_refl _) _).setCell (p := ⟨W.heap.size, 2, none⟩) (Nat.le_refl _) _).setCell (p := ⟨W.heap.size, 3, none⟩) (Nat.le_refl _) _)
   case rest =>
    obtain ⟨pa, pc, ta, tc, ka, kc, hA, hB, hrp, hrt, hown, hbel⟩ := hcut
    obtain ⟨y0, y1, y2, y3, -, hA5⟩ := hA.facts
    have HgM := Lib.hid (show ∀ g, (Value.slice ka ks.length kc).ownBlock = some g -> g < wc.heap.size from fun g hg => (hown.lt g hg).2)
    have HwM := Lib.hid (show W.heap.size + 2 <= wc.heap.size from hB.facts.2.2.2.2.2)
    have Hi := Lib.hid (show _ /\ _ /\ _ /\ _ /\ _ /\ _ from ⟨hA, hB, hrp, hrt, hown, hbel⟩)
    clear hA hB hrp hrt hown hbel x0 x1 x2 x3 f0 f1 f2 f3 hA4 HA HB Hp Ht Hk
    go_wp2_with fail
    clear y0 y1 y2 y3 hA5
    go_loopg [20] ks.length (fun g i wr => ∃ (j : Nat) (csN : List Value), i = .int .i64 j /\ j + g = ks.length /\ NodeAt wr W.heap.size (.bool l) (.slice pa ps.length pc) (.slice ta t.length tc) (.slice ka ks.length kc) /\ NodeAt wr (W.heap.size + 1) (.bool false) (.slice none 0 0) (.slice none 0 0) (.slice none 0 0) /\
     RowQ wr (fun b => W.heap.size + 2 <= b /\ b < wc.heap.size /\ (Value.slice ka ks.length kc).ownBlock ≠ some b) 2 pa ps.length pc (propCells ps) /\ RowQ wr (fun b => W.heap.size + 2 <= b /\ b < wc.heap.size /\ (Value.slice ka ks.length kc).ownBlock ≠ some b) 1 ta t.length tc (t.map (Value.int .i32)) /\
     wr.ownsRow (W.heap.size + 2) 35 4 (.slice ka ks.length kc) ks.length (csN ++ css.drop (j * 4)) /\ KidsI wr (ks.take j) wc.heap.size wr.heap.size csN /\ Below W.heap.size W wr)
    case atStart =>
     obtain ⟨hA, hB, hrp, hrt, hown, hbel⟩ := Hi.out
     exact ⟨0, [], rfl, by omega, hA, hB, rowq_lt hrp, rowq_lt hrt, by simpa using hown, by rw [List.take_zero]; unfold KidsI; exact ⟨rfl, Nat.le_refl _⟩, hbel⟩
    case round =>
     obtain ⟨j, csN, rfl, hg, hA, hB, hrp, hrt, hown, hkids, hbel⟩ := hrel
     obtain ⟨y0, y1, y2, y3, ⟨p0, p1, p2, p3⟩, hA5⟩ := hA.facts
     obtain ⟨z0, z1, z2, z3, ⟨q0, q1, q2, q3⟩, hB5⟩ := hB.facts
     have hcl := KidsQ.len' (KidsI.q (ok := fun _ => True) (fun _ _ _ => trivial) hkids)
     have hMr := hkids.le
     have hclen := Hkk.out.len
     have HA2 := Lib.hid hA; have HB2 := Lib.hid hB; have Hrp := Lib.hid hrp; have Hrt := Lib.hid hrt; have Hown := Lib.hid hown; have Hkids := Lib.hid hkids; have Hbel := Lib.hid hbel
     clear hA hB hrp hrt hkids
     by_cases hlt : j < ks.length
     . obtain ⟨c, hc, hall⟩ := HkkW.out.at_ j hlt
       have hc' := NodeC.keep hbel (Nat.le_refl _) _ _ hc
       obtain ⟨l1, a1, n1, c1, a2, n2, c2, a3, n3, c3, rfl⟩ := hc'.form
       have hcj : csN.length = j * 4 := by rw [hcl, List.length_take, Nat.min_eq_left (by omega)]
       have hjl : j * 4 + 4 <= css.length := by rw [hclen]; omega
       obtain ⟨g, rfl, hgM⟩ := own_some Hown.out (by
        intro e
        have := congrArg List.length e
        simp only [List.length_append, List.length_drop, List.length_nil] at this
        omega)
       have hgl : g < wr.heap.size := (Hown.out.lt g rfl).2
       have hat : ∀ i, i < 4 -> (csN ++ css.drop (j * 4))[j * 4 + i]? = [Value.bool l1, .slice a1 n1 c1, .slice a2 n2 c2, .slice a3 n3 c3][i]? := by
        intro i hi
        rw [List.getElem?_append_right (by omega), List.getElem?_drop, hcj, show j * 4 + (j * 4 + i - j * 4) = j * 4 + i by omega]
        exact hall i hi
       have k0 := own_at Hown.out _ _ (hat 0 (by omega))
       have k1 := own_at Hown.out _ _ (hat 1 (by omega))
       have k2 := own_at Hown.out _ _ (hat 2 (by omega))
       have k3 := own_at Hown.out _ _ (hat 3 (by omega))
       have hdrop : ∃ x0 x1 x2 x3, css.drop (j * 4) = x0 :: x1 :: x2 :: x3 :: css.drop ((j + 1) * 4) := by
        refine ⟨css[j * 4], css[j * 4 + 1], css[j * 4 + 2], css[j * 4 + 3], ?_⟩
        rw [List.drop_eq_getElem_cons (by omega), List.drop_eq_getElem_cons (by omega), List.drop_eq_getElem_cons (by omega), List.drop_eq_getElem_cons (by omega)]
        rw [show (j + 1) * 4 = j * 4 + 1 + 1 + 1 + 1 by omega]
       have hlti : (j : Int) < ks.length := by omega
       have HC := Lib.hid (fun (W' : World) (hbw : Below wr.heap.size wr W') => HI.out j hlt (.agg #[.bool l1, .slice a1 n1 c1, .slice a2 n2 c2, .slice a3 n3 c3]) W' ⟨_, rfl, NodeC.keep (hbw.mono hbel.size) (Nat.le_trans hbel.size hbw.size) _ _ hc'⟩)
       have Hdrop := Lib.hid hdrop; have Hcj := Lib.hid hcj
       have hW := hbel.size
       have hgne : g ≠ W.heap.size := by omega
       clear hc hc' hall hat hdrop hcj hown hbel Hi hcl hclen hjl
       simp only [Nat.add_zero] at k0
       go_wp2_with fail
       go_region_law (first
        | (refine step_call rfl 64 _ _ rfl copy_ent [Value.agg #[.bool l1, .slice a1 n1 c1, .slice a2 n2 c2, .slice a3 n3 c3]] ?_ _ (HC.out _ ?_) ?_
           . go_simp
           . exact ((Below.refl _ _).alloc (Nat.le_refl _) _).drew
           rintro e w6 ⟨cs', rfl, hnode, hbel6⟩
           obtain ⟨m1, b1, o1, d1, b2, o2, d2, b3, o3, d3, rfl⟩ := hnode.form
           refine ⟨_, rfl, ?_⟩
           have Hb6 := Lib.hid ((((Below.refl wr.heap.size wr).alloc (Nat.le_refl _) (Obj.cells #[.bool l1, .slice a1 n1 c1, .slice a2 n2 c2, .slice a3 n3 c3] 35)).drew).trans (hbel6.mono (by show wr.heap.size <= (wr.alloc _).heap.size; simp)))
           have hA6 := HA2.out.keep (Hb6.out.mono (by omega))
           have hown6 := own_keep Hown.out Hb6.out
           have r0 := hown6.frozenAt (j * 4); have r1 := hown6.frozenAt (j * 4 + 1); have r2 := hown6.frozenAt (j * 4 + 2); have r3 := hown6.frozenAt (j * 4 + 3)
           have hg6 := (hown6.lt g rfl).2
           have k0' := (Hb6.out.cell (p := ⟨g, j * 4, none⟩) hgl).trans k0; have k1' := (Hb6.out.cell (p := ⟨g, j * 4 + 1, none⟩) hgl).trans k1; have k2' := (Hb6.out.cell (p := ⟨g, j * 4 + 2, none⟩) hgl).trans k2; have k3' := (Hb6.out.cell (p := ⟨g, j * 4 + 3, none⟩) hgl).trans k3
           obtain ⟨s0, s1, s2, s3, -, hA7⟩ := hA6.facts
           have HA6 := Lib.hid hA6; have Hown6 := Lib.hid hown6; have Hnode := Lib.hid hnode
           clear hA6 hown6 hnode hbel6))
       all_goals
        go_wp2_with fail
        go_roundg (gk - 1)
        case measure => omega
        case rel =>
         have hz : (Value.slice (some ⟨g, 0, none⟩) ks.length kc).ownBlock = some g := by simp [Value.ownBlock]
         obtain ⟨x0, x1, x2, x3, hdr⟩ := Hdrop.out
         have hs := (((Hown6.out.stored (j * 4) (.bool m1)).1.stored (j * 4 + 1) (.slice b1 o1 d1)).1.stored (j * 4 + 2) (.slice b2 o2 d2)).1.stored (j * 4 + 3) (.slice b3 o3 d3) |>.1
         rw [set_four Hcj.out hdr] at hs
         have hng : ¬ (W.heap.size + 2 <= g /\ g < wc.heap.size /\ (Value.slice (some ⟨g, 0, none⟩) ks.length kc).ownBlock ≠ some g) := fun h => h.2.2 hz
         have hgM2 := HgM.out g hz
         have hk6 := KidsI.keep (w' := w6) Hb6.out.size (fun b _ _ hlt => Hb6.out.block b hlt) Hkids.out
         have hrp6 := Hrp.out.keep (w' := w6) (ok' := fun b => W.heap.size + 2 <= b /\ b < wc.heap.size /\ (Value.slice (some ⟨g, 0, none⟩) ks.length kc).ownBlock ≠ some b) Hb6.out.size (fun b _ hlt => Hb6.out.block b hlt) (fun b hb _ => hb)
         have hrt6 := Hrt.out.keep (w' := w6) (ok' := fun b => W.heap.size + 2 <= b /\ b < wc.heap.size /\ (Value.slice (some ⟨g, 0, none⟩) ks.length kc).ownBlock ≠ some b) Hb6.out.size (fun b _ hlt => Hb6.out.block b hlt) (fun b hb _ => hb)
         have hB6 := HB2.out.keep (Hb6.out.mono (by omega))
         have hsz := Hb6.out.size
         have hkk := kidsi_set (o := j * 4 + 3) (u := .slice b3 o3 d3) (kidsi_set (o := j * 4 + 2) (u := .slice b2 o2 d2) (kidsi_set (o := j * 4 + 1) (u := .slice b1 o1 d1) (kidsi_set (o := j * 4) (u := .bool m1) ((hk6.up (by simp)).snoc Hnode.out) hgM2) hgM2) hgM2) hgM2
         rw [<- List.take_succ_eq_append_getElem hlt] at hkk
         refine ⟨j + 1, csN ++ [.bool m1, .slice b1 o1 d1, .slice b2 o2 d2, .slice b3 o3 d3], rfl, by omega, ?_, ?_, ?_, ?_, hs, hkk.up (by simp [World.setCell]), ?_⟩
         . exact (((HA6.out.set hgne.symm).set hgne.symm).set hgne.symm).set hgne.symm
         . exact (((hB6.set (by omega)).set (by omega)).set (by omega)).set (by omega)
         . exact rowq_set (rowq_set (rowq_set (rowq_set hrp6 hng) hng) hng) hng
         . exact rowq_set (rowq_set (rowq_set (rowq_set hrt6 hng) hng) hng) hng
         . exact ((((below_then Hbel.out Hb6.out (Nat.le_refl _)).setCell (p := ⟨g, j * 4, none⟩) (by show W.heap.size <= g; omega) _).setCell (p := ⟨g, j * 4 + 1, none⟩) (by show W.heap.size <= g; omega) _).setCell (p := ⟨g, j * 4 + 2, none⟩) (by show W.heap.size <= g; omega) _).setCell (p := ⟨g, j * 4 + 3, none⟩) (by show W.heap.size <= g; omega) _
     . have hnl : decide ((j : Int) < ks.length) = false := by simp; omega
       clear hown hbel Hi
       go_wp2_with fail
       refine bodyPost_ret (v := .agg #[.bool l, .slice pa ps.length pc, .slice ta t.length tc, .slice ka ks.length kc]) (by simp [results, Tryz.results64, go_sem, z0, z1, z2, z3]) rfl ?_
       have hj : j = ks.length := by omega
       have hown2 := Hown.out
       have hkids2 := Hkids.out
       rw [hj, List.take_length] at hkids2
       rw [hj, List.drop_eq_nil_of_le (by omega), List.append_nil] at hown2
       have hn1 : ¬ (W.heap.size + 2 <= W.heap.size + 1 /\ W.heap.size + 1 < wc.heap.size /\ (Value.slice ka ks.length kc).ownBlock ≠ some (W.heap.size + 1)) := fun h => by omega
       have hMw := HwM.out
       have hbo : ∀ {w : World} {e sz n o : Nat} {v u : Value} {cs : List Value}, w.ownsRow (W.heap.size + 2) e sz v n cs -> (w.setCell ⟨W.heap.size + 1, o, none⟩ u).ownsRow (W.heap.size + 2) e sz v n cs := fun h => ownsRow_setCell_below (a := ⟨W.heap.size + 1, _, none⟩) h (by show W.heap.size + 1 < _; omega) _
       refine ⟨[.bool l, .slice pa ps.length pc, .slice ta t.length tc, .slice ka ks.length kc], rfl, ?_, ?_⟩
       . unfold NodeI
         refine ⟨wc.heap.size, pa, pc, ta, tc, ka, kc, csN, by omega, rfl, ?_, ?_, Htw.out, ?_, HgM.out, ?_⟩
         . exact (rowq_all Hrp.out hn1 _ _ _ _).keep (Nat.le_refl _) (fun _ _ _ => rfl) (fun b hb _ => ⟨by omega, hb.2⟩)
         . exact (rowq_all Hrt.out hn1 _ _ _ _).keep (Nat.le_refl _) (fun _ _ _ => rfl) (fun b hb _ => ⟨by omega, hb.2⟩)
         . exact own_mono (hbo (hbo (hbo (hbo hown2)))) (by omega)
         . exact (kidsi_set (kidsi_set (kidsi_set (kidsi_set hkids2 (by omega)) (by omega)) (by omega)) (by omega)).up (by simp [World.setCell])
       . with_reducible exact below_all Hbel.out (Nat.le_succ _) _ _ _ _
end Go.Proofs.YtbommcakcmhalaaGreatDoor
/- Walks: tree's at, telling where the node lies. -/
namespace Go.Proofs.YtbommcakcmhalaaGreatDoor
open Go.RowKit Go.Redl
theorem addrW_step {w : World} {i : Int} {p : List Int} {b off kb ko n c : Nat} (h : w.cell? ⟨b, off + 3, none⟩ = some (.slice (some ⟨kb, ko, none⟩) n c)) : addrW w (i :: p) b off = addrW w p kb (ko + i.toNat * 4) := by
 show (match w.cell? ⟨b, off + 3, none⟩ with | some (.slice (some a) _ _) => addrW w p a.block (a.off + i.toNat * 4) | _ => (b, off)) = _
 rw [h]
theorem at2_c (n m : NodeD) (p : List Int) (a : Option Addr) (cap : Nat) (b off B : Nat) (w : World) (hn : NodeP w B b off n) (hr : RowA w B 1 a p.length cap (p.map (Value.int .i64))) (hat : atN n p = some m) :
 Calls Tryz.prog 63 #[.pointer (some ⟨b, off, none⟩), .slice a p.length cap] w (fun e w' => e = .returned (.tuple #[.pointer (some ⟨(addrW w p b off).1, (addrW w p b off).2, none⟩), .int .i64 0]) /\ w = w') := by
 have hm : p.length <= 9223372036854775807 := by have h1 := hr.le; have h2 := hr.max; unfold maxLen at h2; omega
 obtain ⟨R, hR⟩ : ∃ R, R = addrW w p b off := ⟨_, rfl⟩
 rw [<- hR]
 have HR := Lib.hid hR; have Hn := Lib.hid hn; have Hat0 := Lib.hid hat
 clear hR hn hat
 go_enter Tryz.func63, Tryz.ntmps63
 go_wp2_with fail
 go_loopg [0, 10] p.length (fun g q i wr => ∃ (k b' off' : Nat) (n' : NodeD), q = .pointer (some ⟨b', off', none⟩) /\ i = .int .i64 k /\ k + g = p.length /\ Hid (atN n' (p.drop k) = some m) /\ Hid (addrW w (p.drop k) b' off' = R) /\ NodeP w B b' off' n' /\ wr = w)
 case atStart => exact ⟨0, b, off, n, rfl, rfl, by omega, Hat0, (show _ = R from HR.out.symm), Hn.out, rfl⟩
 case round =>
  obtain ⟨k, b', off', n', rfl, rfl, hg, Hat, Had, hn', rfl⟩ := hrel
  have Hn' := Lib.hid hn'
  obtain ⟨l, a1, n1, c1, a2, n2, c2, a3, n3, c3, hnc, x0, x1, x2, x3⟩ := hn'
  clear Hn HR Hat0
  by_cases hlt : k < p.length
  . have hd : p.drop k = p[k] :: p.drop (k + 1) := List.drop_eq_getElem_cons hlt
    have Hd := Lib.hid hd
    obtain ⟨pb, po, rfl, hpb, hcell0⟩ := hr.int_at k hlt
    have hcell := hcell0 k hlt
    rw [getD_of_lt hlt] at hcell
    clear hcell0
    generalize p[k] = i at hcell Hd
    have hlti : (k : Int) < p.length := by omega
    clear hd
    obtain ⟨l', ps', t', ks'⟩ := n'
    have hnc2 := hnc
    unfold NodeC at hnc2
    obtain ⟨ap, cp, at_, ct, ak, ck, css, hcs, -, -, -, hk, hkk⟩ := hnc2
    injection hcs with e0 e1; injection e1 with e1 e2; injection e2 with e2 e3; injection e3 with e3 e4
    injection e3 with f1 f2 f3
    subst f1; subst f2; subst f3
    clear e0 e1 e2 e4 hnc
    have hat2 := Hat.out
    rw [Hd.out] at hat2
    simp only [atN, kidsOf] at hat2
    split at hat2
    . rename_i h0
      obtain ⟨j, rfl⟩ : ∃ j : Nat, i = j := ⟨i.toNat, by omega⟩
      rw [Int.toNat_natCast] at hat2
      by_cases hj : j < ks'.length
      . rw [List.getElem?_eq_getElem hj] at hat2
        simp only at hat2
        obtain ⟨kb, ko, l1, b1, o1, d1, b2, o2, d2, b3, o3, d3, rfl, hkb, hkn, g0, g1, g2, g3⟩ := hk.kid_at hkk j hj
        have Hkn := Lib.hid (show NodeP wr B kb (ko + j * 4) ks'[j] from ⟨l1, b1, o1, d1, b2, o2, d2, b3, o3, d3, hkn, g0, g1, g2, g3⟩)
        have Had2 : Hid (addrW wr (p.drop (k + 1)) kb (ko + j * 4) = R) := by
         show _ = R
         rw [<- Had.out, Hd.out, addrW_step x3, Int.toNat_natCast]
        have Hat2 := Lib.hid hat2
        have hnl : decide ((j : Int) < 0) = false := by simp
        have hji : (j : Int) < ks'.length := by omega
        have hge : decide ((ks'.length : Int) <= j) = false := by simp; omega
        clear hkn hk hkk Hat hat2 Had
        go_wp2_with fail
        go_roundg (gk - 1)
        case measure => omega
        case rel => exact ⟨k + 1, kb, ko + j * 4, ks'[j], rfl, rfl, by omega, Hat2, Had2, Hkn.out, rfl⟩
      . rw [List.getElem?_eq_none (by omega)] at hat2
        cases hat2
    . cases hat2
  . have hnl : decide ((k : Int) < p.length) = false := by simp; omega
    have HR2 : Hid ((b', off') = R) := by
     show _ = R
     rw [<- Had.out, List.drop_eq_nil_of_le (by omega)]
     rfl
    clear Hat Had hnc
    go_wp2_with fail
    go_ret2
    rw [<- HR2.out]
    exact ⟨rfl, rfl⟩
end Go.Proofs.YtbommcakcmhalaaGreatDoor
