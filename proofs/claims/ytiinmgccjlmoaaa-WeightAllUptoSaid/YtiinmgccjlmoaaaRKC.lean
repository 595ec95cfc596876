/- Walks: slices.CompactFunc at rows of paths. -/
import Derived.Test.YtiinmgccjlmoaaaRKB
import Derived.Test.YtiinmgccjlmoaaaRCU
import Derived.Deep.RegionHeld3
namespace Go.Proofs.Ytiinmgccjlmoaaa
open Go.RowKit Go.Redl
set_option linter.unusedVariables false

/-- Whether the k-th is kept: it is the first, or not as the one ahead of it. -/
def keepU (eq : PX → PX → Bool) (xs : List PX) (k : Nat) : Bool := decide (k = 0) || !eq (xs.getD k px0) (xs.getD (k - 1) px0)
/-- What is kept of the first k. -/
def compU (eq : PX → PX → Bool) (xs : List PX) : Nat → List PX
  | 0 => []
  | k + 1 => compU eq xs k ++ (if keepU eq xs k then [xs.getD k px0] else [])
theorem compU_keep {eq : PX → PX → Bool} {xs : List PX} {k : Nat} (hk : k < xs.length) (h : k = 0 ∨ eq xs[k] (xs[k - 1]'(by omega)) = false) : compU eq xs (k + 1) = compU eq xs k ++ [xs[k]] := by
  have hK : keepU eq xs k = true := by
    unfold keepU
    rcases h with h | h
    · simp [h]
    · rw [px_get hk, px_get (show k - 1 < xs.length by omega), h]; simp
  show compU eq xs k ++ _ = _
  rw [if_pos hK, px_get hk]
theorem compU_skip {eq : PX → PX → Bool} {xs : List PX} {k : Nat} (hk : k < xs.length) (h0 : 0 < k) (h : eq xs[k] (xs[k - 1]'(by omega)) = true) : compU eq xs (k + 1) = compU eq xs k := by
  have hK : keepU eq xs k = false := by
    unfold keepU
    rw [px_get hk, px_get (show k - 1 < xs.length by omega), h]; simp; omega
  show compU eq xs k ++ _ = _
  rw [hK]; simp

set_option maxRecDepth 100000 in
set_option maxHeartbeats 4000000 in
theorem cmpx_c (g : Nat) (eq : PX → PX → Bool) (M L : Nat) (v : Value) (xs : List PX) (W : World) (hg : ∀ args w, (callFunc g args).run Try.prog w = .ok (.enter g args) w) (hx : RowX W M L v xs) (hn : xs.length ≤ 100000000)
    (hp : ∀ x ∈ xs, ∀ y ∈ xs, ∀ W', W.grownBy W' v.ownBlock → Calls Try.prog g #[pxV x, pxV y] W' fun e w' => e = .returned (.bool (eq x y)) ∧ Below W'.heap.size W' w') :
    Calls Try.prog 77 #[v, .func (.func g) #[] #[]] W (DelP W M L v (compU eq xs xs.length)) := by
  by_cases h2 : xs.length < 2
  · have hc : compU eq xs xs.length = xs := by
      match xs, h2 with
      | [], _ => rfl
      | [x], _ => rfl
    rw [hc]
    obtain ⟨a, c, rfl⟩ := hx.form
    have h2i : (xs.length : Int) < 2 := by omega
    have Hx := Lib.hid hx
    clear hx hp hg hc
    go_enter Try.func77, Try.ntmps77
    go_wp2_with fail
    go_ret
    exact ⟨_, rfl, Hx.out, fun k hk => hk, World.grownBy.refl _ _⟩
  · rcases hx.open with ⟨rfl, rfl⟩ | ⟨b, cap, tl, rfl, hMb, hA, hcl, hcm⟩
    · exact absurd (by simp) h2
    have hq0 : ∀ x ∈ xs, PxQ W (fun k => L ≤ k ∧ k ≠ b) x := fun x hx' => rowq_imp (hx.all x hx') fun k hk => ⟨hk.1, fun e => hk.2 (by rw [e]; rfl)⟩
    have hown : (Value.slice (some ⟨b, 0, none⟩) xs.length cap).ownBlock = some b := rfl
    rw [hown] at hp
    have HA := Lib.hid hA; have Hq0 := Lib.hid hq0; have HP := Lib.hid hp; have Hx := Lib.hid hx
    have h2i : ¬ (xs.length : Int) < 2 := by omega
    have hnd : decide ((xs.length : Int) < 2) = false := decide_eq_false h2i
    have Hone := Lib.hid (show compU eq xs 1 = xs.take 1 by
      have h := compU_keep (eq := eq) (xs := xs) (k := 0) (by omega) (.inl rfl)
      rw [h]; cases xs with
      | nil => simp at h2
      | cons x xs => rfl)
    clear hp hx hA hq0 hown
    go_enter Try.func77, Try.ntmps77
    go_wp2_with fail
    go_loopg [5, 6, 7] xs.length (fun gg s5 _ _ wr => ∃ k : Nat, s5 = .int .i64 k ∧ 1 ≤ k ∧ k ≤ xs.length ∧ xs.length - k ≤ gg ∧ Hid (compU eq xs k = xs.take k) ∧ Hid (Below W.heap.size W wr))
    case atStart => exact ⟨1, rfl, by omega, by omega, by omega, Hone, Below.refl _ _⟩
    case round =>
      obtain ⟨k, rfl, h1, hkn, hgg, hcu, hbr⟩ := hrel
      by_cases hlt : k < xs.length
      · have hlti : (k : Int) < (xs.length : Int) := by omega
        have hsub : IntKind.i64.wrap ((k : Int) - 1) = ((k - 1 : Nat) : Int) := by rw [show ((k : Int) - 1) = ((k - 1 : Nat) : Int) by omega]; exact IntWalk.i64_in _ (by omega)
        have hi1 : ((k - 1 : Nat) : Int) < xs.length := by omega
        have hk1 : k - 1 < xs.length := by omega
        have hAr := HA.out.kept hbr.out
        have cj := px_cell hAr k (by omega)
        have ci := px_cell hAr (k - 1) (by omega)
        have Hbw := Lib.hid (At.lt hAr)
        have HC := Lib.hid (fun (w' : World) (hb : Below wr.heap.size wr w') => HP.out xs[k] (List.getElem_mem hlt) xs[k - 1] (List.getElem_mem hk1) w' ((grown_of_below hbr.out).then hb))
        have Hst := Lib.hid (show xs.take (k + 1) = xs.take k ++ [xs[k]] from List.take_succ_eq_append_getElem hlt)
        have Hkeep := Lib.hid (compU_keep (eq := eq) hlt)
        have Hskip := Lib.hid (compU_skip (eq := eq) hlt h1)
        generalize xs[k - 1] = y at ci HC Hkeep Hskip
        generalize xs[k] = x at cj HC Hkeep Hskip Hst
        obtain ⟨x0, xa, xc⟩ := x
        obtain ⟨y0, ya, yc⟩ := y
        unfold pxV at ci cj HC
        have HS0 := Lib.hid (fun (w' : World) (hb : Below wr.heap.size wr w') => And.intro ((hb.cell (by exact Hbw.out)).trans cj) ((hb.cell (by exact Hbw.out)).trans ci))
        clear hAr ci cj
        go_upto_region 6 with fail
        go_region_held3 (fun w' => w'.cell? ⟨b, k, none⟩ = some (.slice xa x0.length xc) ∧ w'.cell? ⟨b, k - 1, none⟩ = some (.slice ya y0.length yc)) (refine HS0.out _ (by ((repeat (first | with_reducible exact Hb1.out | with_reducible exact Below.refl _ _ | with_reducible refine Below.drew ?_ | with_reducible refine Below.alloc ?_ ?_ _ | with_reducible refine Below.setCell ?_ ?_ _)) <;> (first | with_reducible exact Nat.le_refl _ | with_reducible exact Hb1.out.size | (have hsz := Hb1.out.size; simp [World.setCell]; omega) | (simp; done) | (simp; omega) | omega))))
          (first
          | (refine step_callv rfl g _ #[] _ _ rfl ?_ hg [.slice xa x0.length xc, .slice ya y0.length yc] ?_ _ (HC.out _ (by ((repeat (first | with_reducible exact Below.refl _ _ | with_reducible refine Below.drew ?_ | with_reducible refine Below.alloc ?_ ?_ _ | with_reducible refine Below.setCell ?_ ?_ _)) <;> (first | with_reducible exact Nat.le_refl _ | (simp; done) | (simp; omega) | omega)))) ?_
             · go_simp
             · go_simp
             rintro e w1 ⟨rfl, hbel⟩
             refine ⟨_, rfl, ?_⟩
             have Hb1 := Lib.hid (below_and (w0 := wr) (by ((repeat (first | with_reducible exact Below.refl _ _ | with_reducible refine Below.drew ?_ | with_reducible refine Below.alloc ?_ ?_ _ | with_reducible refine Below.setCell ?_ ?_ _)) <;> (first | with_reducible exact Nat.le_refl _ | (simp; done) | (simp; omega) | omega))) hbel)
             clear hbel))
        all_goals
          cases hq : eq (x0, xa, xc) (y0, ya, yc) with
          | false =>
            have HQ := Lib.hid (Hkeep.out (.inr hq))
            clear hq HC
            go_wp2_with fail
            go_roundg (xs.length - (k + 1))
            case measure => omega
            case rel => exact ⟨k + 1, by go_num, by omega, by omega, Nat.le_refl _, (show compU eq xs (k + 1) = xs.take (k + 1) by rw [HQ.out, hcu.out, Hst.out]), (show Below _ _ _ from hbr.out.trans (Hb1.out.mono hbr.out.size))⟩
          | true =>
            have HQ := Lib.hid (Hskip.out hq)
            have hb2 := hbr.out.trans (Hb1.out.mono hbr.out.size)
            have HA2 := Lib.hid (HA.out.kept hb2)
            have HG2 := Lib.hid (grown_of_below (r := some b) hb2)
            clear hq HC hb2 Hkeep Hskip
            have hki : (k : Int) ≤ xs.length := by omega
            go_wp2_with fail
            go_loopg [5, 7] xs.length (fun gg s5 s7 w2 => ∃ (i j : Nat) (zs : List PX), s5 = .int .i64 i ∧ s7 = .int .i64 j ∧ zs.length = xs.length ∧ i < k + j ∧ 1 ≤ j ∧ k + j ≤ xs.length ∧ xs.length - (k + j) ≤ gg ∧ Hid (zs.take i = compU eq xs (k + j)) ∧ Hid (zs.drop (k + j - 1) = xs.drop (k + j - 1)) ∧ Hid (∀ z ∈ zs, z ∈ xs) ∧ Hid (At w2 b (zs.map pxV ++ tl) 36) ∧ Hid (W.grownBy w2 (some b)))
            case atStart => exact ⟨k, 1, xs, rfl, rfl, rfl, by omega, by omega, by omega, by omega, (show xs.take k = compU eq xs (k + 1) by rw [HQ.out, hcu.out]), rfl, fun z hz => hz, HA2, HG2⟩
            case round =>
              obtain ⟨i, j, zs, rfl, rfl, hzl, hij, hj1, hjn, hgg2, hdone, hrest, hmem, hAt, hgr⟩ := hrel
              by_cases hlt2 : k + j < xs.length
              · have hltj : (j : Int) < ((xs.length - k : Nat) : Int) := by omega
                have hsub2 : IntKind.i64.wrap ((j : Int) - 1) = ((j - 1 : Nat) : Int) := by rw [show ((j : Int) - 1) = ((j - 1 : Nat) : Int) by omega]; exact IntWalk.i64_in _ (by omega)
                have hj2 : ((j - 1 : Nat) : Int) < ((xs.length - k : Nat) : Int) := by omega
                have hiti : (i : Int) < (xs.length : Int) := by omega
                have hp1 : k + (j - 1) < xs.length := by omega
                have hz0 : zs[k + (j - 1)] = xs[k + (j - 1)] := by
                  have h := hrest.out
                  rw [show k + j - 1 = k + (j - 1) by omega, List.drop_eq_getElem_cons (show k + (j - 1) < zs.length by omega), List.drop_eq_getElem_cons hp1] at h
                  exact (List.cons.inj h).1
                have hr2 : zs.drop (k + j) = xs.drop (k + j) := by
                  have h := congrArg (List.drop 1) hrest.out
                  rw [List.drop_drop, List.drop_drop, show k + j - 1 + 1 = k + j by omega] at h
                  exact h
                have hz1 : zs[k + j] = xs[k + j] := by
                  have h := hr2
                  rw [List.drop_eq_getElem_cons (show k + j < zs.length by omega), List.drop_eq_getElem_cons hlt2] at h
                  exact (List.cons.inj h).1
                have cj := px_cell hAt.out (k + j) (by omega)
                have ci := px_cell hAt.out (k + (j - 1)) (by omega)
                rw [hz1] at cj; rw [hz0] at ci
                have Hbw2 := Lib.hid (At.lt hAt.out)
                have Hr2 := Lib.hid hr2
                have HC := Lib.hid (fun (w' : World) (hb : Below wr.heap.size wr w') => HP.out xs[k + j] (List.getElem_mem hlt2) xs[k + (j - 1)] (List.getElem_mem hp1) w' (hgr.out.then hb))
                have hpos : 0 < k + j := by omega
                have Hkeep := Lib.hid (show eq xs[k + j] xs[k + (j - 1)] = false → compU eq xs (k + j + 1) = compU eq xs (k + j) ++ [xs[k + j]] from fun h => compU_keep hlt2 (.inr (by simpa only [show k + j - 1 = k + (j - 1) by omega] using h)))
                have Hskip := Lib.hid (show eq xs[k + j] xs[k + (j - 1)] = true → compU eq xs (k + j + 1) = compU eq xs (k + j) from fun h => compU_skip hlt2 hpos (by simpa only [show k + j - 1 = k + (j - 1) by omega] using h))
                have Hmem := Lib.hid (show xs[k + j] ∈ xs from List.getElem_mem hlt2)
                clear hz0 hz1 hr2
                generalize xs[k + (j - 1)] = y at ci HC Hkeep Hskip
                generalize xs[k + j] = x at cj HC Hkeep Hskip Hmem
                obtain ⟨x1, xb, xd⟩ := x
                obtain ⟨y1, yb, yd⟩ := y
                unfold pxV at ci cj HC
                have HS1 := Lib.hid (fun (w' : World) (hb : Below wr.heap.size wr w') => And.intro ((hb.cell (by exact Hbw2.out)).trans cj) ((hb.cell (by exact Hbw2.out)).trans ci))
                clear ci cj
                go_upto_region 11 with fail
                go_region_held3 (fun w' => w'.cell? ⟨b, k + j, none⟩ = some (.slice xb x1.length xd) ∧ w'.cell? ⟨b, k + (j - 1), none⟩ = some (.slice yb y1.length yd)) (refine HS1.out _ (by ((repeat (first | with_reducible exact Hb3.out | with_reducible exact Below.refl _ _ | with_reducible refine Below.drew ?_ | with_reducible refine Below.alloc ?_ ?_ _ | with_reducible refine Below.setCell ?_ ?_ _)) <;> (first | with_reducible exact Nat.le_refl _ | with_reducible exact Hb3.out.size | (have hsz := Hb3.out.size; simp [World.setCell]; omega) | (simp; done) | (simp; omega) | omega))))
                  (first
                  | (refine step_callv rfl g _ #[] _ _ rfl ?_ hg [.slice xb x1.length xd, .slice yb y1.length yd] ?_ _ (HC.out _ (by ((repeat (first | with_reducible exact Below.refl _ _ | with_reducible refine Below.drew ?_ | with_reducible refine Below.alloc ?_ ?_ _ | with_reducible refine Below.setCell ?_ ?_ _)) <;> (first | with_reducible exact Nat.le_refl _ | (simp; done) | (simp; omega) | omega)))) ?_
                     · go_simp
                     · go_simp
                     rintro e w3 ⟨rfl, hbel⟩
                     refine ⟨_, rfl, ?_⟩
                     have Hb3 := Lib.hid (below_and (w0 := wr) (by ((repeat (first | with_reducible exact Below.refl _ _ | with_reducible refine Below.drew ?_ | with_reducible refine Below.alloc ?_ ?_ _ | with_reducible refine Below.setCell ?_ ?_ _)) <;> (first | with_reducible exact Nat.le_refl _ | (simp; done) | (simp; omega) | omega))) hbel)
                     clear hbel))
                all_goals
                  cases hq : eq (x1, xb, xd) (y1, yb, yd) with
                  | false =>
                    have HQ3 := Lib.hid (Hkeep.out hq)
                    have HA3 := Lib.hid (hAt.out.kept Hb3.out); have HG3 := Lib.hid (hgr.out.then Hb3.out)
                    have ci := px_cell HA3.out i (by omega)
                    have cf : w3.frozen? ⟨b, i, none⟩ = false := Lib.frozen_of_heap HA3.out _
                    have cj := (Hb3.out.cell (p := ⟨b, k + j, none⟩) (by exact Hbw2.out)).trans (HS1.out wr (Below.refl _ _)).1
                    have hi2 : i < zs.length := by omega
                    generalize zs[i] = old at ci
                    clear hq HC Hkeep Hskip
                    go_wp2_with fail
                    go_roundg (xs.length - (k + (j + 1)))
                    case measure => omega
                    case rel =>
                      refine ⟨i + 1, j + 1, zs.set i (x1, xb, xd), by go_num, by go_num, by rw [List.length_set]; exact hzl, by omega, by omega, by omega, Nat.le_refl _, ?_, ?_, ?_, ?_, HG3.out.set i _⟩
                      · show (zs.set i (x1, xb, xd)).take (i + 1) = compU eq xs (k + (j + 1))
                        rw [← Nat.add_assoc, HQ3.out, ← hdone.out, List.take_set, List.take_succ_eq_append_getElem hi2, List.set_append_right _ _ (by simp; omega)]
                        simp [Nat.min_eq_left (Nat.le_of_lt hi2)]
                      · show (zs.set i (x1, xb, xd)).drop (k + (j + 1) - 1) = xs.drop (k + (j + 1) - 1)
                        rw [show k + (j + 1) - 1 = k + j by omega, List.drop_set_of_lt (by omega), Hr2.out]
                      · intro z hz
                        rcases List.mem_or_eq_of_mem_set hz with h | h
                        · exact hmem.out z h
                        · rw [h]; exact Hmem.out
                      · show At _ b ((zs.set i (x1, xb, xd)).map pxV ++ tl) 36
                        have h := HA3.out.set i (pxV (x1, xb, xd))
                        rw [List.set_append_left _ _ (by simpa using hi2), ← List.map_set] at h
                        exact h
                  | true =>
                    have HQ3 := Lib.hid (Hskip.out hq)
                    have HA3 := Lib.hid (hAt.out.kept Hb3.out); have HG3 := Lib.hid (hgr.out.then Hb3.out)
                    clear hq HC Hkeep Hskip
                    go_wp2_with fail
                    go_roundg (xs.length - (k + (j + 1)))
                    case measure => omega
                    case rel =>
                      refine ⟨i, j + 1, zs, rfl, by go_num, hzl, by omega, by omega, by omega, Nat.le_refl _, ?_, ?_, hmem, HA3, HG3⟩
                      · show zs.take i = compU eq xs (k + (j + 1))
                        rw [← Nat.add_assoc, HQ3.out, hdone.out]
                      · show zs.drop (k + (j + 1) - 1) = xs.drop (k + (j + 1) - 1)
                        rw [show k + (j + 1) - 1 = k + j by omega, Hr2.out]
              · have hje : k + j = xs.length := by omega
                have hltz : ¬ (j : Int) < ((xs.length - k : Nat) : Int) := by omega
                have hiti : (i : Int) ≤ (xs.length : Int) := by omega
                have hcl := fun ty => Lib.run_clear_slice (P := Try.prog) wr 44 36 ty (.slice none 0 0) Try.underlying44 (fun w => by kernel_rfl) rfl rfl b (0 + i) (xs.length - i) (cap - i) (by omega) (fun k hk => by
                  have := px_cell hAt.out (i + k) (by omega)
                  rw [Nat.zero_add, this]; rfl) (fun k hk => Lib.frozen_of_heap hAt.out _)
                rw [Nat.zero_add] at hcl
                have Hcut := Lib.hid (RowX.cut (i := i) (n := xs.length) hMb hAt.out (by omega) hcm (by omega) (fun x hx' => (Hq0.out x (hmem.out x hx')).grown hgr.out))
                have Hgs := Lib.hid (fun vs => World.grownBy.setCells vs i wr hgr.out)
                have Hfin := Lib.hid (show zs.take i = compU eq xs xs.length by rw [hdone.out, hje])
                have Hlen : Hid ((zs.take i).length = i) := by show _ = _; simp; omega
                obtain ⟨vs, hvs⟩ : ∃ vs, vs = List.replicate (xs.length - i) (Value.slice none 0 0) := ⟨_, rfl⟩
                rw [← hvs] at hcl
                clear hAt hgr hvs hje
                go_wp2_with fail
                go_ret
                rw [← Hfin.out]
                refine ⟨.slice (some ⟨b, 0, none⟩) (zs.take i).length cap, by rw [Hlen.out]; rfl, Hcut.out vs, fun k hk => hk, Hgs.out vs⟩
      · obtain rfl : k = xs.length := by omega
        have hltz : ¬ (xs.length : Int) < (xs.length : Int) := by omega
        have hfull := Lib.hid (show compU eq xs xs.length = xs by have := hcu.out; rwa [List.take_length] at this)
        clear hcu
        go_wp2_with fail
        go_ret
        rw [hfull.out]
        exact ⟨_, rfl, Hx.out.below hbr.out, fun k hk => hk, grown_of_below hbr.out⟩

end Go.Proofs.Ytiinmgccjlmoaaa
