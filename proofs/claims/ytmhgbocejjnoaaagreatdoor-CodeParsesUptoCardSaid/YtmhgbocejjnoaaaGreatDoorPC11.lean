/- Parts of the proof, one behind the other: RPD, RSA, RW3, RW4, RW5. -/
import Derived.Test.YtmhgbocejjnoaaaGreatDoorPC10
import Derived.Test.YtmhgbocejjnoaaaGreatDoorPC2
import Derived.Test.YtmhgbocejjnoaaaGreatDoorPC6
import Derived.Test.YtmhgbocejjnoaaaGreatDoorPC5
/- Walks: the reference's Parse. -/
namespace Go.Proofs.YtmhgbocejjnoaaaGreatDoor
open Go.RowKit Go.Redl
set_option linter.unusedVariables false

theorem reader_new (W : World) (o : Obj) (S : ByteArray) : RdrAt ((W.alloc o).alloc (.cells #[.string S, .int .i64 0, .int .i64 0, .int .i64 0] 49)) (W.heap.size + 1) S 0 0 0 := by
  have h : ((W.alloc o).alloc (.cells #[.string S, .int .i64 0, .int .i64 0, .int .i64 0] 49)).heap[(W.alloc o).heap.size]? = some (.cells #[.string S, .int .i64 0, .int .i64 0, .int .i64 0] 49 (0, 0)) := heap_alloc_new _ _
  have e : (W.alloc o).heap.size = W.heap.size + 1 := by simp
  rwa [e] at h

set_option maxRecDepth 100000 in
set_option maxHeartbeats 4000000 in
theorem rparse_c (s : List UInt8) (W : World) (hn : s.length ≤ 1000000) :
    Calls Tryz.prog 8 #[.string ⟨s.toArray⟩] W (ParseR W (parseL s)) := by
  have hsz : (⟨s.toArray⟩ : ByteArray).size = s.length := rfl
  obtain ⟨R, hR⟩ : ∃ R, R = parseL s := ⟨_, rfl⟩
  have HR : Hid (R = match rdN (2 * s.length + 1) s 0 with
      | .bad p er => .bad p er
      | .ok n e => if e < s.length then .bad e 11 else .ok n e) := hR
  rw [← hR]
  have hA := (NodeAt.fresh W (.bool false) (.slice none 0 0) (.slice none 0 0) (.slice none 0 0)).alloc (.cells #[.string ⟨s.toArray⟩, .int .i64 0, .int .i64 0, .int .i64 0] 49)
  have hr := reader_new W (.cells #[.bool false, .slice none 0 0, .slice none 0 0, .slice none 0 0] 27) ⟨s.toArray⟩
  have hb0 : Below W.heap.size W ((W.alloc (.cells #[.bool false, .slice none 0 0, .slice none 0 0, .slice none 0 0] 27)).alloc (.cells #[.string ⟨s.toArray⟩, .int .i64 0, .int .i64 0, .int .i64 0] 49)) := ((Below.refl _ _).alloc (Nat.le_refl _) _).alloc (by simp) _
  have hs0 : ((W.alloc (.cells #[.bool false, .slice none 0 0, .slice none 0 0, .slice none 0 0] 27)).alloc (.cells #[.string ⟨s.toArray⟩, .int .i64 0, .int .i64 0, .int .i64 0] 49)).heap.size = W.heap.size + 2 := by simp
  have HN := Lib.hid (rnode_c s (W.heap.size + 1) 0 hn (2 * s.length + 1) 0 _ (by omega) (by omega) hr)
  have HFy := Lib.hid (fun (W' : World) (a er pl : Int) (h : RdrAt W' (W.heap.size + 1) ⟨s.toArray⟩ a 0 0) => Lib.hid (fail_yes (W.heap.size + 1) _ a 0 er pl W' h))
  have HFn := Lib.hid (fun (W' : World) (a e0 p er pl : Int) (h : RdrAt W' (W.heap.size + 1) ⟨s.toArray⟩ a e0 p) => Lib.hid (fail_c (W.heap.size + 1) _ a e0 p er pl W' h))
  obtain ⟨S, hS⟩ : ∃ S, S = (⟨s.toArray⟩ : ByteArray) := ⟨_, rfl⟩
  rw [← hS] at HN hsz hA hr hb0 hs0 HFy HFn ⊢
  have HA := Lib.hid hA; have Hb0 := Lib.hid hb0; have Hs0 := Lib.hid hs0
  clear hS hR hA hr hb0 hs0
  cases hrd : rdN (2 * s.length + 1) s 0 with
  | bad q er =>
    have HRb : Hid (R = .bad q er) := by show R = _; rw [HR.out, hrd]
    rw [hrd] at HN
    clear hrd HR
    go_enter Tryz.func8, Tryz.ntmps8
    go_wp2_with fail
    refine HN.out.mono ?_
    rintro e w1 ⟨l, a1, n1, c1, a2, n2, c2, a3, n3, c3, rfl, her, ⟨a', ha', hr⟩, ho⟩
    have hern : (er != 0) = true := by simpa using her
    have hb2 := (Below.refl w1.heap.size w1).alloc (Nat.le_refl _) (Obj.cells #[.bool l, .slice a1 n1 c1, .slice a2 n2 c2, .slice a3 n3 c3] 27)
    have Hr2 := Lib.hid (hr.below hb2)
    have HA2 := Lib.hid ((HA.out.only ho (by omega)).alloc (Obj.cells #[.bool l, .slice a1 n1 c1, .slice a2 n2 c2, .slice a3 n3 c3] 27))
    have hw2 : W.heap.size ≤ w1.heap.size := by have := ho.size; rw [Hs0.out] at this; omega
    have hbw1 : Below W.heap.size W w1 := Hb0.out.trans (ho.to (by omega) (by rw [Hs0.out]; omega))
    have Hb2 := Lib.hid (hbw1.trans (hb2.mono hw2))
    have HF := HFn.out _ a' er q 11 a' Hr2.out
    rw [if_neg her, if_neg her] at HF
    have Her := Lib.hid her
    obtain ⟨x0, x1, x2, x3, ⟨f1, f2, f3⟩, hN3⟩ := Hr2.out.facts
    clear hr ho hb2 hbw1 HN her HA Hb0 Hs0
    go_upto_if 18 with fail
    go_cut [] (fun wx => RdrAt wx (W.heap.size + 1) S a' er q ∧ NodeAt wx W.heap.size (.bool false) (.slice none 0 0) (.slice none 0 0) (.slice none 0 0) ∧ Below W.heap.size W wx)
    case first =>
      by_cases hlt : a' < s.length
      · have hlti : decide ((a' : Int) < s.length) = true := by simp; omega
        go_wp2_with fail
        refine HF.out.mono ?_
        rintro e w3 ⟨rfl, ho, hr⟩
        have HA3 := Lib.hid (HA2.out.only ho (by omega)); have Hb3 := Lib.hid (Hb2.out.trans (ho.to (by omega) (by simp; omega))); have Hr3 := Lib.hid hr
        clear hr ho HF
        go_wp2_with fail
        go_meet
        case rel => exact ⟨Hr3.out, HA3.out, Hb3.out⟩
      · have hlti : decide ((a' : Int) < s.length) = false := by simp; omega
        go_wp2_with fail
        go_meet
        case rel => exact ⟨Hr2.out, HA2.out, Hb2.out⟩
    case rest =>
      obtain ⟨hr, hA, hb⟩ := hcut
      have Hr5 := Lib.hid hr; have HA5 := Lib.hid hA; have Hb5 := Lib.hid hb
      clear hr hA hb HF Hr2 HA2 Hb2 x0 x1 x2 x3 f1 f2 f3 hN3
      obtain ⟨x0, x1, x2, x3, ⟨f1, f2, f3⟩, hN3⟩ := Hr5.out.facts
      obtain ⟨y0, y1, y2, y3, ⟨k0, k1, k2, k3⟩, hA7⟩ := HA5.out.facts
      go_upto_region 6 with fail
      go_cut [3, 4] (fun s3 s4 wx => s3 = .int .i64 q ∧ s4 = .int .i64 er ∧ NodeAt wx W.heap.size (.bool false) (.slice none 0 0) (.slice none 0 0) (.slice none 0 0) ∧ Below W.heap.size W wx)
      case first =>
        go_region
        all_goals
          go_wp2_with fail
          go_meet
          case rel =>
            refine ⟨rfl, rfl, ?_, ?_⟩
            · with_reducible exact (HA5.out.all _ _ _ _).drew
            · with_reducible exact (below_all Hb5.out (Nat.le_refl _) _ _ _ _).drew
      case rest =>
        obtain ⟨rfl, rfl, hA, hb⟩ := hcut
        have Hb6 := Lib.hid hb
        clear x0 x1 x2 x3 y0 y1 y2 y3 k0 k1 k2 k3 f1 f2 f3 hN3 hA7 HA5 Hb5 Hr5 hb
        obtain ⟨y0, y1, y2, y3, -, hA7⟩ := hA.facts
        go_wp2_with fail
        refine bodyPost_ret (v := .tuple #[.agg #[.bool false, .slice none 0 0, .slice none 0 0, .slice none 0 0], .int .i64 q, .int .i64 er]) (by simp [results, Tryz.results8, go_sem, y0, y1, y2, y3]) rfl ?_
        rw [HRb.out]
        exact ⟨rfl, Her.out, Hb6.out⟩
  | ok n e =>
    have hpos := rdN_pos _ s 0 n e (by omega) hrd
    rw [hrd] at HN
    by_cases hlt : e < s.length
    · have HRb : Hid (R = .bad e 11) := by show R = _; rw [HR.out, hrd]; exact if_pos hlt
      have hlti : (e : Int) < s.length := by omega
      clear hrd HR
      go_enter Tryz.func8, Tryz.ntmps8
      go_wp2_with fail
      refine HN.out.mono ?_
      rintro e' w1 ⟨cs, rfl, hnode, hr, ho⟩
      obtain ⟨l, a1, n1, c1, a2, n2, c2, a3, n3, c3, rfl⟩ := hnode.form
      have hb2 := (Below.refl w1.heap.size w1).alloc (Nat.le_refl _) (Obj.cells #[.bool l, .slice a1 n1 c1, .slice a2 n2 c2, .slice a3 n3 c3] 27)
      have Hr2 := Lib.hid (hr.below hb2)
      have HA2 := Lib.hid ((HA.out.only ho (by omega)).alloc (Obj.cells #[.bool l, .slice a1 n1 c1, .slice a2 n2 c2, .slice a3 n3 c3] 27))
      have hw2 : W.heap.size ≤ w1.heap.size := by have := ho.size; rw [Hs0.out] at this; omega
      have hbw1 : Below W.heap.size W w1 := Hb0.out.trans (ho.to (by omega) (by rw [Hs0.out]; omega))
      have Hb2 := Lib.hid (hbw1.trans (hb2.mono hw2))
      have HF := HFy.out _ e 11 e Hr2.out
      obtain ⟨x0, x1, x2, x3, ⟨f1, f2, f3⟩, hN3⟩ := Hr2.out.facts
      clear hr ho hb2 hbw1 HN HA Hb0 Hs0 hnode
      go_wp2_with fail
      refine HF.out.mono ?_
      rintro e' w3 ⟨rfl, ho, hr⟩
      have HA5 := Lib.hid (HA2.out.only ho (by omega)); have Hb5 := Lib.hid (Hb2.out.trans (ho.to (by omega) (by simp; omega))); have Hr5 := Lib.hid hr
      clear hr ho HF Hr2 HA2 Hb2 x0 x1 x2 x3 f1 f2 f3 hN3
      obtain ⟨x0, x1, x2, x3, ⟨f1, f2, f3⟩, hN3⟩ := Hr5.out.facts
      obtain ⟨y0, y1, y2, y3, ⟨k0, k1, k2, k3⟩, hA7⟩ := HA5.out.facts
      go_upto_region 6 with fail
      go_cut [3, 4] (fun s3 s4 wx => s3 = .int .i64 e ∧ s4 = .int .i64 11 ∧ NodeAt wx W.heap.size (.bool false) (.slice none 0 0) (.slice none 0 0) (.slice none 0 0) ∧ Below W.heap.size W wx)
      case first =>
        go_region
        all_goals
          go_wp2_with fail
          go_meet
          case rel =>
            refine ⟨rfl, rfl, ?_, ?_⟩
            · with_reducible exact (HA5.out.all _ _ _ _).drew
            · with_reducible exact (below_all Hb5.out (Nat.le_refl _) _ _ _ _).drew
      case rest =>
        obtain ⟨rfl, rfl, hA, hb⟩ := hcut
        have Hb6 := Lib.hid hb
        clear x0 x1 x2 x3 y0 y1 y2 y3 k0 k1 k2 k3 f1 f2 f3 hN3 hA7 HA5 Hb5 Hr5 hb
        obtain ⟨y0, y1, y2, y3, -, hA7⟩ := hA.facts
        go_wp2_with fail
        refine bodyPost_ret (v := .tuple #[.agg #[.bool false, .slice none 0 0, .slice none 0 0, .slice none 0 0], .int .i64 e, .int .i64 11]) (by simp [results, Tryz.results8, go_sem, y0, y1, y2, y3]) rfl ?_
        rw [HRb.out]
        exact ⟨rfl, by decide, Hb6.out⟩
    · have HRb : Hid (R = .ok n e) := by show R = _; rw [HR.out, hrd]; exact if_neg hlt
      have hlti : decide ((e : Int) < s.length) = false := by simp; omega
      clear hrd HR
      go_enter Tryz.func8, Tryz.ntmps8
      go_wp2_with fail
      refine HN.out.mono ?_
      rintro e' w1 ⟨cs, rfl, hnode, hr, ho⟩
      obtain ⟨l, a1, n1, c1, a2, n2, c2, a3, n3, c3, rfl⟩ := hnode.form
      have hA2 := HA.out.only ho (by omega)
      have Hbw1 := Lib.hid (Hb0.out.trans (ho.to (by omega) (by rw [Hs0.out]; omega)))
      have Hnode := Lib.hid (NodeQ.keep (ok' := fun b => W.heap.size + 2 ≤ b) (Nat.le_refl _) (fun b _ hlt => rfl) (fun b hb _ => by rw [Hs0.out] at hb; exact hb) _ _ hnode)
      obtain ⟨x0, x1, x2, x3, ⟨f1, f2, f3⟩, hN3⟩ := hr.facts
      obtain ⟨y0, y1, y2, y3, ⟨k0, k1, k2, k3⟩, hws⟩ := hA2.facts
      clear hr ho HN HA Hb0 Hs0 hnode hA2
      go_wp2_with fail
      refine bodyPost_ret (v := .tuple #[.agg #[.bool l, .slice a1 n1 c1, .slice a2 n2 c2, .slice a3 n3 c3], .int .i64 0, .int .i64 0]) (by simp [results, Tryz.results8, go_sem, y0, y1, y2, y3, hws]) rfl ?_
      rw [HRb.out]
      have hne : ¬ (W.heap.size + 2 ≤ W.heap.size) := by omega
      have hq := nodeq_set (N := W.heap.size) (o := 3) (u := .slice a3 n3 c3) (nodeq_set (N := W.heap.size) (o := 2) (u := .slice a2 n2 c2) (nodeq_set (N := W.heap.size) (o := 1) (u := .slice a1 n1 c1) (nodeq_set (N := W.heap.size) (o := 0) (u := .bool l) Hnode.out hne) hne) hne) hne
      have hs4 := below_all Hbw1.out (Nat.le_refl W.heap.size) (.bool l) (.slice a1 n1 c1) (.slice a2 n2 c2) (.slice a3 n3 c3)
      obtain ⟨w5, hw5⟩ : ∃ w5, w5 = (((w1.setCell ⟨W.heap.size, 0, none⟩ (.bool l)).setCell ⟨W.heap.size, 1, none⟩ (.slice a1 n1 c1)).setCell ⟨W.heap.size, 2, none⟩ (.slice a2 n2 c2)).setCell ⟨W.heap.size, 3, none⟩ (.slice a3 n3 c3) := ⟨_, rfl⟩
      rw [← hw5] at hs4 hq ⊢
      refine ⟨_, rfl, ?_, ?_⟩
      · have hb5 : Below w5.heap.size w5 (w5.alloc (Obj.cells #[.bool l, .slice a1 n1 c1, .slice a2 n2 c2, .slice a3 n3 c3] 27)) := (Below.refl _ _).alloc (Nat.le_refl _) _
        exact NodeQ.keep hb5.size (fun b _ hlt => hb5.block b hlt) (fun b hb _ => by omega) _ _ hq
      · exact hs4.alloc hs4.size _

end Go.Proofs.YtmhgbocejjnoaaaGreatDoor
/- Walks: are properties the same. -/
namespace Go.Proofs.YtmhgbocejjnoaaaGreatDoor
open Go.RowKit Go.Redl
set_option linter.unusedVariables false

theorem str_ne {a b : List UInt8} (h : a ≠ b) : ((⟨a.toArray⟩ : ByteArray).toList == (⟨b.toArray⟩ : ByteArray).toList) = false := by
  rw [ByteArray.toList_mk, ByteArray.toList_mk]
  simpa using h

set_option maxRecDepth 100000 in
set_option maxHeartbeats 1000000 in
theorem equal_prop (a a' : Option Addr) (cap cap' B : Nat) (xs ys : List PropD) (w : World) (hr : RowA w B 2 a xs.length cap (propCells xs)) (hr' : RowA w B 2 a' ys.length cap' (propCells ys)) :
    Calls Tryz.prog 42 #[.slice a xs.length cap, .slice a' ys.length cap'] w fun e w' => e = .returned (.bool (decide (xs = ys))) ∧ Drawn w w' := by
  have hm : xs.length ≤ 9223372036854775807 := by have h1 := hr.le; have h2 := hr.max; unfold maxLen at h2; omega
  have hm' : ys.length ≤ 9223372036854775807 := by have h1 := hr'.le; have h2 := hr'.max; unfold maxLen at h2; omega
  by_cases hl : xs.length = ys.length
  · go_enter Tryz.func42, Tryz.ntmps42
    have hle : ys.length ≤ xs.length := by omega
    have hle' : xs.length ≤ ys.length := by omega
    have hne : (((xs.length : Nat) : Int) != (ys.length : Int)) = false := by simp [hl]
    have Hl := Lib.hid hl; clear hl
    go_wp2_with fail
    go_loopw [13] (fun i wr => ∃ k : Nat, k ≤ xs.length ∧ i = .int .i64 k ∧ SameTo xs ys k ∧ Drawn w wr) (fun i _ => xs.length - (intOf i).toNat)
    case atStart => exact ⟨0, Nat.zero_le _, rfl, sameTo_zero _ _, ⟨0, rfl⟩⟩
    case round =>
      obtain ⟨k, hk, rfl, hp, q, rfl⟩ := hrel
      have Hp := Lib.hid hp; clear hp
      by_cases hlt : k < xs.length
      · obtain ⟨b, off, rfl, hb, hc0, hc1⟩ := hr.prop_at k hlt
        obtain ⟨b', off', rfl, hb', hc0', hc1'⟩ := hr'.prop_at k (by omega)
        have hlt' : k < ys.length := by omega
        have Hx : Hid (xs[k] = (xs[k].1, xs[k].2)) := rfl
        have Hy : Hid (ys[k] = (ys[k].1, ys[k].2)) := rfl
        generalize hX1 : xs[k].1 = x1 at hc0 Hx
        generalize hX2 : xs[k].2 = x2 at hc1 Hx
        generalize hY1 : ys[k].1 = y1 at hc0' Hy
        generalize hY2 : ys[k].2 = y2 at hc1' Hy
        clear hX1 hX2 hY1 hY2
        go_wp2_with fail
        by_cases he : x1 = y1
        · subst he
          by_cases he : x2 = y2
          · subst he
            have He : Hid (xs[k] = ys[k]) := Hx.out.trans Hy.out.symm
            go_quiet (fail)
            go_wp2_with fail
            go_roundw
            case rel => exact ⟨k + 1, by omega, by go_num, sameTo_succ Hp.out hlt hlt' He.out, by first | exact drawn_one _ _ | exact drawn_two _ _ _⟩
            case measure => simp [intOf]; omega
          · have He : Hid (xs[k] ≠ ys[k]) := by
              show xs[k] ≠ ys[k]
              rw [Hx.out, Hy.out]
              intro e
              exact he (Prod.mk.inj e).2
            have h2 := str_ne he
            generalize (⟨x2.toArray⟩ : ByteArray) = X2 at h2 hc1
            generalize (⟨y2.toArray⟩ : ByteArray) = Y2 at h2 hc1'
            clear he Hx Hy
            go_quiet (fail)
            go_wp2_with fail
            go_ret
            exact ⟨ret_bool (by simp [same_not hlt hlt' He.out]), drawn_two _ _ _⟩
        · have He : Hid (xs[k] ≠ ys[k]) := by
            show xs[k] ≠ ys[k]
            rw [Hx.out, Hy.out]
            intro e
            exact he (Prod.mk.inj e).1
          have h2 := str_ne he
          generalize (⟨x1.toArray⟩ : ByteArray) = X1 at h2 hc0
          generalize (⟨y1.toArray⟩ : ByteArray) = Y1 at h2 hc0'
          clear he Hx Hy
          go_quiet (fail)
          go_wp2_with fail
          go_ret
          exact ⟨ret_bool (by simp [same_not hlt hlt' He.out]), drawn_two _ _ _⟩
      · go_wp2_with fail
        go_ret
        obtain rfl : k = xs.length := by omega
        exact ⟨ret_bool (by simp [sameTo_all Hp.out Hl.out]), drawn_one _ _⟩
  · have hne : (((xs.length : Nat) : Int) != (ys.length : Int)) = true := by simp; omega
    have Hl := Lib.hid hl; clear hl
    go_enter Tryz.func42, Tryz.ntmps42
    go_wp2_with fail
    go_ret
    exact ⟨ret_bool (by simp [show xs ≠ ys from fun h => Hl.out (by rw [h])]), drawn_zero _⟩

set_option maxRecDepth 100000 in
set_option maxHeartbeats 1000000 in
theorem rsamep_c (a a' : Option Addr) (cap cap' B : Nat) (xs ys : List PropD) (w : World) (hr : RowA w B 2 a xs.length cap (propCells xs)) (hr' : RowA w B 2 a' ys.length cap' (propCells ys)) :
    Calls Tryz.prog 20 #[.slice a xs.length cap, .slice a' ys.length cap'] w fun e w' => e = .returned (.bool (decide (xs = ys))) ∧ Drawn w w' := by
  have hm : xs.length ≤ 9223372036854775807 := by have h1 := hr.le; have h2 := hr.max; unfold maxLen at h2; omega
  have hm' : ys.length ≤ 9223372036854775807 := by have h1 := hr'.le; have h2 := hr'.max; unfold maxLen at h2; omega
  by_cases hl : xs.length = ys.length
  · go_enter Tryz.func20, Tryz.ntmps20
    have hle : ys.length ≤ xs.length := by omega
    have hle' : xs.length ≤ ys.length := by omega
    have hne : (((xs.length : Nat) : Int) != (ys.length : Int)) = false := by simp [hl]
    have Hl := Lib.hid hl; clear hl
    go_wp2_with fail
    go_loopw [13] (fun i wr => ∃ k : Nat, k ≤ xs.length ∧ i = .int .i64 k ∧ SameTo xs ys k ∧ Drawn w wr) (fun i _ => xs.length - (intOf i).toNat)
    case atStart => exact ⟨0, Nat.zero_le _, rfl, sameTo_zero _ _, ⟨0, rfl⟩⟩
    case round =>
      obtain ⟨k, hk, rfl, hp, q, rfl⟩ := hrel
      have Hp := Lib.hid hp; clear hp
      by_cases hlt : k < xs.length
      · obtain ⟨b, off, rfl, hb, hc0, hc1⟩ := hr.prop_at k hlt
        obtain ⟨b', off', rfl, hb', hc0', hc1'⟩ := hr'.prop_at k (by omega)
        have hlt' : k < ys.length := by omega
        have Hx : Hid (xs[k] = (xs[k].1, xs[k].2)) := rfl
        have Hy : Hid (ys[k] = (ys[k].1, ys[k].2)) := rfl
        generalize hX1 : xs[k].1 = x1 at hc0 Hx
        generalize hX2 : xs[k].2 = x2 at hc1 Hx
        generalize hY1 : ys[k].1 = y1 at hc0' Hy
        generalize hY2 : ys[k].2 = y2 at hc1' Hy
        clear hX1 hX2 hY1 hY2
        go_wp2_with fail
        by_cases he : x1 = y1
        · subst he
          by_cases he : x2 = y2
          · subst he
            have He : Hid (xs[k] = ys[k]) := Hx.out.trans Hy.out.symm
            go_quiet (fail)
            go_wp2_with fail
            go_roundw
            case rel => exact ⟨k + 1, by omega, by go_num, sameTo_succ Hp.out hlt hlt' He.out, by first | exact drawn_one _ _ | exact drawn_two _ _ _⟩
            case measure => simp [intOf]; omega
          · have He : Hid (xs[k] ≠ ys[k]) := by
              show xs[k] ≠ ys[k]
              rw [Hx.out, Hy.out]
              intro e
              exact he (Prod.mk.inj e).2
            have h2 := str_ne he
            generalize (⟨x2.toArray⟩ : ByteArray) = X2 at h2 hc1
            generalize (⟨y2.toArray⟩ : ByteArray) = Y2 at h2 hc1'
            clear he Hx Hy
            go_quiet (fail)
            go_wp2_with fail
            go_ret
            exact ⟨ret_bool (by simp [same_not hlt hlt' He.out]), drawn_two _ _ _⟩
        · have He : Hid (xs[k] ≠ ys[k]) := by
            show xs[k] ≠ ys[k]
            rw [Hx.out, Hy.out]
            intro e
            exact he (Prod.mk.inj e).1
          have h2 := str_ne he
          generalize (⟨x1.toArray⟩ : ByteArray) = X1 at h2 hc0
          generalize (⟨y1.toArray⟩ : ByteArray) = Y1 at h2 hc0'
          clear he Hx Hy
          go_quiet (fail)
          go_wp2_with fail
          go_ret
          exact ⟨ret_bool (by simp [same_not hlt hlt' He.out]), drawn_two _ _ _⟩
      · go_wp2_with fail
        go_ret
        obtain rfl : k = xs.length := by omega
        exact ⟨ret_bool (by simp [sameTo_all Hp.out Hl.out]), drawn_one _ _⟩
  · have hne : (((xs.length : Nat) : Int) != (ys.length : Int)) = true := by simp; omega
    have Hl := Lib.hid hl; clear hl
    go_enter Tryz.func20, Tryz.ntmps20
    go_wp2_with fail
    go_ret
    exact ⟨ret_bool (by simp [show xs ≠ ys from fun h => Hl.out (by rw [h])]), drawn_zero _⟩


end Go.Proofs.YtmhgbocejjnoaaaGreatDoor
/- Walks: node's own. -/
namespace Go.Proofs.YtmhgbocejjnoaaaGreatDoor
open Go.RowKit Go.Redl
set_option linter.unusedVariables false

set_option maxRecDepth 100000 in
set_option maxHeartbeats 2000000 in
theorem own_c (l : Bool) (ps : List PropD) (t : List Int) (ks : List NodeD) (v : Value) (B : Nat) (w : World) (hB : B ≤ w.heap.size) (hn : (NodeD.mk l ps t ks).wt ≤ 100000000) (hv : NodeV w B (.mk l ps t ks) v) :
    Calls Tryz.prog 31 #[v] w fun e w' => e = .returned (.int .i64 (ownE l ps t ks.length)) ∧ Below w.heap.size w w' := by
  obtain ⟨ap, cp, at_, ct, ak, ck, css, rfl, hp, ht, hk, hc⟩ := hv.open
  have hwt : 1 + propsWt ps + t.length + wtAll ks = (NodeD.mk l ps t ks).wt := rfl
  have hw4 : propsWt ps ≤ 1000000000 := by omega
  have hkl := wtAll_len ks
  have htl : t.length ≤ 100000000 := by omega
  have hkl2 : ks.length ≤ 100000000 := by omega
  have hB0 := ((Below.refl w.heap.size w).alloc (Nat.le_refl _) (Obj.cells #[.bool l, .slice ap ps.length cp, .slice at_ t.length ct, .slice ak ks.length ck] 27))
  have HP := Lib.hid (pcheck_c (.slice ap ps.length cp) w.heap.size ps (w.alloc (Obj.cells #[.bool l, .slice ap ps.length cp, .slice at_ t.length ct, .slice ak ks.length ck] 27)) ⟨ap, cp, rfl, hp.keep (hB0.mono hB) hB⟩ (by simp) hw4)
  have HT := fun W (hW : Below w.heap.size w W) => Lib.hid (check_c _ _ t W (ht.keep (hW.mono hB) (Nat.le_refl _)))
  have Ho := Lib.hid (ownE_cases l ps t ks.length)
  clear hv hp ht hwt hn hB0 hk hc
  by_cases hpe : propsE ps ≠ 0
  · have Hr : Hid (ownE l ps t ks.length = propsE ps) := by
      show ownE l ps t ks.length = _
      rw [Ho.out, if_pos hpe]
    have hne : (propsE ps != 0) = true := by simpa using hpe
    clear hpe
    go_enter Tryz.func31, Tryz.ntmps31
    go_wp2_with fail
    refine HP.out.mono ?_
    rintro e w1 ⟨rfl, hbel⟩
    have Hb := Lib.hid (below_unbox (below_box hbel))
    clear hbel HP
    go_wp2_with fail
    go_ret
    exact ⟨ret_int Hr.out.symm, Hb.out⟩
  · have hpe : propsE ps = 0 := by simpa using hpe
    rw [hpe] at HP
    cases hbad : (l && decide (0 < ks.length)) || (!l && decide (0 < t.length)) with
    | true =>
      have Hr : Hid (ownE l ps t ks.length = 7) := by
        show ownE l ps t ks.length = _
        rw [Ho.out, hpe, hbad]; rfl
      clear hpe
      cases l with
      | true =>
        have hb2 : 0 < ks.length := by simpa using hbad
        clear hbad
        go_enter Tryz.func31, Tryz.ntmps31
        go_wp2_with fail
        refine HP.out.mono ?_
        rintro e w1 ⟨rfl, hbel⟩
        obtain ⟨x0, x1, x2, x3⟩ := box_keep (below_box hbel)
        have Hb := Lib.hid (below_unbox (below_box hbel))
        clear hbel HP
        go_wp2_with fail
        go_ret
        exact ⟨ret_int Hr.out.symm, Hb.out⟩
      | false =>
        have hb2 : 0 < t.length := by simpa using hbad
        clear hbad
        go_enter Tryz.func31, Tryz.ntmps31
        go_wp2_with fail
        refine HP.out.mono ?_
        rintro e w1 ⟨rfl, hbel⟩
        obtain ⟨x0, x1, x2, x3⟩ := box_keep (below_box hbel)
        have Hb := Lib.hid (below_unbox (below_box hbel))
        clear hbel HP
        go_wp2_with fail
        go_ret
        exact ⟨ret_int Hr.out.symm, Hb.out⟩
    | false =>
      have Hr : Hid (ownE l ps t ks.length = checkE t) := by
        show ownE l ps t ks.length = _
        rw [Ho.out, hpe, hbad]; rfl
      clear hpe
      cases l with
      | true =>
        have hb2 : ks.length ≤ 0 := by simp at hbad; simp [hbad]
        clear hbad
        go_enter Tryz.func31, Tryz.ntmps31
        go_wp2_with fail
        refine HP.out.mono ?_
        rintro e w1 ⟨rfl, hbel⟩
        obtain ⟨x0, x1, x2, x3⟩ := box_keep (below_box hbel)
        have Hb := Lib.hid (below_unbox (below_box hbel))
        clear hbel HP
        go_wp2_with fail
        refine (HT _ Hb.out).out.mono ?_
        rintro e w2 ⟨rfl, rfl⟩
        go_wp2_with fail
        go_ret
        exact ⟨ret_int Hr.out.symm, Hb.out⟩
      | false =>
        have hb2 : t.length ≤ 0 := by simp at hbad; simp [hbad]
        clear hbad
        go_enter Tryz.func31, Tryz.ntmps31
        go_wp2_with fail
        refine HP.out.mono ?_
        rintro e w1 ⟨rfl, hbel⟩
        obtain ⟨x0, x1, x2, x3⟩ := box_keep (below_box hbel)
        have Hb := Lib.hid (below_unbox (below_box hbel))
        clear hbel HP
        go_wp2_with fail
        refine (HT _ Hb.out).out.mono ?_
        rintro e w2 ⟨rfl, rfl⟩
        go_wp2_with fail
        go_ret
        exact ⟨ret_int Hr.out.symm, Hb.out⟩

end Go.Proofs.YtmhgbocejjnoaaaGreatDoor
/- Walks: node's walk: a function asked at each node, in order, till it says no. -/
namespace Go.Proofs.YtmhgbocejjnoaaaGreatDoor
open Go.RowKit Go.Redl
set_option linter.unusedVariables false

section
variable {S : Type} (go : NodeD → Bool) (st : NodeD → S → S)
mutual
/-- What such a walk answers, and the state that it leaves. -/
def eachS : NodeD → S → Bool × S
  | .mk l ps t ks, s => if go (.mk l ps t ks) then kidsS ks (st (.mk l ps t ks) s) else (false, st (.mk l ps t ks) s)
def kidsS : List NodeD → S → Bool × S
  | [], s => (true, s)
  | k :: ks, s => if (eachS k s).1 then kidsS ks (eachS k s).2 else (false, (eachS k s).2)
end
theorem kidsS_step {ks : List NodeD} {k : Nat} {s : S} (h : k < ks.length) : kidsS go st (ks.drop k) s = if (eachS go st ks[k] s).1 then kidsS go st (ks.drop (k + 1)) (eachS go st ks[k] s).2 else (false, (eachS go st ks[k] s).2) := by
  conv => lhs; rw [List.drop_eq_getElem_cons h]
  simp only [kidsS]
end

/-- The asked function's contract. -/
def AskC {S : Type} (Φ : S → World → Prop) (bad : TypeId → Bool) (B cb : Nat) (caps : Array Value) (go : NodeD → Bool) (st : NodeD → S → S) (M : Nat) : Prop :=
  ∀ (n : NodeD) (v : Value) (s : S) (W : World), n.wt ≤ M → NodeV W B n v → B ≤ W.heap.size → Φ s W →
    Calls Tryz.prog cb (#[v] ++ caps) W fun e w' => e = .returned (.bool (go n)) ∧ Φ (st n s) w' ∧ Spares bad B W w'
/-- The walk's two variables. -/
def EnvAt (W : World) (tb eb cb : Nat) (caps : Array Value) : Prop :=
  W.heap[tb]? = some (Obj.cells #[.func (.func cb) #[] caps] 64 (0, 0)) ∧ W.heap[eb]? = some (Obj.cells #[.func (.func 45) #[] #[.pointer (some ⟨tb, 0, none⟩), .pointer (some ⟨eb, 0, none⟩)]] 64 (0, 0))
theorem EnvAt.keep {W W' : World} {tb eb cb B : Nat} {caps : Array Value} {bad : TypeId → Bool} (h : EnvAt W tb eb cb caps) (hs : Spares bad B W W') (hb : bad 64 = false) : EnvAt W' tb eb cb caps :=
  ⟨hs.block _ _ _ _ h.1 hb, hs.block _ _ _ _ h.2 hb⟩
theorem EnvAt.cells {W : World} {tb eb cb : Nat} {caps : Array Value} (h : EnvAt W tb eb cb caps) :
    W.cell? ⟨tb, 0, none⟩ = some (.func (.func cb) #[] caps) ∧ W.cell? ⟨eb, 0, none⟩ = some (.func (.func 45) #[] #[.pointer (some ⟨tb, 0, none⟩), .pointer (some ⟨eb, 0, none⟩)]) ∧ tb < W.heap.size ∧ eb < W.heap.size :=
  ⟨by rw [cell_of_row _ _ _ _ _ _ h.1]; rfl, by rw [cell_of_row _ _ _ _ _ _ h.2]; rfl, (Array.getElem?_eq_some_iff.1 h.1).1, (Array.getElem?_eq_some_iff.1 h.2).1⟩
/-- What a call of the walk's own function leaves. -/
def EachP {S : Type} (Φ : S → World → Prop) (bad : TypeId → Bool) (B : Nat) (W : World) (b : Bool) (s : S) (e : Ending) (w' : World) : Prop := e = .returned (.bool b) ∧ Φ s w' ∧ Spares bad B W w'
/-- What IndexFunc leaves there. -/
def IdxP {S : Type} (Φ : S → World → Prop) (bad : TypeId → Bool) (B : Nat) (W : World) (b : Bool) (s : S) (e : Ending) (w' : World) : Prop := ∃ i : Int, e = .returned (.int .i64 i) ∧ decide (0 ≤ i) = !b ∧ Φ s w' ∧ Spares bad B W w'

section
variable {S : Type} {Φ : S → World → Prop} {bad : TypeId → Bool} {B tb eb cb : Nat} {caps : Array Value} {go : NodeD → Bool} {st : NodeD → S → S} {M : Nat}

set_option maxRecDepth 100000 in
set_option maxHeartbeats 1000000 in
theorem kid_c (hΦ : ∀ s W W', Φ s W → Below W.heap.size W W' → Φ s W') (hbad : bad 64 = false) (q : NodeD) (v : Value) (s : S) (W : World) (hE : EnvAt W tb eb cb caps) (hv : NodeV W B q v) (hB : B ≤ W.heap.size) (hs : Φ s W)
    (hC : ∀ W', NodeV W' B q v → B ≤ W'.heap.size → EnvAt W' tb eb cb caps → Φ s W' → Calls Tryz.prog 45 #[v, .pointer (some ⟨tb, 0, none⟩), .pointer (some ⟨eb, 0, none⟩)] W' (EachP Φ bad B W' (eachS go st q s).1 (eachS go st q s).2)) :
    Calls Tryz.prog 47 #[v, .pointer (some ⟨eb, 0, none⟩)] W (EachP Φ bad B W (!(eachS go st q s).1) (eachS go st q s).2) := by
  have hv0 := hv
  obtain ⟨l, ps, t, ks⟩ := q
  obtain ⟨ap, cp, at_, ct, ak, ck, css, rfl, -, -, -, -⟩ := hv0.open
  generalize NodeD.mk l ps t ks = q at hv hC ⊢
  generalize eachS go st q s = r at hC ⊢
  obtain ⟨b, s'⟩ := r
  have hS0 : Spares bad B W (W.alloc (Obj.cells #[.bool l, .slice ap ps.length cp, .slice at_ t.length ct, .slice ak ks.length ck] 27)) := (Spares.refl hB).alloc hB _
  have HC := Lib.hid (hC _ (hv.keep hS0.below (Nat.le_refl _)) (Nat.le_trans hB hS0.size) (hE.keep hS0 hbad) (hΦ _ _ _ hs ((Below.refl _ _).alloc (Nat.le_refl _) _)))
  obtain ⟨e1, e2, l1, l2⟩ := hE.cells
  have HS0 := Lib.hid hS0
  clear hC hv0 hv hE hs hS0 e1
  go_enter Tryz.func47, Tryz.ntmps47
  go_wp2_with fail
  refine HC.out.mono ?_
  rintro e w1 ⟨rfl, hφ, hsp⟩
  have Hφ := Lib.hid hφ
  have HS := Lib.hid (HS0.out.trans hsp)
  clear hφ hsp HC
  go_wp2_with fail
  go_ret
  exact ⟨rfl, Hφ.out, HS.out⟩

set_option maxRecDepth 100000 in
set_option maxHeartbeats 1000000 in
theorem idxKids_c (ks : List NodeD) (a : Option Addr) (cap : Nat) (css : List Value) (s : S) (W : World) (hE : EnvAt W tb eb cb caps) (hbad : bad 64 = false) (hr : RowA W B 4 a ks.length cap css) (hk : KidsC W B ks css) (hB : B ≤ W.heap.size) (hs : Φ s W)
    (hC : ∀ (q : NodeD) (v : Value) (s : S) (W' : World), q ∈ ks → NodeV W' B q v → B ≤ W'.heap.size → EnvAt W' tb eb cb caps → Φ s W' → Calls Tryz.prog 47 #[v, .pointer (some ⟨eb, 0, none⟩)] W' (EachP Φ bad B W' (!(eachS go st q s).1) (eachS go st q s).2)) :
    Calls Tryz.prog 60 #[.slice a ks.length cap, .func (.func 47) #[] #[.pointer (some ⟨eb, 0, none⟩)]] W (IdxP Φ bad B W (kidsS go st ks s).1 (kidsS go st ks s).2) := by
  have HC := Lib.hid hC; have HE := Lib.hid hE
  have hm := props_len hr
  have Hst := fun (s' : S) (W' : World) (h : Φ s' W') => h
  have Hs := Lib.hid hs
  obtain ⟨R, hR⟩ : ∃ R, R = kidsS go st ks s := ⟨_, rfl⟩
  rw [← hR]
  have HR := Lib.hid hR
  clear hC hE hs Hst hR
  go_enter Tryz.func60, Tryz.ntmps60
  go_wp2_with fail
  go_loopw [8] (fun i wr => ∃ (k : Nat) (s' : S), k ≤ ks.length ∧ i = .int .i64 k ∧ kidsS go st (ks.drop k) s' = R ∧ Φ s' wr ∧ Spares bad B W wr) (fun i _ => ks.length - (intOf i).toNat)
  case atStart => exact ⟨0, s, Nat.zero_le _, rfl, HR.out.symm, Hs.out, Spares.refl hB⟩
  case round =>
    obtain ⟨k, s', hkn, rfl, hke, hφ, hsp⟩ := hrel
    have hr2 := hr.keep hsp.below (Nat.le_refl _)
    have hc2 := KidsC.keep hsp.below (Nat.le_refl _) ks css hk
    have Hke := Lib.hid hke; have Hφ := Lib.hid hφ; have Hsp := Lib.hid hsp
    clear hke hφ hsp
    by_cases hlt : k < ks.length
    · have Hss := Lib.hid (kidsS_step go st (s := s') hlt)
      have hmem := List.getElem_mem hlt
      obtain ⟨b, off, l', a1, n1, c1, a2, n2, c2, a3, n3, c3, rfl, hb, hnc, g0, g1, g2, g3⟩ := hr2.kid_at hc2 k hlt
      generalize ks[k] = q at hnc hmem Hss
      have HC1 := Lib.hid (HC.out q (.agg #[.bool l', .slice a1 n1 c1, .slice a2 n2 c2, .slice a3 n3 c3]) s' wr hmem ⟨_, rfl, hnc⟩ (Nat.le_trans hB Hsp.out.size) (HE.out.keep Hsp.out hbad) Hφ.out)
      have he : ∀ args w, (callFunc 47 args).run Tryz.prog w = .ok (.enter 47 args) w := by intro args w; kernel_rfl
      generalize eachS go st q s' = r at HC1 Hss
      obtain ⟨b', s2⟩ := r
      clear hmem hnc hr2 hc2
      cases b' with
      | true =>
        have HR2 : Hid (kidsS go st (ks.drop (k + 1)) s2 = R) := by
          show kidsS go st _ _ = R
          rw [← Hke.out, Hss.out]; rfl
        go_wp2_with fail
        refine HC1.out.mono ?_
        rintro e w1 ⟨rfl, hφ, hsp⟩
        have Hφ2 := Lib.hid hφ; have Hsp2 := Lib.hid (Hsp.out.trans hsp)
        clear hφ hsp
        go_wp2_with fail
        go_roundw
        case rel => exact ⟨k + 1, s2, by omega, by go_num, HR2.out, Hφ2.out, Hsp2.out⟩
        case measure => simp [intOf]; omega
      | false =>
        have HR2 : Hid ((false, s2) = R) := by
          show _ = R
          rw [← Hke.out, Hss.out]; rfl
        go_wp2_with fail
        refine HC1.out.mono ?_
        rintro e w1 ⟨rfl, hφ, hsp⟩
        have Hφ2 := Lib.hid hφ; have Hsp2 := Lib.hid (Hsp.out.trans hsp)
        clear hφ hsp
        go_wp2_with fail
        go_ret
        refine ⟨(k : Int), rfl, ?_, ?_, Hsp2.out⟩
        · rw [← HR2.out]; simp
        · rw [← HR2.out]; exact Hφ2.out
    · obtain rfl : k = ks.length := by omega
      have HR2 : Hid ((true, s') = R) := by
        show _ = R
        rw [← Hke.out, List.drop_length]; rfl
      go_wp2_with fail
      go_ret
      refine ⟨-1, rfl, ?_, ?_, Hsp.out⟩
      · rw [← HR2.out]; rfl
      · rw [← HR2.out]; exact Hφ.out

set_option maxRecDepth 100000 in
set_option maxHeartbeats 1000000 in
theorem hasKids_c (a : Option Addr) (n cap : Nat) (b : Bool) (s' : S) (W : World) (f : Value)
    (hC : Calls Tryz.prog 60 #[.slice a n cap, f] W (IdxP Φ bad B W b s')) :
    Calls Tryz.prog 46 #[.slice a n cap, f] W (EachP Φ bad B W (!b) s') := by
  have HC := Lib.hid hC
  clear hC
  go_enter Tryz.func46, Tryz.ntmps46
  go_wp2_with fail
  refine HC.out.mono ?_
  rintro e w1 ⟨i, rfl, hi, hφ, hsp⟩
  have Hφ := Lib.hid hφ; have Hsp := Lib.hid hsp; have Hi := Lib.hid hi
  clear hφ hsp hi HC
  go_wp2_with fail
  go_ret
  exact ⟨ret_bool Hi.out, Hφ.out, Hsp.out⟩

set_option maxRecDepth 100000 in
set_option maxHeartbeats 2000000 in
theorem each_c (hΦ : ∀ s W W', Φ s W → Below W.heap.size W W' → Φ s W') (hb1 : bad 64 = false) (hb2 : bad 27 = false) (hcb : ∀ args w, (callFunc cb args).run Tryz.prog w = .ok (.enter cb args) w) (hA : AskC Φ bad B cb caps go st M) (m : Nat) :
    ∀ (n : NodeD) (v : Value) (s : S) (W : World), n.wt ≤ m → n.wt ≤ M → NodeV W B n v → B ≤ W.heap.size → EnvAt W tb eb cb caps → Φ s W →
      Calls Tryz.prog 45 #[v, .pointer (some ⟨tb, 0, none⟩), .pointer (some ⟨eb, 0, none⟩)] W (EachP Φ bad B W (eachS go st n s).1 (eachS go st n s).2) := by
  induction m with
  | zero => intro n v s W hm; have := wt_pos n; omega
  | succ m ih =>
    intro n v s W hm hM hv hB hE hs
    have IH := Lib.hid ih
    have hv0 := hv
    obtain ⟨l, ps, t, ks⟩ := n
    obtain ⟨ap, cp, at_, ct, ak, ck, css, rfl, hp, ht, hk, hc⟩ := hv0.open
    have hwt : 1 + propsWt ps + t.length + wtAll ks = (NodeD.mk l ps t ks).wt := rfl
    have hw3 : ∀ q ∈ ks, q.wt ≤ m ∧ q.wt ≤ M := fun q hq => by have := wtAll_mem hq; omega
    have Hw3 := Lib.hid hw3
    have hR : Hid (eachS go st (.mk l ps t ks) s = if go (.mk l ps t ks) then kidsS go st ks (st (.mk l ps t ks) s) else (false, st (.mk l ps t ks) s)) := rfl
    have hS0 : Spares bad B W (W.alloc (Obj.cells #[.bool l, .slice ap ps.length cp, .slice at_ t.length ct, .slice ak ks.length ck] 27)) := (Spares.refl hB).alloc hB _
    have HA := Lib.hid (hA (.mk l ps t ks) _ s _ hM (hv.keep hS0.below (Nat.le_refl _)) (Nat.le_trans hB hS0.size) (hΦ _ _ _ hs ((Below.refl _ _).alloc (Nat.le_refl _) _)))
    obtain ⟨e1, e2, l1, l2⟩ := hE.cells
    have HS0 := Lib.hid hS0; have HE := Lib.hid hE
    have Hk := Lib.hid hk; have Hc := Lib.hid hc
    generalize st (.mk l ps t ks) s = s1 at HA hR
    obtain ⟨R, hRR⟩ : ∃ R, R = eachS go st (.mk l ps t ks) s := ⟨_, rfl⟩
    rw [← hRR]
    have HR : Hid (R = if go (.mk l ps t ks) then kidsS go st ks s1 else (false, s1)) := by
      show R = _
      rw [hRR, hR.out]
    clear hv0 hv hE hs hS0 hp ht hk hc hwt hw3 hm hM hR hRR ih hA
    cases hgo : go (.mk l ps t ks) with
    | false =>
      rw [hgo] at HA HR
      go_enter Tryz.func45, Tryz.ntmps45
      go_wp2_with fail
      refine HA.out.mono ?_
      rintro e w1 ⟨rfl, hφ, hsp⟩
      have Hφ := Lib.hid hφ; have HS := Lib.hid (HS0.out.trans hsp)
      clear hφ hsp HA
      go_wp2_with fail
      go_ret
      refine ⟨?_, ?_, HS.out⟩
      · rw [HR.out]; rfl
      · rw [HR.out]; exact Hφ.out
    | true =>
      rw [hgo] at HA HR
      have HK := fun (w1 : World) (hφ : Φ s1 w1) (hs : Spares bad B W w1) => Lib.hid (hasKids_c _ _ _ _ _ _ _ (idxKids_c (go := go) (st := st) ks ak ck css s1 w1 (HE.out.keep hs hb1) hb1 (Hk.out.keep hs.below (Nat.le_refl _)) (KidsC.keep hs.below (Nat.le_refl _) ks css Hc.out) (Nat.le_trans hB hs.size) hφ
        (fun q v s W' hq hv hB' hE' hφ' => kid_c hΦ hb1 q v s W' hE' hv hB' hφ' (fun W2 hv2 hB2 hE2 hφ2 => IH.out q v s W2 (Hw3.out q hq).1 (Hw3.out q hq).2 hv2 hB2 hE2 hφ2))))
      have HR2 : Hid (R = kidsS go st ks s1) := by
        show R = _
        rw [HR.out]; rfl
      generalize kidsS go st ks s1 = r at HK HR2
      obtain ⟨b, s2⟩ := r
      clear HR Hw3 IH Hk Hc HE
      have hmf : ∀ (fn : Fn) (first cap : Array Value) (w : World), (Instr.makeFunc fn first cap).run Tryz.prog w = .ok (.func fn first cap) w := fun _ _ _ _ => rfl
      go_enter Tryz.func45, Tryz.ntmps45
      go_wp2_with fail
      refine HA.out.mono ?_
      rintro e w1 ⟨rfl, hφ, hsp⟩
      obtain ⟨x0, x1, x2, x3⟩ := hsp.box4 hb2
      have HS := Lib.hid (HS0.out.trans hsp)
      have HK1 := HK w1 hφ HS.out
      clear hφ hsp HA HK
      go_wp2_with fail
      refine HK1.out.mono ?_
      rintro e w2 ⟨rfl, hφ, hsp⟩
      have Hφ := Lib.hid hφ; have HS2 := Lib.hid (HS.out.trans hsp)
      clear hφ hsp HK1 x0 x1 x2 x3
      cases b <;> (
        go_wp2_with fail
        go_ret
        refine ⟨?_, ?_, HS2.out⟩
        · rw [HR2.out]; rfl
        · rw [HR2.out]; exact Hφ.out)
end

end Go.Proofs.YtmhgbocejjnoaaaGreatDoor
/- Walks: node's walk, Size, Check. -/
namespace Go.Proofs.YtmhgbocejjnoaaaGreatDoor
open Go.RowKit Go.Redl
set_option linter.unusedVariables false

theorem env_new (W : World) (o : Obj) (cb : Nat) (caps : Array Value) : EnvAt (((W.alloc o).alloc (Obj.cells #[.func (.func cb) #[] caps] 64)).alloc (Obj.cells #[.func (.func 45) #[] #[.pointer (some ⟨W.heap.size + 1, 0, none⟩), .pointer (some ⟨W.heap.size + 1 + 1, 0, none⟩)]] 64))
    (W.heap.size + 1) (W.heap.size + 1 + 1) cb caps := by
  constructor
  · rw [Below.heap_alloc _ _ _ (by simp)]
    have h := heap_alloc_new (W.alloc o) (Obj.cells #[.func (.func cb) #[] caps] 64)
    simpa using h
  · have h := heap_alloc_new ((W.alloc o).alloc (Obj.cells #[.func (.func cb) #[] caps] 64)) (Obj.cells #[.func (.func 45) #[] #[.pointer (some ⟨W.heap.size + 1, 0, none⟩), .pointer (some ⟨W.heap.size + 1 + 1, 0, none⟩)]] 64)
    simpa using h
theorem below_three (W : World) (o1 o2 o3 : Obj) : Below W.heap.size W (((W.alloc o1).alloc o2).alloc o3) :=
  (((Below.refl _ _).alloc (Nat.le_refl _) o1).alloc (by simp) o2).alloc (by simp; omega) o3

section
variable {S : Type} {Φ : S → World → Prop} {bad : TypeId → Bool} {B cb : Nat} {caps : Array Value} {go : NodeD → Bool} {st : NodeD → S → S} {M : Nat}

set_option maxRecDepth 100000 in
set_option maxHeartbeats 2000000 in
theorem walk_c (hΦ : ∀ s W W', Φ s W → Below W.heap.size W W' → Φ s W') (hb1 : bad 64 = false) (hb2 : bad 27 = false) (hcb : ∀ args w, (callFunc cb args).run Tryz.prog w = .ok (.enter cb args) w) (hA : AskC Φ bad B cb caps go st M)
    (n : NodeD) (v : Value) (s : S) (W : World) (hM : n.wt ≤ M) (hv : NodeV W B n v) (hB : B ≤ W.heap.size) (hs : Φ s W) :
      Calls Tryz.prog 29 #[v, .func (.func cb) #[] caps] W (EachP Φ bad B W (eachS go st n s).1 (eachS go st n s).2) := by
  have hv0 := hv
  obtain ⟨l, ps, t, ks⟩ := n
  obtain ⟨ap, cp, at_, ct, ak, ck, css, rfl, -, -, -, -⟩ := hv0.open
  generalize NodeD.mk l ps t ks = n at hv hM ⊢
  have HE := fun (tb eb : Nat) (W' : World) (hE : EnvAt W' tb eb cb caps) (hW : Below W.heap.size W W') => Lib.hid (each_c (tb := tb) (eb := eb) hΦ hb1 hb2 hcb hA _ n _ s W' (Nat.le_refl _) hM (hv.keep (hW.mono hB) (Nat.le_refl _)) (Nat.le_trans hB hW.size) hE (hΦ _ _ _ hs hW))
  have HS := fun (W' w' : World) (hW : Below W.heap.size W W') (hS : Spares bad B W' w') => (Spares.of_below (bad := bad) hW hB).trans hS
  generalize eachS go st n s = r at HE ⊢
  obtain ⟨b, s'⟩ := r
  have HE := Lib.hid HE
  have HS := Lib.hid HS
  have hmf : ∀ (fn : Fn) (first cap : Array Value) (w : World), (Instr.makeFunc fn first cap).run Tryz.prog w = .ok (.func fn first cap) w := fun _ _ _ _ => rfl
  have hst := fun (W : World) (a : Addr) (fn : Fn) (first cap : Array Value) (m : Mode) => run_store Tryz.prog W a (.func fn first cap) m rfl
  clear hv0 hv hA hs hM
  go_enter Tryz.func29, Tryz.ntmps29
  go_wp2_with fail
  refine (HE.out _ _ _ (env_new W _ cb caps) (below_three _ _ _ _)).out.mono ?_
  rintro e w1 ⟨rfl, hφ, hsp⟩
  have Hφ := Lib.hid hφ; have HSp := Lib.hid (HS.out _ _ (below_three _ _ _ _) hsp)
  clear hφ hsp
  go_wp2_with fail
  go_ret
  exact ⟨rfl, Hφ.out, HSp.out⟩
end

/-- A cell of a number. -/
def CellI (T : TypeId) (b : Nat) (x : Int) (W : World) : Prop := W.heap[b]? = some (Obj.cells #[.int .i64 x] T (0, 0))
theorem CellI.keep {T : TypeId} {b : Nat} {x : Int} {W W' : World} (h : CellI T b x W) (hb : Below W.heap.size W W') : CellI T b x W' := by
  unfold CellI at *
  rw [hb.block b (Array.getElem?_eq_some_iff.1 h).1]; exact h
theorem CellI.cell {T : TypeId} {b : Nat} {x : Int} {W : World} (h : CellI T b x W) : W.cell? ⟨b, 0, none⟩ = some (.int .i64 x) ∧ W.frozen? ⟨b, 0, none⟩ = false ∧ b < W.heap.size := by
  unfold CellI at h
  exact ⟨by rw [cell_of_row _ _ _ _ _ _ h]; rfl, by simp [World.frozen?, h], (Array.getElem?_eq_some_iff.1 h).1⟩
theorem CellI.set_ {T : TypeId} {b : Nat} {x y : Int} {W : World} (h : CellI T b x W) : CellI T b y (W.setCell ⟨b, 0, none⟩ (.int .i64 y)) := by
  unfold CellI at *
  simp [World.setCell, Array.getElem?_modify, h]

/-- The sum so far. -/
def SumAt (b : Nat) (s : Nat) (W : World) : Prop := ∃ x : Int, x = wrap64 (s : Int) ∧ CellI 3 b x W
def txtLen : NodeD → Nat
  | .mk _ _ t _ => t.length
def badInt (T : TypeId) : Bool := T == 3

theorem wrap64_add (a b : Int) : wrap64 (wrap64 a + b) = wrap64 (a + b) := by
  unfold wrap64; omega

def goSize : NodeD → Bool := fun _ => true
def stSize (n : NodeD) (s : Nat) : Nat := s + (1 + txtLen n)

set_option maxRecDepth 100000 in
set_option maxHeartbeats 1000000 in
theorem size1_c (b B M : Nat) (hBb : B ≤ b) (hM : M ≤ 1000000000) : AskC (SumAt b) badInt B 44 #[.pointer (some ⟨b, 0, none⟩)] goSize stSize M := by
  intro n v s W hn hv hB hs
  have hv0 := hv
  obtain ⟨l, ps, t, ks⟩ := n
  obtain ⟨ap, cp, at_, ct, ak, ck, css, rfl, -, -, -, -⟩ := hv0.open
  have hwt : 1 + propsWt ps + t.length + wtAll ks = (NodeD.mk l ps t ks).wt := rfl
  have htl : t.length ≤ 1000000000 := by omega
  obtain ⟨x, hx, hc⟩ := hs
  obtain ⟨c1, c2, c3⟩ := hc.cell
  have Hx := Lib.hid hx
  have Hc := Lib.hid hc
  have Hst : Hid (txtLen (.mk l ps t ks) = t.length) := rfl
  clear hv0 hv hx hc hwt hn
  show Calls Tryz.prog 44 #[_, _] W _
  go_enter Tryz.func44, Tryz.ntmps44
  go_wp2_with fail
  go_ret
  refine ⟨rfl, ⟨_, ?_, (Hc.out.set_).keep ((Below.refl _ _).alloc (Nat.le_refl _) _)⟩, ?_⟩
  · show _ = wrap64 ((s + (1 + txtLen (.mk l ps t ks)) : Nat) : Int)
    rw [Hst.out, Hx.out, wrap64_add, Int.natCast_add, Int.natCast_add]; rfl
  · exact ((Spares.refl hB).setCell Hc.out rfl hBb _).alloc hB _

def badErr (T : TypeId) : Bool := T == 28
def ownN : NodeD → Int
  | .mk l ps t ks => ownE l ps t ks.length

def goCheck (n : NodeD) : Bool := ownN n == 0
def stCheck (n : NodeD) (_ : Int) : Int := ownN n

set_option maxRecDepth 100000 in
set_option maxHeartbeats 1000000 in
theorem ask_c (b B M : Nat) (hBb : B ≤ b) (hM : M ≤ 100000000) : AskC (CellI 28 b) badErr B 30 #[.pointer (some ⟨b, 0, none⟩)] goCheck stCheck M := by
  intro n v s W hn hv hB hs
  have hv0 := hv
  obtain ⟨l, ps, t, ks⟩ := n
  obtain ⟨ap, cp, at_, ct, ak, ck, css, rfl, -, -, -, -⟩ := hv0.open
  have hW1 : Below W.heap.size W (W.alloc (Obj.cells #[.bool l, .slice ap ps.length cp, .slice at_ t.length ct, .slice ak ks.length ck] 27)) := (Below.refl _ _).alloc (Nat.le_refl _) _
  have HO := Lib.hid (own_c l ps t ks _ B _ (Nat.le_trans hB hW1.size) (by omega) (hv.keep (hW1.mono hB) (Nat.le_refl _)))
  have Hst : Hid (goCheck (.mk l ps t ks) = (ownE l ps t ks.length == 0)) := rfl
  have Hst2 : Hid (stCheck (.mk l ps t ks) s = ownE l ps t ks.length) := rfl
  have HW1 := Lib.hid hW1
  have Hs := Lib.hid hs
  generalize NodeD.mk l ps t ks = n at Hst Hst2 ⊢
  show Calls Tryz.prog 30 #[.agg #[.bool l, .slice ap ps.length cp, .slice at_ t.length ct, .slice ak ks.length ck], .pointer (some ⟨b, 0, none⟩)] W _
  rw [Hst.out, Hst2.out]
  generalize ownE l ps t ks.length = x at HO ⊢
  clear hv0 hv hn hs hW1
  by_cases hx : x = 0
  · subst hx
    go_enter Tryz.func30, Tryz.ntmps30
    go_wp2_with fail
    refine HO.out.mono ?_
    rintro e w1 ⟨rfl, hbel⟩
    have Hb := Lib.hid (below_then HW1.out hbel (Nat.le_refl _))
    have Hc := Lib.hid (Hs.out.keep Hb.out)
    obtain ⟨c1, c2, c3⟩ := Hc.out.cell
    clear hbel HO
    go_wp2_with fail
    go_ret
    exact ⟨rfl, Hc.out.set_, (Spares.of_below Hb.out hB).setCell Hc.out rfl hBb _⟩
  · have hxb : (x == 0) = false := by simpa using hx
    have Hxb := Lib.hid hxb
    clear hx
    go_enter Tryz.func30, Tryz.ntmps30
    go_wp2_with fail
    refine HO.out.mono ?_
    rintro e w1 ⟨rfl, hbel⟩
    have Hb := Lib.hid (below_then HW1.out hbel (Nat.le_refl _))
    have Hc := Lib.hid (Hs.out.keep Hb.out)
    obtain ⟨c1, c2, c3⟩ := Hc.out.cell
    clear hbel HO
    go_wp2_with fail
    go_ret
    exact ⟨ret_bool Hxb.out.symm, Hc.out.set_, (Spares.of_below Hb.out hB).setCell Hc.out rfl hBb _⟩

theorem eachS_mk {S : Type} (go : NodeD → Bool) (st : NodeD → S → S) (l : Bool) (ps : List PropD) (t : List Int) (ks : List NodeD) (s : S) : eachS go st (.mk l ps t ks) s = if go (.mk l ps t ks) then kidsS go st ks (st (.mk l ps t ks) s) else (false, st (.mk l ps t ks) s) := by
  rw [eachS]
theorem kidsS_cons {S : Type} (go : NodeD → Bool) (st : NodeD → S → S) (k : NodeD) (ks : List NodeD) (s : S) : kidsS go st (k :: ks) s = if (eachS go st k s).1 then kidsS go st ks (eachS go st k s).2 else (false, (eachS go st k s).2) := by
  rw [kidsS]
mutual
theorem eachS_size : ∀ (n : NodeD) (s : Nat), eachS goSize stSize n s = (true, s + sizeN n)
  | .mk l ps t ks, s => by
    have hg : goSize (.mk l ps t ks) = true := rfl
    rw [eachS_mk, hg, if_pos rfl, kidsS_size ks]
    have : sizeN (.mk l ps t ks) = 1 + t.length + sizeK ks := by rw [sizeN]
    rw [this]
    show (true, s + (1 + t.length) + sizeK ks) = _
    congr 1; omega
theorem kidsS_size : ∀ (ks : List NodeD) (s : Nat), kidsS goSize stSize ks s = (true, s + sizeK ks)
  | [], s => by simp [kidsS, sizeK]
  | k :: ks, s => by
    rw [kidsS_cons, eachS_size k, if_pos rfl, kidsS_size ks]
    have : sizeK (k :: ks) = sizeN k + sizeK ks := by rw [sizeK]
    rw [this]
    congr 1; omega
end
theorem nodeE_mk (l : Bool) (ps : List PropD) (t : List Int) (ks : List NodeD) : nodeE (.mk l ps t ks) = if ownE l ps t ks.length ≠ 0 then ownE l ps t ks.length else kidsE ks := by rw [nodeE]
theorem kidsE_cons (k : NodeD) (ks : List NodeD) : kidsE (k :: ks) = if nodeE k ≠ 0 then nodeE k else kidsE ks := by rw [kidsE]
mutual
theorem eachS_check : ∀ (n : NodeD) (s : Int), eachS goCheck stCheck n s = (nodeE n == 0, nodeE n)
  | .mk l ps t ks, s => by
    have hg : goCheck (.mk l ps t ks) = (ownE l ps t ks.length == 0) := rfl
    have hs : stCheck (.mk l ps t ks) s = ownE l ps t ks.length := rfl
    rw [eachS_mk, hg, hs, nodeE_mk]
    by_cases h : ownE l ps t ks.length = 0
    · rw [h]; simp [kidsS_check ks]
    · rw [if_neg (by simpa using h), if_pos h]
      simp [h]
theorem kidsS_check : ∀ (ks : List NodeD), kidsS goCheck stCheck ks 0 = (kidsE ks == 0, kidsE ks)
  | [] => by rw [kidsS, kidsE]; rfl
  | k :: ks => by
    rw [kidsS_cons, eachS_check k, kidsE_cons]
    by_cases h : nodeE k = 0
    · rw [h]; simp [kidsS_check ks]
    · rw [if_neg (by simpa using h), if_pos h]
      simp [h]
end

set_option maxRecDepth 100000 in
set_option maxHeartbeats 1000000 in
theorem nsize_c (n : NodeD) (v : Value) (B : Nat) (W : World) (hn : n.wt ≤ 100000000) (hv : NodeV W B n v) (hB : B ≤ W.heap.size) :
    Calls Tryz.prog 28 #[v] W fun e w' => e = .returned (.int .i64 (sizeN n)) ∧ Below W.heap.size W w' := by
  have hv0 := hv
  obtain ⟨l, ps, t, ks⟩ := n
  obtain ⟨ap, cp, at_, ct, ak, ck, css, rfl, -, -, -, -⟩ := hv0.open
  have hsz := sizeN_le (.mk l ps t ks)
  generalize NodeD.mk l ps t ks = n at hv hn hsz ⊢
  have hW1 : Below W.heap.size W (W.alloc (Obj.cells #[.bool l, .slice ap ps.length cp, .slice at_ t.length ct, .slice ak ks.length ck] 27)) := (Below.refl _ _).alloc (Nat.le_refl _) _
  have hW2 := hW1.alloc (o := Obj.cells #[.int .i64 0] 3) (by simp)
  have hv2 := hv.keep (hW2.mono hB) hB
  have hc0 : SumAt (W.heap.size + 1) 0 ((W.alloc (Obj.cells #[.bool l, .slice ap ps.length cp, .slice at_ t.length ct, .slice ak ks.length ck] 27)).alloc (Obj.cells #[.int .i64 0] 3)) := by
    refine ⟨0, (IntWalk.wrap64_in 0 (by omega)).symm, ?_⟩
    have h := heap_alloc_new (W.alloc (Obj.cells #[.bool l, .slice ap ps.length cp, .slice at_ t.length ct, .slice ak ks.length ck] 27)) (Obj.cells #[.int .i64 0] 3)
    simpa [CellI] using h
  have HW := Lib.hid (walk_c (Φ := SumAt (W.heap.size + 1)) (bad := badInt) (M := 100000000) (fun s W W' h hb => by obtain ⟨x, h1, h2⟩ := h; exact ⟨x, h1, h2.keep hb⟩) rfl rfl (by intro args w; kernel_rfl)
    (size1_c (W.heap.size + 1) W.heap.size 100000000 (by omega) (by omega)) n _ 0 _ hn hv2 hW2.size hc0)
  rw [eachS_size, Nat.zero_add] at HW
  have hw0 : wrap64 (sizeN n : Int) = sizeN n := IntWalk.wrap64_in _ (by omega)
  have Hw0 := Lib.hid hw0
  have hmf : ∀ (fn : Fn) (first cap : Array Value) (w : World), (Instr.makeFunc fn first cap).run Tryz.prog w = .ok (.func fn first cap) w := fun _ _ _ _ => rfl
  have HW2 := Lib.hid hW2
  clear hv0 hv hsz hW1 hv2 hc0 hn hw0 hW2
  go_enter Tryz.func28, Tryz.ntmps28
  go_wp2_with fail
  refine HW.out.mono ?_
  rintro e w1 ⟨rfl, ⟨x, hx, hc⟩, hsp⟩
  rw [Hw0.out] at hx
  subst hx
  obtain ⟨c1, c2, c3⟩ := hc.cell
  have Hb := Lib.hid (HW2.out.trans hsp.below)
  clear hc hsp HW
  go_wp2_with fail
  go_ret
  exact ⟨rfl, Hb.out⟩

set_option maxRecDepth 100000 in
set_option maxHeartbeats 1000000 in
theorem ncheck_c (n : NodeD) (v : Value) (B : Nat) (W : World) (hn : n.wt ≤ 1048576) (hv : NodeV W B n v) (hB : B ≤ W.heap.size) :
    Calls Tryz.prog 13 #[v] W fun e w' => e = .returned (.int .i64 (nodeE n)) ∧ Below W.heap.size W w' := by
  have hv0 := hv
  obtain ⟨l, ps, t, ks⟩ := n
  obtain ⟨ap, cp, at_, ct, ak, ck, css, rfl, -, -, -, -⟩ := hv0.open
  have hsz := sizeN_le (.mk l ps t ks)
  generalize NodeD.mk l ps t ks = n at hv hn hsz ⊢
  have hW1 : Below W.heap.size W (W.alloc (Obj.cells #[.bool l, .slice ap ps.length cp, .slice at_ t.length ct, .slice ak ks.length ck] 27)) := (Below.refl _ _).alloc (Nat.le_refl _) _
  have HS := Lib.hid (nsize_c n _ B _ (by omega) (hv.keep (hW1.mono hB) (Nat.le_refl _)) (Nat.le_trans hB hW1.size))
  have hs2 : sizeN n ≤ 1048576 := by omega
  have HK := fun (w1 : World) (hb : Below W.heap.size W w1) => Lib.hid (walk_c (Φ := CellI 28 w1.heap.size) (bad := badErr) (M := 100000000) (fun s W W' h hb => h.keep hb) rfl rfl (by intro args w; kernel_rfl)
    (ask_c w1.heap.size w1.heap.size 100000000 (by omega) (by omega)) n _ 0 (w1.alloc (Obj.cells #[.int .i64 0] 28)) (by omega) (hv.keep ((hb.alloc hb.size _).mono hB) (Nat.le_trans hB hb.size)) (by simp) (heap_alloc_new w1 _))
  simp only [eachS_check] at HK
  have hmf : ∀ (fn : Fn) (first cap : Array Value) (w : World), (Instr.makeFunc fn first cap).run Tryz.prog w = .ok (.func fn first cap) w := fun _ _ _ _ => rfl
  clear hv0 hv hsz hW1 hn
  go_enter Tryz.func13, Tryz.ntmps13
  go_wp2_with fail
  refine HS.out.mono ?_
  rintro e w1 ⟨rfl, hbel⟩
  obtain ⟨x0, x1, x2, x3⟩ := box_keep (below_box hbel)
  have Hb1 := Lib.hid (below_unbox (below_box hbel))
  have hsz1 : W.heap.size < w1.heap.size := by have := (below_box hbel).size; simp at this; omega
  have HK1 := HK w1 Hb1.out
  clear hbel HS HK
  go_wp2_with fail
  refine HK1.out.mono ?_
  rintro e w2 ⟨rfl, hc, hsp⟩
  obtain ⟨c1, c2, c3⟩ := hc.cell
  have Hb2 := Lib.hid (Hb1.out.trans (((Below.refl w1.heap.size w1).alloc (Nat.le_refl _) (Obj.cells #[.int .i64 0] 28)).trans hsp.below |>.mono Hb1.out.size))
  clear hc hsp HK1 x0 x1 x2 x3
  go_wp2_with fail
  go_ret
  exact ⟨rfl, Hb2.out⟩

end Go.Proofs.YtmhgbocejjnoaaaGreatDoor
