/- Walks: slices.DeleteFunc at rows of paths. -/
import Derived.Test.YtiinmgccjlmoaaaRKA
import Derived.Test.YtiinmgccjlmoaaaRHB
import Derived.Lib.SliceRun
namespace Go.Proofs.Ytiinmgccjlmoaaa
open Go.RowKit Go.Redl
set_option linter.unusedVariables false

theorem At.setCells {b : Nat} {T : TypeId} : ∀ (vs : List Value) (o : Nat) (w : World) (cs : List Value), At w b cs T → ∃ cs', cs'.length = cs.length ∧ cs'.take o = cs.take o ∧ At (w.setCells b o vs) b cs' T
  | [], o, w, cs, h => ⟨cs, rfl, rfl, h⟩
  | v :: vs, o, w, cs, h => by
    obtain ⟨cs', h1, h2, h3⟩ := At.setCells vs (o + 1) (w.setCell ⟨b, o, none⟩ v) (cs.set o v) (h.set o v)
    refine ⟨cs', by rw [h1, List.length_set], ?_, h3⟩
    have h4 := congrArg (List.take o) h2
    rw [List.take_take, List.take_take, Nat.min_eq_left (by omega)] at h4
    rw [h4, List.take_set_of_le (Nat.le_refl _)]
theorem _root_.Go.World.grownBy.setCells {w0 : World} {b : Nat} : ∀ (vs : List Value) (o : Nat) (w : World), w0.grownBy w (some b) → w0.grownBy (w.setCells b o vs) (some b)
  | [], o, w, h => h
  | v :: vs, o, w, h => World.grownBy.setCells vs (o + 1) _ (h.set o v)
/-- A part of a row, the rest made zero. -/
theorem RowX.cut {w : World} {M L b cap i n : Nat} {zs : List PX} {tl : List Value} (hM : M ≤ b) (hA : At w b (zs.map pxV ++ tl) 36) (hl : zs.length + tl.length = cap) (hm : cap ≤ maxLen) (hi : i ≤ zs.length) (hq : ∀ x ∈ zs, PxQ w (fun k => L ≤ k ∧ k ≠ b) x) (vs : List Value) :
    RowX (w.setCells b i vs) M L (.slice (some ⟨b, 0, none⟩) (zs.take i).length cap) (zs.take i) := by
  obtain ⟨cs', h1, h2, h3⟩ := hA.setCells vs i
  have h4 : cs' = (zs.take i).map pxV ++ cs'.drop i := by
    have h5 := List.take_append_drop i cs'
    rw [h2, List.take_append_of_le_length (by simpa using hi), ← List.map_take] at h5
    exact h5.symm
  rw [h4] at h3
  refine RowX.shut hM h3 ?_ hm fun x hx => (hq x (List.mem_of_mem_take hx)).grown ((World.grownBy.refl w _).setCells vs i w)
  simp at h1 ⊢
  omega

set_option maxRecDepth 100000 in
set_option maxHeartbeats 1000000 in
theorem idx_path (n : Nat) (a : Option Addr) (cap cb : Nat) (caps : Array Value) (pred : Nat → Bool) (W : World) (hn : n ≤ 100000000) (hcb : ∀ args w, (callFunc cb args).run Try.prog w = .ok (.enter cb args) w)
    (H : ∀ (k : Nat) (W' : World), k < n → Below W.heap.size W W' → ∃ b off c0, a = some ⟨b, off, none⟩ ∧ W'.cell? ⟨b, off + k, none⟩ = some c0 ∧ Calls Try.prog cb (#[c0] ++ caps) W' fun e w' => e = .returned (.bool (pred k)) ∧ Below W'.heap.size W' w') :
    Calls Try.prog 114 #[.slice a n cap, .func (.func cb) #[] caps] W fun e w' => e = .returned (.int .i64 (idxP pred n)) ∧ Below W.heap.size W w' := by
  have HH := Lib.hid H
  clear H
  go_enter Try.func114, Try.ntmps114
  go_wp2_with fail
  go_loopg [8] n (fun g i wr => ∃ k : Nat, k + g = n ∧ i = .int .i64 k ∧ (∀ j, j < k → pred j = false) ∧ Below W.heap.size W wr)
  case atStart => exact ⟨0, by omega, rfl, by intro j hj; omega, Below.refl _ _⟩
  case round =>
    obtain ⟨k, hg, rfl, hb, hbr⟩ := hrel
    have Hbr := Lib.hid hbr; have Hb := Lib.hid hb
    by_cases hlt : k < n
    · obtain ⟨b, off, c0, rfl, h0, hC⟩ := HH.out k wr hlt hbr
      have hlti : (k : Int) < n := by omega
      clear hb hbr HH
      cases hp : pred k with
      | true =>
        rw [hp] at hC
        have HC := Lib.hid hC
        have Hr := Lib.hid (idxP_some hlt hp Hb.out)
        clear hC hp
        go_wp2_with fail
        refine HC.out.mono ?_
        rintro e w1 ⟨rfl, hbel⟩
        have Hb1 := Lib.hid (Hbr.out.trans (hbel.mono Hbr.out.size))
        clear hbel HC
        go_wp2_with fail
        go_ret
        exact ⟨ret_int Hr.out.symm, Hb1.out⟩
      | false =>
        rw [hp] at hC
        have HC := Lib.hid hC
        have Hr := Lib.hid (show ∀ j, j < k + 1 → pred j = false from fun j hj => by
          rcases Nat.lt_or_ge j k with h | h
          · exact Hb.out j h
          · obtain rfl : j = k := by omega
            exact hp)
        clear hC hp
        go_wp2_with fail
        refine HC.out.mono ?_
        rintro e w1 ⟨rfl, hbel⟩
        have Hb1 := Lib.hid (Hbr.out.trans (hbel.mono Hbr.out.size))
        clear hbel HC
        go_wp2_with fail
        go_roundg (gk - 1)
        case measure => omega
        case rel => exact ⟨k + 1, by omega, by go_num, Hr.out, Hb1.out⟩
    · obtain rfl : k = n := by omega
      have Hr := Lib.hid (idxP_none hb)
      clear hb hbr HH
      go_wp2_with fail
      go_ret
      exact ⟨ret_int Hr.out.symm, Hbr.out⟩

theorem idxpath_ent : ∀ args w, (callFunc 114 args).run Try.prog w = .ok (.enter 114 args) w := by intro args w; kernel_rfl

abbrev px0 : PX := ([], none, 0)
theorem px_get {xs : List PX} {k : Nat} (hk : k < xs.length) : xs.getD k px0 = xs[k] := by simp [List.getD, List.getElem?_eq_getElem hk]
theorem px_cell {w : World} {b : Nat} {xs : List PX} {tl : List Value} {T : TypeId} (h : At w b (xs.map pxV ++ tl) T) (k : Nat) (hk : k < xs.length) : w.cell? ⟨b, k, none⟩ = some (pxV xs[k]) :=
  h.cell k (by rw [List.getElem?_append_left (by simpa using hk)]; simp [List.getElem?_eq_getElem hk])
/-- What is left of a row, a predicate's being struck. -/
def DelP (W : World) (M L : Nat) (v : Value) (l : List PX) (e : Ending) (w' : World) : Prop :=
  ∃ v', e = .returned v' ∧ RowX w' M L v' l ∧ (∀ k, v'.ownBlock = some k → v.ownBlock = some k) ∧ W.grownBy w' v.ownBlock

set_option maxRecDepth 100000 in
set_option maxHeartbeats 2000000 in
theorem delx_c (g : Nat) (lb : Array Value) (p : PX → Bool) (M L : Nat) (v : Value) (xs : List PX) (W : World) (hg : ∀ args w, (callFunc g args).run Try.prog w = .ok (.enter g args) w) (hx : RowX W M L v xs) (hn : xs.length ≤ 100000000)
    (hp : ∀ x ∈ xs, ∀ W', W.grownBy W' v.ownBlock → Calls Try.prog g (#[pxV x] ++ lb) W' fun e w' => e = .returned (.bool (p x)) ∧ Below W'.heap.size W' w') :
    Calls Try.prog 80 #[v, .func (.func g) #[] lb] W (DelP W M L v (xs.filter fun x => !p x)) := by
  rcases hx.open with ⟨rfl, rfl⟩ | ⟨b, cap, tl, rfl, hMb, hA, hcl, hcm⟩
  · have HI := Lib.hid (idx_path 0 none 0 g lb (fun _ => false) W (by omega) hg (fun k W' hk => by omega))
    rw [show idxP (fun _ => false) 0 = -1 by rfl] at HI
    clear hp hx hn hg
    go_enter Try.func80, Try.ntmps80
    go_wp2_with fail
    refine HI.out.mono ?_
    rintro e w1 ⟨rfl, hbel⟩
    have Hb := Lib.hid hbel
    clear hbel HI
    go_wp2_with fail
    go_ret
    exact ⟨_, rfl, RowX.nil _ _ _, fun k hk => hk, grown_of_below Hb.out⟩
  · have hq0 : ∀ x ∈ xs, PxQ W (fun k => L ≤ k ∧ k ≠ b) x := fun x hx' => rowq_imp (hx.all x hx') fun k hk => ⟨hk.1, fun e => hk.2 (by rw [e]; rfl)⟩
    have hown : (Value.slice (some ⟨b, 0, none⟩) xs.length cap).ownBlock = some b := rfl
    rw [hown] at hp
    have HI := Lib.hid (idx_path xs.length (some ⟨b, 0, none⟩) cap g lb (fun k => p (xs.getD k px0)) W hn hg (fun k W' hk hb => by
      refine ⟨b, 0, pxV xs[k], rfl, ?_, ?_⟩
      · rw [Nat.zero_add]; exact px_cell (hA.kept hb) k hk
      · rw [px_get hk]; exact hp _ (List.getElem_mem hk) W' (grown_of_below hb)))
    have HA := Lib.hid hA; have Hq0 := Lib.hid hq0; have HP := Lib.hid hp
    rcases idxP_cases (fun k => p (xs.getD k px0)) xs.length with ⟨k0, hk0, ht, hb, he⟩ | ⟨hb, he⟩
    · rw [he] at HI
      have hpk : p xs[k0] = true := by have h := ht; simp only [px_get hk0] at h; exact h
      have hstart := Lib.hid (show xs.take k0 = (xs.take (k0 + 1)).filter (fun x => !p x) by
        rw [List.take_succ_eq_append_getElem hk0, List.filter_append, List.filter_cons_of_neg (by simp [hpk]), List.filter_nil, List.append_nil]
        refine (List.filter_eq_self.2 fun x hx' => ?_).symm
        obtain ⟨k, hk, rfl⟩ := List.mem_iff_getElem.1 hx'
        have hk' : k < k0 := by simp at hk; omega
        have := hb k hk'
        rw [px_get (by omega)] at this
        simp [this])
      have hne1 : ((k0 : Int) == -1) = false := beq_eq_false_iff_ne.2 (by omega)
      clear hp hx hb he hA hq0 hown ht hpk
      go_enter Try.func80, Try.ntmps80
      go_wp2_with fail
      refine HI.out.mono ?_
      rintro e w1 ⟨rfl, hbel⟩
      have HA1 := Lib.hid (HA.out.kept hbel)
      have HG1 := Lib.hid (grown_of_below (r := some b) hbel)
      clear hbel HI
      go_wp2_with fail
      go_loopg [5, 6, 7] xs.length (fun gg s5 s6 _ wr => ∃ (i j : Nat) (zs : List PX), s5 = .int .i64 i ∧ s6 = .int .i64 j ∧ zs.length = xs.length ∧ i < j ∧ j ≤ xs.length ∧ xs.length - j ≤ gg ∧ Hid (zs.take i = (xs.take j).filter (fun x => !p x)) ∧ Hid (zs.drop j = xs.drop j) ∧ Hid (∀ z ∈ zs, z ∈ xs) ∧ Hid (At wr b (zs.map pxV ++ tl) 36) ∧ Hid (W.grownBy wr (some b)))
      case atStart => exact ⟨k0, k0 + 1, xs, rfl, by go_num, rfl, by omega, by omega, by omega, hstart, rfl, fun z hz => hz, HA1, HG1⟩
      case round =>
        obtain ⟨i, j, zs, rfl, rfl, hzl, hij, hjn, hgg, hdone, hrest, hmem, hAt, hgr⟩ := hrel
        by_cases hlt : j < xs.length
        · have hlti : (j : Int) < (xs.length : Int) := by omega
          have hiti : (i : Int) < (xs.length : Int) := by omega
          have hzj : zs[j] = xs[j] := by
            have h := hrest.out
            rw [List.drop_eq_getElem_cons hlt, List.drop_eq_getElem_cons (by omega)] at h
            exact (List.cons.inj h).1
          have cj := px_cell hAt.out j (by omega)
          have ci := px_cell hAt.out i (by omega)
          have cf : wr.frozen? ⟨b, i, none⟩ = false := Lib.frozen_of_heap hAt.out _
          rw [hzj] at cj
          have hC := HP.out xs[j] (List.getElem_mem hlt) wr hgr.out
          have Hxj := Lib.hid (show xs[j] ∈ xs from List.getElem_mem hlt)
          have Hst := Lib.hid (show xs.take (j + 1) = xs.take j ++ [xs[j]] from List.take_succ_eq_append_getElem hlt)
          have hcl1 : (pxV xs[j]).cells = #[pxV xs[j]] := rfl
          have Hbw := Lib.hid (At.lt hAt.out)
          generalize xs[j] = u at cj hC hzj Hxj Hst
          generalize zs[i] = old at ci
          obtain ⟨zu, za, zc⟩ := u
          cases hq : p (zu, za, zc) with
          | false =>
            rw [hq] at hC
            have HC := Lib.hid hC; have HQ := Lib.hid hq
            unfold pxV at cj HC
            clear hC hq hzj ci cf
            go_wp2_with fail
            refine HC.out.mono ?_
            rintro e w2 ⟨rfl, hbel⟩
            have HA2 := Lib.hid (hAt.out.kept hbel); have HG2 := Lib.hid (hgr.out.then hbel)
            have ci := px_cell HA2.out i (by omega)
            have cf : w2.frozen? ⟨b, i, none⟩ = false := Lib.frozen_of_heap HA2.out _
            have hi2 : i < zs.length := by omega
            generalize zs[i] = old at ci
            clear hbel HC cj
            go_wp2_with fail
            go_roundg (xs.length - (j + 1))
            case measure => omega
            case rel =>
              refine ⟨i + 1, j + 1, zs.set i (zu, za, zc), by go_num, by go_num, by rw [List.length_set]; exact hzl, by omega, by omega, Nat.le_refl _, ?_, ?_, ?_, ?_, HG2.out.set i _⟩
              · show (zs.set i (zu, za, zc)).take (i + 1) = (xs.take (j + 1)).filter (fun x => !p x)
                rw [Hst.out, List.filter_append, List.filter_cons_of_pos (by simp [HQ.out]), List.filter_nil, ← hdone.out, List.take_set, List.take_succ_eq_append_getElem hi2, List.set_append_right _ _ (by simp; omega)]
                simp [Nat.min_eq_left (Nat.le_of_lt hi2)]
              · show (zs.set i (zu, za, zc)).drop (j + 1) = xs.drop (j + 1)
                rw [List.drop_set_of_lt (by omega), ← List.drop_drop, ← List.drop_drop, hrest.out]
              · intro z hz
                rcases List.mem_or_eq_of_mem_set hz with h | h
                · exact hmem.out z h
                · rw [h]; exact Hxj.out
              · show At _ b ((zs.set i (zu, za, zc)).map pxV ++ tl) 36
                have h := HA2.out.set i (pxV (zu, za, zc))
                rw [List.set_append_left _ _ (by simpa using hi2), ← List.map_set] at h
                exact h
          | true =>
            rw [hq] at hC
            have HC := Lib.hid hC; have HQ := Lib.hid hq
            unfold pxV at cj HC
            clear hC hq ci cf hzj
            go_wp2_with fail
            refine HC.out.mono ?_
            rintro e w2 ⟨rfl, hbel⟩
            have HA2 := Lib.hid (hAt.out.kept hbel); have HG2 := Lib.hid (hgr.out.then hbel)
            clear hbel HC cj
            go_wp2_with fail
            go_roundg (xs.length - (j + 1))
            case measure => omega
            case rel =>
              refine ⟨i, j + 1, zs, rfl, by go_num, hzl, by omega, by omega, Nat.le_refl _, ?_, ?_, hmem, HA2, HG2⟩
              · show zs.take i = (xs.take (j + 1)).filter (fun x => !p x)
                rw [Hst.out, List.filter_append, List.filter_cons_of_neg (by simp [HQ.out]), List.filter_nil, List.append_nil]
                exact hdone.out
              · show zs.drop (j + 1) = xs.drop (j + 1)
                rw [← List.drop_drop, ← List.drop_drop, hrest.out]
        · obtain rfl : j = xs.length := by omega
          have hltz : ¬ (xs.length : Int) < (xs.length : Int) := by omega
          have hiti : (i : Int) ≤ (xs.length : Int) := by omega
          have hcl := fun ty => Lib.run_clear_slice (P := Try.prog) wr 44 36 ty (.slice none 0 0) Try.underlying44 (fun w => by kernel_rfl) rfl rfl b (0 + i) (xs.length - i) (cap - i) (by omega) (fun k hk => by
            have := px_cell hAt.out (i + k) (by omega)
            rw [Nat.zero_add, this]; rfl) (fun k hk => Lib.frozen_of_heap hAt.out _)
          rw [Nat.zero_add] at hcl
          have Hcut := Lib.hid (RowX.cut (i := i) (n := xs.length) hMb hAt.out (by omega) hcm (by omega) (fun x hx' => (Hq0.out x (hmem.out x hx')).grown hgr.out))
          have Hgs := Lib.hid (fun vs => World.grownBy.setCells vs i wr hgr.out)
          have Hfin := Lib.hid (show zs.take i = xs.filter (fun x => !p x) by have := hdone.out; rwa [List.take_length] at this)
          have Hlen : Hid ((zs.take i).length = i) := by show _ = _; simp; omega
          obtain ⟨vs, hvs⟩ : ∃ vs, vs = List.replicate (xs.length - i) (Value.slice none 0 0) := ⟨_, rfl⟩
          rw [← hvs] at hcl
          clear hAt hgr hvs
          go_wp2_with fail
          go_ret
          rw [← Hfin.out]
          refine ⟨.slice (some ⟨b, 0, none⟩) (zs.take i).length cap, by rw [Hlen.out]; rfl, Hcut.out vs, fun k hk => hk, Hgs.out vs⟩
    · rw [he] at HI
      have Hf := Lib.hid (show xs.filter (fun x => !p x) = xs from List.filter_eq_self.2 fun x hx' => by
        obtain ⟨k, hk, rfl⟩ := List.mem_iff_getElem.1 hx'
        have := hb k hk
        rw [px_get hk] at this
        simp [this])
      have Hx := Lib.hid hx
      clear hp hx hg hb he hA hq0 hown HP
      go_enter Try.func80, Try.ntmps80
      go_wp2_with fail
      refine HI.out.mono ?_
      rintro e w1 ⟨rfl, hbel⟩
      have Hb := Lib.hid hbel
      clear hbel HI
      go_wp2_with fail
      go_ret
      rw [Hf.out]
      exact ⟨_, rfl, Hx.out.below Hb.out, fun k hk => hk, grown_of_below Hb.out⟩

end Go.Proofs.Ytiinmgccjlmoaaa
