/- Walks: glyph.Quote. -/
import Derived.Test.YtmhgbocejjnoaaaDoorRF1
import Derived.Test.YtmhgbocejjnoaaaDoorRB1
namespace Go.Proofs.YtmhgbocejjnoaaaDoor
open Go.RowKit Go.Redl
set_option linter.unusedVariables false

theorem BldU.keep {w w' : World} {B b : Nat} {l : List UInt8} (h : BldU w B b l) (hb : Below w.heap.size w w') : BldU w' B b l := by
  obtain ⟨hB, v, hbk, hown, hne⟩ := h
  have hlt : b < w.heap.size := (Array.getElem?_eq_some_iff.1 hbk).1
  exact ⟨hB, v, (hb.block b hlt).trans hbk, own_keep hown hb, hne⟩
theorem BldU.cast {w : World} {B b : Nat} {l l' : List UInt8} (h : BldU w B b l) (e : l = l') : BldU w B b l' := e ▸ h
theorem TabAt.keep {w w' : World} {B : Nat} (h : TabAt w) (hb : Below B w w') (hg : 3 < B) : TabAt w' := by
  unfold TabAt at *; rw [← h]; exact hb.cell (p := ⟨_, 15, none⟩) hg

theorem check_valid {zs : List Int} (h : checkE zs = 0) : ∀ c ∈ zs, validB c = true := by
  intro c hc
  unfold checkE at h
  cases hv : validB c with
  | true => rfl
  | false =>
    have : (zs.any fun c => !validB c) = true := List.any_eq_true.2 ⟨c, hc, by simp [hv]⟩
    rw [this] at h
    cases h

theorem writeByte_n (B b : Nat) (l : List UInt8) (c : UInt8) (n : Int) (hc : (c.toNat : Int) = n) (w : World) (h : Bld w B b l) (hlen : l.length ≤ 100000000) (hBw : B ≤ w.heap.size) :
    Calls Tryd.prog 28 #[.pointer (some ⟨b, 0, none⟩), .int .u8 n] w (Wrote w B b (l ++ [c]) .nilIface) := by
  subst hc; exact writeByte_c B b l c w h hlen hBw

set_option maxRecDepth 100000 in
set_option maxHeartbeats 1000000 in
theorem quote_no (v : Value) (B : Nat) (zs : List Int) (w : World) (hv : Ints .i32 w B v zs) (he : checkE zs ≠ 0) :
    Calls Tryd.prog 12 #[v] w fun e w' => e = .returned (.tuple #[.string ⟨#[]⟩, .int .i64 4]) ∧ w = w' := by
  have H := check_c v B zs w hv
  have h4 : checkE zs = 4 := by unfold checkE at *; split <;> simp_all
  rw [h4] at H
  have H := Lib.hid H
  clear he h4 hv
  go_enter Tryd.func12, Tryd.ntmps12
  go_wp2_with fail
  refine H.out.mono ?_
  rintro e w' ⟨rfl, rfl⟩
  go_wp2_with fail
  go_ret2
  exact ⟨rfl, rfl⟩

set_option maxRecDepth 100000 in
set_option maxHeartbeats 1000000 in
theorem quote_ok (v : Value) (B : Nat) (zs : List Int) (w : World) (hv : Ints .i32 w B v zs) (hB : B ≤ w.heap.size) (he : checkE zs = 0) (hn : zs.length ≤ 2000000) (ht : TabAt w) (hg : 3 < w.heap.size) :
    Calls Tryd.prog 12 #[v] w fun e w' => e = .returned (.tuple #[.string ⟨(quoteL zs).toArray⟩, .int .i64 0]) ∧ Below w.heap.size w w' := by
  have H := check_c v B zs w hv
  rw [he] at H
  have Hc := Lib.hid H
  have Hval := Lib.hid (check_valid he)
  obtain ⟨⟨a, cap, rfl, hr⟩, -⟩ := hv
  have Ht := Lib.hid ht
  clear H he ht
  go_enter Tryd.func12, Tryd.ntmps12
  go_wp2_with fail
  refine Hc.out.mono ?_
  rintro e w' ⟨rfl, rfl⟩
  have HW := Lib.hid (writeByte_n w.heap.size w.heap.size [] 34 34 rfl (w.alloc (Obj.cells #[Value.pointer none, Value.slice none 0 0] 52)) (Lib.fresh_isBuilder 52 5 w) (by simp) (by simp))
  go_wp2_with fail
  refine HW.out.mono ?_
  rintro e w1 ⟨rfl, hbld, hbel⟩
  have hbel' := ((Below.refl w.heap.size w).alloc (Nat.le_refl _) (Obj.cells #[Value.pointer none, Value.slice none 0 0] 52)).trans hbel
  have Hbld := Lib.hid hbld; have Hb := Lib.hid hbel'
  clear HW hbld hbel hbel'
  go_wp2_with fail
  go_loopw [16] (fun i wr => ∃ k : Nat, k ≤ zs.length ∧ i = .int .i64 k ∧ BldU wr w.heap.size w.heap.size (34 :: bodyL (zs.take k)) ∧ Below w.heap.size w wr) (fun i _ => zs.length - (intOf i).toNat)
  case atStart => exact ⟨0, Nat.zero_le _, rfl, Hbld.out.cast (by simp [bodyL]), Hb.out⟩
  case round =>
    obtain ⟨k, hk, rfl, hbld, hbel⟩ := hrel
    clear Hbld Hb
    have hr2 := hr.keep (hbel.mono hB) (Nat.le_refl _)
    have hbl := body_len (zs.take k)
    have hlen : (34 :: bodyL (zs.take k)).length ≤ 44000001 := by simp at hbl ⊢; omega
    have Hlen := Lib.hid hlen
    have Hbld := Lib.hid hbld; have Hb := Lib.hid hbel
    clear hbld hbel hbl hlen
    by_cases hlt : k < zs.length
    · have hsucc := Lib.hid (body_succ zs k hlt)
      have hval := Hval.out zs[k] (List.getElem_mem hlt)
      obtain ⟨b, off, rfl, hb, hall⟩ := hr2.int_at k hlt
      have hcell := hall k hlt
      clear hall
      rw [getD_of_lt hlt] at hcell
      obtain ⟨c, hc⟩ : ∃ c, zs[k] = c := ⟨_, rfl⟩
      rw [hc] at hcell hval hsucc
      clear hc
      have HP := plain_c c wr
      cases hp : plainB c
      · rw [hp] at HP
        obtain ⟨hv0, hv1⟩ := valid_bound hval
        obtain ⟨n, rfl⟩ := Int.eq_ofNat_of_zero_le hv0
        have hq : qb (n : Int) = escL n := by unfold qb; rw [if_neg (by simp [hp])]; simp
        rw [hq] at hsucc
        have HP1 := Lib.hid HP
        have HE := Lib.hid (escaped_c n wr (by omega) (Ht.out.keep Hb.out hg) (Nat.lt_of_lt_of_le hg Hb.out.size))
        have Hs := Lib.hid hsucc
        clear hval hp hq hsucc HP hv0
        go_wp2_with fail
        refine HP1.out.mono ?_
        rintro e w' ⟨rfl, rfl⟩
        go_wp2_with fail
        refine HE.out.mono ?_
        rintro e w2 ⟨rfl, hbel2⟩
        have hlen2 := escL_len n
        have HR := Lib.hid (writeString_c w.heap.size w.heap.size _ (escL n) w2 (Hbld.out.keep hbel2).bld (by have := Hlen.out; omega) (Nat.le_trans Hb.out.size hbel2.size))
        have Hb2 := Lib.hid (Hb.out.trans (hbel2.mono Hb.out.size))
        clear hbel2 hlen2
        go_wp2_with fail
        refine HR.out.mono ?_
        rintro e w3 ⟨rfl, hbld3, hbel3⟩
        have Hbld3 := Lib.hid hbld3; have Hb3 := Lib.hid (Hb2.out.trans hbel3)
        clear hbld3 hbel3
        go_wp2_with fail
        go_roundw
        case rel => exact ⟨k + 1, by omega, by go_num, Hbld3.out.cast (by rw [Hs.out]; simp), Hb3.out⟩
        case measure => simp [intOf]; omega
      · rw [hp] at HP
        have hq : qb c = [UInt8.ofNat c.toNat] := by unfold qb; rw [if_pos hp]
        rw [hq] at hsucc
        obtain ⟨hp0, hp1⟩ := plain_bound hp
        have HP1 := Lib.hid HP
        clear HP
        have HR := Lib.hid (writeRune_c w.heap.size w.heap.size _ c wr Hbld.out.bld (by have := Hlen.out; omega) Hb.out.size hp0 hp1)
        have Hs := Lib.hid hsucc
        clear hval hp hq hsucc
        go_wp2_with fail
        refine HP1.out.mono ?_
        rintro e w' ⟨rfl, rfl⟩
        go_wp2_with fail
        refine HR.out.mono ?_
        rintro e w2 ⟨rfl, hbld2, hbel2⟩
        have Hbld2 := Lib.hid hbld2; have Hb2 := Lib.hid (Hb.out.trans hbel2)
        clear hbld2 hbel2
        go_wp2_with fail
        go_roundw
        case rel => exact ⟨k + 1, by omega, by go_num, Hbld2.out.cast (by rw [Hs.out]; simp), Hb2.out⟩
        case measure => simp [intOf]; omega
    · have : k = zs.length := by omega
      subst this
      have HW := Lib.hid (writeByte_n w.heap.size w.heap.size _ 34 34 rfl wr Hbld.out.bld (by have := Hlen.out; omega) Hb.out.size)
      go_wp2_with fail
      refine HW.out.mono ?_
      rintro e w2 ⟨rfl, hbld2, hbel2⟩
      have HS := Lib.hid (string_c w.heap.size w.heap.size _ w2 hbld2.bld (by simp))
      have Hb2 := Lib.hid (Hb.out.trans hbel2)
      clear hbld2 hbel2 HW
      go_wp2_with fail
      refine HS.out.mono ?_
      rintro e w3 ⟨rfl, hbel3⟩
      have Hb3 := Lib.hid (Hb2.out.trans hbel3)
      clear hbel3 HS
      go_wp2_with fail
      go_ret2
      exact ⟨rfl, Hb3.out⟩

end Go.Proofs.YtmhgbocejjnoaaaDoor
