/- Walks: the reference of prop: Check. -/
import Derived.Test.YtmhgbocejjnoaaaDoorRR2
import Derived.Laws.Cover1
namespace Go.Proofs.YtmhgbocejjnoaaaDoor
open Go.RowKit Go.Redl
set_option linter.unusedVariables false

theorem props_len {w : World} {B cap n : Nat} {a : Option Addr} {cs : List Value} {sz : Nat} (h : RowA w B sz a n cap cs) : n ≤ 9223372036854775807 := by
  have h1 := h.le; have h2 := h.max; unfold maxLen at h2; omega
theorem str_le (a b : List UInt8) : (Op.bytesLess (⟨a.toArray⟩ : ByteArray).toList (⟨b.toArray⟩ : ByteArray).toList || (⟨a.toArray⟩ : ByteArray).toList == (⟨b.toArray⟩ : ByteArray).toList) = leB a b := by
  rw [ByteArray.toList_mk, ByteArray.toList_mk]; rfl
theorem leB_nil {p : List UInt8} (h : keyB p = true) : leB p [] = false := by
  unfold keyB at h
  cases p with
  | nil => simp at h
  | cons c p => simp [leB, Op.bytesLess]

set_option maxRecDepth 100000 in
set_option maxHeartbeats 1000000 in
theorem rpcheck_c (v : Value) (B : Nat) (ps : List PropD) (w : World) (hv : ∃ a cap, v = .slice a ps.length cap ∧ RowA w B 2 a ps.length cap (propCells ps)) (hB : B ≤ w.heap.size) (hn : propsWt ps ≤ 1000000000) :
    Calls Tryd.prog 63 #[v] w fun e w' => e = .returned (.int .i64 (propsE ps)) ∧ Below w.heap.size w w' := by
  obtain ⟨a, cap, rfl, hr⟩ := hv
  have hm := props_len hr
  by_cases h16 : 16 < ps.length
  · have He : Hid (propsE ps = if 16 < ps.length then 2 else propsGo [] ps) := rfl
    go_enter Tryd.func63, Tryd.ntmps63
    go_wp2_with fail
    go_ret
    exact ⟨ret_int (by rw [He.out, if_pos h16]), Below.refl _ _⟩
  · have He : Hid (propsE ps = propsGo [] ps) := by
      show propsE ps = _
      unfold propsE; rw [if_neg h16]
    go_enter Tryd.func63, Tryd.ntmps63
    go_wp2_with fail
    go_loopw [10] (fun i wr => ∃ k : Nat, k ≤ ps.length ∧ i = .int .i64 k ∧ propsGo (lastK ps k) (ps.drop k) = propsE ps ∧ Below w.heap.size w wr) (fun i _ => ps.length - (intOf i).toNat)
    case atStart => exact ⟨0, Nat.zero_le _, rfl, by rw [He.out]; rfl, Below.refl _ _⟩
    case round =>
      obtain ⟨k, hk, rfl, hp, hbel⟩ := hrel
      have hr2 := hr.keep (hbel.mono hB) (Nat.le_refl _)
      have Hp := Lib.hid hp
      have Hb := Lib.hid hbel
      clear hp hbel
      by_cases hlt : k < ps.length
      · have Hstep := Lib.hid (propsGo_step hlt)
        obtain ⟨b, off, rfl, hb, hc0, hc1⟩ := hr2.prop_at k hlt
        have hmem := propsWt_mem (List.getElem_mem hlt)
        have HK := Lib.hid (rkey_c ps[k].1)
        have HV := Lib.hid (rval_c ps[k].2)
        have hin := Lib.hid (List.getElem_mem hlt)
        generalize ps[k] = p at hc0 hc1 hmem HK HV Hstep
        obtain ⟨p1, p2⟩ := p
        simp only at hc0 hc1 hmem HK HV Hstep
        have hl1 : p1.length ≤ 1000000000 := by omega
        have hl2 : p2.length ≤ 1000000000 := by omega
        have HK1 := fun W => Lib.hid (HK.out W hl1)
        have HV1 := fun W => Lib.hid (HV.out W hl2)
        clear HK HV hmem
        cases hkey : keyB p1
        · simp only [hkey] at HK1
          go_wp2_with fail
          refine (HK1 _).out.mono ?_
          rintro e w1 ⟨rfl, rfl⟩
          go_wp2_with fail
          go_ret
          exact ⟨ret_int (by rw [← Hp.out, Hstep.out, hkey]; simp), Hb.out.alloc Hb.out.size _⟩
        · simp only [hkey] at HK1
          cases hval : valB p2
          · simp only [hval] at HV1
            go_wp2_with fail
            refine (HK1 _).out.mono ?_
            rintro e w1 ⟨rfl, rfl⟩
            go_wp2_with fail
            refine (HV1 _).out.mono ?_
            rintro e w1 ⟨rfl, rfl⟩
            go_wp2_with fail
            go_ret
            exact ⟨ret_int (by rw [← Hp.out, Hstep.out, hkey, hval]; simp), Hb.out.alloc Hb.out.size _⟩
          · simp only [hval] at HV1
            have Hkv : Hid (propsE ps = if leB p1 (lastK ps k) = true then 1 else propsGo (lastK ps (k + 1)) (ps.drop (k + 1))) := by
              show propsE ps = _
              rw [← Hp.out, Hstep.out, hkey, hval]; simp
            have Hkey := Lib.hid hkey
            clear hkey hval
            cases k with
            | zero =>
              rw [Nat.zero_mul, Nat.add_zero] at hc0 hc1
              go_wp2_with fail
              refine (HK1 _).out.mono ?_
              rintro e w1 ⟨rfl, rfl⟩
              go_wp2_with fail
              refine (HV1 _).out.mono ?_
              rintro e w1 ⟨rfl, rfl⟩
              go_wp2_with fail
              go_quiet (fail)
              go_wp2_with fail
              go_roundw
              case rel => exact ⟨1, by omega, by go_num, by rw [Hkv.out, show lastK ps 0 = [] from rfl, leB_nil Hkey.out]; simp, below_drewN (Hb.out.alloc Hb.out.size _) _⟩
              case measure => simp [intOf]; omega
            | succ j =>
              obtain ⟨b', off', hbb, hb2, hd0, hd1⟩ := hr2.prop_at j (by omega)
              simp only [Option.some.injEq, Addr.mk.injEq, and_true] at hbb
              obtain ⟨rfl, rfl⟩ := hbb
              have hla : Hid (lastK ps (j + 1) = ps[j].1) := by show (ps.getD j ([], [])).1 = _; rw [getD_of_lt (by omega)]
              generalize ps[j] = q at hd0 hd1 hla
              obtain ⟨q1, q2⟩ := q
              simp only at hd0 hd1 hla
              have Hle : Hid (leB p1 q1 = (Op.bytesLess p1 q1 || p1 == q1)) := rfl
              have hw1 : IntKind.i64.wrap ((j : Int) + 1 - 1) = j := by rw [IntWalk.i64_in _ (by omega)]; omega
              have hw2 : IntKind.i64.wrap (j : Int) = j := IntWalk.i64_in _ (by omega)
              have hblt : b < wr.heap.size := Nat.lt_of_lt_of_le hb2 (Nat.le_trans hB Hb.out.size)
              have hd2 : (wr.alloc (Obj.cells #[Value.string { data := p1.toArray }, Value.string { data := p2.toArray }] 47)).cell? ⟨b, off + j * 2, none⟩ = some (.string ⟨q1.toArray⟩) := by rw [World.cell?_alloc_lt _ _ _ hblt]; exact hd0
              have hjl : (j : Int) < (ps.length : Int) := by omega
              have hjl2 : j < ps.length := by omega
              have hgd : decide ((0 : Int) < (j : Int) + 1) = true := decide_eq_true (by omega)
              cases hx : Op.bytesLess p1 q1
              · cases hy : (p1 == q1)
                · have Hlb : Hid (leB p1 q1 = false) := by show leB p1 q1 = false; rw [Hle.out, hx, hy]; rfl
                  go_wp2_with fail
                  refine (HK1 _).out.mono ?_
                  rintro e w1 ⟨rfl, rfl⟩
                  go_wp2_with fail
                  refine (HV1 _).out.mono ?_
                  rintro e w1 ⟨rfl, rfl⟩
                  go_wp2_with fail
                  go_quiet (fail)
                  go_wp2_with fail
                  go_roundw
                  case rel => exact ⟨j + 1 + 1, by omega, by go_num, by rw [Hkv.out, hla.out, Hlb.out]; simp, below_drewN (Hb.out.alloc Hb.out.size _) _⟩
                  case measure => simp [intOf]; omega
                · have Hlb : Hid (leB p1 q1 = true) := by show leB p1 q1 = true; rw [Hle.out, hx, hy]; rfl
                  go_wp2_with fail
                  refine (HK1 _).out.mono ?_
                  rintro e w1 ⟨rfl, rfl⟩
                  go_wp2_with fail
                  refine (HV1 _).out.mono ?_
                  rintro e w1 ⟨rfl, rfl⟩
                  go_wp2_with fail
                  go_quiet (fail)
                  go_wp2_with fail
                  go_ret
                  exact ⟨ret_int (by rw [Hkv.out, hla.out, Hlb.out]; simp), below_drewN (Hb.out.alloc Hb.out.size _) _⟩
              · have Hlb : Hid (leB p1 q1 = true) := by show leB p1 q1 = true; rw [Hle.out, hx]; rfl
                go_wp2_with fail
                refine (HK1 _).out.mono ?_
                rintro e w1 ⟨rfl, rfl⟩
                go_wp2_with fail
                refine (HV1 _).out.mono ?_
                rintro e w1 ⟨rfl, rfl⟩
                go_wp2_with fail
                go_quiet (fail)
                go_wp2_with fail
                go_ret
                exact ⟨ret_int (by rw [Hkv.out, hla.out, Hlb.out]; simp), below_drewN (Hb.out.alloc Hb.out.size _) _⟩
      · obtain rfl : k = ps.length := by omega
        go_wp2_with fail
        go_ret
        exact ⟨ret_int (by rw [← Hp.out, propsGo_end]), Hb.out⟩

end Go.Proofs.YtmhgbocejjnoaaaDoor
