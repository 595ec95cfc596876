/- Walks: prop.Check. -/
import Derived.Test.YtmhgbocejjnoaaaDoorRW1
import Derived.Test.YtmhgbocejjnoaaaDoorRR5
namespace Go.Proofs.YtmhgbocejjnoaaaDoor
open Go.RowKit Go.Redl
set_option linter.unusedVariables false

/-- A box of two cells, behind more memory. -/
theorem box2_keep {w w1 : World} {c0 c1 : Value} {T : TypeId} (hb : Below (w.heap.size + 1) (w.alloc (.cells #[c0, c1] T)) w1) :
    w1.cell? ⟨w.heap.size, 0, none⟩ = some c0 ∧ w1.cell? ⟨w.heap.size, 1, none⟩ = some c1 := by
  have h : w1.heap[w.heap.size]? = some (.cells #[c0, c1] T (0, 0)) := by
    rw [hb.block w.heap.size (by omega)]
    exact heap_alloc_new w _
  refine ⟨?_, ?_⟩ <;> (rw [cell_of_row _ _ _ _ _ _ h]; rfl)
theorem below_then {B : Nat} {w w1 w2 : World} (h : Below B w w1) (h2 : Below w1.heap.size w1 w2) (hB : B ≤ w.heap.size) : Below B w w2 :=
  h.trans (h2.mono (Nat.le_trans hB h.size))

set_option maxRecDepth 100000 in
set_option maxHeartbeats 2000000 in
theorem pcheck_c (v : Value) (B : Nat) (ps : List PropD) (w : World) (hv : ∃ a cap, v = .slice a ps.length cap ∧ RowA w B 2 a ps.length cap (propCells ps)) (hB : B ≤ w.heap.size) (hn : propsWt ps ≤ 1000000000) :
    Calls Tryd.prog 62 #[v] w fun e w' => e = .returned (.int .i64 (propsE ps)) ∧ Below w.heap.size w w' := by
  obtain ⟨a, cap, rfl, hr⟩ := hv
  have hm := props_len hr
  by_cases h16 : 16 < ps.length
  · have He : Hid (propsE ps = if 16 < ps.length then 2 else propsGo [] ps) := rfl
    go_enter Tryd.func62, Tryd.ntmps62
    go_wp2_with fail
    go_ret
    exact ⟨ret_int (by rw [He.out, if_pos h16]), Below.refl _ _⟩
  · have He : Hid (propsE ps = propsGo [] ps) := by
      show propsE ps = _
      unfold propsE; rw [if_neg h16]
    go_enter Tryd.func62, Tryd.ntmps62
    go_wp2_with fail
    go_loopw [3, 11] (fun s i wr => ∃ (k : Nat) (q : List UInt8), k ≤ ps.length ∧ i = .int .i64 k ∧ s = .string ⟨q.toArray⟩ ∧ q = lastK ps k ∧ propsGo q (ps.drop k) = propsE ps ∧ Below w.heap.size w wr) (fun _ i _ => ps.length - (intOf i).toNat)
    case atStart => exact ⟨0, [], Nat.zero_le _, rfl, rfl, rfl, by rw [He.out]; rfl, Below.refl _ _⟩
    case round =>
      obtain ⟨k, q, hk, rfl, rfl, hq, hp, hbel⟩ := hrel
      have hr2 := hr.keep (hbel.mono hB) (Nat.le_refl _)
      have Hp := Lib.hid hp
      have Hb := Lib.hid hbel
      have Hq := Lib.hid hq
      clear hp hbel hq
      by_cases hlt : k < ps.length
      · have Hstep := Lib.hid (propsGo_step hlt)
        rw [← Hq.out] at Hstep
        obtain ⟨b, off, rfl, hb, hc0, hc1⟩ := hr2.prop_at k hlt
        have hmem := propsWt_mem (List.getElem_mem hlt)
        have HK := Lib.hid (key_c ps[k].1)
        have HV := Lib.hid (val_c ps[k].2)
        have hla : Hid (lastK ps (k + 1) = ps[k].1) := by show (ps.getD k ([], [])).1 = _; rw [getD_of_lt hlt]
        generalize ps[k] = p at hc0 hc1 hmem HK HV Hstep hla
        obtain ⟨p1, p2⟩ := p
        simp only at hc0 hc1 hmem HK HV Hstep hla
        have hl1 : p1.length ≤ 1000000000 := by omega
        have hl2 : p2.length ≤ 1000000000 := by omega
        have HK1 := fun W => Lib.hid (HK.out W hl1)
        have HV1 := fun W => Lib.hid (HV.out W hl2)
        clear HK HV hmem
        cases hkey : keyB p1
        · simp only [hkey] at HK1
          go_wp2_with fail
          refine (HK1 _).out.mono ?_
          rintro e w1 ⟨rfl, hbel⟩
          have Hb1 := Lib.hid (below_then Hb.out (below_unbox (below_box hbel)) (Nat.le_refl _))
          clear hbel
          go_wp2_with fail
          go_ret
          exact ⟨ret_int (by rw [← Hp.out, Hstep.out, hkey]; simp), Hb1.out⟩
        · simp only [hkey] at HK1
          cases hval : valB p2
          · simp only [hval] at HV1
            go_wp2_with fail
            refine (HK1 _).out.mono ?_
            rintro e w1 ⟨rfl, hbel⟩
            obtain ⟨x0, x1⟩ := box2_keep (below_box hbel)
            have Hb1 := Lib.hid (below_then Hb.out (below_unbox (below_box hbel)) (Nat.le_refl _))
            clear hbel
            go_wp2_with fail
            refine (HV1 _).out.mono ?_
            rintro e w2 ⟨rfl, hbel⟩
            have Hb2 := Lib.hid (below_then Hb1.out hbel (Nat.le_refl _))
            clear hbel x0 x1
            go_wp2_with fail
            go_ret
            exact ⟨ret_int (by rw [← Hp.out, Hstep.out, hkey, hval]; simp), Hb2.out⟩
          · simp only [hval] at HV1
            have Hkv : Hid (propsE ps = if leB p1 q = true then 1 else propsGo (lastK ps (k + 1)) (ps.drop (k + 1))) := by
              show propsE ps = _
              rw [← Hp.out, Hstep.out, hkey, hval]; simp
            have Hle : Hid (leB p1 q = (Op.bytesLess p1 q || p1 == q)) := rfl
            clear hkey hval
            cases hx : Op.bytesLess p1 q
            · cases hy : (p1 == q)
              · have Hlb : Hid (leB p1 q = false) := by show leB p1 q = false; rw [Hle.out, hx, hy]; rfl
                go_wp2_with fail
                refine (HK1 _).out.mono ?_
                rintro e w1 ⟨rfl, hbel⟩
                obtain ⟨x0, x1⟩ := box2_keep (below_box hbel)
                have Hb1 := Lib.hid (below_then Hb.out (below_unbox (below_box hbel)) (Nat.le_refl _))
                have Hbx := Lib.hid (below_box hbel)
                clear hbel
                go_wp2_with fail
                refine (HV1 _).out.mono ?_
                rintro e w2 ⟨rfl, hbel⟩
                obtain ⟨y0, y1⟩ := box2_keep (below_then Hbx.out hbel (by simp))
                have Hb2 := Lib.hid (below_then Hb1.out hbel (Nat.le_refl _))
                clear hbel x0 x1
                go_wp2_with fail
                go_roundw
                case rel => exact ⟨k + 1, p1, by omega, by go_num, rfl, hla.out.symm, by rw [Hkv.out, hla.out, Hlb.out]; simp, Hb2.out⟩
                case measure => simp [intOf]; omega
              · have Hlb : Hid (leB p1 q = true) := by show leB p1 q = true; rw [Hle.out, hx, hy]; rfl
                go_wp2_with fail
                refine (HK1 _).out.mono ?_
                rintro e w1 ⟨rfl, hbel⟩
                obtain ⟨x0, x1⟩ := box2_keep (below_box hbel)
                have Hb1 := Lib.hid (below_then Hb.out (below_unbox (below_box hbel)) (Nat.le_refl _))
                have Hbx := Lib.hid (below_box hbel)
                clear hbel
                go_wp2_with fail
                refine (HV1 _).out.mono ?_
                rintro e w2 ⟨rfl, hbel⟩
                obtain ⟨y0, y1⟩ := box2_keep (below_then Hbx.out hbel (by simp))
                have Hb2 := Lib.hid (below_then Hb1.out hbel (Nat.le_refl _))
                clear hbel x0 x1
                go_wp2_with fail
                go_ret
                exact ⟨ret_int (by rw [Hkv.out, Hlb.out]; simp), Hb2.out⟩
            · have Hlb : Hid (leB p1 q = true) := by show leB p1 q = true; rw [Hle.out, hx]; rfl
              go_wp2_with fail
              refine (HK1 _).out.mono ?_
              rintro e w1 ⟨rfl, hbel⟩
              obtain ⟨x0, x1⟩ := box2_keep (below_box hbel)
              have Hb1 := Lib.hid (below_then Hb.out (below_unbox (below_box hbel)) (Nat.le_refl _))
              have Hbx := Lib.hid (below_box hbel)
              clear hbel
              go_wp2_with fail
              refine (HV1 _).out.mono ?_
              rintro e w2 ⟨rfl, hbel⟩
              obtain ⟨y0, y1⟩ := box2_keep (below_then Hbx.out hbel (by simp))
              have Hb2 := Lib.hid (below_then Hb1.out hbel (Nat.le_refl _))
              clear hbel x0 x1
              go_wp2_with fail
              go_ret
              exact ⟨ret_int (by rw [Hkv.out, Hlb.out]; simp), Hb2.out⟩
      · obtain rfl : k = ps.length := by omega
        go_wp2_with fail
        go_ret
        exact ⟨ret_int (by rw [← Hp.out, propsGo_end]), Hb.out⟩

end Go.Proofs.YtmhgbocejjnoaaaDoor
