/- Walks: strings.Builder (made by the call itself, only written, then read once). After the shelf's own walks of these methods. -/
import Derived.Test.YtmhgbocejjnoaaaDoorRG1
import Derived.Deep.RegionWith
import Derived.Deep.RegionLaw
import Derived.Lib.Builder
import Derived.Lib.AppendStr
namespace Go.Proofs.YtmhgbocejjnoaaaDoor
open Go.RowKit Go.Redl
set_option linter.unusedVariables false

theorem info_u8 : (Tryd.prog.info? 5).map (fun i => (i.zero, i.size, i.bytes)) = some (some (.int .u8 0), 1, 1) := by kernel_rfl
theorem size_builder : (Tryd.prog.info? 52).map (·.size) = some 2 := by kernel_rfl
theorem lies_builder : liesAt Tryd.prog Tryd.prog.depth 52 (2 / Tryd.prog.cellsOf 52) 0 52 1 = true := by kernel_rfl

/-- Block b, from B on, is a builder that holds the bytes l. -/
def Bld (w : World) (B b : Nat) (l : List UInt8) : Prop := Lib.IsBuilder 52 5 B b (Lib.byteCells l) w
/-- .. and has been written. -/
def BldU (w : World) (B b : Nat) (l : List UInt8) : Prop := Lib.BuilderAt 52 5 B b (.pointer (some ⟨b, 0, none⟩)) (Lib.byteCells l) w
theorem BldU.bld {w : World} {B b : Nat} {l : List UInt8} (h : BldU w B b l) : Bld w B b l := .inr h

set_option maxRecDepth 100000 in
set_option maxHeartbeats 400000 in
theorem copyCheck_old (b : Nat) (w : World) (h0 : w.cell? ⟨b, 0, none⟩ = some (.pointer (some ⟨b, 0, none⟩))) :
    Calls Tryd.prog 52 #[.pointer (some ⟨b, 0, none⟩)] w fun e w' => e = .returned (.tuple #[]) ∧ w = w' := by
  obtain ⟨j, hj, _⟩ := Option.map_eq_some_iff.1 size_builder
  go_enter Tryd.func52, Tryd.ntmps52
  go_wp2_with fail
  rw [Lib.run_neq_ptr_same w _ Tryd.underlying50 hj]
  go_wp2_with fail
  go_end0
  exact ⟨rfl, rfl⟩

set_option maxRecDepth 100000 in
set_option maxHeartbeats 400000 in
theorem copyCheck_new (b : Nat) (w : World) (h0 : w.cell? ⟨b, 0, none⟩ = some (.pointer none)) (hsh : w.shape? b = some (52, 2)) (hfz : w.frozen? ⟨b, 0, none⟩ = false) :
    Calls Tryd.prog 52 #[.pointer (some ⟨b, 0, none⟩)] w fun e w' => e = .returned (.tuple #[]) ∧ w.setCell ⟨b, 0, none⟩ (.pointer (some ⟨b, 0, none⟩)) = w' := by
  obtain ⟨j, hj, hjs⟩ := Option.map_eq_some_iff.1 size_builder
  go_enter Tryd.func52, Tryd.ntmps52
  go_wp2_with fail
  rw [Lib.run_to_unsafe w ⟨b, 0, none⟩ Tryd.underlying50 Tryd.underlying96 hj (by rw [hjs]; decide) hsh (Nat.zero_lt_succ 1)]
  simp only [Result.andThen]
  rw [Oper.upon_value]
  go_wp2_with fail
  rw [run_callFunc_extern Tryd.func68 (by kernel_rfl) (by kernel_rfl) (by kernel_rfl) (e := Extern.AbiNoEscape.same) (by kernel_rfl)]
  rw [Lib.run_noEscape]
  simp only [Result.andThen]
  rw [Oper.upon_value]
  go_wp2_with fail
  rw [Lib.run_from_unsafe w ⟨b, 0, none⟩ Tryd.underlying96 Tryd.underlying50 hj hsh lies_builder]
  simp only [Result.andThen]
  rw [Oper.upon_value]
  go_wp2_with fail
  go_end0
  exact ⟨rfl, rfl⟩

theorem copyCheck_c (B b : Nat) (l : List UInt8) (w : World) (h : Bld w B b l) :
    Calls Tryd.prog 52 #[.pointer (some ⟨b, 0, none⟩)] w fun e w' => e = .returned (.tuple #[]) ∧ BldU w' B b l ∧ Below B w w' := by
  rcases h with h | h
  · refine (copyCheck_new b w h.cell0 h.shape h.frozen0).mono ?_
    rintro e w' ⟨rfl, rfl⟩
    exact ⟨rfl, h.used _, (Below.refl B w).setCell (p := ⟨b, 0, none⟩) h.1 _⟩
  · refine (copyCheck_old b w h.cell0).mono ?_
    rintro e w' ⟨rfl, rfl⟩
    exact ⟨rfl, h, Below.refl B _⟩

/-- What a writing method leaves. -/
def Wrote (w : World) (B b : Nat) (l : List UInt8) (v : Value) (e : Ending) (w' : World) : Prop := e = .returned v ∧ BldU w' B b l ∧ Below B w w'

set_option maxRecDepth 100000 in
set_option maxHeartbeats 1000000 in
theorem writeByte_c (B b : Nat) (l : List UInt8) (c : UInt8) (w : World) (h : Bld w B b l) (hlen : l.length ≤ 100000000) (hBw : B ≤ w.heap.size) :
    Calls Tryd.prog 28 #[.pointer (some ⟨b, 0, none⟩), .int .u8 c.toNat] w (Wrote w B b (l ++ [c]) .nilIface) := by
  have H := Lib.hid (copyCheck_c B b l w h)
  clear h
  go_enter Tryd.func28, Tryd.ntmps28
  go_wp2_with fail
  refine H.out.mono ?_
  rintro e w1 ⟨rfl, h1, hb1⟩
  obtain ⟨hB, v, hbk, hown, hne⟩ := h1
  have hlenc : (Lib.byteCells l).length = l.length := by simp [Lib.byteCells]
  have c0 : w1.cell? ⟨b, 0, none⟩ = some (.pointer (some ⟨b, 0, none⟩)) := by rw [Lib.cell_of_heap hbk]; rfl
  have c1 : w1.cell? ⟨b, 1, none⟩ = some v := by rw [Lib.cell_of_heap hbk]; rfl
  have hlt : b < w1.heap.size := (Array.getElem?_eq_some_iff.1 hbk).1
  have Hbk := Lib.hid hbk; have Ho := Lib.hid hown; have Hne := Lib.hid hne; have Hb1 := Lib.hid hb1; have Hlc := Lib.hid hlenc
  clear hbk hown hne hb1 hlenc H
  go_wp2_with (at_builtin; refine wpList_app rfl _ _ 41 rfl B 5 (.int .u8 0) 1 1 Tryd.underlying41 info_u8 rfl (by decide) _ _ _ rfl (Ho.out.alloc _) (some ⟨w1.heap.size, 0, none⟩) 1 1 (w1.heap.size + 1) [.int .u8 c.toNat] rfl ?hr ?c3 ?c4 ?c5 ?_)
  case hr => exact row_one _ _ _ _ rfl
  case c3 => rw [Hlc.out]; unfold maxLen; omega
  case c4 => rw [Hlc.out]; omega
  case c5 => have := Hb1.out.size; simp; omega
  intro v' w2 hown' hgrow
  have hb2 : w2.heap[b]? = some (.cells #[.pointer (some ⟨b, 0, none⟩), v] 52 (0, 0)) := by
    rw [hgrow.block b (by simp; omega) (fun e => Hne.out e.symm), Lib.alloc_old w1 _ b hlt]
    exact Hbk.out
  have d0 : w2.cell? ⟨b, 0, none⟩ = some (.pointer (some ⟨b, 0, none⟩)) := by rw [Lib.cell_of_heap hb2]; rfl
  have d1 : w2.cell? ⟨b, 1, none⟩ = some v := by rw [Lib.cell_of_heap hb2]; rfl
  have f1 : w2.frozen? ⟨b, 1, none⟩ = false := Lib.frozen_of_heap hb2 1
  obtain ⟨ao, n', cap, rfl⟩ : ∃ ao n' cap, v' = .slice ao n' cap := by
    rcases hown'.2 with ⟨hv, _⟩ | ⟨g, cap, cur, hv, _⟩
    · exact ⟨_, _, _, hv⟩
    · exact ⟨_, _, _, hv⟩
  have hbel := (((Hb1.out.alloc (by have := Hb1.out.size; omega) _).grown hgrow (by have := Hb1.out.size; simp; omega) (fun k hk => (Ho.out.lt k hk).1)).setCell (p := ⟨b, 1, none⟩) hB (.slice ao n' cap))
  have Ho2 := Lib.hid hown'; have Hb2 := Lib.hid hb2; have Hbel := Lib.hid hbel
  clear hown' hb2 hgrow hbel
  go_wp2_with fail
  go_ret
  refine ⟨rfl, ?_, Hbel.out⟩
  have := Ho2.out
  refine Lib.BuilderAt.put (T := 52) (e := 5) hB Hb2.out ?_ (by decide)
  have e : Lib.byteCells (l ++ [c]) = Lib.byteCells l ++ [.int .u8 c.toNat] := by simp [Lib.byteCells]
  rw [e, List.length_append]
  exact this

set_option maxRecDepth 100000 in
set_option maxHeartbeats 1000000 in
theorem writeString_c (B b : Nat) (l s : List UInt8) (w : World) (h : Bld w B b l) (hlen : l.length + s.length ≤ 100000000) (hBw : B ≤ w.heap.size) :
    Calls Tryd.prog 31 #[.pointer (some ⟨b, 0, none⟩), .string ⟨s.toArray⟩] w (Wrote w B b (l ++ s) (.tuple #[.int .i64 s.length, .nilIface])) := by
  obtain ⟨i0, hi, hz0, hz1, hz2⟩ := info_parts info_u8
  have H := Lib.hid (copyCheck_c B b l w h)
  clear h
  have Hi := Lib.hid hi; have Hz0 := Lib.hid hz0; have Hz1 := Lib.hid hz1; have Hz2 := Lib.hid hz2
  clear hi hz0 hz1 hz2
  go_enter Tryd.func31, Tryd.ntmps31
  go_wp2_with fail
  refine H.out.mono ?_
  rintro e w1 ⟨rfl, h1, hb1⟩
  obtain ⟨hB, v, hbk, hown, hne⟩ := h1
  have hlenc : (Lib.byteCells l).length = l.length := by simp [Lib.byteCells]
  have c0 : w1.cell? ⟨b, 0, none⟩ = some (.pointer (some ⟨b, 0, none⟩)) := by rw [Lib.cell_of_heap hbk]; rfl
  have c1 : w1.cell? ⟨b, 1, none⟩ = some v := by rw [Lib.cell_of_heap hbk]; rfl
  have hlt : b < w1.heap.size := (Array.getElem?_eq_some_iff.1 hbk).1
  have Hbk := Lib.hid hbk; have Ho := Lib.hid hown; have Hne := Lib.hid hne; have Hb1 := Lib.hid hb1; have Hlc := Lib.hid hlenc
  clear hbk hown hne hb1 hlenc H
  go_wp2_with (at_builtin; refine Lib.wpList_append_own_string _ rfl _ _ 41 9 rfl B 5 i0 Tryd.underlying41 Tryd.underlying9 Hi.out Hz0.out Hz1.out Hz2.out _ _ _ rfl Ho.out ⟨s.toArray⟩ rfl ?c3 ?c4 ?c5 ?_)
  case c3 => rw [Hlc.out]; unfold maxLen; simp [ByteArray.size]; omega
  case c4 => rw [Hlc.out]; simp [ByteArray.size]; omega
  case c5 => have := Hb1.out.size; omega
  intro v' w2 hown' hgrow _
  have hb2 : w2.heap[b]? = some (.cells #[.pointer (some ⟨b, 0, none⟩), v] 52 (0, 0)) := by
    rw [hgrow.block b hlt (fun e => Hne.out e.symm)]
    exact Hbk.out
  have d0 : w2.cell? ⟨b, 0, none⟩ = some (.pointer (some ⟨b, 0, none⟩)) := by rw [Lib.cell_of_heap hb2]; rfl
  have d1 : w2.cell? ⟨b, 1, none⟩ = some v := by rw [Lib.cell_of_heap hb2]; rfl
  have f1 : w2.frozen? ⟨b, 1, none⟩ = false := Lib.frozen_of_heap hb2 1
  obtain ⟨ao, n', cap, rfl⟩ : ∃ ao n' cap, v' = .slice ao n' cap := by
    rcases hown'.2 with ⟨hv, _⟩ | ⟨g, cap, cur, hv, _⟩
    · exact ⟨_, _, _, hv⟩
    · exact ⟨_, _, _, hv⟩
  have hbel := ((Hb1.out.grown hgrow (by have := Hb1.out.size; omega) (fun k hk => (Ho.out.lt k hk).1)).setCell (p := ⟨b, 1, none⟩) hB (.slice ao n' cap))
  have Ho2 := Lib.hid hown'; have Hb2 := Lib.hid hb2; have Hbel := Lib.hid hbel
  clear hown' hb2 hgrow hbel
  go_wp2_with fail
  go_ret2
  refine ⟨?_, ?_, Hbel.out⟩
  · simp
  have := Ho2.out
  refine Lib.BuilderAt.put (T := 52) (e := 5) hB Hb2.out ?_ (by decide)
  have e : Lib.byteCells (l ++ s) = Lib.byteCells l ++ Lib.strCells ⟨s.toArray⟩ := by simp [Lib.byteCells, Lib.strCells]
  rw [e, List.length_append, Lib.strCells_length]
  exact this

set_option maxRecDepth 100000 in
set_option maxHeartbeats 1000000 in
theorem string_c (B b : Nat) (l : List UInt8) (w : World) (h : Bld w B b l) (h0 : l ≠ []) :
    Calls Tryd.prog 20 #[.pointer (some ⟨b, 0, none⟩)] w fun e w' => e = .returned (.string ⟨l.toArray⟩) ∧ Below B w w' := by
  obtain ⟨p, hB, v, hbk, hown, hne⟩ : ∃ p, Lib.BuilderAt 52 5 B b p (Lib.byteCells l) w := by
    rcases h with h | h
    · exact ⟨_, h⟩
    · exact ⟨_, h⟩
  have hl0 : l.length ≠ 0 := by simpa using h0
  rw [Lib.byteCells_length] at hown
  obtain ⟨g, cap, cur, rfl, hbg, hg, hnc, hcm, hcs, htake⟩ : ∃ g cap cur, v = .slice (some ⟨g, 0, none⟩) l.length cap ∧ B ≤ g ∧ w.heap[g]? = some (.cells cur 5 (0, 0)) ∧ l.length ≤ cap ∧ cap ≤ maxLen ∧ cur.size = cap * 1 ∧ cur.toList.take (l.length * 1) = Lib.byteCells l := by
    rcases hown.2 with ⟨_, hz⟩ | ⟨g, cap, cur, hv, r⟩
    · exact absurd hz hl0
    · exact ⟨g, cap, cur, hv, r⟩
  have c1 : w.drew.cell? ⟨b, 1, none⟩ = some (.slice (some ⟨g, 0, none⟩) l.length cap) := by
    have : w.drew.heap[b]? = some (.cells #[p, .slice (some ⟨g, 0, none⟩) l.length cap] 52 (0, 0)) := hbk
    rw [Lib.cell_of_heap this]; rfl
  have hSD : (Builtin.unsafeSliceData_ #[41] 79 #[.slice (some ⟨g, 0, none⟩) l.length cap]).run Tryd.prog w.drew = .ok (.pointer (some ⟨g, 0, none⟩)) w.drew :=
    Lib.run_unsafeSliceData_row _ _ _ _ _ _ (by omega)
  have hUS : (Builtin.unsafeString_ #[79, 3] 9 #[.pointer (some ⟨g, 0, none⟩), .int .i64 l.length]).run Tryd.prog w.drew = .ok (.string ⟨l.toArray⟩) (w.drew.freeze ⟨g, 0, none⟩ l.length) := by
    refine Lib.run_unsafeString_row w.drew 79 3 9 5 Tryd.underlying79 (by kernel_rfl) g cur.size (by have hg' : w.drew.heap[g]? = some (.cells cur 5 (0, 0)) := hg; simp [World.shape?, hg']) l h0 (by omega) (by unfold maxLen at hcm; omega) ?_
    intro j x hx
    have := hown.cells (g := g) rfl j (.int .u8 x.toNat) (by simp [Lib.byteCells, hx])
    exact this
  clear hne hown hl0 h0 hcs htake hg hbk h
  go_enter Tryd.func20, Tryd.ntmps20
  go_wp2_with fail
  go_region
  all_goals (go_wp2_with fail; go_ret; exact ⟨rfl, Lib.below_freeze (Below.drew (Below.refl B w)) (p := ⟨g, 0, none⟩) hbg _⟩)

set_option maxRecDepth 100000 in
set_option maxHeartbeats 1000000 in
theorem appendRune_c (B n : Nat) (v : Value) (cs : List Value) (c : Int) (w : World) (hown : w.ownsRow B 5 1 v n cs) (hB : B ≤ w.heap.size) (h0 : 0 ≤ c) (h1 : c ≤ 127) (hn : n ≤ 100000000) :
    Calls Tryd.prog 53 #[v, .int .i32 c] w fun e w' => ∃ v', e = .returned v' ∧ w'.ownsRow B 5 1 v' (n + 1) (cs ++ [.int .u8 c]) ∧ w.grownBy w' v.ownBlock := by
  have Ho := Lib.hid hown
  clear hown
  go_enter Tryd.func53, Tryd.ntmps53
  go_wp2_with (at_builtin; refine wpList_app rfl _ _ 41 rfl B 5 (.int .u8 0) 1 1 Tryd.underlying41 info_u8 rfl (by decide) _ _ _ rfl (Ho.out.alloc _) (some ⟨w.heap.size, 0, none⟩) 1 1 (w.heap.size + 1) [.int .u8 c] rfl ?hr ?c3 ?c4 ?c5 ?_)
  case hr => exact row_one _ _ _ _ rfl
  case c3 => unfold maxLen; omega
  case c4 => omega
  case c5 => simp; omega
  intro v' w2 hown' hgrow
  have Ho2 := Lib.hid hown'; have Hg := Lib.hid hgrow
  clear hown' hgrow
  go_wp2_with fail
  go_ret
  exact ⟨v', rfl, Ho2.out, grownBy_trans (World.grownBy_alloc w _ _) Hg.out⟩

set_option maxRecDepth 100000 in
set_option maxHeartbeats 1000000 in
theorem writeRune_c (B b : Nat) (l : List UInt8) (c : Int) (w : World) (h : Bld w B b l) (hlen : l.length ≤ 100000000) (hBw : B ≤ w.heap.size) (h0 : 0 ≤ c) (h1 : c ≤ 127) :
    Calls Tryd.prog 30 #[.pointer (some ⟨b, 0, none⟩), .int .i32 c] w (Wrote w B b (l ++ [UInt8.ofNat c.toNat]) (.tuple #[.int .i64 1, .nilIface])) := by
  have H := Lib.hid (copyCheck_c B b l w h)
  clear h
  go_enter Tryd.func30, Tryd.ntmps30
  go_wp2_with fail
  refine H.out.mono ?_
  rintro e w1 ⟨rfl, h1, hb1⟩
  obtain ⟨hB, v, hbk, hown, hne⟩ := h1
  have hlenc : (Lib.byteCells l).length = l.length := by simp [Lib.byteCells]
  rw [hlenc] at hown
  obtain ⟨ao, cap, rfl, hr⟩ := row_of_own hown (by simp [Lib.byteCells]; intro a _; rfl)
  have hmx := hr.max; have hle := hr.le
  unfold maxLen at hmx
  have c0 : w1.cell? ⟨b, 0, none⟩ = some (.pointer (some ⟨b, 0, none⟩)) := by rw [Lib.cell_of_heap hbk]; rfl
  have c1 : w1.cell? ⟨b, 1, none⟩ = some (.slice ao l.length cap) := by rw [Lib.cell_of_heap hbk]; rfl
  have hlt : b < w1.heap.size := (Array.getElem?_eq_some_iff.1 hbk).1
  have HA := Lib.hid (appendRune_c B l.length _ _ c w1 hown (Nat.le_trans hBw hb1.size) h0 h1 hlen)
  have Hbk := Lib.hid hbk; have Ho := Lib.hid hown; have Hne := Lib.hid hne; have Hb1 := Lib.hid hb1
  clear hbk hown hne hb1 hlenc H hr
  go_wp2_with fail
  refine HA.out.mono ?_
  rintro e w2 ⟨v', rfl, hown', hgrow⟩
  have hb2 : w2.heap[b]? = some (.cells #[.pointer (some ⟨b, 0, none⟩), .slice ao l.length cap] 52 (0, 0)) := by
    rw [hgrow.block b hlt (fun e => Hne.out e.symm)]
    exact Hbk.out
  have d0 : w2.cell? ⟨b, 0, none⟩ = some (.pointer (some ⟨b, 0, none⟩)) := by rw [Lib.cell_of_heap hb2]; rfl
  have d1 : w2.cell? ⟨b, 1, none⟩ = some (.slice ao l.length cap) := by rw [Lib.cell_of_heap hb2]; rfl
  have f1 : w2.frozen? ⟨b, 1, none⟩ = false := Lib.frozen_of_heap hb2 1
  obtain ⟨ao', n', cap', rfl, hn'⟩ : ∃ ao n' cap, v' = .slice ao n' cap ∧ n' = l.length + 1 := by
    rcases hown'.2 with ⟨hv, h0⟩ | ⟨g, cap, cur, hv, _⟩
    · omega
    · exact ⟨_, _, _, hv, rfl⟩
  subst hn'
  have hbel := ((Hb1.out.grown hgrow (by have := Hb1.out.size; omega) (fun k hk => (Ho.out.lt k hk).1)).setCell (p := ⟨b, 1, none⟩) hB (.slice ao' (l.length + 1) cap'))
  have Ho2 := Lib.hid hown'; have Hb2 := Lib.hid hb2; have Hbel := Lib.hid hbel
  clear hown' hb2 hgrow hbel HA
  go_wp2_with fail
  go_ret2
  refine ⟨?_, ?_, Hbel.out⟩
  · have e : ((l.length + 1 : Nat) : Int) - (l.length : Int) = 1 := by omega
    simp
    try omega
  have := Ho2.out
  refine Lib.BuilderAt.put (T := 52) (e := 5) hB Hb2.out ?_ (by decide)
  have hc : (((UInt8.ofNat c.toNat).toNat : Nat) : Int) = c := by
    have : (UInt8.ofNat c.toNat).toNat = c.toNat := by rw [UInt8.toNat_ofNat']; exact Nat.mod_eq_of_lt (by omega)
    rw [this]; omega
  have e : Lib.byteCells (l ++ [UInt8.ofNat c.toNat]) = Lib.byteCells l ++ [.int .u8 c] := by simp only [Lib.byteCells, List.map_append, List.map_cons, List.map_nil, hc]
  rw [e, List.length_append, Lib.byteCells_length]
  exact this

end Go.Proofs.YtmhgbocejjnoaaaDoor
