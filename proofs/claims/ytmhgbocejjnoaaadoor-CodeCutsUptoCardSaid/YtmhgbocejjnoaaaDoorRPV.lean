/- Walks: strconv.ParseUint as it is called, glyph.first. -/
import Derived.Test.YtmhgbocejjnoaaaDoorRPU
import Derived.Test.YtmhgbocejjnoaaaDoorRS2
import Derived.Test.YtmhgbocejjnoaaaDoorRF1
import Derived.Deep.RegionWith
namespace Go.Proofs.YtmhgbocejjnoaaaDoor
open Go.RowKit Go.Redl
set_option linter.unusedVariables false

/-- The library's two errors are there. -/
def ErrsAt (w : World) : Prop := (∃ te pe, w.cell? ⟨4, 0, none⟩ = some (.iface te pe)) ∧ (∃ te pe, w.cell? ⟨5, 0, none⟩ = some (.iface te pe)) ∧ 4 < w.heap.size ∧ 5 < w.heap.size
theorem ErrsAt.keep {w w' : World} (h : ErrsAt w) (hb : Below w.heap.size w w') : ErrsAt w' := by
  obtain ⟨⟨te, pe, h1⟩, ⟨te', pe', h2⟩, h3, h4⟩ := h
  exact ⟨⟨te, pe, by rw [hb.cell (p := ⟨_, 0, none⟩) h3]; exact h1⟩, ⟨te', pe', by rw [hb.cell (p := ⟨_, 0, none⟩) h4]; exact h2⟩, Nat.lt_of_lt_of_le h3 hb.size, Nat.lt_of_lt_of_le h4 hb.size⟩

/-- What ParseUint answers. -/
def ParsedP (w : World) (p : Option Nat) (x : Ending) (w' : World) : Prop :=
  Below w.heap.size w w' ∧ ((∃ m, p = some m ∧ x = .returned (.tuple #[.int .u64 m, .nilIface])) ∨ (p = none ∧ ∃ (m : Nat) (t : TypeId) (v : Value), x = .returned (.tuple #[.int .u64 m, .iface t v])))

set_option maxRecDepth 100000 in
set_option maxHeartbeats 1000000 in
theorem parse_c (s : List UInt8) (w : World) (hn : s.length ≤ 1000000) (he : ErrsAt w) :
    Calls Tryd.prog 93 #[.string ⟨s.toArray⟩, .int .i64 16, .int .i64 32] w (ParsedP w (if s = [] then none else parseP s 0)) := by
  have HI : Calls Tryd.prog 103 #[.string ⟨s.toArray⟩, .int .i64 16, .int .i64 32] w (ParsedI w (if s = [] then none else parseP s 0)) := by
    by_cases h0 : s = []
    · subst h0
      rw [if_pos rfl]
      refine (iparse_empty w).mono ?_
      rintro e w' ⟨rfl, rfl⟩
      exact ⟨Below.refl _ _, .inr ⟨rfl, 0, 2, .inr rfl, rfl⟩⟩
    · rw [if_neg h0]
      exact iparse_c s w h0 hn
  obtain ⟨p, hp⟩ : ∃ p, (if s = [] then none else parseP s 0) = p := ⟨_, rfl⟩
  rw [hp] at HI ⊢
  clear hp
  have HX := Lib.hid HI
  have He := Lib.hid he
  clear HI he
  go_enter Tryd.func93, Tryd.ntmps93
  go_wp2_with fail
  refine HX.out.mono ?_
  rintro e w1 ⟨hb, h⟩
  have Hb := Lib.hid hb
  clear hb
  rcases h with ⟨m, hp, rfl⟩ | ⟨hp, m, k, hk, rfl⟩
  · have Hp := Lib.hid hp
    clear hp
    go_wp2_with fail
    go_ret2
    exact ⟨Hb.out, .inl ⟨m, Hp.out, rfl⟩⟩
  · have Hp := Lib.hid hp
    clear hp
    obtain ⟨⟨te, pe, h1⟩, ⟨te', pe', h2⟩, h3, h4⟩ := He.out.keep Hb.out
    rcases hk with rfl | rfl
    · have HT := fun fn => Lib.hid (Tryd.strconv_toError_range fn ⟨s.toArray⟩ 16 32 _ w1 (by show s.length ≤ _; omega) h2 (.inr ⟨te', pe', rfl⟩))
      clear h1 h2 h3 h4
      go_wp2_with fail
      refine (HT _).out.mono ?_
      rintro e w2 ⟨N, rfl, -, -, hb2⟩
      have Hb2 := Lib.hid (Hb.out.trans (hb2.mono Hb.out.size))
      clear hb2
      go_wp2_with fail
      go_ret2
      exact ⟨Hb2.out, .inr ⟨Hp.out, m, _, _, rfl⟩⟩
    · have HT := fun fn => Lib.hid (Tryd.strconv_toError_syntax fn ⟨s.toArray⟩ 16 32 _ w1 (by show s.length ≤ _; omega) h1 (.inr ⟨te, pe, rfl⟩))
      clear h1 h2 h3 h4
      go_wp2_with fail
      refine (HT _).out.mono ?_
      rintro e w2 ⟨N, rfl, -, -, hb2⟩
      have Hb2 := Lib.hid (Hb.out.trans (hb2.mono Hb.out.size))
      clear hb2
      go_wp2_with fail
      go_ret2
      exact ⟨Hb2.out, .inr ⟨Hp.out, m, _, _, rfl⟩⟩

end Go.Proofs.YtmhgbocejjnoaaaDoor
