/- Walks: the laws' example (live); Insert, Remove, Cut at whatever place, in one word each. -/
import Derived.Test.YtdafbpjgjhfjmaaDoorRQ1
import Derived.Test.YtdafbpjgjhfjmaaDoorRG3
namespace Go.Proofs.YtdafbpjgjhfjmaaDoor
open Go.RowKit Go.Redl
set_option linter.unusedVariables false

/-- What Insert answers. -/
def insR (r : List Int) (at_ : Int) (s : List Int) : List Int × Int := if askedE r at_ s = 0 then (insL r at_.toNat s, 0) else ([], askedE r at_ s)
/-- What Remove answers. -/
def remRR (r : List Int) (at_ : Int) (s : List Int) : List Int × Int := if askedE r at_ s = 0 then remR r at_.toNat s else ([], askedE r at_ s)
/-- What Cut answers. -/
def cutR (r : List Int) (at_ : Int) : List Int × List Int × Int := if askedE r at_ [] = 0 then (r.take at_.toNat, r.drop at_.toNat, 0) else ([], [], askedE r at_ [])

theorem asked_place {r s : List Int} {at_ : Int} (h : askedE r at_ s = 0) : 0 ≤ at_ ∧ at_ ≤ r.length := by
  obtain ⟨c1, c2⟩ := asked_zero h
  unfold askedE at h
  simp only [c1, c2, ne_eq, not_true, or_self, if_false] at h
  split at h
  · cases h
  · omega

theorem insert_c (v1 v2 : Value) (B : Nat) (r s : List Int) (at_ : Int) (w : World) (h1 : Ints .i32 w B v1 r) (h2 : Ints .i32 w B v2 s) (hB : B ≤ w.heap.size) (hn : r.length + s.length ≤ 1000000) :
    Calls Tryd.prog 10 #[v1, .int .i64 at_, v2] w (MadeE .i32 w 21 (insR r at_ s).1 (insR r at_ s).2) := by
  unfold insR
  by_cases he : askedE r at_ s = 0
  · rw [if_pos he]
    obtain ⟨h0, h3⟩ := asked_place he
    obtain ⟨k, rfl⟩ := Int.eq_ofNat_of_zero_le h0
    exact insert_ok v1 v2 B k r s w h1 h2 hB he hn (by omega)
  · rw [if_neg he]
    exact insert_no v1 v2 B r s at_ w h1 h2 he

theorem remove_c (v1 v2 : Value) (B : Nat) (r s : List Int) (at_ : Int) (w : World) (h1 : Ints .i32 w B v1 r) (h2 : Ints .i32 w B v2 s) (hB : B ≤ w.heap.size) (hn : r.length + s.length ≤ 1000000) :
    Calls Tryd.prog 11 #[v1, .int .i64 at_, v2] w (MadeE .i32 w 21 (remRR r at_ s).1 (remRR r at_ s).2) := by
  unfold remRR
  by_cases he : askedE r at_ s = 0
  · rw [if_pos he]
    obtain ⟨h0, h3⟩ := asked_place he
    obtain ⟨k, rfl⟩ := Int.eq_ofNat_of_zero_le h0
    exact remove_ok v1 v2 B k r s w h1 h2 hB he hn (by omega)
  · rw [if_neg he]
    exact remove_no v1 v2 B r s at_ w h1 h2 he

theorem cut_c (v1 : Value) (B : Nat) (r : List Int) (at_ : Int) (w : World) (h1 : Ints .i32 w B v1 r) (hB : B ≤ w.heap.size) (hn : r.length ≤ 1000000) :
    Calls Tryd.prog 13 #[v1, .int .i64 at_] w (MadeEE .i32 w 21 (cutR r at_).1 (cutR r at_).2.1 (cutR r at_).2.2) := by
  unfold cutR
  by_cases he : askedE r at_ [] = 0
  · rw [if_pos he]
    obtain ⟨h0, h3⟩ := asked_place he
    obtain ⟨k, rfl⟩ := Int.eq_ofNat_of_zero_le h0
    exact cut_ok v1 B k r w h1 hB he hn (by omega)
  · rw [if_neg he]
    exact cut_no v1 B r at_ w h1 he

theorem quote_live : quoteL [97, 10, 34] = [34, 97, 92, 97, 59, 92, 50, 50, 59, 34] := by decide

set_option maxRecDepth 100000 in
set_option maxHeartbeats 1000000 in
theorem live_c (w : World) (ht : TabAt w) (hg : 5 < w.heap.size) :
    Calls Tryd.prog 9 #[] w fun e w' => e = .returned (.bool true) ∧ Below w.heap.size w w' := by
  have hrow := row_ints w [97, 10, 34] .i32 21 (w.heap.size + 1)
  have HQ := Lib.hid (quote_ok _ (w.heap.size + 1) [97, 10, 34] (w.alloc (.cells #[.int .i32 97, .int .i32 10, .int .i32 34] 21)) ⟨⟨_, _, rfl, hrow⟩, by intro z hz; simp at hz; rcases hz with rfl | rfl | rfl <;> decide⟩ (by simp) (by decide) (by simp) (ht.keep ((Below.refl _ _).alloc (Nat.le_refl _) _) hg) (by simp; omega))
  rw [quote_live] at HQ
  clear ht hrow
  go_enter Tryd.func9, Tryd.ntmps9
  go_wp2_with fail
  refine HQ.out.mono ?_
  rintro e w1 ⟨rfl, hbel⟩
  have Hb := Lib.hid (((Below.refl w.heap.size w).alloc (Nat.le_refl _) _).trans (hbel.mono (by simp)))
  clear hbel HQ
  go_wp2_with fail
  go_ret
  exact ⟨rfl, Hb.out⟩

end Go.Proofs.YtdafbpjgjhfjmaaDoor
