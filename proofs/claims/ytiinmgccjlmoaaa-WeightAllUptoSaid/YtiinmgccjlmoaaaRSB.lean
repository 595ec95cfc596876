/- Walks: node.Same. -/
import Derived.Test.YtiinmgccjlmoaaaRSA
import Derived.Test.YtiinmgccjlmoaaaRG1
import Derived.Test.YtiinmgccjlmoaaaRNA
namespace Go.Proofs.Ytiinmgccjlmoaaa
open Go.RowKit Go.Redl
set_option linter.unusedVariables false

mutual
/-- Are two trees the same. -/
def sameN : NodeD → NodeD → Bool
  | .mk l ps t ks, .mk l' ps' t' ks' => l == l' && (decide (ps = ps') && (decide (t = t') && (decide (ks.length = ks'.length) && sameK ks ks')))
def sameK : List NodeD → List NodeD → Bool
  | [], _ => true
  | _ :: _, [] => true
  | k :: ks, k' :: ks' => sameN k k' && sameK ks ks'
end
mutual
theorem sameN_self : ∀ n : NodeD, sameN n n = true
  | .mk l ps t ks => by unfold sameN; simp [sameK_self ks]
theorem sameK_self : ∀ ks : List NodeD, sameK ks ks = true
  | [] => by unfold sameK; rfl
  | k :: ks => by unfold sameK; simp [sameN_self k, sameK_self ks]
end
mutual
theorem sameN_eq : ∀ n m : NodeD, sameN n m = true → n = m
  | .mk l ps t ks, .mk l' ps' t' ks', h => by
    unfold sameN at h
    simp only [Bool.and_eq_true, decide_eq_true_eq, beq_iff_eq] at h
    obtain ⟨h1, h2, h3, h4, h5⟩ := h
    subst h1; subst h2; subst h3
    rw [sameK_eq ks ks' h4 h5]
theorem sameK_eq : ∀ ks ks' : List NodeD, ks.length = ks'.length → sameK ks ks' = true → ks = ks'
  | [], [], _, _ => rfl
  | [], _ :: _, h, _ => by simp at h
  | _ :: _, [], h, _ => by simp at h
  | k :: ks, k' :: ks', h, h2 => by
    unfold sameK at h2
    simp only [Bool.and_eq_true] at h2
    rw [sameN_eq k k' h2.1, sameK_eq ks ks' (by simpa using h) h2.2]
end
theorem sameK_step {ks ks' : List NodeD} {k : Nat} (h : k < ks.length) (h' : k < ks'.length) : sameK (ks.drop k) (ks'.drop k) = (sameN ks[k] ks'[k] && sameK (ks.drop (k + 1)) (ks'.drop (k + 1))) := by
  conv => lhs; rw [List.drop_eq_getElem_cons h, List.drop_eq_getElem_cons h']
  simp only [sameK]
theorem sameK_end {ks ks' : List NodeD} {k : Nat} (h : ks.length ≤ k) : sameK (ks.drop k) (ks'.drop k) = true := by
  rw [List.drop_eq_nil_of_le h]; unfold sameK; rfl

set_option maxRecDepth 100000 in
set_option maxHeartbeats 400000 in
theorem psame_c (a a' : Option Addr) (cap cap' B : Nat) (xs ys : List PropD) (w : World) (hr : RowA w B 2 a xs.length cap (propCells xs)) (hr' : RowA w B 2 a' ys.length cap' (propCells ys)) :
    Calls Try.prog 119 #[.slice a xs.length cap, .slice a' ys.length cap'] w fun e w' => e = .returned (.bool (decide (xs = ys))) ∧ Drawn w w' := by
  have H := Lib.hid (equal_prop a a' cap cap' B xs ys w hr hr')
  clear hr hr'
  go_enter Try.func119, Try.ntmps119
  go_wp2_with fail
  refine H.out.mono ?_
  rintro e w1 ⟨rfl, hd⟩
  have Hd := Lib.hid hd
  clear hd H
  go_wp2_with fail
  go_ret
  exact ⟨rfl, Hd.out⟩
theorem sameN_open (l l' : Bool) (ps ps' : List PropD) (t t' : List Int) (ks ks' : List NodeD) : sameN (.mk l ps t ks) (.mk l' ps' t' ks') = (l == l' && (decide (ps = ps') && (decide (t = t') && (decide (ks.length = ks'.length) && sameK ks ks')))) := by
  rw [sameN]
end Go.Proofs.Ytiinmgccjlmoaaa
