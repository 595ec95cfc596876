/- What is asked of trees: may one be, how it is written. Plain functions and their laws. -/
import Derived.Test.YtiinmgccjlmoaaaRN1
import Derived.Test.YtiinmgccjlmoaaaRG1
namespace Go.Proofs.Ytiinmgccjlmoaaa
open Go.RowKit Go.Redl
set_option linter.unusedVariables false

def lowB (c : UInt8) : Bool := decide (97 ≤ c.toNat ∧ c.toNat ≤ 122)
def valcB (c : UInt8) : Bool := lowB c || decide (48 ≤ c.toNat ∧ c.toNat ≤ 57) || c == 45
def keyB (s : List UInt8) : Bool := decide (1 ≤ s.length ∧ s.length ≤ 16) && s.all lowB
def valB (s : List UInt8) : Bool := decide (s.length ≤ 32) && s.all valcB
def leB (a b : List UInt8) : Bool := Op.bytesLess a b || a == b
/-- The first thing wrong with properties, behind a key. -/
def propsGo : List UInt8 → List PropD → Int
  | _, [] => 0
  | last, p :: ps => if keyB p.1 && valB p.2 then (if leB p.1 last then 1 else propsGo p.1 ps) else 3
def propsE (ps : List PropD) : Int := if 16 < ps.length then 2 else propsGo [] ps
/-- The key ahead of the k-th. -/
def lastK (ps : List PropD) (k : Nat) : List UInt8 := match k with | 0 => [] | k + 1 => (ps.getD k ([], [])).1
theorem propsGo_step {ps : List PropD} {k : Nat} (h : k < ps.length) : propsGo (lastK ps k) (ps.drop k) = if keyB ps[k].1 && valB ps[k].2 then (if leB ps[k].1 (lastK ps k) then 1 else propsGo (lastK ps (k + 1)) (ps.drop (k + 1))) else 3 := by
  conv => lhs; rw [List.drop_eq_getElem_cons h]
  simp only [propsGo]
  rw [show lastK ps (k + 1) = ps[k].1 by show (ps.getD k ([], [])).1 = _; rw [getD_of_lt h]]
theorem propsGo_end {ps : List PropD} {l : List UInt8} : propsGo l (ps.drop ps.length) = 0 := by simp [propsGo]

/-- What is wrong with a node by itself. -/
def ownE (l : Bool) (ps : List PropD) (t : List Int) (m : Nat) : Int := if propsE ps ≠ 0 then propsE ps else if (l && decide (0 < m)) || (!l && decide (0 < t.length)) then 7 else checkE t
mutual
/-- The first thing wrong with a tree. -/
def nodeE : NodeD → Int
  | .mk l ps t ks => if ownE l ps t ks.length ≠ 0 then ownE l ps t ks.length else kidsE ks
def kidsE : List NodeD → Int
  | [] => 0
  | k :: ks => if nodeE k ≠ 0 then nodeE k else kidsE ks
end
mutual
def sizeN : NodeD → Nat
  | .mk _ _ t ks => 1 + t.length + sizeK ks
def sizeK : List NodeD → Nat
  | [] => 0
  | k :: ks => sizeN k + sizeK ks
end
mutual
theorem sizeN_le : ∀ n : NodeD, sizeN n ≤ n.wt
  | .mk l ps t ks => by have := sizeK_le ks; simp only [sizeN, NodeD.wt]; omega
theorem sizeK_le : ∀ ks : List NodeD, sizeK ks ≤ wtAll ks
  | [] => by simp [sizeK, wtAll]
  | k :: ks => by have := sizeN_le k; have := sizeK_le ks; simp only [sizeK, wtAll]; omega
end
theorem sizeK_append (a b : List NodeD) : sizeK (a ++ b) = sizeK a + sizeK b := by
  induction a with
  | nil => simp [sizeK]
  | cons k ks ih => simp only [List.cons_append, sizeK, ih]; omega
theorem sizeK_succ {ks : List NodeD} {k : Nat} (h : k < ks.length) : sizeK (ks.take (k + 1)) = sizeK (ks.take k) + sizeN ks[k] := by
  rw [List.take_succ_eq_append_getElem h, sizeK_append]; simp [sizeK]
theorem kidsE_step {ks : List NodeD} {k : Nat} (h : k < ks.length) : kidsE (ks.drop k) = if nodeE ks[k] ≠ 0 then nodeE ks[k] else kidsE (ks.drop (k + 1)) := by
  conv => lhs; rw [List.drop_eq_getElem_cons h]
  simp only [kidsE]

/-- How a property, and properties, are written. -/
def propL (p : PropD) : List UInt8 := p.1 ++ 58 :: p.2
def propsC : UInt8 → List PropD → List UInt8
  | _, [] => []
  | c, p :: ps => c :: (propL p ++ propsC 44 ps)
def propsL (ps : List PropD) : List UInt8 := if ps.length = 0 then [] else propsC 123 ps ++ [125]
theorem propsC_succ : ∀ (ps : List PropD) (c : UInt8) (k : Nat) (h : k < ps.length), propsC c (ps.take (k + 1)) = propsC c (ps.take k) ++ ((if k = 0 then c else 44) :: propL ps[k])
  | [], c, k, h => absurd h (by simp)
  | p :: ps, c, 0, h => by simp [propsC]
  | p :: ps, c, k + 1, h => by
    have := propsC_succ ps 44 k (by simpa using h)
    simp only [List.take_succ_cons, propsC, this]
    simp
theorem propsC_len : ∀ (ps : List PropD) (c : UInt8), (propsC c ps).length = propsWt ps
  | [], c => rfl
  | p :: ps, c => by
    have := propsC_len ps 44
    simp only [propsC, propsWt, propL, List.length_cons, List.length_append, this]; omega
theorem propsWt_take (ps : List PropD) (k : Nat) : propsWt (ps.take k) ≤ propsWt ps := by
  induction ps generalizing k with
  | nil => simp
  | cons p ps ih =>
    cases k with
    | zero => simp [propsWt]
    | succ k => have := ih k; simp only [List.take_succ_cons, propsWt]; omega
mutual
/-- How a tree is written. -/
def printL : NodeD → List UInt8
  | .mk l ps t ks => propsL ps ++ (if l then quoteL t else 91 :: (printK ks ++ [93]))
def printK : List NodeD → List UInt8
  | [] => []
  | k :: ks => printL k ++ printK ks
end
theorem printK_append (a b : List NodeD) : printK (a ++ b) = printK a ++ printK b := by
  induction a with
  | nil => simp [printK]
  | cons k ks ih => simp only [List.cons_append, printK, ih, List.append_assoc]
theorem printK_succ {ks : List NodeD} {k : Nat} (h : k < ks.length) : printK (ks.take (k + 1)) = printK (ks.take k) ++ printL ks[k] := by
  rw [List.take_succ_eq_append_getElem h, printK_append]; simp [printK]
theorem propsL_len (ps : List PropD) : (propsL ps).length ≤ propsWt ps + 1 := by
  unfold propsL
  split
  · simp
  · simp [propsC_len]
theorem quoteL_len (zs : List Int) : (quoteL zs).length ≤ 22 * zs.length + 2 := by
  have := body_len zs
  simp [quoteL]; omega
mutual
theorem printL_len : ∀ n : NodeD, (printL n).length ≤ 22 * n.wt
  | .mk l ps t ks => by
    have h1 := printK_len ks
    have h2 := propsL_len ps
    have h3 := quoteL_len t
    simp only [printL, NodeD.wt, List.length_append]
    split
    · omega
    · simp only [List.length_cons, List.length_append, List.length_nil]; omega
theorem printK_len : ∀ ks : List NodeD, (printK ks).length ≤ 22 * wtAll ks
  | [] => by simp [printK, wtAll]
  | k :: ks => by
    have h1 := printL_len k
    have h2 := printK_len ks
    simp only [printK, wtAll, List.length_append]; omega
end
theorem printK_take_len (ks : List NodeD) (k : Nat) : (printK (ks.take k)).length ≤ 22 * wtAll ks := by
  have h1 := printK_len (ks.take k)
  have h2 := wtAll_take ks k
  omega

end Go.Proofs.Ytiinmgccjlmoaaa
