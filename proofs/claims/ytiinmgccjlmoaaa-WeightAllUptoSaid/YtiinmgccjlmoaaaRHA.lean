/- Plain words: types, rules, what is done with a node, what is wrong with an element, what repairs it. -/
import Derived.Test.YtiinmgccjlmoaaaRCQ
import Derived.Test.YtiinmgccjlmoaaaRN4
namespace Go.Proofs.Ytiinmgccjlmoaaa
open Go.RowKit Go.Redl
set_option linter.unusedVariables false

def leafOf : NodeD → Bool
  | .mk l _ _ _ => l
def propsOf : NodeD → List PropD
  | .mk _ ps _ _ => ps
def textOf : NodeD → List Int
  | .mk _ _ t _ => t
/-- The first place of which something holds; -1: there is none. -/
def idxP (p : Nat → Bool) (n : Nat) : Int := match (List.range n).find? p with
  | some k => k
  | none => -1
theorem idxP_some {p : Nat → Bool} {n k : Nat} (hk : k < n) (h : p k = true) (hb : ∀ j, j < k → p j = false) : idxP p n = k := by
  unfold idxP
  have : (List.range n).find? p = some k := by
    rw [List.find?_range_eq_some]
    exact ⟨h, by simpa using hk, fun j hj => by simp [hb j hj]⟩
  rw [this]
theorem idxP_none {p : Nat → Bool} {n : Nat} (hb : ∀ j, j < n → p j = false) : idxP p n = -1 := by
  unfold idxP
  have : (List.range n).find? p = none := by
    rw [List.find?_eq_none]
    intro x hx
    simp [hb x (by simpa using hx)]
  rw [this]
theorem idxP_cases (p : Nat → Bool) (n : Nat) : (∃ k, k < n ∧ p k = true ∧ (∀ j, j < k → p j = false) ∧ idxP p n = k) ∨ ((∀ j, j < n → p j = false) ∧ idxP p n = -1) := by
  cases h : (List.range n).find? p with
  | none =>
    have hb : ∀ j, j < n → p j = false := fun j hj => by
      rw [List.find?_eq_none] at h
      simpa using h j (by simpa using hj)
    exact .inr ⟨hb, idxP_none hb⟩
  | some k =>
    rw [List.find?_range_eq_some] at h
    obtain ⟨h1, h2, h3⟩ := h
    have hk : k < n := by simpa using h2
    have hb : ∀ j, j < k → p j = false := fun j hj => by simpa using h3 j hj
    exact .inl ⟨k, hk, h1, hb, idxP_some hk h1 hb⟩

/-- The first of a list of which something holds, by its place. -/
theorem find_idx {α : Type} {l : List α} {q : α → Bool} {k : Nat} (hk : k < l.length) (h : q l[k] = true) (hb : ∀ j (hj : j < k), q (l[j]'(by omega)) = false) : l.find? q = some l[k] := by
  rw [List.find?_eq_some_iff_getElem]
  exact ⟨h, k, hk, rfl, fun j hj => by simp [hb j hj]⟩
theorem find_none {α : Type} {l : List α} {q : α → Bool} (hb : ∀ j (hj : j < l.length), q l[j] = false) : l.find? q = none := by
  rw [List.find?_eq_none]
  intro x hx
  obtain ⟨j, hj, rfl⟩ := List.mem_iff_getElem.1 hx
  simp [hb j hj]

def typeB : List UInt8 := [116, 121, 112, 101]
/-- A property's value. -/
def getP (ps : List PropD) (k : List UInt8) : Option (List UInt8) := (ps.find? (fun p => decide (p.1 = k))).map (·.2)
/-- A node's type. -/
def typeN (n : NodeD) : List UInt8 := if leafOf n then [] else (getP (propsOf n) typeB).getD []
/-- A type's rule. -/
def ruleOf (s : SchemaD) (kind : List UInt8) : RuleD := (s.rules.find? (fun r => decide (r.type = kind))).getD s.els
def actIn (r : RuleD) (kind : List UInt8) : ActD := ((r.kids.find? (fun p => decide (p.1 = kind))).map (·.2)).getD r.other
/-- What a rule does with a node. -/
def actOf (r : RuleD) (n : NodeD) : ActD := if leafOf n then r.text else actIn r (typeN n)

/-- A list's beginning of which something holds: how long it is. -/
theorem while_len {α : Type} (q : α → Bool) : ∀ (l : List α) (m : Nat) (hm : m ≤ l.length), (∀ j (hj : j < m), q (l[j]'(by omega)) = true) → (∀ h : m < l.length, q l[m] = false) → (l.takeWhile q).length = m
  | [], m, hm, h1, h2 => by simp at hm; subst hm; rfl
  | x :: l, 0, hm, h1, h2 => by
    have := h2 (by simp)
    simp at this
    simp [this]
  | x :: l, m + 1, hm, h1, h2 => by
    have h0 := h1 0 (by omega)
    simp at h0
    rw [List.takeWhile_cons, if_pos h0, List.length_cons, while_len q l m (by simpa using hm) (fun j hj => by simpa using h1 (j + 1) (by omega)) (fun h => h2 (Nat.succ_lt_succ h))]
/-- How many from a place on are done alike. -/
def runA (l : List ActD) (i : Nat) : Nat := 1 + ((l.drop (i + 1)).takeWhile (fun a => decide (a = l.getD i (0, [])))).length
theorem runA_eq {l : List ActD} {i m : Nat} (hi : i < l.length) (h0 : 1 ≤ m) (hm : i + m ≤ l.length) (h1 : ∀ j (hj : j < m), l[i + j]'(by omega) = l[i]) (h2 : ∀ h : i + m < l.length, l[i + m] ≠ l[i]) : runA l i = m := by
  have hg : l.getD i (0, []) = l[i] := by simp [List.getD, List.getElem?_eq_getElem hi]
  unfold runA
  rw [hg, while_len (fun a => decide (a = l[i])) (l.drop (i + 1)) (m - 1) (by simp; omega) (fun j hj => ?_) (fun h => ?_)]
  · omega
  · have := h1 (j + 1) (by omega)
    simp only [List.getElem_drop, decide_eq_true_eq]
    rw [← this]
    congr 1
    omega
  · have := h2 (by simp at h; omega)
    simp only [List.getElem_drop, decide_eq_false_iff_not]
    intro e
    refine this (Eq.trans ?_ e)
    congr 1
    omega
/-- What a rule does with each of some Kids. -/
abbrev actsOf (r : RuleD) (ks : List NodeD) : List ActD := ks.map (actOf r)
/-- The Kid at a place. -/
abbrev kidAt (ks : List NodeD) (i : Nat) : NodeD := ks.getD i (.mk false [] [] [])
/-- Whether something of a class is wrong with a Kid. -/
def wrongB (r : RuleD) (ks : List NodeD) (c : Int) (i : Nat) : Bool :=
  if c = 1 then decide ((actOf r (kidAt ks i)).1 = 2) else if c = 2 then decide ((actOf r (kidAt ks i)).1 = 3) else if c = 3 then decide ((actOf r (kidAt ks i)).1 = 4)
  else if c = 4 then decide (0 < i) && (leafOf (kidAt ks i) && (leafOf (kidAt ks (i - 1)) && decide (propsOf (kidAt ks i) = propsOf (kidAt ks (i - 1)))))
  else if c = 5 then leafOf (kidAt ks i) && (decide ((textOf (kidAt ks i)).length = 0) && decide (1 < ks.length)) else false
/-- The first place where something of a class is wrong; less than 0: there is none. -/
def lookN (r : RuleD) (ks : List NodeD) (c : Int) : Int := if c = 6 then (if ks.length = 0 ∧ r.fill ≠ 0 then 0 else -1) else idxP (wrongB r ks c) ks.length
def manyN (r : RuleD) (ks : List NodeD) (c : Int) : Nat := if c = 3 then runA (actsOf r ks) (lookN r ks c).toNat else 1
/-- What is wrong: class, place, how many. -/
abbrev FindD := Int × Int × Int
def findL (r : RuleD) (ks : List NodeD) : List Int → FindD
  | [] => (0, 0, 0)
  | c :: cs => if 0 ≤ lookN r ks c then (c, lookN r ks c, (manyN r ks c : Int)) else findL r ks cs
def findN (s : SchemaD) (n : NodeD) : FindD := if leafOf n then (0, 0, 0) else findL (ruleOf s (typeN n)) (kidsOf n) s.order
theorem lookN_range {r : RuleD} {ks : List NodeD} {c : Int} (h : 0 ≤ lookN r ks c) : 1 ≤ c ∧ c ≤ 6 := by
  unfold lookN at h
  split at h
  · omega
  · rename_i h6
    rcases idxP_cases (wrongB r ks c) ks.length with ⟨k, hk, hp, -, -⟩ | ⟨-, e⟩
    · unfold wrongB at hp
      split at hp
      · omega
      split at hp
      · omega
      split at hp
      · omega
      split at hp
      · omega
      split at hp
      · omega
      · cases hp
    · rw [e] at h; omega

/-- An operation, as far as a repair tells it. -/
structure OpD where
  kind : Int
  path : List Int
  dest : List Int
  pos : Int
  node : NodeD
  old : List PropD
abbrev zeroN : NodeD := .mk false [] [] []
/-- An element of a type. -/
def elemN (kind : List UInt8) : NodeD := .mk false (if kind = [] then [] else [(typeB, kind)]) [] []
def noKids : NodeD → NodeD
  | .mk l ps t _ => .mk l ps t []
/-- The operations that repair an element at p. -/
def fixL (r : RuleD) (ks : List NodeD) (p : List Int) (f : FindD) : List OpD :=
  if f.1 = 1 ∨ f.1 = 5 then [⟨2, p ++ [f.2.1], [], 0, kidAt ks f.2.1.toNat, []⟩]
  else if f.1 = 2 then (List.range (kidsOf (kidAt ks f.2.1.toNat)).length).map (fun i : Nat => (⟨5, p ++ [f.2.1, 0], p ++ [f.2.1 + (1 + (i : Int))], 0, zeroN, []⟩ : OpD)) ++ [⟨2, p ++ [f.2.1], [], 0, noKids (kidAt ks f.2.1.toNat), []⟩]
  else if f.1 = 3 then ⟨1, p ++ [f.2.1], [], 0, elemN (actOf r (kidAt ks f.2.1.toNat)).2, []⟩ :: (List.range f.2.2.toNat).map (fun i : Nat => (⟨5, p ++ [f.2.1 + 1], p ++ [f.2.1, (i : Int)], 0, zeroN, []⟩ : OpD))
  else if f.1 = 4 then [⟨3, p ++ [f.2.1], [], (textOf (kidAt ks (f.2.1.toNat - 1))).length, zeroN, propsOf (kidAt ks f.2.1.toNat)⟩]
  else [⟨1, p ++ [f.2.1], [], 0, if r.fill = 1 then .mk true [] [] [] else elemN r.fillT, []⟩]
/-- What repairs an element, or why not. -/
def fixN (s : SchemaD) (n : NodeD) (p : List Int) : List OpD × Int :=
  match atN n p with
  | none => ([], 5)
  | some k => if leafOf k then ([], 7) else if (findN s k).1 = 0 then ([], 14) else (fixL (ruleOf s (typeN k)) (kidsOf k) p (findN s k), 0)

end Go.Proofs.Ytiinmgccjlmoaaa
