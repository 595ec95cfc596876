/- Parts of the proof, one behind the other: RMP, RQE, RMM, RMG, RMJ, RTrim, RR2, RR3, RW1. -/
import Derived.Test.YtajclfjedlkbcaaGreatDoorWD12
import Derived.Test.YtajclfjedlkbcaaGreatDoorWD8
import Derived.StringKeys
import Derived.Maps.Own
import Derived.Maps.OwnSet
import Derived.Maps.Views
import Derived.Sort.KeysCollected
import Derived.Test.YtajclfjedlkbcaaGreatDoorWD1
import Derived.Test.YtajclfjedlkbcaaGreatDoorWD4
import Derived.Deep.RegionHeld3
import Derived.Shelf.Strings.SlTrimAscii
import Derived.Test.YtajclfjedlkbcaaGreatDoorProg
import Derived.Test.YtajclfjedlkbcaaGreatDoorWD10
import Derived.Test.YtajclfjedlkbcaaGreatDoorWD2
import Derived.Laws.Cover1
import Derived.Lib.SlTrimSet
/- Plain laws: fills have an end or meet a type again; what stays hangs on which names there are alone. -/
namespace Go.Proofs.YtajclfjedlkbcaaGreatDoor
open Go.RowKit Go.Redl
set_option linter.unusedVariables false

/-- Things none twice are no more than those among which they are. -/
theorem nodup_le {α : Type} [DecidableEq α] : ∀ (l m : List α), l.Nodup → (∀ x ∈ l, x ∈ m) → l.length ≤ m.length
  | [], m, _, _ => Nat.zero_le _
  | x :: l, m, h, hs => by
    have hx : x ∈ m := hs x (by simp)
    have hn := List.nodup_cons.1 h
    have h1 := nodup_le l (m.erase x) hn.2 (fun y hy => (List.mem_erase_of_ne (show y ≠ x from fun e => hn.1 (by rw [← e]; exact hy))).2 (hs y (by simp [hy])))
    rw [List.length_erase_of_mem hx] at h1
    have h2 := List.length_pos_of_mem hx
    simp only [List.length_cons]
    omega
theorem rev_ind {α : Type} {p : List α → Prop} (h0 : p []) (h1 : ∀ l x, p l → p (l ++ [x])) : ∀ l, p l := fun l => by
  have h : ∀ m : List α, p m.reverse := by
    intro m
    induction m with
    | nil => exact h0
    | cons x m ih => rw [List.reverse_cons]; exact h1 _ _ ih
  simpa using h l.reverse

theorem ruleOf_all (s : SchemaD) (k : List UInt8) : ruleOf s k ∈ allR s := by
  rcases ruleOf_cases s k with h | h
  · exact List.mem_append_left _ h
  · rw [h]; exact List.mem_append_right _ (by simp)
theorem allR_wt {s : SchemaD} {r : RuleD} (h : r ∈ allR s) : r.wt ≤ s.wt := by
  unfold SchemaD.wt
  rcases List.mem_append.1 h with h | h
  · have := rulesWt_mem h; omega
  · simp at h; subst h; omega
theorem all_len (s : SchemaD) : (allR s).length = s.rules.length + 1 := by simp
/-- The types met on the way are so many at the most. -/
theorem met_le {s : SchemaD} {met : List (List UInt8)} (h : met.Nodup) (hs : ∀ x ∈ met, x ∈ (allR s).map (·.type)) : met.length ≤ s.rules.length + 1 := by
  have h1 := nodup_le met _ h hs
  rw [List.length_map, all_len] at h1
  exact h1
theorem depth_step (s : SchemaD) (f : Nat) (met : List (List UInt8)) (r : RuleD) (n : Nat) :
    depthF s (f + 1) met r n = if r.fill = 0 then (n : Int) else if r.fill = 1 then (n : Int) + 1 else if r.type ∈ met then -1 else depthF s f (r.type :: met) (ruleOf s r.fillT) (n + 1) := rfl
theorem depth_le (s : SchemaD) : ∀ (f : Nat) (met : List (List UInt8)) (r : RuleD) (n : Nat), depthF s f met r n ≤ (n : Int) + f
  | 0, met, r, n => by simp only [depthF]; omega
  | f + 1, met, r, n => by
    rw [depth_step]
    have := depth_le s f (r.type :: met) (ruleOf s r.fillT) (n + 1)
    split
    · omega
    · split
      · omega
      · split
        · omega
        · omega

/-- What stays, by a list of names. -/
def settledL (s : SchemaD) (r : RuleD) (l : List (List UInt8)) : Bool :=
  !(decide (r.text.1 = 4) && (decide ((actIn r r.text.2).1 ≠ 1) || decide ((ruleOf s r.text.2).text.1 ≠ 1))) && (l.all (wrapOk s r) &&
    (if r.fill = 1 then decide (r.text.1 = 1) else if r.fill = 2 then decide ((actIn r r.fillT).1 = 1) else true))
theorem settledL_names (s : SchemaD) (r : RuleD) : settledL s r (namesS s) = settledB s r := rfl
theorem all_same {α : Type} {p : α → Bool} {l m : List α} (h : ∀ x, x ∈ l ↔ x ∈ m) : l.all p = m.all p := by
  rw [Bool.eq_iff_iff, List.all_eq_true, List.all_eq_true]
  exact ⟨fun g x hx => g x ((h x).2 hx), fun g x hx => g x ((h x).1 hx)⟩
theorem settledL_same {s : SchemaD} {r : RuleD} {l m : List (List UInt8)} (h : ∀ x, x ∈ l ↔ x ∈ m) : settledL s r l = settledL s r m := by
  unfold settledL
  rw [all_same h]
/-- All names that rules hold. -/
abbrev flatN (s : SchemaD) : List (List UInt8) := (allR s).flatMap ruleNames
theorem names_same {s : SchemaD} {out : List (List UInt8)} (h : ∀ x, x ∈ out ↔ x ∈ flatN s ∧ x ≠ []) : ∀ x, x ∈ out ++ [[]] ↔ x ∈ namesS s := by
  intro x
  unfold namesS
  rw [List.mem_append, List.mem_append, h x]
  by_cases hx : x = []
  · subst hx; simp
  · simp [hx]
theorem settled_by {s : SchemaD} {r : RuleD} {out : List (List UInt8)} (h : ∀ x, x ∈ out ↔ x ∈ flatN s ∧ x ≠ []) : settledL s r (out ++ [[]]) = settledB s r := by
  rw [← settledL_names, settledL_same (names_same h)]
/-- How long names are, and how many. -/
theorem name_wt {r : RuleD} {x : List UInt8} (h : x ∈ ruleNames r) : x.length ≤ r.wt := by
  unfold ruleNames at h
  unfold RuleD.wt
  rcases List.mem_append.1 h with h | h
  · simp at h
    rcases h with rfl | rfl | rfl | rfl <;> omega
  · obtain ⟨p, hp, hx⟩ := List.mem_flatMap.1 h
    have := pairsWt_mem hp
    simp at hx
    rcases hx with rfl | rfl <;> omega
theorem flat_wt {s : SchemaD} {x : List UInt8} (h : x ∈ flatN s) : x.length ≤ s.wt := by
  obtain ⟨r, hr, hx⟩ := List.mem_flatMap.1 h
  exact Nat.le_trans (name_wt hx) (allR_wt hr)
theorem names_len (r : RuleD) : (ruleNames r).length ≤ r.wt := by
  have : ∀ l : List PairD, (l.flatMap (fun p => [p.1, p.2.2])).length = 2 * l.length := by
    intro l
    induction l with
    | nil => rfl
    | cons p l ih => rw [List.flatMap_cons, List.length_append, ih]; simp; omega
  have h1 := pairsWt_len r.kids
  unfold ruleNames RuleD.wt
  rw [List.length_append, this]
  simp
  omega
theorem flat_len (s : SchemaD) : (flatN s).length ≤ s.wt := by
  have h : ∀ l : List RuleD, (l.flatMap ruleNames).length ≤ rulesWt l := by
    intro l
    induction l with
    | nil => simp [rulesWt]
    | cons r l ih => have := names_len r; simp only [rulesWt, List.flatMap_cons, List.length_append]; omega
  have h1 := h s.rules
  have h2 := names_len s.els
  unfold SchemaD.wt
  simp only [flatN, allR, List.flatMap_append, List.length_append, List.flatMap_cons, List.flatMap_nil, List.append_nil]
  omega

end Go.Proofs.YtajclfjedlkbcaaGreatDoor
/- Plain: names picked one by one, the least first (the reference's Names). -/
namespace Go.Proofs.YtajclfjedlkbcaaGreatDoor
open Go.RowKit Go.Redl
set_option linter.unusedVariables false

theorem bless_eq : ∀ (x y : List UInt8), Op.bytesLess x y = decide (x < y)
  | [], [] => by simp [Op.bytesLess]
  | _ :: _, [] => by simp [Op.bytesLess]
  | [], _ :: _ => by simp [Op.bytesLess]
  | a :: x, b :: y => by
    rw [Op.bytesLess, bless_eq x y]
    simp only [List.cons_lt_cons_iff]
    by_cases h1 : a < b <;> by_cases h2 : a = b <;> by_cases h3 : x < y <;> simp [h1, h2, h3]
abbrev lessB (a b : List UInt8) : Bool := Op.bytesLess a b
theorem less_iff {a b : List UInt8} : lessB a b = true ↔ a < b := by unfold lessB; rw [bless_eq]; simp
theorem less_irrefl (a : List UInt8) : lessB a a = false := by
  cases h : lessB a a with
  | false => rfl
  | true => exact absurd (less_iff.1 h) (List.lt_irrefl a)
theorem less_trans {a b c : List UInt8} (h1 : lessB a b = true) (h2 : lessB b c = true) : lessB a c = true := less_iff.2 (List.lt_trans (less_iff.1 h1) (less_iff.1 h2))
theorem less_total {a b : List UInt8} (h1 : lessB a b = false) (h2 : lessB b a = false) : a = b := by
  have e1 : ¬ a < b := fun h => by rw [less_iff.2 h] at h1; cases h1
  have e2 : ¬ b < a := fun h => by rw [less_iff.2 h] at h2; cases h2
  exact List.le_antisymm (List.not_lt.1 e2) (List.not_lt.1 e1)

/-- What comes behind a text, or is any. -/
def aftB (o : Option (List UInt8)) (x : List UInt8) : Bool := decide (x ≠ []) && (match o with
  | none => true
  | some p => !(lessB x p || x == p))
theorem aft_iff {p x : List UInt8} : (!(lessB x p || x == p)) = true ↔ lessB p x = true := by
  constructor
  · intro h
    have h1 : lessB x p = false := by cases hh : lessB x p <;> simp_all
    have h2 : x ≠ p := fun e => by subst e; simp at h
    cases h3 : lessB p x with
    | true => rfl
    | false => exact absurd (less_total h1 h3) h2
  · intro h
    have h1 : lessB x p = false := by
      cases hh : lessB x p with
      | false => rfl
      | true => have := less_trans h hh; rw [less_irrefl] at this; cases this
    have h2 : x ≠ p := fun e => by subst e; rw [less_irrefl] at h; cases h
    simp [h1, h2]
/-- The least of what comes behind. -/
def leastStep (o : Option (List UInt8)) (m x : List UInt8) : List UInt8 := if aftB o x && (decide (m = []) || lessB x m) then x else m
def leastL (o : Option (List UInt8)) (l : List (List UInt8)) : List UInt8 := l.foldl (leastStep o) []
theorem leastL_snoc (o : Option (List UInt8)) (l : List (List UInt8)) (x : List UInt8) : leastL o (l ++ [x]) = leastStep o (leastL o l) x := by unfold leastL; rw [List.foldl_append]; rfl
theorem least_spec (o : Option (List UInt8)) : ∀ l : List (List UInt8), (leastL o l = [] ∧ ∀ x ∈ l, aftB o x = false) ∨ (leastL o l ≠ [] ∧ leastL o l ∈ l ∧ aftB o (leastL o l) = true ∧ ∀ x ∈ l, aftB o x = true → lessB x (leastL o l) = false) := by
  intro l
  induction l using rev_ind with
  | h0 => exact .inl ⟨rfl, by simp⟩
  | h1 l x ih =>
    rw [leastL_snoc]
    generalize leastL o l = m at ih
    unfold leastStep
    cases hx : aftB o x with
    | false =>
      rw [Bool.false_and, if_neg (by simp)]
      rcases ih with ⟨e, h⟩ | ⟨h0, h1, h2, h3⟩
      · refine .inl ⟨e, fun y hy => ?_⟩
        rcases List.mem_append.1 hy with hy | hy
        · exact h y hy
        · rw [List.mem_singleton.1 hy]; exact hx
      · refine .inr ⟨h0, List.mem_append_left _ h1, h2, fun y hy hay => ?_⟩
        rcases List.mem_append.1 hy with hy | hy
        · exact h3 y hy hay
        · rw [List.mem_singleton.1 hy, hx] at hay; cases hay
    | true =>
      have hxn : x ≠ [] := by unfold aftB at hx; intro e; rw [e] at hx; simp at hx
      rw [Bool.true_and]
      rcases ih with ⟨e, h⟩ | ⟨h0, h1, h2, h3⟩
      · rw [if_pos (by simp [e])]
        refine .inr ⟨hxn, by simp, hx, fun y hy hay => ?_⟩
        rcases List.mem_append.1 hy with hy | hy
        · rw [h y hy] at hay; cases hay
        · rw [List.mem_singleton.1 hy]; exact less_irrefl x
      · cases hl : lessB x m with
        | false =>
          rw [if_neg (by simp [h0])]
          refine .inr ⟨h0, List.mem_append_left _ h1, h2, fun y hy hay => ?_⟩
          rcases List.mem_append.1 hy with hy | hy
          · exact h3 y hy hay
          · rw [List.mem_singleton.1 hy]; exact hl
        | true =>
          rw [if_pos (by simp)]
          refine .inr ⟨hxn, by simp, hx, fun y hy hay => ?_⟩
          rcases List.mem_append.1 hy with hy | hy
          · cases hyx : lessB y x with
            | false => rfl
            | true => have := h3 y hy hay; rw [less_trans hyx hl] at this; cases this
          · rw [List.mem_singleton.1 hy]; exact less_irrefl x
/-- What was picked so far. -/
structure Picked (l out : List (List UInt8)) : Prop where
  only : ∀ x ∈ out, x ∈ l ∧ x ≠ []
  rest : ∀ x ∈ l, x ≠ [] → x ∈ out ∨ aftB out.getLast? x = true
theorem Picked.start (l : List (List UInt8)) : Picked l [] := ⟨by simp, fun x _ hx => .inr (by unfold aftB; simp [hx])⟩
theorem Picked.done {l out : List (List UInt8)} (h : Picked l out) (he : leastL out.getLast? l = []) : ∀ x, x ∈ out ↔ x ∈ l ∧ x ≠ [] := by
  intro x
  refine ⟨h.only x, fun ⟨h1, h2⟩ => ?_⟩
  rcases h.rest x h1 h2 with h3 | h3
  · exact h3
  · rcases least_spec out.getLast? l with ⟨-, h4⟩ | ⟨h4, -⟩
    · rw [h4 x h1] at h3; cases h3
    · exact absurd he h4
/-- How many are still to be picked. -/
def leftL (l out : List (List UInt8)) : Nat := (l.filter (aftB out.getLast?)).length
theorem filter_less {α : Type} {p q : α → Bool} {m : α} : ∀ {l : List α}, (∀ x ∈ l, p x = true → q x = true) → m ∈ l → q m = true → p m = false → (l.filter p).length < (l.filter q).length
  | [], _, hm, _, _ => by cases hm
  | x :: l, h, hm, hq, hp => by
    have hle : ∀ {l : List α}, (∀ x ∈ l, p x = true → q x = true) → (l.filter p).length ≤ (l.filter q).length := by
      intro l
      induction l with
      | nil => intro _; simp
      | cons y l ih =>
        intro h
        have := ih (fun x hx => h x (by simp [hx]))
        simp only [List.filter_cons]
        by_cases hpy : p y = true
        · rw [if_pos hpy, if_pos (h y (by simp) hpy)]; simp; omega
        · rw [if_neg hpy]; split <;> simp <;> omega
    have h' : ∀ y ∈ l, p y = true → q y = true := fun y hy => h y (by simp [hy])
    simp only [List.filter_cons]
    rcases List.mem_cons.1 hm with rfl | hm
    · rw [if_neg (by simp [hp]), if_pos hq]
      have := hle h'
      simp; omega
    · have := filter_less h' hm hq hp
      by_cases hpx : p x = true
      · rw [if_pos hpx, if_pos (h x (by simp) hpx)]; simp; omega
      · rw [if_neg hpx]; split <;> simp <;> omega
theorem Picked.push {l out : List (List UInt8)} (h : Picked l out) (hm : leastL out.getLast? l ≠ []) : Picked l (out ++ [leastL out.getLast? l]) ∧ leftL l (out ++ [leastL out.getLast? l]) < leftL l out := by
  rcases least_spec out.getLast? l with ⟨e, -⟩ | ⟨-, h1, h2, h3⟩
  · exact absurd e hm
  · generalize leastL out.getLast? l = m at *
    have hlast : (out ++ [m]).getLast? = some m := by simp
    have key : ∀ x, aftB (some m) x = true ↔ (x ≠ [] ∧ lessB m x = true) := fun x => by
      unfold aftB
      rw [Bool.and_eq_true, decide_eq_true_eq]
      exact ⟨fun ⟨a, b⟩ => ⟨a, aft_iff.1 b⟩, fun ⟨a, b⟩ => ⟨a, aft_iff.2 b⟩⟩
    refine ⟨⟨fun x hx => ?_, fun x hx hne => ?_⟩, ?_⟩
    · rcases List.mem_append.1 hx with hx | hx
      · exact h.only x hx
      · rw [List.mem_singleton.1 hx]; exact ⟨h1, hm⟩
    · rw [hlast]
      rcases h.rest x hx hne with h4 | h4
      · exact .inl (List.mem_append_left _ h4)
      · cases h5 : lessB m x with
        | true => exact .inr ((key x).2 ⟨hne, h5⟩)
        | false => exact .inl (by rw [less_total (h3 x hx h4) h5]; simp)
    · unfold leftL
      rw [hlast]
      refine filter_less (m := m) (fun x hx hp => ?_) h1 h2 ?_
      · obtain ⟨h4, h5⟩ := (key x).1 hp
        cases ho : out.getLast? with
        | none => unfold aftB; simp [h4]
        | some p =>
          rw [ho] at h2
          unfold aftB at h2 ⊢
          rw [Bool.and_eq_true] at h2 ⊢
          exact ⟨by simpa using h4, aft_iff.2 (less_trans (aft_iff.1 h2.2) h5)⟩
      · cases h4 : aftB (some m) m with
        | false => rfl
        | true => have := ((key m).1 h4).2; rw [less_irrefl] at this; cases this

end Go.Proofs.YtajclfjedlkbcaaGreatDoor
/- Maps from texts to bool, used as sets: made, filled, asked. -/
namespace Go.Proofs.YtajclfjedlkbcaaGreatDoor
open Go.RowKit Go.Redl Go.Maps
set_option linter.unusedVariables false
set_option linter.unusedSimpArgs false

/-- A set as what the map reads as. -/
def setS (acc : List (List UInt8)) : DataW Unit := Maps.setOf (.lit (.bool true)) (acc.map Lit.string)
theorem setS_nil : setS [] = .map [] := rfl
theorem setS_snoc (acc : List (List UInt8)) (k : List UInt8) : setS (acc ++ [k]) = (setS acc).put (.string k) (.lit (.bool true)) := by
  unfold setS
  rw [List.map_append, List.map_cons, List.map_nil, Maps.setOf_snoc]
theorem setS_map (acc : List (List UInt8)) : Maps.IsMap (setS acc) := (Maps.tidy_setOf _ _ (fun x hx => by obtain ⟨s, -, rfl⟩ := List.mem_map.1 hx; trivial)).isMap
theorem setS_has (acc : List (List UInt8)) (k : List UInt8) : Maps.has (setS acc) (.string k) = decide (k ∈ acc) := by
  unfold setS
  rw [Maps.has_setOf _ _ _ (fun x hx => by obtain ⟨s, -, rfl⟩ := List.mem_map.1 hx; trivial), List.any_map]
  by_cases h : k ∈ acc
  · rw [decide_eq_true h, List.any_eq_true]
    exact ⟨k, h, by simp [Lit.sameKey]⟩
  · rw [decide_eq_false h, List.any_eq_false]
    intro x hx
    have : x ≠ k := fun e => h (e ▸ hx)
    simp [Lit.sameKey, this]
theorem setS_at (acc : List (List UInt8)) (k : List UInt8) : (setS acc).atKey (.string k) (.lit (.bool false)) = .lit (.bool (decide (k ∈ acc))) := by
  induction acc using rev_ind with
  | h0 => rfl
  | h1 acc x ih =>
    rw [setS_snoc]
    by_cases h : k = x
    · subst h
      rw [Maps.atKey_put_same (k := .string k) (setS_map acc) trivial]
      simp
    · rw [Maps.atKey_put_other (by simpa using h), ih]
      simp [h]

set_option maxRecDepth 100000
abbrev strLaw : Maps.Keyed Tryz.prog 9 := Maps.string_keyed Tryz.underlying9
/-- Block b is a map of at most n entries that holds just these texts. -/
def SetAt (w : World) (b n : Nat) (acc : List (List UInt8)) : Prop := w.ownsMap Tryz.prog 9 (plainElem (H := Unit) Tryz.prog 4) b n (setS acc)
theorem SetAt.fresh (w : World) : SetAt (w.alloc (.map #[] 0)) w.heap.size 0 [] := World.ownsMap_made w _ _ _
theorem SetAt.lt {w : World} {b n : Nat} {acc : List (List UInt8)} (h : SetAt w b n acc) : b < w.heap.size := World.ownsMap.lt h
theorem SetAt.kept {w w' : World} {b n : Nat} {acc : List (List UInt8)} (h : SetAt w b n acc) (hb : Below w.heap.size w w') : SetAt w' b n acc := World.ownsMap.kept h (grownBy_of_below hb) (by simp)
theorem SetAt.mono {w : World} {b n m : Nat} {acc : List (List UInt8)} (h : SetAt w b n acc) (hm : n ≤ m) : SetAt w b m acc := World.ownsMap.mono h hm
theorem SetAt.setCell {w : World} {b n : Nat} {acc : List (List UInt8)} (h : SetAt w b n acc) {a : Addr} (ha : b ≠ a.block) (u : Value) : SetAt (w.setCell a u) b n acc := World.ownsMap.setCell h ha u
theorem zeroB (w : World) : (zeroValue 4).run Tryz.prog w = .ok (.bool false) w := by kernel_rfl
/-- The map's type, by its number. -/
theorem SetAt.ask {w : World} {b n : Nat} {acc : List (List UInt8)} (h : SetAt w b n acc) (k : List UInt8) (hk : k.length ≤ maxLen) :
    (Instr.lookup 99 (.map (some b)) (strV k) false).run Tryz.prog w = .ok (.bool (decide (k ∈ acc))) w := by
  obtain ⟨v, ps, hrun, hv⟩ := World.ownsMap.lookup h strLaw Tryz.underlying99 (zeroB w) (plainElem_bool Tryz.underlying4 false) (WideMaps.keyOf_string_mk Tryz.underlying9 (s := ⟨k.toArray⟩) hk)
  rw [setS_at] at hv
  have hvv : v = .bool (decide (k ∈ acc)) := by
    unfold plainElem at hv
    rw [Tryz.underlying4] at hv
    cases v with
    | bool b =>
      simp only [Option.some.injEq, Prod.mk.injEq] at hv
      have h1 := hv.1
      injection h1 with h1
      injection h1 with h1
      rw [h1]
    | _ => cases hv
  rw [hrun, hvv]
theorem SetAt.put {w : World} {b n : Nat} {acc : List (List UInt8)} (h : SetAt w b n acc) (hn : n < maxLen) (k : List UInt8) (hk : k.length ≤ maxLen) :
    ∃ w', (Instr.mapUpdate 99 (.map (some b)) (strV k) (.bool true)).run Tryz.prog w = .ok () w' ∧ SetAt w' b (n + 1) (acc ++ [k]) ∧ w.grownBy w' (some b) := by
  obtain ⟨w', hrun, h1, h2⟩ := World.ownsMap.update h strLaw Tryz.underlying99 hn (WideMaps.keyOf_string_mk Tryz.underlying9 (s := ⟨k.toArray⟩) hk) (plainElem_bool Tryz.underlying4 true)
  exact ⟨w', hrun, by unfold SetAt; rw [setS_snoc]; exact h1, h2⟩
/-- A text put in, as one operation of a plain region. -/
theorem wpList_putS {ops : Array Oper} {rest : List Oper} {o : Oper} {a : Act} {w : World} {Q : Exit → Act → World → Prop} (hg : o.guard = none) (m x v : Operand) (ho : o.op = .mapUpdate 99 m x v)
    (b n : Nat) (acc : List (List UInt8)) (k : List UInt8) (hm : a.eval m = .map (some b)) (hx : a.eval x = strV k) (hv : a.eval v = .bool true) (h : SetAt w b n acc) (hn : n < maxLen) (hk : k.length ≤ maxLen)
    (hK : ∀ w', SetAt w' b (n + 1) (acc ++ [k]) → w.grownBy w' (some b) → wpList Tryz.prog ops Q rest (a.put o.dst undef) w') : wpList Tryz.prog ops Q (o :: rest) a w := by
  obtain ⟨w', hrun, r1, r2⟩ := h.put hn k hk
  refine wpList_plain hg fun K' hK' => ?_
  unfold Oper.wp
  simp [execOp, ho, hm, hx, hv, hrun, Result.andThen]
  exact hK' _ _ (hK w' r1 r2)

end Go.Proofs.YtajclfjedlkbcaaGreatDoor
/- Walk: table.rules. -/
namespace Go.Proofs.YtajclfjedlkbcaaGreatDoor
open Go.RowKit Go.Redl
set_option linter.unusedVariables false
set_option linter.unusedSimpArgs false

theorem info_ruleT : (Tryz.prog.info? 27).map (fun i => (i.zero, i.size, i.bytes)) = some (some (.agg #[.string ⟨#[]⟩, .int .i64 0, .string ⟨#[]⟩, .int .i64 0, .string ⟨#[]⟩, .slice none 0 0, .int .i64 0, .string ⟨#[]⟩]), 8, 112) := by kernel_rfl
set_option maxRecDepth 100000 in
set_option maxHeartbeats 400000 in
theorem clone_rule (B n : Nat) (a : Option Addr) (cap : Nat) (cs : List Value) (w : World) (hr : RowA w B 8 a n cap cs) (hB : B ≤ w.heap.size) (hn : n ≤ 100000000) :
    Calls Tryz.prog 56 #[.slice a n cap] w (MadeRow w 27 8 n cs) := by
  have hel := fun (w : World) => Lib.run_eql_slice_nil w (P := Tryz.prog) 22 27 a n cap 0 0 Tryz.underlying22
  cases ha : a with
  | none =>
    subst ha
    obtain rfl := hr.nil rfl
    obtain rfl : n = 0 := by have := hr.le; omega
    have hcs : cs = [] := List.eq_nil_of_length_eq_zero (by simpa using hr.len)
    subst hcs
    go_enter Tryz.func56, Tryz.ntmps56
    go_wp2_with fail
    go_ret
    exact ⟨_, rfl, World.ownsRow_nil _ _ _ _, Below.refl _ _⟩
  | some ad =>
    subst ha
    go_enter Tryz.func56, Tryz.ntmps56
    go_wp2_with (at_builtin; refine wpList_app rfl _ _ 22 rfl w.heap.size 27 (.agg #[.string ⟨#[]⟩, .int .i64 0, .string ⟨#[]⟩, .int .i64 0, .string ⟨#[]⟩, .slice none 0 0, .int .i64 0, .string ⟨#[]⟩]) 8 112 Tryz.underlying22 info_ruleT rfl (by decide) _ 0 [] rfl ?hown _ n cap B cs rfl ?hr ?h63 ?hb ?hbase ?_)
    case hown => exact World.ownsRow_lit w #[] 0 (Nat.le_refl _) (Nat.zero_le _) rfl
    case hr => exact hr.keep ((Below.refl _ _).alloc hB _) (Nat.le_refl _)
    case h63 => unfold maxLen; omega
    case hb => omega
    case hbase => simp
    intro v' w1 hown hgrow
    have Ho := Lib.hid hown; have Hg := Lib.hid hgrow; clear hown hgrow hel hr
    go_wp2_with fail
    go_ret
    refine ⟨v', rfl, by simpa using Ho.out, ((Below.refl _ _).alloc (Nat.le_refl _) _).grown Hg.out (by simp) ?_⟩
    simp [Value.ownBlock]

theorem clone_rule_ent : ∀ args w, (callFunc 56 args).run Tryz.prog w = .ok (.enter 56 args) w := by intro args w; kernel_rfl
theorem RulesC.push_ {w : World} {B : Nat} {x : RuleD} {cx : List Value} (hx : RuleC w B x cx) : ∀ {rs : List RuleD} {css : List Value}, RulesC w B rs css → RulesC w B (rs ++ [x]) (css ++ cx)
  | [], css, h => by rw [show css = [] from h]; exact ⟨cx, [], by simp, hx, rfl⟩
  | r :: rs, css, h => by
    obtain ⟨c1, c2, rfl, h2, h3⟩ := h
    exact ⟨c1, c2 ++ cx, by rw [List.append_assoc], h2, RulesC.push_ hx h3⟩
theorem row_at {w : World} {N : Nat} {cs : List Value} {T : TypeId} (h : At w N cs T) (n sz : Nat) (hl : cs.length = n * sz) (hn : n ≤ 100000000) (h1 : ∀ u ∈ cs, u.oneCell' = true) : RowA w (N + 1) sz (some ⟨N, 0, none⟩) n n cs :=
  ⟨hl, Nat.le_refl _, by unfold maxLen; omega, h1, (fun e => by cases e), fun _ => ⟨N, 0, rfl, by omega, fun j u hj => by rw [Nat.zero_add]; exact h.cell j hj⟩⟩
theorem At.drw {w : World} {N : Nat} {cs : List Value} {T : TypeId} (h : At w N cs T) : At w.drew N cs T := h
/-- All rules, in a row of their own. -/
abbrev AllRB (s : SchemaD) (B : Nat) (W : World) (e : Ending) (w' : World) : Prop :=
  ∃ a c css, e = .returned (.slice a (allR s).length c) ∧ RowQ w' (fun b => W.heap.size ≤ b) 8 a (allR s).length c css ∧ RulesC w' B (allR s) css ∧ Below W.heap.size W w'
abbrev AllRP (s : SchemaD) (W : World) (e : Ending) (w' : World) : Prop := AllRB s W.heap.size W e w'
theorem rules_ent : ∀ args w, (callFunc 26 args).run Tryz.prog w = .ok (.enter 26 args) w := by intro args w; kernel_rfl

set_option maxRecDepth 100000 in
set_option maxHeartbeats 2000000 in
theorem rules_cB (s : SchemaD) (v : Value) (B : Nat) (W : World) (hw : s.wt ≤ 100000000) (hv : SchemaV W B s v) (hB : B ≤ W.heap.size) : Calls Tryz.prog 26 #[v] W (AllRB s B W) := by
  have hrl : s.rules.length ≤ 100000000 := by have := rulesWt_len s.rules; unfold SchemaD.wt at hw; omega
  obtain ⟨a, c, css, ea, ec, o0, o1, o2, o3, o4, o5, rfl, h1, h2, h3, -⟩ := hv.open
  obtain ⟨rs, ⟨ty, ⟨td, tt⟩, ⟨od, ot⟩, kids, fill, ft⟩, order, scap⟩ := s
  simp only at hrl h1 h2 h3 ⊢
  have HF := Lib.hid (show ∀ (w' : World) (v' : Value) (e : Ending), e = .returned v' → w'.ownsRow W.heap.size 27 8 v' (rs.length + 1) (css ++ [strV ty, .int .i64 td, strV tt, .int .i64 od, strV ot, .slice ea kids.length ec, .int .i64 fill, strV ft]) → Below W.heap.size W w' → AllRB ⟨rs, ⟨ty, (td, tt), (od, ot), kids, fill, ft⟩, order, scap⟩ B W e w' from by
    rintro w' v' e rfl hown hb
    have h2' := RulesC.keep (hb.mono hB) (Nat.le_refl _) h2
    have hx : RuleC w' B ⟨ty, (td, tt), (od, ot), kids, fill, ft⟩ [strV ty, .int .i64 td, strV tt, .int .i64 od, strV ot, .slice ea kids.length ec, .int .i64 fill, strV ft] := ⟨ea, ec, rfl, h3.keep (hb.mono hB) (Nat.le_refl _)⟩
    have h4 := RulesC.push_ hx h2'
    obtain ⟨a', c', rfl, hr⟩ := rowq_own hown (h4.one)
    refine ⟨a', c', _, ?_, ?_, h4, hb⟩
    · simp
    · simpa using hr)
  obtain ⟨w0, hw0⟩ : ∃ w0, w0 = W.alloc (Obj.cells #[.slice a rs.length c, strV ty, .int .i64 td, strV tt, .int .i64 od, strV ot, .slice ea kids.length ec, .int .i64 fill, strV ft, .int .i64 o0, .int .i64 o1, .int .i64 o2, .int .i64 o3, .int .i64 o4, .int .i64 o5, .int .i64 scap] 30) := ⟨_, rfl⟩
  have hb0 : Below W.heap.size W w0 := by rw [hw0]; exact one_below _ _
  have hA : At w0 W.heap.size [.slice a rs.length c, strV ty, .int .i64 td, strV tt, .int .i64 od, strV ot, .slice ea kids.length ec, .int .i64 fill, strV ft, .int .i64 o0, .int .i64 o1, .int .i64 o2, .int .i64 o3, .int .i64 o4, .int .i64 o5, .int .i64 scap] 30 := by rw [hw0]; exact At.fresh W _ _
  have Hw0 := Lib.hid hw0
  have Hb0 := Lib.hid hb0
  have HS0 := Lib.hid (fun (w' : World) (hb : Below w0.heap.size w0 w') => have h := hA.kept hb; (⟨h.cell 0 rfl, h.cell 1 rfl, h.cell 2 rfl, h.cell 3 rfl, h.cell 4 rfl, h.cell 5 rfl, h.cell 6 rfl, h.cell 7 rfl, h.cell 8 rfl⟩ : w'.cell? ⟨W.heap.size, 0, none⟩ = some (.slice a rs.length c) ∧ w'.cell? ⟨W.heap.size, 1, none⟩ = some (strV ty) ∧ w'.cell? ⟨W.heap.size, 2, none⟩ = some (.int .i64 td) ∧ w'.cell? ⟨W.heap.size, 3, none⟩ = some (strV tt) ∧ w'.cell? ⟨W.heap.size, 4, none⟩ = some (.int .i64 od) ∧ w'.cell? ⟨W.heap.size, 5, none⟩ = some (strV ot) ∧ w'.cell? ⟨W.heap.size, 6, none⟩ = some (.slice ea kids.length ec) ∧ w'.cell? ⟨W.heap.size, 7, none⟩ = some (.int .i64 fill) ∧ w'.cell? ⟨W.heap.size, 8, none⟩ = some (strV ft)))
  have HC := Lib.hid (fun (w' : World) (hb : Below w0.heap.size w0 w') => clone_rule w'.heap.size rs.length a c css w' (h1.keep ((hb0.trans (hb.mono hb0.size)).mono hB) (Nat.le_trans hB (Nat.le_trans hb0.size hb.size))) (Nat.le_refl _) hrl)
  have HE := Lib.hid (show ∀ (u : Value), u ∈ [strV ty, .int .i64 td, strV tt, .int .i64 od, strV ot, .slice ea kids.length ec, .int .i64 fill, strV ft] → u.oneCell' = true from fun u hu => by simp at hu; rcases hu with rfl | rfl | rfl | rfl | rfl | rfl | rfl | rfl <;> rfl)
  have Hcl := Lib.hid h1.len
  clear hv hb0 hA hw0 h1 h2 h3 hw hB
  go_enter Tryz.func26, Tryz.ntmps26
  go_upto_region 1 with fail
  rw [← Hw0.out]
  clear Hw0
  go_region_held3 (fun w' => w'.cell? ⟨W.heap.size, 0, none⟩ = some (.slice a rs.length c) ∧ w'.cell? ⟨W.heap.size, 1, none⟩ = some (strV ty) ∧ w'.cell? ⟨W.heap.size, 2, none⟩ = some (.int .i64 td) ∧ w'.cell? ⟨W.heap.size, 3, none⟩ = some (strV tt) ∧ w'.cell? ⟨W.heap.size, 4, none⟩ = some (.int .i64 od) ∧ w'.cell? ⟨W.heap.size, 5, none⟩ = some (strV ot) ∧ w'.cell? ⟨W.heap.size, 6, none⟩ = some (.slice ea kids.length ec) ∧ w'.cell? ⟨W.heap.size, 7, none⟩ = some (.int .i64 fill) ∧ w'.cell? ⟨W.heap.size, 8, none⟩ = some (strV ft)) (refine HS0.out _ (by ((repeat (first | with_reducible exact Hb2.out | with_reducible exact Hb1.out | with_reducible exact Below.refl _ _ | with_reducible refine Below.drew ?_ | with_reducible refine Below.alloc ?_ ?_ _ | with_reducible refine Below.setCell ?_ ?_ _)) <;> (first | with_reducible exact Nat.le_refl _ | with_reducible exact Hb2.out.size | with_reducible exact Hb1.out.size | (have hsz := Hb2.out.size; simp [World.setCell]; omega) | (have hsz := Hb1.out.size; simp [World.setCell]; omega) | (simp; done) | (simp; omega) | omega))))
    (first
    | (refine step_call rfl 56 _ _ rfl clone_rule_ent [.slice a rs.length c] ?_ _ (HC.out _ (by ((repeat (first | with_reducible exact Below.refl _ _ | with_reducible refine Below.drew ?_ | with_reducible refine Below.alloc ?_ ?_ _ | with_reducible refine Below.setCell ?_ ?_ _)) <;> (first | with_reducible exact Nat.le_refl _ | (simp; done) | (simp; omega) | omega)))) ?_
       · go_simp
       rintro e w1 ⟨v1, rfl, hown, hbel⟩
       refine ⟨_, rfl, ?_⟩
       have Hb1 := Lib.hid (below_and (w0 := w0) (by ((repeat (first | with_reducible exact Below.refl _ _ | with_reducible refine Below.drew ?_ | with_reducible refine Below.alloc ?_ ?_ _ | with_reducible refine Below.setCell ?_ ?_ _)) <;> (first | with_reducible exact Nat.le_refl _ | (simp; done) | (simp; omega) | omega))) hbel)
       have Hown := Lib.hid (own_mono hown ((Below.size (w := w0) (B := w0.heap.size) (by ((repeat (first | with_reducible exact Below.refl _ _ | with_reducible refine Below.drew ?_ | with_reducible refine Below.alloc ?_ ?_ _ | with_reducible refine Below.setCell ?_ ?_ _)) <;> (first | with_reducible exact Nat.le_refl _ | (simp; done) | (simp; omega) | omega))))))
       first
         | (have h9 := At.kept (w := World.drew _) (At.drw (At.fresh _ [strV ty, .int .i64 td, strV tt, .int .i64 od, strV ot, .slice ea kids.length ec, .int .i64 fill, strV ft] 27)) hbel
            have HA9 := Lib.hid (show At w1 w0.heap.size [strV ty, .int .i64 td, strV tt, .int .i64 od, strV ot, .slice ea kids.length ec, .int .i64 fill, strV ft] 27 from h9)
            clear h9)
         | skip
       clear hown hbel)
    | (refine step_app (w := w1.alloc (Obj.cells #[strV ty, .int .i64 td, strV tt, .int .i64 od, strV ot, .slice ea kids.length ec, .int .i64 fill, strV ft] 27)) rfl _ _ _ rfl w0.heap.size 27 _ 8 112 Tryz.underlying22 info_ruleT rfl (by decide) v1 rs.length css ?_ (own_keep Hown.out (one_below w1 _)) (some ⟨w1.heap.size, 0, none⟩) 1 1 (w1.heap.size + 1) [strV ty, .int .i64 td, strV tt, .int .i64 od, strV ot, .slice ea kids.length ec, .int .i64 fill, strV ft] ?_ (row_at (At.fresh w1 [strV ty, .int .i64 td, strV tt, .int .i64 od, strV ot, .slice ea kids.length ec, .int .i64 fill, strV ft] 27) 1 8 rfl (by omega) HE.out) ?_ ?_ ?_ ?_
       · go_simp
       · go_simp
       · unfold maxLen; omega
       · omega
       · exact (Nat.le_trans Hb1.out.size (one_below w1 _).size)
       intro v2 w2 hown2 hgrow
       have Hb2 := Lib.hid ((below_and Hb1.out (one_below w1 _)).grown hgrow (Nat.le_trans Hb1.out.size (one_below w1 _).size) (fun k hk => (Hown.out.lt k hk).1))
       have HZ := Lib.hid (HF.out w2 v2 _ rfl (own_mono hown2 Hb0.out.size) (Hb0.out.trans (Hb2.out.mono Hb0.out.size)))
       clear hown2 hgrow)
    | (refine step_app (w := w1) rfl _ _ _ rfl w0.heap.size 27 _ 8 112 Tryz.underlying22 info_ruleT rfl (by decide) v1 rs.length css ?_ (Hown.out) (some ⟨w0.heap.size, 0, none⟩) 1 1 (w0.heap.size + 1) [strV ty, .int .i64 td, strV tt, .int .i64 od, strV ot, .slice ea kids.length ec, .int .i64 fill, strV ft] ?_ (row_at HA9.out 1 8 rfl (by omega) HE.out) ?_ ?_ ?_ ?_
       · go_simp
       · go_simp
       · unfold maxLen; omega
       · omega
       · exact (Hb1.out.size)
       intro v2 w2 hown2 hgrow
       have Hb2 := Lib.hid (Hb1.out.grown hgrow Hb1.out.size (fun k hk => (Hown.out.lt k hk).1))
       have HZ := Lib.hid (HF.out w2 v2 _ rfl (own_mono hown2 Hb0.out.size) (Hb0.out.trans (Hb2.out.mono Hb0.out.size)))
       clear hown2 hgrow)
  )
  all_goals
    go_wp2_with fail
    go_ret
    exact HZ.out

theorem rules_c (s : SchemaD) (v : Value) (W : World) (hw : s.wt ≤ 100000000) (hv : SchemaV W W.heap.size s v) : Calls Tryz.prog 26 #[v] W (AllRP s W) := rules_cB s v _ W hw hv (Nat.le_refl _)

end Go.Proofs.YtajclfjedlkbcaaGreatDoor
/- Walk: table.depth. -/
namespace Go.Proofs.YtajclfjedlkbcaaGreatDoor
open Go.RowKit Go.Redl
set_option linter.unusedVariables false
set_option linter.unusedSimpArgs false

theorem load_at {P : Program} {w : World} {N : Nat} {cs : List Value} {T : TypeId} {d : TypeDesc} (h : At w N cs T) (hu : P.underlying T = some d) (hd : d.isRow = true) (hi : (P.info? T).map (·.size) = some cs.length) : (Instr.loadAt T (.pointer (some ⟨N, 0, none⟩))).run P w = .ok (.agg cs.toArray) w :=
  run_loadAt_mid w N 0 T cs d (fun j v hj => by rw [Nat.zero_add]; exact h.cell j hj) hu hd hi
theorem SetAt.s8 {w : World} {b n N : Nat} {acc : List (List UInt8)} (h : SetAt w b n acc) (hne : b ≠ N) (d0 d1 d2 d3 d4 d5 d6 d7 : Value) :
    SetAt ((((((((w.setCell ⟨N, 0, none⟩ d0).setCell ⟨N, 1, none⟩ d1).setCell ⟨N, 2, none⟩ d2).setCell ⟨N, 3, none⟩ d3).setCell ⟨N, 4, none⟩ d4).setCell ⟨N, 5, none⟩ d5).setCell ⟨N, 6, none⟩ d6).setCell ⟨N, 7, none⟩ d7) b n acc :=
  (((((((h.setCell (a := ⟨N, 0, none⟩) hne d0).setCell (a := ⟨N, 1, none⟩) hne d1).setCell (a := ⟨N, 2, none⟩) hne d2).setCell (a := ⟨N, 3, none⟩) hne d3).setCell (a := ⟨N, 4, none⟩) hne d4).setCell (a := ⟨N, 5, none⟩) hne d5).setCell (a := ⟨N, 6, none⟩) hne d6).setCell (a := ⟨N, 7, none⟩) hne d7
theorem truleOf_ent : ∀ args w, (callFunc 57 args).run Tryz.prog w = .ok (.enter 57 args) w := by intro args w; kernel_rfl
theorem depth_ent : ∀ args w, (callFunc 27 args).run Tryz.prog w = .ok (.enter 27 args) w := by intro args w; kernel_rfl
set_option maxRecDepth 100000 in
set_option maxHeartbeats 4000000 in
theorem depth_c (s : SchemaD) (v : Value) (r : RuleD) (a : Option Addr) (c : Nat) (W : World) (hw : s.wt ≤ 100000000) (hv : SchemaV W W.heap.size s v) (hr : r ∈ allR s) :
    Calls Tryz.prog 27 #[v, .agg #[strV r.type, .int .i64 r.text.1, strV r.text.2, .int .i64 r.other.1, strV r.other.2, .slice a r.kids.length c, .int .i64 r.fill, strV r.fillT]] W fun e w' => e = .returned (.int .i64 (depthN s r)) ∧ Below W.heap.size W w' := by
  have hrl : s.rules.length ≤ 100000000 := by have := rulesWt_len s.rules; unfold SchemaD.wt at hw; omega
  have Hv := Lib.hid (fun (w' : World) (hb : Below W.heap.size W w') => hv.keep hb hb.size)
  obtain ⟨sa, sc, css, ea, ec, o0, o1, o2, o3, o4, o5, rfl, -, -, -, -⟩ := hv.open
  obtain ⟨R, hR⟩ : ∃ R, R = depthN s r := ⟨_, rfl⟩
  have HR := Lib.hid (show depthF s (s.rules.length + 2) [] r 0 = R from hR.symm)
  rw [← hR]
  have Hrr := Lib.hid hr
  obtain ⟨w0, hw0⟩ : ∃ w0, w0 = (W.alloc (Obj.cells #[.slice sa s.rules.length sc, strV s.els.type, .int .i64 s.els.text.1, strV s.els.text.2, .int .i64 s.els.other.1, strV s.els.other.2, .slice ea s.els.kids.length ec, .int .i64 s.els.fill, strV s.els.fillT, .int .i64 o0, .int .i64 o1, .int .i64 o2, .int .i64 o3, .int .i64 o4, .int .i64 o5, .int .i64 s.cap] 30)).alloc (Obj.cells #[strV r.type, .int .i64 r.text.1, strV r.text.2, .int .i64 r.other.1, strV r.other.2, .slice a r.kids.length c, .int .i64 r.fill, strV r.fillT] 27) := ⟨_, rfl⟩
  have hb0 : Below W.heap.size W w0 := by rw [hw0]; exact two_below _ _ _
  have hA : At w0 W.heap.size [.slice sa s.rules.length sc, strV s.els.type, .int .i64 s.els.text.1, strV s.els.text.2, .int .i64 s.els.other.1, strV s.els.other.2, .slice ea s.els.kids.length ec, .int .i64 s.els.fill, strV s.els.fillT, .int .i64 o0, .int .i64 o1, .int .i64 o2, .int .i64 o3, .int .i64 o4, .int .i64 o5, .int .i64 s.cap] 30 := by rw [hw0]; exact (At.fresh W _ _).alloc _
  have hX : At w0 (W.heap.size + 1) [strV r.type, .int .i64 r.text.1, strV r.text.2, .int .i64 r.other.1, strV r.other.2, .slice a r.kids.length c, .int .i64 r.fill, strV r.fillT] 27 := by rw [hw0]; exact At.second W _ _ _
  have hld := fun (w' : World) (h : At w' W.heap.size [.slice sa s.rules.length sc, strV s.els.type, .int .i64 s.els.text.1, strV s.els.text.2, .int .i64 s.els.other.1, strV s.els.other.2, .slice ea s.els.kids.length ec, .int .i64 s.els.fill, strV s.els.fillT, .int .i64 o0, .int .i64 o1, .int .i64 o2, .int .i64 o3, .int .i64 o4, .int .i64 o5, .int .i64 s.cap] 30) => load_at (P := Tryz.prog) h Tryz.underlying30 rfl (by kernel_rfl)
  simp [go_sem] at hld
  have HLD := Lib.hid hld
  have hmm := @run_makeMap Tryz.prog
  have hM0 := hX.lt
  have Hw0 := Lib.hid hw0
  have Hwt := Lib.hid hw
  obtain ⟨M, hM⟩ : ∃ M, M = w0.heap.size := ⟨_, rfl⟩
  obtain ⟨w1, hw1⟩ : ∃ w1, w1 = w0.alloc (.map #[] 0) := ⟨_, rfl⟩
  have HS1 := Lib.hid (show SetAt w1 M 0 ([] : List (List UInt8)).reverse by rw [hw1, hM]; exact SetAt.fresh w0)
  have hb1 : Below W.heap.size W w1 := by rw [hw1]; exact hb0.alloc hb0.size _
  have HA1 := Lib.hid (show At w1 W.heap.size _ _ by rw [hw1]; exact hA.alloc _)
  have HX1 := Lib.hid (show At w1 (W.heap.size + 1) _ _ by rw [hw1]; exact hX.alloc _)
  have Hb1 := Lib.hid hb1
  have Hw1 := Lib.hid hw1
  have HM := Lib.hid hM
  have hMW : W.heap.size + 1 < M := by rw [hM]; exact hM0
  clear hv hw hw0 hb0 hA hX hld hR hr hM hw1 hb1 hM0
  go_enter Tryz.func27, Tryz.ntmps27
  go_upto_region 1 with fail
  rw [← Hw0.out]
  clear Hw0
  go_upto_region 2 with fail
  rw [← Hw1.out, ← HM.out]
  clear Hw1 HM hmm
  go_wp2_with fail
  go_loopg [6] (s.rules.length + 2) (fun g i wr => ∃ (n : Nat) (met : List (List UInt8)) (q : RuleD) (qa : Option Addr) (qc : Nat), i = .int .i64 n ∧ met.length = n ∧ n + g = s.rules.length + 2 ∧ Hid (met.Nodup) ∧ Hid (∀ x ∈ met, x ∈ (allR s).map (·.type)) ∧ Hid (q ∈ allR s) ∧ Hid (depthF s g met q n = R) ∧
    Hid (At wr (W.heap.size + 1) [strV q.type, .int .i64 q.text.1, strV q.text.2, .int .i64 q.other.1, strV q.other.2, .slice qa q.kids.length qc, .int .i64 q.fill, strV q.fillT] 27) ∧
    Hid (At wr W.heap.size [.slice sa s.rules.length sc, strV s.els.type, .int .i64 s.els.text.1, strV s.els.text.2, .int .i64 s.els.other.1, strV s.els.other.2, .slice ea s.els.kids.length ec, .int .i64 s.els.fill, strV s.els.fillT, .int .i64 o0, .int .i64 o1, .int .i64 o2, .int .i64 o3, .int .i64 o4, .int .i64 o5, .int .i64 s.cap] 30) ∧
    Hid (SetAt wr M n met.reverse) ∧ Hid (Below W.heap.size W wr))
  case atStart => exact ⟨0, [], r, a, c, rfl, rfl, by omega, (show List.Nodup [] from List.nodup_nil), (show ∀ x ∈ [], _ from by simp), Hrr, HR, HX1, HA1, HS1, Hb1⟩
  case round =>
    obtain ⟨n, met, q, qa, qc, rfl, hml, hg, hnd, hin, hq, hdp, hx, ha, hs, hbr⟩ := hrel
    have hle := met_le hnd.out hin.out
    obtain ⟨g', hg'⟩ : ∃ g', gk = g' + 1 := ⟨gk - 1, by omega⟩
    have hql : q.type.length ≤ maxLen := by have h1 := allR_wt hq.out; have h2 := Hwt.out; unfold RuleD.wt at h1; unfold maxLen; omega
    have hdp2 := hdp.out
    rw [hg', depth_step] at hdp2
    have Hgg := Lib.hid (show n + 1 + g' = s.rules.length + 2 ∧ g' < gk from by omega)
    obtain ⟨⟨x0, x1, x2, x3, x4, x5, x6, x7⟩, xf, xl⟩ := hx.out.f8
    have Hql := Lib.hid hql
    clear hdp hle hql hg'
    by_cases h0 : q.fill = 0
    · have Hz := Lib.hid (show (n : Int) = R by rw [if_pos h0] at hdp2; exact hdp2)
      rw [h0] at x6
      clear hdp2 h0
      go_wp2_with fail
      go_ret
      exact ⟨ret_int Hz.out, hbr.out⟩
    · by_cases h1 : q.fill = 1
      · have Hz := Lib.hid (show (n : Int) + 1 = R by rw [if_neg h0, if_pos h1] at hdp2; exact hdp2)
        rw [h1] at x6
        clear hdp2 h0 h1
        go_wp2_with fail
        go_ret
        exact ⟨ret_int Hz.out, hbr.out⟩
      · have h0b : (q.fill == 0) = false := beq_eq_false_iff_ne.2 h0
        have h1b : (q.fill == 1) = false := beq_eq_false_iff_ne.2 h1
        rw [if_neg h0, if_neg h1] at hdp2
        have hask := hs.out.ask q.type Hql.out
        by_cases hmem : q.type ∈ met
        · have Hz := Lib.hid (show (-1 : Int) = R by rw [if_pos hmem] at hdp2; exact hdp2)
          rw [decide_eq_true (List.mem_reverse.2 hmem)] at hask
          clear hdp2 h0 h1 hmem
          go_wp2_with fail
          go_ret
          exact ⟨ret_int Hz.out, hbr.out⟩
        · have Hdp := Lib.hid (show depthF s g' (q.type :: met) (ruleOf s q.fillT) (n + 1) = R by rw [if_neg hmem] at hdp2; exact hdp2)
          have Hmem := Lib.hid hmem
          rw [decide_eq_false (fun h => hmem (List.mem_reverse.1 h))] at hask
          clear hdp2 h0 h1 hmem
          go_upto_region 10 with fail
          go_wp2_with (at_mapUpdate; refine wpList_putS rfl _ _ _ rfl M n met.reverse q.type rfl rfl rfl hs.out ?hn Hql.out ?_)
          case hn => have h9 := Hgg.out.1; unfold maxLen; omega
          intro w2 hs2 hgrow
          have hne1 : (some M : Option Nat) ≠ some (W.heap.size + 1) := by intro e; injection e with e; omega
          have hne0 : (some M : Option Nat) ≠ some W.heap.size := by intro e; injection e with e; omega
          have HX2 := Lib.hid (hx.out.grown hgrow hne1)
          have HA2 := Lib.hid (ha.out.grown hgrow hne0)
          have HS2 := Lib.hid (show SetAt w2 M (n + 1) (q.type :: met).reverse by rw [List.reverse_cons]; exact hs2)
          have Hb2 := Lib.hid (hbr.out.grown hgrow hbr.out.size (fun k e => by cases e; omega))
          have hC := ruleOf_c s _ q.fillT w2 Hwt.out (Hv.out w2 Hb2.out)
          have HC := Lib.hid hC
          have hld := HLD.out w2 HA2.out
          clear hs2 hgrow hne1 hne0 x0 x1 x2 x3 x4 x5 x6 x7 xf hx ha hs hask hC
          obtain ⟨⟨x0, x1, x2, x3, x4, x5, x6, x7⟩, xf, xl2⟩ := HX2.out.f8
          go_wp2_with fail
          refine HC.out.mono ?_
          rintro e w3 ⟨ka, kc, rfl, -, hbel⟩
          have Hb3 := Lib.hid (Hb2.out.trans (hbel.mono Hb2.out.size))
          have HX3 := Lib.hid (HX2.out.kept hbel)
          have HA3 := Lib.hid (HA2.out.kept hbel)
          have HS3 := Lib.hid (HS2.out.kept hbel)
          clear hbel HC x0 x1 x2 x3 x4 x5 x6 x7 xf hld HX2 HA2 HS2 xl xl2
          obtain ⟨⟨x0, x1, x2, x3, x4, x5, x6, x7⟩, xf, xl⟩ := HX3.out.f8
          obtain ⟨Q, hQ⟩ : ∃ Q, Q = ruleOf s q.fillT := ⟨_, rfl⟩
          have HQ := Lib.hid hQ
          rw [← hQ] at Hdp ⊢
          clear hQ
          go_wp2_with fail
          go_roundg g'
          case measure => exact Hgg.out.2
          case rel =>
            have h9 := Hgg.out.1
            refine ⟨n + 1, q.type :: met, Q, ka, kc, by go_num, by simp; omega, by omega, (show List.Nodup _ from List.nodup_cons.2 ⟨Hmem.out, hnd.out⟩), (show ∀ x ∈ q.type :: met, _ from fun x hx => by rcases List.mem_cons.1 hx with rfl | hx; exact List.mem_map.2 ⟨q, hq.out, rfl⟩; exact hin.out x hx), (show Q ∈ allR s by rw [HQ.out]; exact ruleOf_all s _), Hdp, (show At _ _ _ _ from HX3.out.s8 _ _ _ _ _ _ _ _), (show At _ _ _ _ from HA3.out.n8 (by omega) _ _ _ _ _ _ _ _), (show SetAt _ _ _ _ from HS3.out.s8 (by omega) _ _ _ _ _ _ _ _), (show Below _ _ _ from below_s8 Hb3.out (by omega) _ _ _ _ _ _ _ _)⟩

end Go.Proofs.YtajclfjedlkbcaaGreatDoor
/- strings.Trim at a set of ASCII bytes: its contract, laid by the kit (its shelf) at this program, in plain words. -/
namespace Go.Proofs
open Go.Shelf
def Tryz.lays160_ren : Go.Shelf.Ren := ⟨fun | 160 => 120 | 232 => 146 | 231 => 145 | 227 => 147 | 234 => 149 | 233 => 148 | 236 => 151 | 235 => 150 | 228 => 170 | 271 => 173 | 151 => 172 | 197 => 171 | 120 => 182 | 152 => 181 | 260 => 180 | 137 => 184 | 119 => 185 | 224 => 186 | 225 => 187 | 217 => 188 | 266 => 189 | n => n, fun | 9 => 9 | 4 => 4 | 3 => 3 | 5 => 5 | 117 => 171 | 116 => 170 | 0 => 0 | 124 => 174 | 21 => 21 | 105 => 189 | 46 => 136 | 119 => 200 | 139 => 203 | 138 => 202 | n => n, fun | 3 => 0 | 4 => 1 | n => n⟩
theorem Tryz.lays160 : Go.Proofs.Lays.n160 Tryz.prog Tryz.lays160_ren := {
  mixed := by kernel_rfl
  f119 := Tryz.func185.trans (congrArg some (by kernel_rfl))
  f120 := Tryz.func182.trans (congrArg some (by kernel_rfl))
  f137 := Tryz.func184.trans (congrArg some (by kernel_rfl))
  f151 := Tryz.func172.trans (congrArg some (by kernel_rfl))
  f152 := Tryz.func181.trans (congrArg some (by kernel_rfl))
  f160 := Tryz.func120.trans (congrArg some (by kernel_rfl))
  f197 := Tryz.func171.trans (congrArg some (by kernel_rfl))
  f217 := Tryz.func188.trans (congrArg some (by kernel_rfl))
  f224 := Tryz.func186.trans (congrArg some (by kernel_rfl))
  f225 := Tryz.func187.trans (congrArg some (by kernel_rfl))
  f227 := Tryz.func147.trans (congrArg some (by kernel_rfl))
  f228 := Tryz.func170.trans (congrArg some (by kernel_rfl))
  f231 := Tryz.func145.trans (congrArg some (by kernel_rfl))
  f232 := Tryz.func146.trans (congrArg some (by kernel_rfl))
  f233 := Tryz.func148.trans (congrArg some (by kernel_rfl))
  f234 := Tryz.func149.trans (congrArg some (by kernel_rfl))
  f235 := Tryz.func150.trans (congrArg some (by kernel_rfl))
  f236 := Tryz.func151.trans (congrArg some (by kernel_rfl))
  f260 := Tryz.func180.trans (congrArg some (by kernel_rfl))
  f266 := Tryz.func189.trans (congrArg some (by kernel_rfl))
  f271 := Tryz.func173.trans (congrArg some (by kernel_rfl))
  t0 := Tryz.underlying0
  a0 := Tryz.isAgg0
  z0 := Tryz.sizeOf0
  v0 := Tryz.zeroValue0
  t3 := Tryz.underlying3
  a3 := Tryz.isAgg3
  z3 := Tryz.sizeOf3
  v3 := Tryz.zeroValue3
  t4 := Tryz.underlying4
  a4 := Tryz.isAgg4
  z4 := Tryz.sizeOf4
  v4 := Tryz.zeroValue4
  t5 := Tryz.underlying5
  a5 := Tryz.isAgg5
  z5 := Tryz.sizeOf5
  v5 := Tryz.zeroValue5
  t9 := Tryz.underlying9
  a9 := Tryz.isAgg9
  z9 := Tryz.sizeOf9
  v9 := Tryz.zeroValue9
  t21 := Tryz.underlying21
  a21 := Tryz.isAgg21
  z21 := Tryz.sizeOf21
  v21 := Tryz.zeroValue21
  t46 := Tryz.underlying136
  a46 := Tryz.isAgg136
  z46 := Tryz.sizeOf136
  v46 := Tryz.zeroValue136
  t105 := Tryz.underlying189
  a105 := Tryz.isAgg189
  z105 := Tryz.sizeOf189
  v105 := Tryz.zeroValue189
  t116 := Tryz.underlying170
  a116 := Tryz.isAgg170
  z116 := Tryz.sizeOf170
  t117 := Tryz.underlying171
  a117 := Tryz.isAgg171
  z117 := Tryz.sizeOf171
  v117 := Tryz.zeroValue171
  t119 := Tryz.underlying200
  a119 := Tryz.isAgg200
  z119 := Tryz.sizeOf200
  t124 := Tryz.underlying174
  a124 := Tryz.isAgg174
  z124 := Tryz.sizeOf174
  v124 := Tryz.zeroValue174
  t138 := Tryz.underlying202
  a138 := Tryz.isAgg202
  z138 := Tryz.sizeOf202
  v138 := Tryz.zeroValue202
  t139 := Tryz.underlying203
  a139 := Tryz.isAgg203
  z139 := Tryz.sizeOf203
  v139 := Tryz.zeroValue203
  g3 := by kernel_rfl
  g4 := by kernel_rfl }
open Go.RowKit in
theorem Tryz.strings_Trim_set (s cutset : ByteArray) (w : World) (hs : s.size ≤ 9223372036854775807) (hcs : cutset.size < 4294967281) (hascii : ∀ (j : Nat) b, cutset.data.toList[j]? = some b → b.toNat < 128) :
    Calls Tryz.prog 120 #[.string s, .string cutset] w fun e w' => e = .returned (.string ⟨(Lib.trimS s.data.toList cutset.data.toList).toArray⟩) ∧ Below w.heap.size w w' := Any.strings_Trim_laid Tryz.lays160 (by kernel_rfl) s cutset w hs hcs hascii
end Go.Proofs
/- Walks: the reference of prop: Key, Val, Check. -/
namespace Go.Proofs.YtajclfjedlkbcaaGreatDoor
open Go.RowKit Go.Redl
set_option linter.unusedVariables false

theorem all_upto {α : Type} {p : α → Bool} {l : List α} (h : Upto (fun c => !p c) l l.length) : l.all p = true := by
  rw [List.all_eq_true]
  intro x hx
  have := h x (by simpa using hx)
  simpa using this
theorem all_not {α : Type} {p : α → Bool} {l : List α} {k : Nat} (hk : k < l.length) (h : p l[k] = false) : l.all p = false := by
  rw [List.all_eq_false]
  exact ⟨l[k], List.getElem_mem hk, by simp [h]⟩

set_option maxRecDepth 100000 in
set_option maxHeartbeats 1000000 in
theorem rval_c (s : List UInt8) (w : World) (hn : s.length ≤ 1000000000) :
    Calls Tryz.prog 104 #[.string ⟨s.toArray⟩] w fun e w' => e = .returned (.bool (valB s)) ∧ w = w' := by
  have Hall : Hid (∀ (k : Nat) (x : UInt8), s[k]? = some x → ∀ h, (⟨s.toArray⟩ : ByteArray)[k]'h = x) := by
    show ∀ (k : Nat) (x : UInt8), s[k]? = some x → ∀ h, (⟨s.toArray⟩ : ByteArray)[k]'h = x
    intro k x hx h
    exact Option.some.inj ((List.getElem?_eq_getElem (l := s) h).symm.trans hx)
  have hsz : (⟨s.toArray⟩ : ByteArray).size = s.length := rfl
  generalize (⟨s.toArray⟩ : ByteArray) = S at Hall hsz ⊢
  go_enter Tryz.func104, Tryz.ntmps104
  go_wp2_with fail
  go_loop [7] (fun i => ∃ k : Nat, k ≤ s.length ∧ i = .int .i64 k ∧ Upto (fun c => !valcB c) s k) (fun i => s.length - (intOf i).toNat)
  case atStart => exact ⟨0, Nat.zero_le _, rfl, upto_zero _ s⟩
  case round =>
    obtain ⟨k, hk, rfl, hp⟩ := hrel
    have Hp := Lib.hid hp; clear hp
    by_cases hlt : k < s.length
    · have hg := Hall.out k s[k] (List.getElem?_eq_getElem hlt)
      have hx := s[k].toNat_lt
      have Hn1 : Hid (valcB s[k] = (decide (97 ≤ s[k].toNat ∧ s[k].toNat ≤ 122) || decide (48 ≤ s[k].toNat ∧ s[k].toNat ≤ 57) || s[k] == 45)) := rfl
      have Hno := Lib.hid (fun h => all_not (p := valcB) (l := s) hlt h)
      have Hok := Lib.hid (fun (h : valcB s[k] = true) => upto_succ Hp.out hlt (show (!valcB s[k]) = false by rw [h]; rfl))
      generalize s[k] = x at hg hx Hn1 Hno Hok
      have H45 : Hid ((x == 45) = decide (x.toNat = 45)) := by
        show (x == 45) = decide (x.toNat = 45)
        rw [Bool.eq_iff_iff]; simp [← UInt8.toNat_inj]
      have Hbad : Hid (valcB x = false → valB s = false) := by
        show valcB x = false → valB s = false
        intro h; unfold valB; rw [Hno.out h]; simp
      by_cases hv : valcB x = true
      · have HV := Lib.hid (Hok.out hv)
        rw [Hn1.out, H45.out] at hv
        simp only [Bool.or_eq_true, decide_eq_true_eq] at hv
        rcases hv with (h | h) | h
        · obtain ⟨ha, hb⟩ := h
          go_wp2_with fail
          go_round
          case rel => exact ⟨k + 1, by omega, by go_num, HV.out⟩
          case measure => simp [intOf]; omega
        · obtain ⟨ha, hb⟩ := h
          have hc : x.toNat < 97 := by omega
          go_wp2_with fail
          go_round
          case rel => exact ⟨k + 1, by omega, by go_num, HV.out⟩
          case measure => simp [intOf]; omega
        · have hd : (x.toNat : Int) = 45 := by omega
          clear h hx
          go_wp2_with fail
          go_round
          case rel => exact ⟨k + 1, by omega, by go_num, HV.out⟩
          case measure => simp [intOf]; omega
      · have Hv2 := Lib.hid (Hbad.out (by simpa using hv))
        rw [Hn1.out, H45.out] at hv
        simp only [Bool.or_eq_true, decide_eq_true_eq, not_or] at hv
        obtain ⟨⟨h1, h2⟩, h3⟩ := hv
        have h45 : ((x.toNat : Int) == 45) = false := by simp only [beq_eq_false_iff_ne, ne_eq]; omega
        clear h3
        by_cases ha : 97 ≤ x.toNat
        · have hb : decide ((x.toNat : Int) ≤ 122) = false := decide_eq_false (by omega)
          clear h1
          by_cases hc : 48 ≤ x.toNat
          · have hd : decide ((x.toNat : Int) ≤ 57) = false := decide_eq_false (by omega)
            clear h2
            go_wp2_with fail
            go_ret
            exact ⟨ret_bool Hv2.out.symm, rfl⟩
          · omega
        · clear h1
          have ha2 : x.toNat < 97 := by omega
          by_cases hc : 48 ≤ x.toNat
          · have hd : decide ((x.toNat : Int) ≤ 57) = false := decide_eq_false (by omega)
            clear h2
            go_wp2_with fail
            go_ret
            exact ⟨ret_bool Hv2.out.symm, rfl⟩
          · clear h2
            have hc2 : x.toNat < 48 := by omega
            clear hc ha
            go_wp2_with fail
            go_ret
            exact ⟨ret_bool Hv2.out.symm, rfl⟩
    · obtain rfl : k = s.length := by omega
      have Ha := Lib.hid (all_upto Hp.out)
      have Hk : Hid (valB s = (decide (s.length ≤ 32) && s.all valcB)) := rfl
      go_wp2_with fail
      go_ret
      exact ⟨ret_bool (by rw [Hk.out, Ha.out]; simp <;> omega), rfl⟩

end Go.Proofs.YtajclfjedlkbcaaGreatDoor
/- Walks: the reference of prop: Check. -/
namespace Go.Proofs.YtajclfjedlkbcaaGreatDoor
open Go.RowKit Go.Redl
set_option linter.unusedVariables false

theorem str_le (a b : List UInt8) : (Op.bytesLess (⟨a.toArray⟩ : ByteArray).toList (⟨b.toArray⟩ : ByteArray).toList || (⟨a.toArray⟩ : ByteArray).toList == (⟨b.toArray⟩ : ByteArray).toList) = leB a b := by
  rw [ByteArray.toList_mk, ByteArray.toList_mk]; rfl
theorem leB_nil {p : List UInt8} (h : keyB p = true) : leB p [] = false := by
  unfold keyB at h
  cases p with
  | nil => simp at h
  | cons c p => simp [leB, Op.bytesLess]

end Go.Proofs.YtajclfjedlkbcaaGreatDoor
/- Walks: prop's key, val. -/
namespace Go.Proofs.YtajclfjedlkbcaaGreatDoor
open Go.RowKit Go.Redl
set_option linter.unusedVariables false

theorem dropWhile_all {α : Type} {p : α → Bool} : ∀ {l : List α}, (∀ x ∈ l.dropWhile p, p x = true) → ∀ x ∈ l, p x = true
  | [], _ => by simp
  | a :: l, h => by
    cases ha : p a with
    | true =>
      rw [List.dropWhile_cons_of_pos ha] at h
      intro x hx
      rcases List.mem_cons.1 hx with rfl | hx
      · exact ha
      · exact dropWhile_all h x hx
    | false =>
      rw [List.dropWhile_cons_of_neg (by simp [ha])] at h
      have := h a (by simp)
      rw [ha] at this; cases this
theorem dropWhile_none {α : Type} {p : α → Bool} : ∀ {l : List α}, (∀ x ∈ l, p x = true) → l.dropWhile p = []
  | [], _ => rfl
  | a :: l, h => by
    rw [List.dropWhile_cons_of_pos (h a (by simp))]
    exact dropWhile_none fun x hx => h x (by simp [hx])
theorem trim_nil (l cs : List UInt8) : Lib.trimS l cs = [] ↔ l.all (cs.contains ·) = true := by
  unfold Lib.trimS Lib.trimLeftS Lib.trimRightS
  rw [List.all_eq_true]
  constructor
  · intro h
    have h1 : ∀ x ∈ (l.reverse.dropWhile (cs.contains ·)).reverse, cs.contains x = true := dropWhile_all (by rw [h]; simp)
    have h2 : ∀ x ∈ l.reverse, cs.contains x = true := dropWhile_all fun x hx => h1 x (List.mem_reverse.2 hx)
    exact fun x hx => h2 x (by simpa using hx)
  · intro h
    rw [dropWhile_none (l := l.reverse) fun x hx => h x (by simpa using hx)]
    rfl
def lowSet : List UInt8 := [97, 98, 99, 100, 101, 102, 103, 104, 105, 106, 107, 108, 109, 110, 111, 112, 113, 114, 115, 116, 117, 118, 119, 120, 121, 122]
def valSet : List UInt8 := [97, 98, 99, 100, 101, 102, 103, 104, 105, 106, 107, 108, 109, 110, 111, 112, 113, 114, 115, 116, 117, 118, 119, 120, 121, 122, 48, 49, 50, 51, 52, 53, 54, 55, 56, 57, 45]
theorem low_set (c : UInt8) : lowSet.contains c = lowB c := by
  have h : ∀ n : Fin 256, lowSet.contains (UInt8.ofNat n.1) = lowB (UInt8.ofNat n.1) := by decide +kernel
  have := h ⟨c.toNat, c.toNat_lt⟩
  simpa using this
theorem val_set (c : UInt8) : valSet.contains c = valcB c := by
  have h : ∀ n : Fin 256, valSet.contains (UInt8.ofNat n.1) = valcB (UInt8.ofNat n.1) := by decide +kernel
  have := h ⟨c.toNat, c.toNat_lt⟩
  simpa using this
theorem all_set {s cs : List UInt8} {p : UInt8 → Bool} (h : ∀ c, cs.contains c = p c) : s.all (cs.contains ·) = s.all p := by
  congr 1; funext c; exact h c
/-- strings.Trim, at such a set: is nothing left? -/
theorem trim_c (s cs : List UInt8) (p : UInt8 → Bool) (hp : ∀ c, cs.contains c = p c) (hc : cs.length ≤ 1000) (ha : cs.all (fun b => decide (b.toNat < 128)) = true) (w : World) (hn : s.length ≤ 1000000000) :
    (s.all p = true → Calls Tryz.prog 120 #[.string ⟨s.toArray⟩, .string ⟨cs.toArray⟩] w fun e w' => e = .returned (.string ⟨#[]⟩) ∧ Below w.heap.size w w') ∧
    (s.all p = false → ∃ y ys, Calls Tryz.prog 120 #[.string ⟨s.toArray⟩, .string ⟨cs.toArray⟩] w fun e w' => e = .returned (.string ⟨(y :: ys).toArray⟩) ∧ Below w.heap.size w w') := by
  have h := Tryz.strings_Trim_set ⟨s.toArray⟩ ⟨cs.toArray⟩ w (by show s.length ≤ _; omega) (by show cs.length < _; omega) (fun j b hj => by
    rw [List.all_eq_true] at ha
    have : b ∈ cs := List.mem_of_getElem? (by simpa using hj)
    simpa using ha b this)
  have h0 := trim_nil s cs
  rw [all_set hp] at h0
  constructor
  · intro hs
    have : Lib.trimS (⟨s.toArray⟩ : ByteArray).data.toList (⟨cs.toArray⟩ : ByteArray).data.toList = [] := by simpa using h0.2 hs
    rw [this] at h
    exact h
  · intro hs
    have hne : Lib.trimS (⟨s.toArray⟩ : ByteArray).data.toList (⟨cs.toArray⟩ : ByteArray).data.toList ≠ [] := by
      intro he
      have := h0.1 (by simpa using he)
      rw [hs] at this; cases this
    obtain ⟨y, ys, hy⟩ := List.exists_cons_of_ne_nil hne
    rw [hy] at h
    exact ⟨y, ys, h⟩

end Go.Proofs.YtajclfjedlkbcaaGreatDoor
