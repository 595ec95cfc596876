/- Parts of the proof, one behind the other: ROF, ROG, ROH, RIA, RID, RIE, RIF, RVJ, RVK, RVP, RVG, RVH, RVI. -/
import Derived.Test.YtbommcakcmhalaaGreatDoorLM23
import Derived.Test.YtbommcakcmhalaaGreatDoorLM7
import Derived.Test.YtbommcakcmhalaaGreatDoorLM5
import Derived.Laws.IdiomStrings
import Derived.Test.YtbommcakcmhalaaGreatDoorLM4
import Derived.Deep.MidRow
import Derived.Test.YtbommcakcmhalaaGreatDoorLM6
import Derived.Test.YtbommcakcmhalaaGreatDoorLM15
import Derived.Test.YtbommcakcmhalaaGreatDoorLM18
/- Plain laws: behind a repair a tree is smaller, or less is not kept. -/
set_option linter.unusedVariables false
set_option linter.unusedSimpArgs false
set_option maxHeartbeats 2000000
set_option maxRecDepth 100000
namespace Go.Proofs.YtbommcakcmhalaaGreatDoor
open Go.RowKit Go.Redl
/-- How many Kids a rule keeps. -/
def keptL (r : RuleD) (ks : List NodeD) : Nat := (ks.filter fun k => decide ((actOf r k).1 = 1)).length
def keptN (s : SchemaD) (n : NodeD) : Nat := keptL (ruleOf s (typeN n)) (kidsOf n)
theorem while_imp {α : Type} {q : α -> Bool} : ∀ {l : List α} {x : α}, x ∈ l.takeWhile q -> q x = true
 | [], x, h => by cases h
 | y :: l, x, h => by
   rw [List.takeWhile_cons] at h
   split at h
   . rename_i hy
     rcases List.mem_cons.1 h with rfl | h
     . exact hy
     . exact while_imp h
   . cases h
theorem keptL_append (r : RuleD) (a b : List NodeD) : keptL r (a ++ b) = keptL r a + keptL r b := by simp [keptL]
theorem keptL_cons (r : RuleD) (x : NodeD) (b : List NodeD) : keptL r (x :: b) = (if (actOf r x).1 = 1 then 1 else 0) + keptL r b := by
 unfold keptL
 by_cases h : (actOf r x).1 = 1
 . simp [h]; omega
 . simp [h]
theorem keptL_all {r : RuleD} : ∀ {l : List NodeD}, (∀ x ∈ l, (actOf r x).1 = 1) -> keptL r l = l.length
 | [], h => rfl
 | x :: l, h => by
   rw [keptL_cons, if_pos (h x (by simp)), keptL_all fun y hy => h y (by simp [hy])]
   simp; omega
theorem keptL_none {r : RuleD} : ∀ {l : List NodeD}, (∀ x ∈ l, (actOf r x).1 ≠ 1) -> keptL r l = 0
 | [], h => rfl
 | x :: l, h => by rw [keptL_cons, if_neg (h x (by simp)), keptL_none fun y hy => h y (by simp [hy])]
theorem keptL_le (r : RuleD) (l : List NodeD) : keptL r l <= l.length := List.length_filter_le _ _
theorem actOf_setKids (r : RuleD) (x : NodeD) (L : List NodeD) : actOf r (setKids x L) = actOf r x := by cases x; rfl
theorem type_setKids (x : NodeD) (L : List NodeD) : typeN (setKids x L) = typeN x := by cases x; rfl
/-- All that is wrapped is done alike. -/
theorem run_acts {r : RuleD} {ks : List NodeD} {j : Nat} (hj : j < ks.length) (h : lookN r ks 3 = j) : (actOf r ks[j]).1 = 4 /\ 1 <= manyN r ks 3 /\ ∀ x ∈ (ks.drop j).take (manyN r ks 3), actOf r x = actOf r ks[j] := by
 have h4 : (actOf r ks[j]).1 = 4 := by
  have h2 := h
  unfold lookN at h2
  rw [if_neg (by decide)] at h2
  rcases idxP_cases (wrongB r ks 3) ks.length with ⟨i, hi, hp, -, hx⟩ | ⟨-, hx⟩
  . rw [hx] at h2
    have : i = j := by omega
    subst this
    have : decide ((actOf r (kidAt ks i)).1 = 4) = true := hp
    rw [kid_at hi] at this
    simpa using this
  . rw [hx] at h2; omega
 refine ⟨h4, ?_, ?_⟩
 . unfold manyN runA; rw [if_pos rfl]; omega
 . unfold manyN
   rw [if_pos rfl, h]
   unfold runA
   simp only [Int.toNat_natCast]
   have hg : (actsOf r ks).getD j (0, []) = actOf r ks[j] := by simp [List.getD, List.getElem?_eq_getElem hj]
   simp only [hg]
   intro x hx
   rw [List.drop_eq_getElem_cons hj, Nat.add_comm, List.take_succ_cons] at hx
   rcases List.mem_cons.1 hx with rfl | hx
   . rfl
   . have e : (actsOf r ks).drop (j + 1) = actsOf r (ks.drop (j + 1)) := by simp [List.map_drop]
     rw [e] at hx
     have : actOf r x ∈ ((actsOf r (ks.drop (j + 1))).takeWhile fun a => decide (a = actOf r ks[j])) := by
      have hpre := List.takeWhile_prefix (fun a => decide (a = actOf r ks[j])) (l := actsOf r (ks.drop (j + 1)))
      rw [List.prefix_iff_eq_take] at hpre
      rw [hpre, <- List.map_take]
      exact List.mem_map.2 ⟨x, hx, rfl⟩
     simpa using while_imp this
theorem sizeN_putK {n k : NodeD} {p : List Int} {L : List NodeD} (ha : atN n p = some k) : sizeN (putN n p (setKids k L)) + sizeK (kidsOf k) = sizeN n + sizeK L := by
 have h1 := sizeN_put p n k (setKids k L) ha
 have h2 := sizeN_setKids k L
 omega
theorem sizeK_parts (ks : List NodeD) (j : Nat) : sizeK (ks.take j) + sizeK (ks.drop j) = sizeK ks := by rw [<- sizeK_append, List.take_append_drop]
theorem sizeK_cons (x : NodeD) (l : List NodeD) : sizeK (x :: l) = sizeN x + sizeK l := by rw [sizeK]
theorem sizeN_pos (n : NodeD) : 1 <= sizeN n := by cases n; rw [sizeN]; omega
theorem sizeK_erase {ks : List NodeD} {j : Nat} (hj : j < ks.length) : sizeK (ks.eraseIdx j) + sizeN ks[j] = sizeK ks := by
 have h1 := sizeK_parts ks j
 rw [List.drop_eq_getElem_cons hj, sizeK_cons] at h1
 rw [List.eraseIdx_eq_take_drop_succ, sizeK_append]
 omega
theorem size_elem (t : List UInt8) (L : List NodeD) : sizeN (setKids (elemN t) L) = 1 + sizeK L := by
 show sizeN (.mk false (if t = [] then [] else [(typeB, t)]) [] L) = _
 rw [sizeN]; simp
/-- What FixLess asks, of the trees ahead and behind. -/
def lessOk (s : SchemaD) (n a : NodeD) (p : List Int) (k m : NodeD) (f : FindD) : Prop :=
 (f.1 = 3 -> ∃ w, atN a (p ++ [f.2.1]) = some w /\ (kidsOf m).length + f.2.2.toNat + keptN s k = (kidsOf k).length + keptN s m /\ keptN s w = f.2.2.toNat /\ (kidsOf w).length = f.2.2.toNat /\ sizeN a = sizeN n + 1) /\
 (f.1 = 6 -> (kidsOf m).length = 1 /\ keptN s m = 1 /\ sizeN a = sizeN n + 1) /\
 (f.1 ≠ 3 -> f.1 ≠ 6 -> sizeN a < sizeN n)
theorem fix_less {s : SchemaD} {n k : NodeD} {p : List Int} (hs : checkS s = 0) (ha : atN n p = some k) (hf : (findN s k).1 ≠ 0) :
 lessOk s n (putN n p (setKids k (fixK (ruleOf s (typeN k)) (kidsOf k) (findN s k)))) p k (setKids k (fixK (ruleOf s (typeN k)) (kidsOf k) (findN s k))) (findN s k) := by
 have hin := rule_in s (typeN k)
 have hF := formed_of (check_all hs _ hin).1
 have hsz := fun L => sizeN_putK (L := L) ha
 have hty := type_setKids k
 rcases find_cases s k with h | ⟨c, j, hk, h1, h6, hj, he, hlt, h4, h66⟩
 . rw [h] at hf; exact absurd rfl hf
 rw [he]
 unfold lessOk keptN
 simp only [kids_setKids, hty, Int.toNat_natCast]
 generalize hR : ruleOf s (typeN k) = r at hF hj hin ⊢
 obtain rfl | rfl | rfl | rfl | rfl | rfl : c = 1 ∨ c = 2 ∨ c = 3 ∨ c = 4 ∨ c = 5 ∨ c = 6 := by omega
 . refine ⟨(fun h => by cases h), (fun h => by cases h), fun _ _ => ?_⟩
   have hjl := hlt (by omega)
   have := hsz ((kidsOf k).eraseIdx j)
   have h2 := sizeK_erase hjl
   have h3 := sizeN_pos (kidsOf k)[j]
   rw [fixK_one (.inl rfl)]
   simp only [Int.toNat_natCast]
   omega
 . refine ⟨(fun h => by cases h), (fun h => by cases h), fun _ _ => ?_⟩
   have hjl := hlt (by omega)
   rw [fixK_two rfl]
   simp only [Int.toNat_natCast]
   rw [kid_at hjl]
   have := hsz ((kidsOf k).take j ++ (kidsOf (kidsOf k)[j] ++ (kidsOf k).drop (j + 1)))
   have h2 := sizeK_parts (kidsOf k) j
   rw [List.drop_eq_getElem_cons hjl, sizeK_cons] at h2
   rw [sizeK_append, sizeK_append] at this
   have h3 : sizeK (kidsOf (kidsOf k)[j]) + 1 <= sizeN (kidsOf k)[j] := by
    generalize (kidsOf k)[j] = x
    cases x; simp only [kidsOf]; rw [sizeN]; omega
   omega
 . have hjl := hlt (by omega)
   have hj3 : lookN r (kidsOf k) 3 = j := hj
   refine ⟨fun _ => ?_, (fun h => by cases h), fun h => absurd rfl h⟩
   have hm' : manyN r (kidsOf k) ((3 : Nat) : Int) = manyN r (kidsOf k) 3 := rfl
   rw [hm']
   have hm := many_fits r (kidsOf k) j hjl hj3
   obtain ⟨g1, g2, g3⟩ := run_acts hjl hj3
   generalize manyN r (kidsOf k) 3 = m at hm g2 g3 ⊢
   rw [fixK_three rfl]
   simp only [Int.toNat_natCast]
   rw [kid_at hjl]
   have hwk := wrap_kept hs hin g1
   have hT : typeN (elemN (actOf r (kidsOf k)[j]).2) = (actOf r (kidsOf k)[j]).2 := type_elem
   have hse := size_elem (actOf r (kidsOf k)[j]).2 (((kidsOf k).drop j).take m)
   have hlx : leafOf (elemN (actOf r (kidsOf k)[j]).2) = false := rfl
   have hall : ∀ x ∈ ((kidsOf k).drop j).take m, (actOf (ruleOf s (actOf r (kidsOf k)[j]).2) x).1 = 1 := fun x hx => by
    have e := g3 x hx
    have h4x : (actOf r x).1 = 4 := by rw [e]; exact g1
    have := (wrap_kept hs hin h4x).2
    rwa [e] at this
   generalize hX : elemN (actOf r (kidsOf k)[j]).2 = X at hT hse hlx ⊢
   generalize (actOf r (kidsOf k)[j]).2 = T at hwk hT hall
   have hat := atN_put p n k (setKids k (wrapL (kidsOf k) j X m)) ha
   have hjl2 : j < (kidsOf (setKids k (wrapL (kidsOf k) j X m))).length := by rw [kids_setKids, wrapL_len hm]; omega
   have hget : (kidsOf (setKids k (wrapL (kidsOf k) j X m)))[j] = setKids X (((kidsOf k).drop j).take m) := by
    have := wrapL_at (ks := kidsOf k) (x := X) (t := m) (Nat.le_of_lt hjl)
    simp only [kids_setKids]
    rw [List.getElem?_eq_getElem (by rw [kids_setKids] at hjl2; exact hjl2)] at this
    exact Option.some.inj this
   have hat2 := atN_snoc hat hjl2
   rw [hget] at hat2
   have hlm : (((kidsOf k).drop j).take m).length = m := by simp; omega
   refine ⟨_, hat2, ?_, ?_, ?_, ?_⟩
   . rw [wrapL_len hm]
     have e1 : keptL r (kidsOf k) = keptL r ((kidsOf k).take j) + (keptL r (((kidsOf k).drop j).take m) + keptL r ((kidsOf k).drop (j + m))) := by
      rw [<- keptL_append, <- keptL_append]
      congr 1
      rw [<- List.drop_drop, List.take_append_drop, List.take_append_drop]
     have e2 : keptL r (wrapL (kidsOf k) j X m) = keptL r ((kidsOf k).take j) + (1 + keptL r ((kidsOf k).drop (j + m))) := by
      unfold wrapL
      rw [keptL_append, keptL_cons, actOf_setKids]
      have : (actOf r X).1 = 1 := by
       unfold actOf
       rw [hlx, hT]
       exact hwk.1
      rw [if_pos this]
     have e3 : keptL r (((kidsOf k).drop j).take m) = 0 := keptL_none fun x hx => by rw [g3 x hx, g1]; decide
     rw [e1, e2, e3]; omega
   . rw [type_setKids, hT, kids_setKids, keptL_all hall, hlm]
   . rw [kids_setKids, hlm]
   . have := hsz (wrapL (kidsOf k) j X m)
     unfold wrapL at this
     rw [sizeK_append, sizeK_cons, hse] at this
     have h2 := sizeK_parts (kidsOf k) j
     have h3 := sizeK_parts ((kidsOf k).drop j) m
     rw [List.drop_drop] at h3
     unfold wrapL
     omega
 . obtain ⟨g1, g2, g3, g4, g5⟩ := merge_at (show lookN r (kidsOf k) 4 = j from hj)
   refine ⟨(fun h => by cases h), (fun h => by cases h), fun _ _ => ?_⟩
   rw [fixK_four rfl]
   simp only [Int.toNat_natCast]
   obtain ⟨i, rfl⟩ : ∃ i, j = i + 1 := ⟨j - 1, by omega⟩
   rw [show i + 1 - 1 = i by omega, kid_at g2, kid_at (show i < (kidsOf k).length by omega)]
   have hil : i < ((kidsOf k).eraseIdx (i + 1)).length := by rw [List.length_eraseIdx]; split <;> omega
   have := hsz (((kidsOf k).eraseIdx (i + 1)).set i (joinN (kidsOf k)[i] (kidsOf k)[i + 1]))
   have h2 := sizeK_erase g2
   have h3 := sizeK_set ((kidsOf k).eraseIdx (i + 1)) i hil (joinN (kidsOf k)[i] (kidsOf k)[i + 1])
   have e : ((kidsOf k).eraseIdx (i + 1))[i] = (kidsOf k)[i] := by rw [List.getElem_eraseIdx, dif_pos (by omega)]
   rw [e] at h3
   have h4 : sizeN (joinN (kidsOf k)[i] (kidsOf k)[i + 1]) + 1 = sizeN (kidsOf k)[i] + sizeN (kidsOf k)[i + 1] := by
    generalize (kidsOf k)[i] = x
    generalize (kidsOf k)[i + 1] = y
    cases x; cases y
    simp only [joinN, sizeN, sizeK_append, List.length_append]; omega
   omega
 . refine ⟨(fun h => by cases h), (fun h => by cases h), fun _ _ => ?_⟩
   have hjl := hlt (by omega)
   have := hsz ((kidsOf k).eraseIdx j)
   have h2 := sizeK_erase hjl
   have h3 := sizeN_pos (kidsOf k)[j]
   rw [fixK_one (.inr rfl)]
   simp only [Int.toNat_natCast]
   omega
 . have hj6 : lookN r (kidsOf k) 6 = j := hj
   rw [look_last] at hj6
   refine ⟨(fun h => by cases h), fun _ => ?_, fun _ h => absurd rfl h⟩
   split at hj6
   . rename_i h0
     have hfk := fill_kept hs hin h0.2
     have hnil := List.eq_nil_of_length_eq_zero h0.1
     rw [fixK_six rfl]
     have hz : sizeN (if r.fill = 1 then NodeD.mk true [] [] [] else elemN r.fillT) = 1 := by
      split
      . rfl
      . exact size_elem r.fillT []
     generalize (if r.fill = 1 then NodeD.mk true [] [] [] else elemN r.fillT) = x at hfk hz ⊢
     have := hsz [x]
     rw [hnil, sizeK_cons, hz] at this
     refine ⟨rfl, ?_, ?_⟩
     . rw [keptL_cons, if_pos hfk]; rfl
     . simp only [sizeK] at this; omega
   . omega
end Go.Proofs.YtbommcakcmhalaaGreatDoor
/- Plain laws: what a repair leaves as it was: the text, all that stands elsewhere. -/
namespace Go.Proofs.YtbommcakcmhalaaGreatDoor
open Go.RowKit Go.Redl
end Go.Proofs.YtbommcakcmhalaaGreatDoor
/- Plain laws: where paths go, below a path and elsewhere. -/
namespace Go.Proofs.YtbommcakcmhalaaGreatDoor
open Go.RowKit Go.Redl
end Go.Proofs.YtbommcakcmhalaaGreatDoor
/- Plain words: trees whose nodes are marked or not; where marks stand; a part put, taken out, put in. -/
namespace Go.Proofs.YtbommcakcmhalaaGreatDoor
open Go.RowKit Go.Redl
/-- A tree whose nodes are marked, or not. -/
inductive MT where
 | mk (m : Bool) (l : Bool) (ps : List PropD) (t : List Int) (ks : List MT)
def MT.kids : MT -> List MT
 | .mk _ _ _ _ ks => ks
def MT.setKids : MT -> List MT -> MT
 | .mk m l ps t _, ks => .mk m l ps t ks
mutual
def MT.bare : MT -> NodeD
 | .mk _ l ps t ks => .mk l ps t (MT.bares ks)
def MT.bares : List MT -> List NodeD
 | [] => []
 | k :: ks => k.bare :: MT.bares ks
end
theorem MT.kids_setKids (T : MT) (ks : List MT) : (T.setKids ks).kids = ks := by cases T; rfl
theorem MT.setKids_setKids (T : MT) (a b : List MT) : (T.setKids a).setKids b = T.setKids b := by cases T; rfl
theorem MT.setKids_self (T : MT) : T.setKids T.kids = T := by cases T; rfl
/-- The part at a path. -/
def MT.at_ : MT -> List Int -> Option MT
 | T, [] => some T
 | T, i :: p => if 0 <= i then (match T.kids[i.toNat]? with | some k => MT.at_ k p | none => none) else none
/-- Another part at a path. -/
def MT.put : MT -> List Int -> MT -> MT
 | _, [], m => m
 | T, i :: p, m => match T.kids[i.toNat]? with
   | some k => T.setKids (T.kids.set i.toNat (MT.put k p m))
   | none => T
end Go.Proofs.YtbommcakcmhalaaGreatDoor
/- Plain laws: how many picks a repair can take: a number that every repair, and every look, makes less. -/
namespace Go.Proofs.YtbommcakcmhalaaGreatDoor
open Go.RowKit Go.Redl
end Go.Proofs.YtbommcakcmhalaaGreatDoor
/- Plain laws: marked trees repaired and looked at; each look makes what may still be taken less. -/
namespace Go.Proofs.YtbommcakcmhalaaGreatDoor
open Go.RowKit Go.Redl
/-- A part without Kids. -/
def newM (m : Bool) (n : NodeD) : MT := .mk m (leafOf n) (propsOf n) (textOf n) []
def joinM : MT -> MT -> MT
 | .mk m l ps t ks, .mk _ _ _ t' ks' => .mk m l ps (t ++ t') (ks ++ ks')
abbrev zeroM : MT := newM false zeroN
abbrev kidM (ks : List MT) (j : Nat) : MT := ks.getD j zeroM
/-- An element's Kids behind its repair. -/
def fixM (r : RuleD) (ks : List MT) (f : FindD) : List MT :=
 if f.1 = 1 ∨ f.1 = 5 then ks.eraseIdx f.2.1.toNat
 else if f.1 = 2 then ks.take f.2.1.toNat ++ ((kidM ks f.2.1.toNat).kids ++ ks.drop (f.2.1.toNat + 1))
 else if f.1 = 3 then ks.take f.2.1.toNat ++ (newM true (elemN (actOf r (kidM ks f.2.1.toNat).bare).2)).setKids ((ks.drop f.2.1.toNat).take f.2.2.toNat) :: ks.drop (f.2.1.toNat + f.2.2.toNat)
 else if f.1 = 4 then (ks.eraseIdx f.2.1.toNat).set (f.2.1.toNat - 1) (joinM (kidM ks (f.2.1.toNat - 1)) (kidM ks f.2.1.toNat))
 else [if r.fill = 1 then newM false (.mk true [] [] []) else newM true (elemN r.fillT)]
def MT.unmark : MT -> MT
 | .mk _ l ps t ks => .mk false l ps t ks
/-- An element repaired. -/
def MT.fix (s : SchemaD) (T : MT) : MT := T.setKids (fixM (ruleOf s (typeN T.bare)) T.kids (findN s T.bare))
/-- One looked at: it is repaired, or to be looked at no longer. -/
def MT.look1 (s : SchemaD) (k : MT) : MT := if (findN s k.bare).1 = 0 then k.unmark else k.fix s
def MT.look (s : SchemaD) (T : MT) (p : List Int) : MT := match T.at_ p with
 | some k => T.put p (k.look1 s)
 | none => T
end Go.Proofs.YtbommcakcmhalaaGreatDoor
/- Plain laws: whatever is picked, the same comes of it, in as many picks. -/
namespace Go.Proofs.YtbommcakcmhalaaGreatDoor
open Go.RowKit Go.Redl
theorem nodeE_join {x y : NodeD} (hx : nodeE x = 0) (hy : nodeE y = 0) (lx : leafOf x = true) (ly : leafOf y = true) : nodeE (joinN x y) = 0 := by
 have k1 := leaf_kids hx lx
 have k2 := leaf_kids hy ly
 obtain ⟨l1, p1, t1, q1⟩ := x
 obtain ⟨l2, p2, t2, q2⟩ := y
 simp only [kidsOf] at k1 k2
 subst k1; subst k2
 obtain ⟨g1, g2, g3, g4⟩ := ownE_zero.1 (nodeE_zero.1 hx).1
 obtain ⟨f1, f2, f3, f4⟩ := ownE_zero.1 (nodeE_zero.1 hy).1
 have : l1 = true := lx
 subst this
 refine nodeE_zero.2 ⟨ownE_zero.2 ⟨g1, fun _ => rfl, (fun h => by cases h), ?_⟩, by simp⟩
 unfold checkE at g4 f4 ⊢
 rw [List.any_append]
 cases h1 : t1.any (fun c => !validB c) with
 | true => rw [h1] at g4; simp at g4
 | false =>
   cases h2 : t2.any (fun c => !validB c) with
   | true => rw [h2] at f4; simp at f4
   | false => rfl
/-- What a repair leaves may be. -/
theorem fixK_ok {s : SchemaD} {k : NodeD} (hs : checkS s = 0) (hn : nodeE k = 0) (hf : (findN s k).1 ≠ 0) : ∀ x ∈ fixK (ruleOf s (typeN k)) (kidsOf k) (findN s k), nodeE x = 0 := by
 have hE := nodeE_kids hn
 have hw := new_ok hs hf
 rcases find_cases s k with h | ⟨c, j, hl, h1, h6, hj, he, hlt, h4, h66⟩
 . rw [h] at hf; exact absurd rfl hf
 rw [he] at hw ⊢
 generalize ruleOf s (typeN k) = r at hj hw ⊢
 unfold newOk at hw
 simp only [Int.toNat_natCast] at hw
 obtain rfl | rfl | rfl | rfl | rfl | rfl : c = 1 ∨ c = 2 ∨ c = 3 ∨ c = 4 ∨ c = 5 ∨ c = 6 := by omega
 . rw [fixK_one (.inl rfl)]
   exact fun x hx => hE x (List.mem_of_mem_eraseIdx hx)
 . have hjl := hlt (by omega)
   rw [fixK_two rfl]
   simp only [Int.toNat_natCast]
   rw [kid_at hjl]
   intro x hx
   rcases List.mem_append.1 hx with hx | hx
   . exact hE x (List.mem_of_mem_take hx)
   . rcases List.mem_append.1 hx with hx | hx
     . exact nodeE_kids (hE _ (List.getElem_mem hjl)) x hx
     . exact hE x (List.mem_of_mem_drop hx)
 . rw [fixK_three rfl]
   simp only [Int.toNat_natCast]
   exact wrapL_mem (hw.1 rfl) (leaf_elem _) hE
 . obtain ⟨g1, g2, g3, g4, g5⟩ := merge_at (show lookN r (kidsOf k) 4 = j from hj)
   rw [fixK_four rfl]
   simp only [Int.toNat_natCast]
   intro x hx
   rcases List.mem_or_eq_of_mem_set hx with hx | rfl
   . exact hE x (List.mem_of_mem_eraseIdx hx)
   . refine nodeE_join ?_ ?_ g4 g3
     . rw [kid_at (show j - 1 < (kidsOf k).length by omega)]; exact hE _ (List.getElem_mem _)
     . rw [kid_at g2]; exact hE _ (List.getElem_mem _)
 . rw [fixK_one (.inr rfl)]
   exact fun x hx => hE x (List.mem_of_mem_eraseIdx hx)
 . rw [fixK_six rfl]
   intro x hx
   obtain rfl := List.mem_singleton.1 hx
   split
   . exact nodeE_leaf0
   . rename_i h; exact hw.2 rfl h
/-- Whether the one looked at is repaired. -/
def MT.wrong (s : SchemaD) (T : MT) (p : List Int) : Nat := match T.at_ p with
 | some k => if (findN s k.bare).1 = 0 then 0 else 1
 | none => 0
end Go.Proofs.YtbommcakcmhalaaGreatDoor
/- Walks: the reference's Leaf of one byte, Elem. -/
namespace Go.Proofs.YtbommcakcmhalaaGreatDoor
open Go.RowKit Go.Redl
/-- A text of one byte, as runes. -/
theorem conv_one (c : UInt8) (hc : Conv.runesFrom ⟨#[c]⟩ 1 0 #[] = #[.int .i32 c.toNat]) (w : World) : ∃ cap w', (convert 9 32 (.string ⟨#[c]⟩)).run Tryz.prog w = .ok (.slice (some ⟨w.heap.size, 0, none⟩) 1 cap) w' /\
 Below w.heap.size w w' /\ RowA w' w'.heap.size 1 (some ⟨w.heap.size, 0, none⟩) 1 cap [.int .i32 c.toNat] := by
 have hsz : (Conv.runesFrom ⟨#[c]⟩ (⟨#[c]⟩ : ByteArray).size 0 #[]) = #[.int .i32 c.toNat] := hc
 have h := run_runes_of_string (P := Tryz.prog) w 9 32 21 ⟨#[c]⟩ Tryz.underlying9 Tryz.underlying32 Tryz.underlying21 (by rw [hsz]; simp)
 rw [hsz] at h
 have h1 : (#[Value.int .i32 c.toNat] : Array Value).size = 1 := rfl
 rw [h1] at h
 have hge := grownCap_ge w 1 0 21
 have hcm := grownCap_le_maxLen w 1 0 21 (by unfold maxLen; omega)
 refine ⟨_, _, h, (Below.refl _ _).drew.alloc (Nat.le_refl _) _, ⟨by simp, hge, hcm, by simp; rfl, (fun h => by cases h), fun _ => ⟨w.heap.size, 0, rfl, by simp, fun j u hj => ?_⟩⟩⟩
 have hg := heap_alloc_new w.drew (Obj.cells (#[Value.int .i32 c.toNat] ++ Array.replicate (grownCap w 1 0 21 - 1) (.int .i32 0)) 21)
 have hd : w.drew.heap.size = w.heap.size := rfl
 rw [hd] at hg
 rw [cell_of_row _ w.heap.size (0 + j) _ _ _ hg]
 have hj0 : j = 0 := by
  cases j with
  | zero => rfl
  | succ j => simp at hj
 subst hj0
 simp at hj
 subst hj
 rw [Array.getElem?_append_left (by simp)]
 rfl
/-- A leaf of one byte. -/
def LeafP (W : World) (ps : List PropD) (c : UInt8) (e : Ending) (w' : World) : Prop :=
 ∃ ap cp at_ ct, e = .returned (.agg #[.bool true, .slice ap ps.length cp, .slice at_ 1 ct, .slice none 0 0]) /\ NodeC w' w'.heap.size (.mk true ps [(c.toNat : Int)] []) [.bool true, .slice ap ps.length cp, .slice at_ 1 ct, .slice none 0 0] /\ Below W.heap.size W w'
theorem leaf_c (c : UInt8) (hc : Conv.runesFrom ⟨#[c]⟩ 1 0 #[] = #[.int .i32 c.toNat]) (ps : List PropD) (ap : Option Addr) (cp : Nat) (W : World) (hp : RowA W W.heap.size 2 ap ps.length cp (propCells ps)) :
 Calls Tryz.prog 36 #[.string ⟨#[c]⟩, .slice ap ps.length cp] W (LeafP W ps c) := by
 obtain ⟨cap, w1, h1, h2, h3⟩ := conv_one c hc (W.alloc (Obj.cells #[Value.bool false, Value.slice none 0 0, Value.slice none 0 0, Value.slice none 0 0] 35))
 have hsz0 : (W.alloc (Obj.cells #[Value.bool false, Value.slice none 0 0, Value.slice none 0 0, Value.slice none 0 0] 35)).heap.size = W.heap.size + 1 := by simp
 have hz := h2.size
 rw [hsz0] at h2 hz h3 h1
 have hblk : w1.heap[W.heap.size]? = some (Obj.cells #[Value.bool false, Value.slice none 0 0, Value.slice none 0 0, Value.slice none 0 0] 35 (0, 0)) := by
  rw [h2.block _ (by omega)]; exact heap_alloc_new W _
 have k0 : w1.cell? ⟨W.heap.size, 0, none⟩ = some (.bool false) := by rw [cell_of_row _ _ _ _ _ _ hblk]; rfl
 have k1 : w1.cell? ⟨W.heap.size, 1, none⟩ = some (.slice none 0 0) := by rw [cell_of_row _ _ _ _ _ _ hblk]; rfl
 have k2 : w1.cell? ⟨W.heap.size, 2, none⟩ = some (.slice none 0 0) := by rw [cell_of_row _ _ _ _ _ _ hblk]; rfl
 have k3 : w1.cell? ⟨W.heap.size, 3, none⟩ = some (.slice none 0 0) := by rw [cell_of_row _ _ _ _ _ _ hblk]; rfl
 have f0 : ∀ i, w1.frozen? ⟨W.heap.size, i, none⟩ = false := fun i => by simp [World.frozen?, hblk]
 have Hp := Lib.hid hp; have H2 := Lib.hid h2; have H3 := Lib.hid h3; have Hblk := Lib.hid hblk
 clear hp h2 h3 hsz0 hblk hc
 go_enter Tryz.func36, Tryz.ntmps36
 go_wp2_with fail
 have hz2 : W.heap.size + 1 < w1.heap.size ∨ True := .inr trivial
 refine bodyPost_ret (v := .agg #[.bool true, .slice ap ps.length cp, .slice (some ⟨W.heap.size + 1, 0, none⟩) 1 cap, .slice none 0 0]) (by simp [results, Tryz.results36, go_sem, k0, k1, k2, k3]) rfl ⟨ap, cp, _, cap, rfl, ?_, ?_⟩
 . have hb : Below W.heap.size W w1 := below_unbox H2.out
   have r1 : RowA w1 w1.heap.size 2 ap ps.length cp (propCells ps) := Hp.out.keep hb hb.size
   have hn1 : ∀ b off, ap = some ⟨b, off, none⟩ -> propCells ps ≠ [] -> b < W.heap.size := fun b off h hne => by
    obtain ⟨b', off', h', hlt, -⟩ := Hp.out.some_ hne
    rw [h] at h'
    cases h'; exact hlt
   unfold NodeC
   refine ⟨ap, cp, _, cap, none, 0, [], rfl, ?_, ?_, ?_, RowA.empty _ _ _, by unfold KidsC; rfl⟩
   . have hlen := propCells_len ps
     by_cases hpe : propCells ps = []
     . have h0 := Hp.out
       exact ⟨h0.len, h0.le, h0.max, h0.one, h0.nil, fun h => absurd hpe h⟩
     . have r2 := (((r1.setCell ⟨W.heap.size, 0, none⟩ (.bool true) (fun b off h => by have := hn1 b off h hpe; simp; omega)).setCell ⟨W.heap.size, 1, none⟩ (.slice ap ps.length cp) (fun b off h => by have := hn1 b off h hpe; simp; omega)).setCell ⟨W.heap.size, 2, none⟩ (.slice (some ⟨W.heap.size + 1, 0, none⟩) 1 cap) (fun b off h => by have := hn1 b off h hpe; simp; omega)).setCell ⟨W.heap.size, 3, none⟩ (.slice none 0 0) (fun b off h => by have := hn1 b off h hpe; simp; omega)
       simpa [World.setCell] using r2
   . have r2 := (((H3.out.setCell ⟨W.heap.size, 0, none⟩ (.bool true) (fun b off h => by cases h; simp)).setCell ⟨W.heap.size, 1, none⟩ (.slice ap ps.length cp) (fun b off h => by cases h; simp)).setCell ⟨W.heap.size, 2, none⟩ (.slice (some ⟨W.heap.size + 1, 0, none⟩) 1 cap) (fun b off h => by cases h; simp)).setCell ⟨W.heap.size, 3, none⟩ (.slice none 0 0) (fun b off h => by cases h; simp)
     simpa [World.setCell] using r2
   . intro z hz
     simp at hz
     subst hz
     have := c.toNat_lt
     have h1 : IntKind.i32.min = -2147483648 := by decide
     have h2 : IntKind.i32.max = 2147483647 := by decide
     simp only [Lit.wf, Bool.and_eq_true, decide_eq_true_eq, h1, h2]
     omega
 . exact ((((below_unbox H2.out).setCell (p := ⟨W.heap.size, 0, none⟩) (Nat.le_refl _) _).setCell (p := ⟨W.heap.size, 1, none⟩) (Nat.le_refl _) _).setCell (p := ⟨W.heap.size, 2, none⟩) (Nat.le_refl _) _).setCell (p := ⟨W.heap.size, 3, none⟩) (Nat.le_refl _) _
/-- A literal in a new block, behind which more memory lies. -/
theorem row_cells {w w' : World} {E : TypeId} (sz n : Nat) (cs : List Value) (hl : cs.length = n * sz) (hn : n <= 1000000) (h1 : ∀ u ∈ cs, u.oneCell' = true) (hb : Below (w.heap.size + 1) (w.alloc (Obj.cells cs.toArray E)) w') : RowA w' w'.heap.size sz (some ⟨w.heap.size, 0, none⟩) n n cs := by
 refine ⟨hl, Nat.le_refl _, by unfold maxLen; omega, h1, (fun h => by cases h), fun _ => ⟨w.heap.size, 0, rfl, ?_, fun j u hj => ?_⟩⟩
 . have := hb.size; simp at this; omega
 . have hg : w'.heap[w.heap.size]? = some (Obj.cells cs.toArray E (0, 0)) := by
    rw [hb.block _ (by omega)]; exact heap_alloc_new w _
   rw [cell_of_row _ w.heap.size (0 + j) _ E (0, 0) hg]
   simpa using hj
def ElemP (W : World) (s : List UInt8) (a : Option Addr) (c : Nat) (ks : List NodeD) (e : Ending) (w' : World) : Prop :=
 ∃ g, e = .returned (.agg #[.bool false, .slice (some ⟨g, 0, none⟩) 1 1, .slice none 0 0, .slice a ks.length c]) /\ NodeC w' w'.heap.size (.mk false [(typeB, s)] [] ks) [.bool false, .slice (some ⟨g, 0, none⟩) 1 1, .slice none 0 0, .slice a ks.length c] /\ Below W.heap.size W w'
theorem elem_c (x : UInt8) (r : List UInt8) (a : Option Addr) (c : Nat) (ks : List NodeD) (css : List Value) (W : World) (hr : RowA W W.heap.size 4 a ks.length c css) (hk : KidsC W W.heap.size ks css) :
 Calls Tryz.prog 35 #[.string ⟨(x :: r).toArray⟩, .slice a ks.length c] W (ElemP W (x :: r) a c ks) := by
 have hne : ((⟨(x :: r).toArray⟩ : ByteArray).toList.isEmpty) = false := by rw [ByteArray.toList_mk]; rfl
 have hne2 : (!(⟨(x :: r).toArray⟩ : ByteArray).toList.isEmpty) = true := by rw [ByteArray.toList_mk]; rfl
 have Hpc : Hid (propCells [(typeB, x :: r)] = [.string ⟨#[116, 121, 112, 101]⟩, .string ⟨(x :: r).toArray⟩]) := rfl
 obtain ⟨S, hS⟩ : ∃ S, S = (⟨(x :: r).toArray⟩ : ByteArray) := ⟨_, rfl⟩
 rw [<- hS] at hne hne2 Hpc ⊢
 have Hr := Lib.hid hr; have Hk := Lib.hid hk
 clear hr hk hS
 go_enter Tryz.func35, Tryz.ntmps35
 go_wp2_with fail
 have hb1 := fun (o1 o2 : Obj) => Lib.hid (below_three W o1 o2 (Obj.cells #[.string ⟨#[116, 121, 112, 101]⟩, .string S] 141))
 refine bodyPost_ret (v := .agg #[.bool false, .slice (some ⟨W.heap.size + 1 + 1, 0, none⟩) 1 1, .slice none 0 0, .slice a ks.length c]) (by simp [results, Tryz.results35, go_sem]) rfl ⟨W.heap.size + 1 + 1, rfl, ?_, (hb1 _ _).out⟩
 unfold NodeC
 refine ⟨some ⟨W.heap.size + 1 + 1, 0, none⟩, 1, none, 0, a, c, css, rfl, ?_, RowA.empty _ _ _, by simp, Hr.out.keep (hb1 _ _).out (hb1 _ _).out.size, KidsC.keep (hb1 _ _).out (hb1 _ _).out.size ks css Hk.out⟩
 rw [Hpc.out]
 have h := row_cells (w := (W.alloc (Obj.cells #[Value.bool false, Value.slice (some ⟨W.heap.size + 1 + 1, 0, none⟩) 1 1, Value.slice none 0 0, Value.slice a ks.length c] 35)).alloc (Obj.cells #[Value.bool false, Value.slice (some ⟨W.heap.size + 1 + 1, 0, none⟩) 1 1, Value.slice none 0 0, Value.slice a ks.length c] 35)) (E := 141) 2 1 [.string ⟨#[116, 121, 112, 101]⟩, .string S] rfl (by omega) (by intro u hu; simp at hu; rcases hu with rfl | rfl <;> rfl) (Below.refl _ _)
 simpa using h
end Go.Proofs.YtbommcakcmhalaaGreatDoor
/- Walks: the law's wraps, the chapter's example. -/
namespace Go.Proofs.YtbommcakcmhalaaGreatDoor
open Go.RowKit Go.Redl
/-- The schema of the example. -/
def wrapsS : SchemaD := ⟨[⟨[100, 111, 99], (4, [112]), (1, []), [], 0, []⟩], ⟨[], (1, []), (1, []), [], 0, []⟩, [1, 2, 3, 4, 5, 6], 100⟩
def WrapsP (W : World) (e : Ending) (w' : World) : Prop := ∃ v, e = .returned v /\ SchemaV w' w'.heap.size wrapsS v /\ Below W.heap.size W w'
/-- The cells of the example's rule, of its schema (whose rule lies in block N). -/
def docC : List Value := [.string ⟨#[100, 111, 99]⟩, .int .i64 4, .string ⟨#[112]⟩, .int .i64 1, .string ⟨#[]⟩, .slice none 0 0, .int .i64 0, .string ⟨#[]⟩]
def wrapsC (N : Nat) : List Value := [.slice (some ⟨N, 0, none⟩) 1 1, .string ⟨#[]⟩, .int .i64 1, .string ⟨#[]⟩, .int .i64 1, .string ⟨#[]⟩, .slice none 0 0, .int .i64 0, .string ⟨#[]⟩, .int .i64 1, .int .i64 2, .int .i64 3, .int .i64 4, .int .i64 5, .int .i64 6, .int .i64 100]
theorem wraps_v {w : World} {N : Nat} (h : At w N docC 27) : SchemaV w w.heap.size wrapsS (.agg (wrapsC N).toArray) := by
 refine ⟨_, rfl, some ⟨N, 0, none⟩, 1, docC, ruleCells wrapsS.els none 0, rfl, ?_, ⟨docC, [], by simp, ⟨none, 0, rfl, RowA.empty _ _ _⟩, rfl⟩, ⟨none, 0, rfl, RowA.empty _ _ _⟩, rfl⟩
 refine ⟨rfl, Nat.le_refl _, by unfold maxLen; decide, by intro u hu; simp [docC] at hu; rcases hu with rfl | rfl | rfl | rfl | rfl | rfl | rfl | rfl <;> rfl, (fun h => by cases h), fun _ => ⟨N, 0, rfl, h.lt, fun j u hj => by rw [Nat.zero_add]; exact h.cell j hj⟩⟩
theorem wraps_c (W : World) : Calls Tryz.prog 34 #[] W (WrapsP W) := by
 go_enter Tryz.func34, Tryz.ntmps34
 go_wp2_with fail
 obtain ⟨w4, hw4⟩ : ∃ w4, w4 = (((W.alloc (Obj.cells (wrapsC (W.heap.size + 1 + 1 + 1)).toArray 30)).alloc (Obj.cells #[Value.int IntKind.i64 1, Value.string ⟨#[]⟩] 24)).alloc (Obj.cells docC.toArray 27)).alloc (Obj.cells docC.toArray 27) := ⟨_, rfl⟩
 have hA : At w4 W.heap.size (wrapsC (W.heap.size + 1 + 1 + 1)) 30 := by rw [hw4]; exact (((At.fresh _ _ _).alloc _).alloc _).alloc _
 have hD : At w4 (W.heap.size + 1 + 1 + 1) docC 27 := by
  rw [hw4]
  have h := At.fresh (((W.alloc (Obj.cells (wrapsC (W.heap.size + 1 + 1 + 1)).toArray 30)).alloc (Obj.cells #[Value.int IntKind.i64 1, Value.string ⟨#[]⟩] 24)).alloc (Obj.cells docC.toArray 27)) docC 27
  simpa using h
 have hb : Below W.heap.size W w4 := by
  rw [hw4]
  exact (((Below.refl _ _).alloc (Nat.le_refl _) _).alloc (by simp) _ |>.alloc (by simp; omega) _).alloc (by simp; omega) _
 have hld := run_loadVar_mid (P := Tryz.prog) w4 W.heap.size 0 30 (wrapsC (W.heap.size + 1 + 1 + 1)) _ (fun j v hj => by rw [Nat.zero_add]; exact hA.cell j hj) Tryz.underlying30 rfl (by kernel_rfl)
 show bodyPost _ _ _ _ _ ((((W.alloc (Obj.cells (wrapsC (W.heap.size + 1 + 1 + 1)).toArray 30)).alloc (Obj.cells #[Value.int IntKind.i64 1, Value.string ⟨#[]⟩] 24)).alloc (Obj.cells docC.toArray 27)).alloc (Obj.cells docC.toArray 27))
 rw [<- hw4]
 refine bodyPost_ret (v := .agg (wrapsC (W.heap.size + 1 + 1 + 1)).toArray) (by simp [results, Tryz.results34, asAddr, hld]) rfl ⟨_, rfl, wraps_v hD, hb⟩
end Go.Proofs.YtbommcakcmhalaaGreatDoor
/- Walk: the chapter's example. -/
namespace Go.Proofs.YtbommcakcmhalaaGreatDoor
open Go.RowKit Go.Redl
def liveD : NodeD := .mk false [(typeB, [100, 111, 99])] [] [.mk true [] [97] []]
def liveO : List OpD := [⟨1, [0], [], 0, elemN [112], []⟩, ⟨5, [1], [0, 0], 0, zeroN, []⟩]
theorem live_fix : fixN wrapsS liveD [] = (liveO, 0) := by kernel_rfl
theorem live_c (W : World) : Calls Tryz.prog 9 #[] W fun e w' => e = .returned (.bool true) /\ Below W.heap.size W w' := by
 have HW := Lib.hid (wraps_c W)
 have HL := Lib.hid (fun (w : World) => leaf_c 97 rfl [] none 0 w (RowA.empty _ _ _))
 have hE := fun (w1 : World) (cells : List Value) (hc : cells.length = 4) (hn : NodeC w1 w1.heap.size (.mk true [] [97] []) cells) =>
  Lib.hid (elem_c 100 [111, 99] (some ⟨w1.heap.size, 0, none⟩) 1 [.mk true [] [97] []] cells (w1.alloc (Obj.cells cells.toArray 35)) (row_cells 4 1 cells hc (by omega) hn.one (Below.refl _ _)) (by
   unfold KidsC
   exact ⟨cells, [], by simp, NodeC.keep (below_new w1 _) (below_new w1 _).size _ _ hn, by unfold KidsC; rfl⟩))
 have HE := Lib.hid hE
 have HO := Lib.hid (fun (sv v : Value) (w1 : World) (hs : SchemaV w1 w1.heap.size wrapsS sv) (hv : NodeV w1 w1.heap.size liveD v) => by
  have h := fixops_c wrapsS sv liveD v [] none 0 w1 (by decide) (by decide) hs hv (RowA.empty _ _ _) (by simp)
  rw [live_fix] at h
  exact h)
 clear hE
 go_enter Tryz.func9, Tryz.ntmps9
 go_wp2_with fail
 refine HW.out.mono ?_
 rintro e w1 ⟨sv, rfl, hsv, hbel⟩
 have Hb1 := Lib.hid hbel; have Hsv := Lib.hid hsv
 have HL1 := HL.out w1
 clear hbel hsv HW HL
 go_wp2_with fail
 refine HL1.mono ?_
 rintro e w2 ⟨ap, cp, at_, ct, rfl, hnc, hbel⟩
 have Hb2 := Lib.hid (below_then Hb1.out hbel (Nat.le_refl _))
 have Hsv2 := Lib.hid (Hsv.out.keep hbel hbel.size)
 have HE1 := HE.out w2 _ rfl hnc
 clear hbel hnc HL1 HE Hsv
 go_wp2_with fail
 refine HE1.out.mono ?_
 rintro e w3 ⟨g, rfl, hnc, hbel⟩
 have Hb3 := Lib.hid (below_then (Hb2.out.alloc Hb2.out.size _) hbel (Nat.le_refl _))
 have hb23 := (one_below w2 (Obj.cells #[Value.bool true, Value.slice ap [].length cp, Value.slice at_ 1 ct, Value.slice none 0 0] 35)).trans (hbel.mono (one_below w2 _).size)
 have HO1 := Lib.hid (HO.out sv _ w3 (Hsv2.out.keep hb23 hb23.size) ⟨_, rfl, hnc⟩)
 clear hb23
 clear hbel hnc HE1 Hsv2 HO
 go_wp2_with fail
 refine HO1.out.mono ?_
 rintro e w4 ⟨v, rfl, hv, hbel⟩
 have Hb4 := Lib.hid (below_then Hb3.out hbel (Nat.le_refl _))
 obtain ⟨a, c, css, rfl, -, -⟩ := id hv
 obtain ⟨b, off, pa, pc, ta, tc, n0, n1, n2, n3, oa, oc, rfl, -, -, -, -, -, k0⟩ := hv.at_ 0 (by decide)
 obtain ⟨b', off', pa', pc', ta', tc', n0', n1', n2', n3', oa', oc', e1, hlt, q1, q2, -, -, k1⟩ := hv.at_ 1 (by decide)
 injection e1 with e1; injection e1 with e1 e2; subst e1; subst e2
 have c0 := k0 0 _ rfl
 have c1 := k1 0 _ rfl
 have c2 := k1 1 _ rfl
 have c3 := k1 2 _ rfl
 simp [liveO] at c0 c1 c2 c3
 have hlen : liveO.length = 2 := rfl
 rw [hlen]
 have HQ := Lib.hid (fun (w : World) (hb : Below w4.heap.size w4 w) (p : Option Addr) (hp : RowA w w.heap.size 1 p 1 1 [.int .i64 1]) => rpath_yes [1] pa' p pc' 1 w (q1.row.keep hb hb.size) hp)
 have HT := Lib.hid (fun (w : World) (hb : Below w4.heap.size w4 w) (p : Option Addr) (hp : RowA w w.heap.size 1 p 2 2 [.int .i64 0, .int .i64 0]) => rpath_yes [0, 0] ta' p tc' 2 w (q2.row.keep hb hb.size) hp)
 have Hlt := Lib.hid hlt
 clear hv k0 k1 q1 q2 hbel hlen hlt HO1
 go_wp2_with fail
 refine (HQ.out _ (one_below w4 _) _ (row_cells (E := 3) 1 1 [.int .i64 1] rfl (by omega) (by intro u hu; simp at hu; subst hu; rfl) (Below.refl _ _))).mono ?_
 rintro e w5 ⟨rfl, hbel⟩
 have hb5 := (one_below w4 (Obj.cells #[Value.int .i64 1] 3)).trans (hbel.mono (one_below w4 _).size)
 have d3 := (hb5.cell (by exact Hlt.out)).trans c3
 have Hb5 := Lib.hid hb5
 clear hbel HQ c0 c1 c2 c3 hb5
 go_wp2_with fail
 refine (HT.out _ (Hb5.out.trans ((one_below w5 _).mono Hb5.out.size)) _ (row_cells (E := 3) 1 2 [.int .i64 0, .int .i64 0] rfl (by omega) (by intro u hu; simp at hu; subst hu; rfl) (Below.refl _ _))).mono ?_
 rintro e w6 ⟨rfl, hbel⟩
 have Hb6 := Lib.hid (Hb4.out.trans ((Hb5.out.trans (((one_below w5 (Obj.cells #[Value.int .i64 0, Value.int .i64 0] 3)).trans (hbel.mono (one_below w5 _).size)).mono Hb5.out.size)).mono Hb4.out.size))
 clear hbel HT d3
 go_wp2_with fail
 go_ret
 exact ⟨rfl, Hb6.out⟩
end Go.Proofs.YtbommcakcmhalaaGreatDoor
/- Walks: whether a schema is small enough to be played. -/
namespace Go.Proofs.YtbommcakcmhalaaGreatDoor
open Go.RowKit Go.Redl
theorem info_rule : (Tryz.prog.info? 27).map (fun i => (i.zero, i.size, i.bytes)) = some (some (.agg #[.string ⟨#[]⟩, .int .i64 0, .string ⟨#[]⟩, .int .i64 0, .string ⟨#[]⟩, .slice none 0 0, .int .i64 0, .string ⟨#[]⟩]), 8, 112) := by kernel_rfl
theorem rall_c (a : Option Addr) (n c : Nat) (css : List Value) (e1 e3 e5 e8 : List UInt8) (e2 e4 e7 : Int) (ea : Option Addr) (en ec : Nat) (v9 v10 v11 v12 v13 v14 v15 : Value) (W : World) (hr : RowA W W.heap.size 8 a n c css) (hn : n <= 100000000) :
 Calls Tryz.prog 92 #[.agg #[.slice a n c, strV e1, .int .i64 e2, strV e3, .int .i64 e4, strV e5, .slice ea en ec, .int .i64 e7, strV e8, v9, v10, v11, v12, v13, v14, v15]] W (MadeRow W 27 8 (n + 1) (css ++ [strV e1, .int .i64 e2, strV e3, .int .i64 e4, strV e5, .slice ea en ec, .int .i64 e7, strV e8])) := by
 obtain ⟨w0, hw0⟩ : ∃ w0, w0 = W.alloc (Obj.cells #[.slice a n c, strV e1, .int .i64 e2, strV e3, .int .i64 e4, strV e5, .slice ea en ec, .int .i64 e7, strV e8, v9, v10, v11, v12, v13, v14, v15] 30) := ⟨_, rfl⟩
 have hb0 : Below W.heap.size W w0 := by rw [hw0]; exact one_below _ _
 have hB : At w0 W.heap.size [.slice a n c, strV e1, .int .i64 e2, strV e3, .int .i64 e4, strV e5, .slice ea en ec, .int .i64 e7, strV e8, v9, v10, v11, v12, v13, v14, v15] 30 := by rw [hw0]; exact At.fresh _ _ _
 have HR := Lib.hid (fun (w1 : World) (hb : Below w0.heap.size w0 w1) => hr.keep (hb0.trans (hb.mono hb0.size)) (hb0.trans (hb.mono hb0.size)).size)
 have HS9 := Lib.hid (fun (w' : World) (h : At w' W.heap.size [.slice a n c, strV e1, .int .i64 e2, strV e3, .int .i64 e4, strV e5, .slice ea en ec, .int .i64 e7, strV e8, v9, v10, v11, v12, v13, v14, v15] 30) => (show w'.cell? ⟨W.heap.size, 0, none⟩ = some (.slice a n c) /\ w'.cell? ⟨W.heap.size, 1, none⟩ = some (strV e1) /\ w'.cell? ⟨W.heap.size, 2, none⟩ = some (.int .i64 e2) /\ w'.cell? ⟨W.heap.size, 3, none⟩ = some (strV e3) /\ w'.cell? ⟨W.heap.size, 4, none⟩ = some (.int .i64 e4) /\ w'.cell? ⟨W.heap.size, 5, none⟩ = some (strV e5) /\ w'.cell? ⟨W.heap.size, 6, none⟩ = some (.slice ea en ec) /\ w'.cell? ⟨W.heap.size, 7, none⟩ = some (.int .i64 e7) /\ w'.cell? ⟨W.heap.size, 8, none⟩ = some (strV e8) by
  obtain ⟨x0, x1, x2, x3, x4, x5, x6, x7, x8, -⟩ := h.f16.1
  exact ⟨x0, x1, x2, x3, x4, x5, x6, x7, x8⟩))
 have HS0 := Lib.hid (fun (w' : World) (hb : Below w0.heap.size w0 w') => HS9.out w' (hB.kept hb))
 have HB := Lib.hid hB
 have Hw0 := Lib.hid hw0; have Hb0 := Lib.hid hb0; have Hone := Lib.hid hr.one
 have hsz : W.heap.size + 1 <= w0.heap.size := hB.lt
 clear hw0 hb0 hB hr
 go_enter Tryz.func92, Tryz.ntmps92
 go_upto_region 1 with fail
 rw [<- Hw0.out]
 clear Hw0
 go_region_held3 (fun w' => w'.cell? ⟨W.heap.size, 0, none⟩ = some (.slice a n c) /\ w'.cell? ⟨W.heap.size, 1, none⟩ = some (strV e1) /\ w'.cell? ⟨W.heap.size, 2, none⟩ = some (.int .i64 e2) /\ w'.cell? ⟨W.heap.size, 3, none⟩ = some (strV e3) /\ w'.cell? ⟨W.heap.size, 4, none⟩ = some (.int .i64 e4) /\ w'.cell? ⟨W.heap.size, 5, none⟩ = some (strV e5) /\ w'.cell? ⟨W.heap.size, 6, none⟩ = some (.slice ea en ec) /\ w'.cell? ⟨W.heap.size, 7, none⟩ = some (.int .i64 e7) /\ w'.cell? ⟨W.heap.size, 8, none⟩ = some (strV e8)) (first | with_reducible exact HS2.out | (refine HS0.out _ (by ((repeat (first | with_reducible exact Hb1.out | with_reducible exact Below.refl _ _ | with_reducible refine Below.drew ?_ | with_reducible refine Below.alloc ?_ ?_ _ | with_reducible refine Below.setCell ?_ ?_ _)) <;> (first | with_reducible exact Nat.le_refl _ | with_reducible exact Hb1.out.size | (have hsz := Hb1.out.size; simp [World.setCell]; omega) | (simp; done) | (simp; omega) | omega)))))
  (first
  | (refine step_app rfl _ _ 22 rfl _ 27 _ 8 112 Tryz.underlying22 info_rule rfl (by decide) (.slice none 0 0) 0 [] ?_ (World.ownsRow_nil _ _ _ _) a n c _ _ ?_ (HR.out _ (by ((repeat (first | with_reducible exact Below.refl _ _ | with_reducible refine Below.drew ?_ | with_reducible refine Below.alloc ?_ ?_ _ | with_reducible refine Below.setCell ?_ ?_ _)) <;> (first | with_reducible exact Nat.le_refl _ | (simp; done) | (simp; omega) | omega)))) ?_ ?_ (Nat.le_refl _) ?_
     . go_simp
     . go_simp
     . unfold maxLen; omega
     . omega
     intro v1 w1 hown hgrow
     have hbel := below_of_grown hgrow
     have Hz1 := Lib.hid hbel.size
     have Hb1 := Lib.hid (Below.and (w0 := w0) (by ((repeat (first | with_reducible exact Below.refl _ _ | with_reducible refine Below.drew ?_ | with_reducible refine Below.alloc ?_ ?_ _ | with_reducible refine Below.setCell ?_ ?_ _)) <;> (first | with_reducible exact Nat.le_refl _ | (simp; done) | (simp; omega) | omega))) hbel)
     rw [Nat.zero_add, List.nil_append] at hown
     have Hown := Lib.hid (own_mono (base := W.heap.size + 1) hown (by simp; omega))
     have HB1 := Lib.hid (HB.out.kept Hb1.out)
     first
      | (refine At.lay (N := ?_) (cs := [strV e1, .int .i64 e2, strV e3, .int .i64 e4, strV e5, .slice ea en ec, .int .i64 e7, strV e8]) (T := 27) (At.kept ?_ hbel) ?_
         rotate_left
         . (repeat (first | with_reducible exact At.second _ _ _ _ | with_reducible exact At.fresh _ _ _ | with_reducible refine At.drew ?_ | with_reducible refine At.alloc ?_ _))
         intro HE1)
      | skip
     clear hown hgrow hbel)
  | (refine step_app rfl _ _ 22 rfl (W.heap.size + 1) 27 _ 8 112 Tryz.underlying22 info_rule rfl (by decide) v1 n css ?_ (own_keep Hown.out (one_below _ _)) (some ⟨w1.heap.size, 0, none⟩) 1 1 _ [strV e1, .int .i64 e2, strV e3, .int .i64 e4, strV e5, .slice ea en ec, .int .i64 e7, strV e8] ?_ (RowQ.row (ok := fun _ => True) (rowq_at (T := 27) (by (repeat (first | with_reducible exact HE1.out | with_reducible exact At.second _ _ _ _ | with_reducible exact At.fresh _ _ _ | with_reducible refine At.drew ?_ | with_reducible refine At.alloc ?_ _))) 1 8 rfl (by omega) (by intro u hu; simp at hu; rcases hu with rfl | rfl | rfl | rfl | rfl | rfl | rfl | rfl <;> rfl) trivial)) ?_ ?_ ?_ ?_
     . go_simp
     . go_simp
     . unfold maxLen; omega
     . omega
     . have := Hb1.out.size; simp; omega
     intro v2 w2 hown2 hgrow2
     have Hown2 := Lib.hid hown2
     have Hb2 := Lib.hid ((show Below W.heap.size W _ from Hb0.out.trans ((show Below w0.heap.size w0 _ by ((repeat (first | with_reducible exact Hb1.out | with_reducible exact Below.refl _ _ | with_reducible refine Below.drew ?_ | with_reducible refine Below.alloc ?_ ?_ _ | with_reducible refine Below.setCell ?_ ?_ _)) <;> (first | with_reducible exact Nat.le_refl _ | with_reducible exact Hb1.out.size | (have hsz := Hb1.out.size; simp [World.setCell]; omega) | (simp; done) | (simp; omega) | omega))).mono Hb0.out.size)).grown hgrow2 (by have := Hb1.out.size; simp; omega) (fun k hk => by have := (Hown.out.lt k hk).1; omega))
     have HS2 := Lib.hid (HS9.out _ (At.grown (show At _ W.heap.size [.slice a n c, strV e1, .int .i64 e2, strV e3, .int .i64 e4, strV e5, .slice ea en ec, .int .i64 e7, strV e8, v9, v10, v11, v12, v13, v14, v15] 30 by (repeat (first | with_reducible exact HB1.out | with_reducible exact At.second _ _ _ _ | with_reducible exact At.fresh _ _ _ | with_reducible refine At.drew ?_ | with_reducible refine At.alloc ?_ _))) hgrow2 (fun e => by have := (Hown.out.lt _ e).1; omega)))
     clear hown2 hgrow2)
  | (refine step_app rfl _ _ 22 rfl (W.heap.size + 1) 27 _ 8 112 Tryz.underlying22 info_rule rfl (by decide) v1 n css ?_ Hown.out (some ⟨w0.heap.size, 0, none⟩) 1 1 _ [strV e1, .int .i64 e2, strV e3, .int .i64 e4, strV e5, .slice ea en ec, .int .i64 e7, strV e8] ?_ (RowQ.row (ok := fun _ => True) (rowq_at (T := 27) (by (repeat (first | with_reducible exact HE1.out | with_reducible exact At.second _ _ _ _ | with_reducible exact At.fresh _ _ _ | with_reducible refine At.drew ?_ | with_reducible refine At.alloc ?_ _))) 1 8 rfl (by omega) (by intro u hu; simp at hu; rcases hu with rfl | rfl | rfl | rfl | rfl | rfl | rfl | rfl <;> rfl) trivial)) ?_ ?_ ?_ ?_
     . go_simp
     . go_simp
     . unfold maxLen; omega
     . omega
     . have := Hb1.out.size; simp; omega
     intro v2 w2 hown2 hgrow2
     have Hown2 := Lib.hid hown2
     have Hb2 := Lib.hid ((show Below W.heap.size W _ from Hb0.out.trans ((show Below w0.heap.size w0 _ by ((repeat (first | with_reducible exact Hb1.out | with_reducible exact Below.refl _ _ | with_reducible refine Below.drew ?_ | with_reducible refine Below.alloc ?_ ?_ _ | with_reducible refine Below.setCell ?_ ?_ _)) <;> (first | with_reducible exact Nat.le_refl _ | with_reducible exact Hb1.out.size | (have hsz := Hb1.out.size; simp [World.setCell]; omega) | (simp; done) | (simp; omega) | omega))).mono Hb0.out.size)).grown hgrow2 (by have := Hb1.out.size; simp; omega) (fun k hk => by have := (Hown.out.lt k hk).1; omega))
     have HS2 := Lib.hid (HS9.out _ (At.grown (show At _ W.heap.size [.slice a n c, strV e1, .int .i64 e2, strV e3, .int .i64 e4, strV e5, .slice ea en ec, .int .i64 e7, strV e8, v9, v10, v11, v12, v13, v14, v15] 30 by (repeat (first | with_reducible exact HB1.out | with_reducible exact At.second _ _ _ _ | with_reducible exact At.fresh _ _ _ | with_reducible refine At.drew ?_ | with_reducible refine At.alloc ?_ _))) hgrow2 (fun e => by have := (Hown.out.lt _ e).1; omega)))
     clear hown2 hgrow2)
  )
 all_goals
  go_wp2_with fail
  go_ret
  exact ⟨_, rfl, own_mono Hown2.out (Nat.le_succ _), Hb2.out⟩
end Go.Proofs.YtbommcakcmhalaaGreatDoor
/- Walks: whether a schema is small enough to be played. -/
namespace Go.Proofs.YtbommcakcmhalaaGreatDoor
open Go.RowKit Go.Redl
theorem RulesC.snoc {w : World} {B : Nat} {r : RuleD} {c2 : List Value} (hr : RuleC w B r c2) : ∀ {rs : List RuleD} {css : List Value}, RulesC w B rs css -> RulesC w B (rs ++ [r]) (css ++ c2)
 | [], css, h => by
   rw [show css = [] from h]
   exact ⟨c2, [], by simp, hr, rfl⟩
 | q :: rs, css, h => by
   obtain ⟨c1, c3, rfl, h2, h3⟩ := h
   exact ⟨c1, c3 ++ c2, by simp, h2, RulesC.snoc hr h3⟩
theorem all_wt {s : SchemaD} (hw : s.wt <= 100000000) : ∀ j (hj : j < (s.rules ++ [s.els]).length), (s.rules ++ [s.els])[j].kids.length <= 100000000 := by
 intro j hj
 have hm := List.getElem_mem hj
 have h : (s.rules ++ [s.els])[j].wt <= s.wt := by
  unfold SchemaD.wt
  rcases List.mem_append.1 hm with h | h
  . have := rulesWt_mem h; omega
  . rw [List.mem_singleton.1 h]; omega
 have := kids_wt (s.rules ++ [s.els])[j]
 omega
/-- What a pair adds to the count, a rule's head, a rule, a schema: as the walk has them, wraps and all. -/
def pairZ (z : Int) (p : PairD) : Int := wrap64 (z + wrap64 ((wrap64 ((p.1.length : Int) + (p.2.2.length : Int))).tdiv 64))
def headZ (y : Int) (q : RuleD) : Int := wrap64 (y + wrap64 (1 + (q.kids.length : Int) + wrap64 ((wrap64 (wrap64 (wrap64 ((q.type.length : Int) + (q.text.2.length : Int)) + (q.other.2.length : Int)) + (q.fillT.length : Int))).tdiv 64)))
def ruleZ (y : Int) (q : RuleD) : Int := q.kids.foldl pairZ (headZ y q)
def fewZ (l : List RuleD) : Bool := decide (l.foldl ruleZ 0 <= 80)
theorem rfew15_c (s : SchemaD) (v : Value) (W : World) (hw : s.wt <= 100000000) (hv : SchemaV W W.heap.size s v) :
 Calls Tryz.prog 38 #[v] W (fun e w' => e = .returned (.bool (fewZ (s.rules ++ [s.els]))) /\ Below W.heap.size W w') := by
 have hrl : s.rules.length <= 100000000 - 1 := by have := rulesWt_len s.rules; have : 1 <= s.els.wt := by { unfold RuleD.wt; omega }; unfold SchemaD.wt at hw; omega
 obtain ⟨a, c, css, ea, ec, o0, o1, o2, o3, o4, o5, rfl, h1, h2, h3, -⟩ := hv.open
 have hkl := all_wt hw
 obtain ⟨rs, ⟨ty, ⟨td, tt⟩, ⟨od, ot⟩, kids, fill, ft⟩, order, scap⟩ := s
 simp only at hrl h1 h2 h3 hkl ⊢
 obtain ⟨w0, hw0⟩ : ∃ w0, w0 = W.alloc (Obj.cells #[.slice a rs.length c, strV ty, .int .i64 td, strV tt, .int .i64 od, strV ot, .slice ea kids.length ec, .int .i64 fill, strV ft, .int .i64 o0, .int .i64 o1, .int .i64 o2, .int .i64 o3, .int .i64 o4, .int .i64 o5, .int .i64 scap] 30) := ⟨_, rfl⟩
 have hb0 : Below W.heap.size W w0 := by rw [hw0]; exact one_below _ _
 have hA : At w0 W.heap.size [.slice a rs.length c, strV ty, .int .i64 td, strV tt, .int .i64 od, strV ot, .slice ea kids.length ec, .int .i64 fill, strV ft, .int .i64 o0, .int .i64 o1, .int .i64 o2, .int .i64 o3, .int .i64 o4, .int .i64 o5, .int .i64 scap] 30 := by rw [hw0]; exact At.fresh _ _ _
 have HC := Lib.hid (rall_c a rs.length c css ty tt ot ft td od fill ea kids.length ec (.int .i64 o0) (.int .i64 o1) (.int .i64 o2) (.int .i64 o3) (.int .i64 o4) (.int .i64 o5) (.int .i64 scap) w0 (h1.keep hb0 hb0.size) (by omega))
 have HR := Lib.hid (fun (w' : World) (hb : Below W.heap.size W w') => RulesC.snoc (r := ⟨ty, (td, tt), (od, ot), kids, fill, ft⟩) (c2 := [strV ty, .int .i64 td, strV tt, .int .i64 od, strV ot, .slice ea kids.length ec, .int .i64 fill, strV ft]) (⟨ea, ec, rfl, h3.keep hb hb.size⟩) (RulesC.keep hb hb.size h2))
 have Hb0 := Lib.hid hb0; have Hw0 := Lib.hid hw0
 obtain ⟨L, hL⟩ : ∃ L : List RuleD, L = rs ++ [⟨ty, (td, tt), (od, ot), kids, fill, ft⟩] := ⟨_, rfl⟩
 have hLn : L.length = rs.length + 1 := by rw [hL]; simp
 rw [<- hL] at HR hkl ⊢
 obtain ⟨T, hT⟩ : ∃ T, T = L.foldl ruleZ 0 := ⟨_, rfl⟩
 have HT := Lib.hid hT
 have HF := Lib.hid (show fewZ L = decide (T <= 80) by rw [hT]; rfl)
 have Hkl := Lib.hid hkl; have HLn := Lib.hid hLn
 obtain ⟨⟨x0, x1, x2, x3, x4, x5, x6, x7, x8, x9, x10, x11, x12, x13, x14, x15⟩, -, xl⟩ := hA.f16
 clear hw hv h1 h2 h3 hb0 hw0 hA hL hLn hkl hT
 go_enter Tryz.func38, Tryz.ntmps38
 go_upto_region 1 with fail
 rw [<- Hw0.out]
 clear Hw0
 go_wp2_with fail
 refine HC.out.mono ?_
 rintro e w1 ⟨v1, rfl, hown, hbel⟩
 have hRc := HR.out w1 (Hb0.out.trans (hbel.mono Hb0.out.size))
 obtain ⟨qa, qc, rfl, hq⟩ := rowq_own hown (RulesC.one hRc)
 have Hq := Lib.hid hq.row; have HRc := Lib.hid hRc
 have Hb1 := Lib.hid (Hb0.out.trans (hbel.mono Hb0.out.size))
 have Hsz := Lib.hid (Hb0.out.trans (hbel.mono Hb0.out.size)).size
 clear HC HR hown hbel hRc hq x0 x1 x2 x3 x4 x5 x6 x7 x8 x9 x10 x11 x12 x13 x14 x15 xl Hb0
 rw [<- HLn.out] at Hq
 rw [<- HLn.out]
 have hlm : L.length <= 100000000 := by have := HLn.out; omega
 clear HLn hrl
 go_wp2_with fail
 go_loopg [3, 11] L.length (fun g x i wr => ∃ (k : Nat) (y : Int), x = .int .i64 y /\ i = .int .i64 k /\ k + g = L.length /\ (L.drop k).foldl ruleZ y = T /\ Below w1.heap.size w1 wr)
 case atStart => exact ⟨0, 0, rfl, rfl, by omega, HT.out.symm, Below.refl _ _⟩
 case round =>
  obtain ⟨k, y, rfl, rfl, hg, hfo, hbr⟩ := hrel
  have Hfo := Lib.hid hfo
  have Hbr := Lib.hid hbr
  by_cases hlt : k < L.length
  . have hlti : (k : Int) < L.length := by omega
    obtain ⟨b, off, ra, rc, rfl, -, hrr, g0, g1, g2, g3, g4, g5, g6, g7⟩ := rule8 (Hq.out.keep hbr hbr.size) (RulesC.keep hbr hbr.size HRc.out) k hlt
    have hkk := Hkl.out k hlt
    have Hrr := Lib.hid (fun (w' : World) (hb : Below wr.heap.size wr w') => hrr.keep hb hb.size)
    rw [List.drop_eq_getElem_cons hlt, List.foldl_cons] at hfo
    have Hfo := Lib.hid hfo
    clear hfo
    generalize L[k] = q at Hfo g0 g1 g2 g3 g4 g5 g6 g7 Hrr hkk
    obtain ⟨Y, hY⟩ : ∃ Y, Y = ruleZ y q := ⟨_, rfl⟩
    rw [<- hY] at Hfo
    have HY := Lib.hid hY
    clear hbr hrr Hkl hY
    go_wp2_with fail
    go_loopg [3, 43] q.kids.length (fun g x i w2 => ∃ (j : Nat) (z : Int), x = .int .i64 z /\ i = .int .i64 j /\ j + g = q.kids.length /\ (q.kids.drop j).foldl pairZ z = Y /\ Below wr.heap.size wr w2)
    case atStart => exact ⟨0, _, rfl, rfl, by omega, HY.out.symm, one_below _ _⟩
    case round =>
     obtain ⟨j, z, rfl, rfl, hg2, hfp, hbr2⟩ := hrel
     have Hbr2 := Lib.hid hbr2
     by_cases hlt2 : j < q.kids.length
     . have hlti2 : (j : Int) < q.kids.length := by omega
       obtain ⟨b2, off2, rfl, -, p0, p1, p2⟩ := (Hrr.out _ hbr2).pair_at j hlt2
       rw [List.drop_eq_getElem_cons hlt2, List.foldl_cons] at hfp
       have Hfp := Lib.hid hfp
       generalize q.kids[j] = pr at Hfp p0 p1 p2
       clear hbr2 hfp
       go_wp2_with fail
       go_roundg (q.kids.length - (j + 1))
       case measure => omega
       case rel => exact ⟨j + 1, _, rfl, by go_num, by omega, Hfp.out, Hbr2.out.alloc Hbr2.out.size _⟩
     . obtain rfl : j = q.kids.length := by omega
       rw [List.drop_length, List.foldl_nil] at hfp
       have Hfp := Lib.hid hfp
       clear hbr2 hfp
       go_wp2_with fail
       go_roundg (L.length - (k + 1))
       case measure => omega
       case rel => exact ⟨k + 1, _, rfl, by go_num, by omega, (congrArg (fun x => (L.drop (k + 1)).foldl ruleZ x) Hfp.out).trans Hfo.out, Hbr.out.trans (Hbr2.out.mono Hbr.out.size)⟩
  . obtain rfl : k = L.length := by omega
    rw [List.drop_length, List.foldl_nil] at hfo
    have Hfo := Lib.hid hfo
    clear hbr hfo
    go_wp2_with fail
    go_ret
    exact ⟨ret_bool (HF.out.trans (by rw [<- Hfo.out])).symm, Hb1.out.trans (Hbr.out.mono Hsz.out)⟩
end Go.Proofs.YtbommcakcmhalaaGreatDoor
/- Walks: whether the law's input is small. -/
namespace Go.Proofs.YtbommcakcmhalaaGreatDoor
open Go.RowKit Go.Redl
/-- A call whose guard holds. -/
theorem step_callG {P : Program} {ops : Array Oper} {o : Oper} {a : Act} {w : World} {K : Act -> World -> Prop} {Q : Exit -> Act -> World -> Prop} {E : Prop}
 (hw : Region.wanted o (yielded ops a.tmps) = true) (f : FuncId) (args : Array Operand) (tys : Array TypeId) (ho : o.op = .call { callee := .value (.func f), args := args, argTypes := tys })
 (he : ∀ args w, (callFunc f args).run P w = .ok (.enter f args) w) (vals : List Value) (hv : args.toList.map a.eval = vals) (R : Ending -> World -> Prop) (hC : Calls P f vals.toArray w R)
 (h : ∀ e w', R e w' -> ∃ v, e = .returned v /\ K (a.put o.dst v) w') : if Region.wanted o (yielded ops a.tmps) = true then Oper.wp P o a w K Q else E := by
 rw [if_pos hw]
 unfold Oper.wp
 have hv' : args.map a.eval = vals.toArray := by rw [<- hv]; apply Array.ext'; simp
 have hr : (execOp a.eval o).run P w = .ok (.enter f vals.toArray) w := by
  simp [execOp, ho, resolve, invoke, Act.eval, Deferred.ofValue, hv', he]
 rw [hr]
 show Calls P f vals.toArray w _
 refine hC.mono fun e w' hR => ?_
 obtain ⟨v, rfl, hk⟩ := h e w' hR
 exact hk
/-- The law's inputs are small. -/
def smallB (s : SchemaD) (n : NodeD) (p : List Int) : Bool := fewZ (s.rules ++ [s.els]) && fewB n 120 && decide (p.length <= 40)
theorem lawfew_c (s : SchemaD) (n : NodeD) (u v : Value) (p : List Int) (pa : Option Addr) (pc : Nat) (W : World) (hs : s.wt <= 100000000) (hn : n.wt <= 100000000) (hp : p.length <= 100000000) (hu : SchemaV W W.heap.size s u) (hv : NodeV W W.heap.size n v) :
 Calls Tryz.prog 10 #[u, v, .slice pa p.length pc] W (fun e w' => e = .returned (.bool (smallB s n p)) /\ Below W.heap.size W w') := by
 have hu0 := hu; have hv0 := hv
 obtain ⟨l, ps, t, ks⟩ := n
 obtain ⟨a, c, css, ea, ec, o0, o1, o2, o3, o4, o5, rfl, -, -, -, -⟩ := hu0.open
 obtain ⟨ap, cp, at_, ct, ak, ck, cs4, rfl, -, -, -, -⟩ := hv0.open
 obtain ⟨w0, hw0⟩ : ∃ w0, w0 = (W.alloc (Obj.cells #[.slice a s.rules.length c, strV s.els.type, .int .i64 s.els.text.1, strV s.els.text.2, .int .i64 s.els.other.1, strV s.els.other.2, .slice ea s.els.kids.length ec, .int .i64 s.els.fill, strV s.els.fillT, .int .i64 o0, .int .i64 o1, .int .i64 o2, .int .i64 o3, .int .i64 o4, .int .i64 o5, .int .i64 s.cap] 30)).alloc (Obj.cells #[.bool l, .slice ap ps.length cp, .slice at_ t.length ct, .slice ak ks.length ck] 35) := ⟨_, rfl⟩
 have hb0 : Below W.heap.size W w0 := by rw [hw0]; exact (one_below _ _).trans ((one_below _ _).mono (one_below _ _).size)
 have hA : At w0 W.heap.size [.slice a s.rules.length c, strV s.els.type, .int .i64 s.els.text.1, strV s.els.text.2, .int .i64 s.els.other.1, strV s.els.other.2, .slice ea s.els.kids.length ec, .int .i64 s.els.fill, strV s.els.fillT, .int .i64 o0, .int .i64 o1, .int .i64 o2, .int .i64 o3, .int .i64 o4, .int .i64 o5, .int .i64 s.cap] 30 := by rw [hw0]; exact (At.fresh W _ _).alloc _
 have hN : At w0 (W.heap.size + 1) [.bool l, .slice ap ps.length cp, .slice at_ t.length ct, .slice ak ks.length ck] 35 := by rw [hw0]; exact At.second W _ _ _
 have HS := Lib.hid (fun (w' : World) (hb : Below w0.heap.size w0 w') => rfew15_c s _ w' hs (hu.keep (hb0.trans (hb.mono hb0.size)) (hb0.trans (hb.mono hb0.size)).size))
 have HT := Lib.hid (fun (w' : World) (hb : Below w0.heap.size w0 w') => rfew_c (.mk l ps t ks) _ 120 w' hn (by omega) (by omega) (hv.keep (hb0.trans (hb.mono hb0.size)) (hb0.trans (hb.mono hb0.size)).size))
 obtain ⟨⟨x0, x1, x2, x3, x4, x5, x6, x7, x8, x9, x10, x11, x12, x13, x14, x15⟩, -, xl⟩ := hA.f16
 have HN := Lib.hid hN
 have Hb0 := Lib.hid hb0; have Hw0 := Lib.hid hw0
 unfold smallB
 clear hu hv hu0 hv0 hs hn hb0 hw0 hA hN
 go_enter Tryz.func10, Tryz.ntmps10
 go_upto_region 1 with fail
 rw [<- Hw0.out]
 clear Hw0
 go_wp2_with fail
 refine (HS.out w0 (Below.refl _ _)).mono ?_
 rintro e w1 ⟨rfl, hbel⟩
 have Hb1 := Lib.hid (hbel)
 have HN1 := Lib.hid (HN.out.kept hbel)
 clear hbel HS HN x0 x1 x2 x3 x4 x5 x6 x7 x8 x9 x10 x11 x12 x13 x14 x15 xl
 obtain ⟨⟨y0, y1, y2, y3⟩, -, yl⟩ := HN1.out.f4
 cases h1 : fewZ (s.rules ++ [s.els]) with
 | false =>
   have H1 := Lib.hid h1
   clear HT h1
   go_wp2_with fail
   go_ret
   exact ⟨ret_bool (by simp [H1.out]), Hb0.out.trans (Hb1.out.mono Hb0.out.size)⟩
 | true =>
   have H1 := Lib.hid h1
   clear h1
   go_wp2_with fail
   refine (HT.out w1 Hb1.out).mono ?_
   rintro e w2 ⟨rfl, hbel⟩
   have Hb2 := Lib.hid (Hb1.out.trans (hbel.mono Hb1.out.size))
   clear hbel HT HN1 y0 y1 y2 y3 yl
   cases h2 : fewB (.mk l ps t ks) 120 with
   | false =>
     have H2 := Lib.hid h2
     clear h2
     go_wp2_with fail
     go_ret
     exact ⟨ret_bool (by simp [H1.out, H2.out]), Hb0.out.trans (Hb2.out.mono Hb0.out.size)⟩
   | true =>
     have H2 := Lib.hid h2
     clear h2
     go_wp2_with fail
     go_ret
     exact ⟨ret_bool (by simp [H1.out, H2.out]; omega), Hb0.out.trans (Hb2.out.mono Hb0.out.size)⟩
end Go.Proofs.YtbommcakcmhalaaGreatDoor
