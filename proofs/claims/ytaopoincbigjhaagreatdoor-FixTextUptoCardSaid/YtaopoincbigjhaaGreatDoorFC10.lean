/- Parts of the proof, one behind the other: ROC, RTK, RTL. -/
import Derived.Test.YtaopoincbigjhaaGreatDoorFC9
/- Plain laws: what the operations of a repair come to. -/
namespace Go.Proofs.YtaopoincbigjhaaGreatDoor
open Go.RowKit Go.Redl
set_option linter.unusedVariables false
set_option linter.unusedSectionVars false

theorem nodeE_setKids {x : NodeD} {L : List NodeD} (h : nodeE x = 0) (hL : ∀ k ∈ L, nodeE k = 0) (hl : leafOf x = true → L = []) : nodeE (setKids x L) = 0 := by
  obtain ⟨l, ps, t, ks⟩ := x
  obtain ⟨h1, h2⟩ := nodeE_zero.1 h
  obtain ⟨g1, g2, g3, g4⟩ := ownE_zero.1 h1
  exact nodeE_zero.2 ⟨ownE_zero.2 ⟨g1, fun e => by rw [hl e]; rfl, g3, g4⟩, hL⟩
theorem nodeE_kids {x : NodeD} (h : nodeE x = 0) : ∀ k ∈ kidsOf x, nodeE k = 0 := by
  obtain ⟨l, ps, t, ks⟩ := x
  exact (nodeE_zero.1 h).2
theorem leaf_kids {x : NodeD} (h : nodeE x = 0) (hl : leafOf x = true) : kidsOf x = [] := by
  obtain ⟨l, ps, t, ks⟩ := x
  have := (ownE_zero.1 (nodeE_zero.1 h).1).2.1 hl
  exact List.eq_nil_of_length_eq_zero this
/-- A tree in which an element's Kids are others may be. -/
theorem nodeE_putK {n k : NodeD} {p : List Int} {L : List NodeD} (hn : nodeE n = 0) (ha : atN n p = some k) (hk : leafOf k = false) (hL : ∀ x ∈ L, nodeE x = 0) : nodeE (putN n p (setKids k L)) = 0 :=
  nodeE_put p n k _ hn ha (nodeE_setKids (nodeE_at p n k hn ha) hL (fun h => by rw [hk] at h; cases h))
theorem leaf_putK {n k : NodeD} {p : List Int} {L : List NodeD} (ha : atN n p = some k) : leafOf (putN n p (setKids k L)) = leafOf n := leaf_put p n k _ ha (leaf_setKids _ _)
theorem apply_ok {n : NodeD} {o : OpF} (h1 : nodeE n = 0) (h2 : leafOf n = false) (h3 : formN o = 0) : applyN n o = shapedN n o := by
  unfold applyN
  rw [if_neg (by simp [h1]), h2, if_neg (by simp), if_neg (by simp [h3])]
theorem form_ins (p : List Int) (i : Int) (m : NodeD) : formN (OpD.full ⟨1, p ++ [i], [], 0, m, []⟩) = 0 := by
  simp [formN, fieldsOf, setF, selZ]
theorem form_rem (p : List Int) (i : Int) (m : NodeD) : formN (OpD.full ⟨2, p ++ [i], [], 0, m, []⟩) = 0 := by
  simp [formN, fieldsOf, setF, selZ]
theorem same_zero : sameN zeroN zeroN = true := sameN_self _
theorem form_mov (p q : List Int) (i j : Int) : formN (OpD.full ⟨5, p ++ [i], q ++ [j], 0, zeroN, []⟩) = 0 := by
  simp [formN, fieldsOf, setF, selZ, same_zero]
theorem form_mrg (p : List Int) (i x : Int) (ps : List PropD) : formN (OpD.full ⟨3, p ++ [i], [], x, zeroN, ps⟩) = 0 := by
  simp [formN, fieldsOf, setF, selZ, same_zero]
theorem shaped_one {n : NodeD} {o : OpF} (h : o.kind = 1) : shapedN n o = if nodeE o.node ≠ 0 then (zeroN, nodeE o.node) else addN n o.path o.node := by
  unfold shapedN; rw [if_pos h]
theorem shaped_two {n rest k : NodeD} {o : OpF} (h : o.kind = 2) (hc : cutN n o.path = (rest, k, 0)) : shapedN n o = if sameN k o.node then (rest, 0) else (zeroN, 9) := by
  unfold shapedN; rw [if_neg (by omega), hc, if_neg (by simp), if_pos h]
theorem shaped_three {n rest k : NodeD} {o : OpF} (h : o.kind = 3) (hc : cutN n o.path = (rest, k, 0)) : shapedN n o = mergedN rest k o := by
  unfold shapedN; rw [if_neg (by omega), hc, if_neg (by simp), if_neg (by omega), if_pos h]
theorem shaped_five {n rest k : NodeD} {o : OpF} (h : o.kind = 5) (hc : cutN n o.path = (rest, k, 0)) : shapedN n o = addN rest o.dest k := by
  unfold shapedN; rw [if_neg (by omega), hc, if_neg (by simp), if_neg (by omega), if_neg (by omega)]
section
variable {n k : NodeD} {p : List Int} (hn : nodeE n = 0) (hr : leafOf n = false) (ha : atN n p = some k) (hk : leafOf k = false)
include hn hr ha hk
theorem ins_kid {i : Nat} {m : NodeD} (hm : nodeE m = 0) (hi : i ≤ (kidsOf k).length) : applyN n (OpD.full ⟨1, p ++ [(i : Int)], [], 0, m, []⟩) = (putN n p (setKids k (insK (kidsOf k) i m)), 0) := by
  rw [apply_ok hn hr (form_ins _ _ _), shaped_one rfl, if_neg (by simp [hm])]
  exact addN_kid ha hk hi
theorem rem_kid {i : Nat} (hi : i < (kidsOf k).length) : applyN n (OpD.full ⟨2, p ++ [(i : Int)], [], 0, (kidsOf k)[i], []⟩) = (putN n p (setKids k ((kidsOf k).eraseIdx i)), 0) := by
  rw [apply_ok hn hr (form_rem _ _ _), shaped_two rfl (cutN_kid ha hi)]
  simp [sameN_self]
/-- A Kid moved. -/
theorem mov_kid {q : List Int} {i j : Nat} {rest k2 : NodeD} {x : NodeD} {p1 p2 : List Int} (hc : cutN n (p1 ++ [(i : Int)]) = (rest, x, 0)) (h2 : atN rest p2 = some k2) (hl2 : leafOf k2 = false) (hj : j ≤ (kidsOf k2).length) :
    applyN n (OpD.full ⟨5, p1 ++ [(i : Int)], p2 ++ [(j : Int)], 0, zeroN, []⟩) = (putN rest p2 (setKids k2 (insK (kidsOf k2) j x)), 0) := by
  rw [apply_ok hn hr (form_mov _ _ _ _), shaped_five rfl hc]
  exact addN_kid h2 hl2 hj
theorem mrg_kid {i : Nat} (hi : i + 1 < (kidsOf k).length) (h1 : leafOf (kidsOf k)[i] = true) (h2 : leafOf (kidsOf k)[i + 1] = true) :
    applyN n (OpD.full ⟨3, p ++ [((i + 1 : Nat) : Int)], [], (textOf (kidsOf k)[i]).length, zeroN, propsOf (kidsOf k)[i + 1]⟩) = (putN n p (setKids k (((kidsOf k).eraseIdx (i + 1)).set i (joinN (kidsOf k)[i] (kidsOf k)[i + 1]))), 0) := by
  rw [apply_ok hn hr (form_mrg _ _ _ _), shaped_three rfl (cutN_kid ha hi)]
  unfold mergedN backP
  simp only [last_snoc, drop_snoc]
  rw [if_neg (by simp), show (((i + 1 : Nat) : Int) - 1) = (i : Int) by omega]
  have hl : i < (kidsOf (setKids k ((kidsOf k).eraseIdx (i + 1)))).length := by rw [kids_setKids, List.length_eraseIdx]; split <;> omega
  have hput := atN_put p n k (setKids k ((kidsOf k).eraseIdx (i + 1))) ha
  have hat := atN_snoc hput hl
  have hge : (kidsOf (setKids k ((kidsOf k).eraseIdx (i + 1))))[i] = (kidsOf k)[i] := by
    simp only [kids_setKids]
    rw [List.getElem_eraseIdx, dif_pos (by omega)]
  rw [hge] at hat
  rw [hat]
  simp only
  rw [h1, h2, if_neg (by simp)]
  unfold lengthN
  rw [h1]
  simp only [if_true, ne_eq, not_true, if_false]
  rw [putN_append p [(i : Int)] _ _ _ hput, putN_cons hl, putN_put p n k _ _ ha]
  simp [kids_setKids, setKids_setKids, putN]
end

/-- Operations done one behind the other. -/
def playN : NodeD → List OpF → Option NodeD
  | n, [] => some n
  | n, o :: l => if (applyN n o).2 = 0 then playN (applyN n o).1 l else none
theorem playN_cons {n m : NodeD} {o : OpF} {l : List OpF} (h : applyN n o = (m, 0)) : playN n (o :: l) = playN m l := by
  conv => lhs; unfold playN
  rw [h]; simp
theorem playN_step (n : NodeD) (o : OpF) (l : List OpF) : playN n (o :: l) = if (applyN n o).2 = 0 then playN (applyN n o).1 l else none := by
  conv => lhs; unfold playN
theorem playN_append : ∀ (a b : List OpF) (n : NodeD), playN n (a ++ b) = (playN n a).bind (fun m => playN m b)
  | [], b, n => by simp [playN]
  | o :: a, b, n => by
    rw [List.cons_append, playN_step n o (a ++ b), playN_step n o a]
    split
    · exact playN_append a b _
    · rfl
/-- Kids of which the one at j is being lifted: t of its own are. -/
def liftL (ks : List NodeD) (j : Nat) (x : NodeD) (t : Nat) : List NodeD := ks.take j ++ setKids x ((kidsOf x).drop t) :: ((kidsOf x).take t ++ ks.drop (j + 1))
theorem liftL_zero {ks : List NodeD} {j : Nat} (hj : j < ks.length) : liftL ks j ks[j] 0 = ks := by
  unfold liftL
  simp only [List.drop_zero, setKids_self, List.take_zero, List.nil_append]
  rw [← List.drop_eq_getElem_cons hj, List.take_append_drop]
theorem liftL_len {ks : List NodeD} {j : Nat} {x : NodeD} {t : Nat} (hj : j < ks.length) (ht : t ≤ (kidsOf x).length) : (liftL ks j x t).length = ks.length + t := by
  unfold liftL
  simp [Nat.min_eq_left (Nat.le_of_lt hj), Nat.min_eq_left ht]; omega
theorem liftL_mem {ks : List NodeD} {j : Nat} {x : NodeD} {t : Nat} (hj : j < ks.length) (hx : x = ks[j]) (hE : ∀ k ∈ ks, nodeE k = 0) : ∀ y ∈ liftL ks j x t, nodeE y = 0 := by
  have hxE : nodeE x = 0 := hE x (by rw [hx]; exact List.getElem_mem hj)
  intro y hy
  unfold liftL at hy
  rcases List.mem_append.1 hy with hy | hy
  · exact hE y (List.mem_of_mem_take hy)
  · rcases List.mem_cons.1 hy with rfl | hy
    · exact nodeE_setKids hxE (fun k hk => nodeE_kids hxE k (List.mem_of_mem_drop hk)) (fun hl => by rw [leaf_kids hxE hl]; simp)
    · rcases List.mem_append.1 hy with hy | hy
      · exact nodeE_kids hxE y (List.mem_of_mem_take hy)
      · exact hE y (List.mem_of_mem_drop hy)
theorem liftL_at {ks : List NodeD} {j : Nat} {x : NodeD} {t : Nat} (hj : j < ks.length) : (liftL ks j x t)[j]? = some (setKids x ((kidsOf x).drop t)) := by
  unfold liftL
  rw [List.getElem?_append_right (by simp; omega)]
  simp [Nat.min_eq_left (Nat.le_of_lt hj)]
theorem liftL_step {ks : List NodeD} {j : Nat} {x : NodeD} {t : Nat} (hj : j < ks.length) (ht : t < (kidsOf x).length) :
    insK ((liftL ks j x t).set j (setKids x ((kidsOf x).drop (t + 1)))) (j + 1 + t) (kidsOf x)[t] = liftL ks j x (t + 1) := by
  have e : (liftL ks j x t).set j (setKids x ((kidsOf x).drop (t + 1))) = ks.take j ++ setKids x ((kidsOf x).drop (t + 1)) :: ((kidsOf x).take t ++ ks.drop (j + 1)) := by
    unfold liftL
    rw [List.set_append_right _ _ (by simp; omega)]
    simp [Nat.min_eq_left (Nat.le_of_lt hj)]
  rw [e]
  unfold insK liftL
  have hl : (ks.take j ++ setKids x ((kidsOf x).drop (t + 1)) :: (kidsOf x).take t).length = j + 1 + t := by simp; omega
  rw [show ks.take j ++ setKids x ((kidsOf x).drop (t + 1)) :: ((kidsOf x).take t ++ ks.drop (j + 1)) = (ks.take j ++ setKids x ((kidsOf x).drop (t + 1)) :: (kidsOf x).take t) ++ ks.drop (j + 1) by simp, List.take_left' hl, List.drop_left' hl, List.take_succ_eq_append_getElem ht]
  simp only [List.append_assoc, List.cons_append, List.nil_append]
section
variable {n k : NodeD} {p : List Int} (hn : nodeE n = 0) (hr : leafOf n = false) (ha : atN n p = some k) (hk : leafOf k = false)
include hn hr ha hk
/-- One of a Kid's Kids moved out behind it. -/
theorem lift_one {j t : Nat} (hj : j < (kidsOf k).length) (ht : t < (kidsOf (kidsOf k)[j]).length) :
    applyN (putN n p (setKids k (liftL (kidsOf k) j (kidsOf k)[j] t))) (OpD.full ⟨5, p ++ [(j : Int), 0], p ++ [(j : Int) + (1 + (t : Int))], 0, zeroN, []⟩) = (putN n p (setKids k (liftL (kidsOf k) j (kidsOf k)[j] (t + 1))), 0) := by
  have hE := nodeE_kids (nodeE_at p n k hn ha)
  have hat := atN_put p n k (setKids k (liftL (kidsOf k) j (kidsOf k)[j] t)) ha
  have hjl : j < (kidsOf (setKids k (liftL (kidsOf k) j (kidsOf k)[j] t))).length := by rw [kids_setKids, liftL_len hj (by omega)]; omega
  have hx : (kidsOf (setKids k (liftL (kidsOf k) j (kidsOf k)[j] t)))[j] = setKids (kidsOf k)[j] ((kidsOf (kidsOf k)[j]).drop t) := by
    have := liftL_at (x := (kidsOf k)[j]) (t := t) hj
    simp only [kids_setKids]
    rw [List.getElem?_eq_getElem (by rw [kids_setKids] at hjl; exact hjl)] at this
    exact Option.some.inj this
  have hat2 := atN_snoc hat hjl
  rw [hx] at hat2
  have hc := cutN_kid (i := 0) hat2 (by rw [kids_setKids]; simp; omega)
  have e1 : p ++ [(j : Int), 0] = p ++ [(j : Int)] ++ [((0 : Nat) : Int)] := by simp
  have e2 : (j : Int) + (1 + (t : Int)) = ((j + 1 + t : Nat) : Int) := by omega
  simp only [kids_setKids, setKids_setKids, List.getElem_drop, Nat.add_zero, List.eraseIdx_zero, List.tail_drop] at hc
  rw [putN_append p _ _ _ _ hat, putN_cons hjl, putN_put p n k _ _ ha] at hc
  simp only [kids_setKids, setKids_setKids, putN] at hc
  rw [e1, e2]
  have hat3 := atN_put p n k (setKids k ((liftL (kidsOf k) j (kidsOf k)[j] t).set j (setKids (kidsOf k)[j] ((kidsOf (kidsOf k)[j]).drop (t + 1))))) ha
  refine (mov_kid (q := []) (nodeE_putK hn ha hk (liftL_mem hj rfl hE)) ((leaf_putK ha).trans hr) hat ((leaf_setKids _ _).trans hk) hc hat3 ((leaf_setKids _ _).trans hk) (by rw [kids_setKids, List.length_set, liftL_len hj (by omega)]; omega)).trans ?_
  rw [kids_setKids, setKids_setKids, putN_put p n k _ _ ha, liftL_step hj ht]
theorem lift_all {j : Nat} (hj : j < (kidsOf k).length) : ∀ (m t : Nat), t + m = (kidsOf (kidsOf k)[j]).length →
    playN (putN n p (setKids k (liftL (kidsOf k) j (kidsOf k)[j] t))) ((List.range' t m).map fun i : Nat => OpD.full ⟨5, p ++ [(j : Int), 0], p ++ [(j : Int) + (1 + (i : Int))], 0, zeroN, []⟩) = some (putN n p (setKids k (liftL (kidsOf k) j (kidsOf k)[j] (kidsOf (kidsOf k)[j]).length)))
  | 0, t, h => by
    obtain rfl : t = (kidsOf (kidsOf k)[j]).length := by omega
    simp [playN]
  | m + 1, t, h => by
    rw [List.range'_succ, List.map_cons, playN_cons (lift_one hn hr ha hk hj (by omega))]
    exact lift_all hj m (t + 1) (by omega)
end

/-- Kids of which some from j on are being wrapped: t of them are. -/
def wrapL (ks : List NodeD) (j : Nat) (x : NodeD) (t : Nat) : List NodeD := ks.take j ++ setKids x ((ks.drop j).take t) :: ks.drop (j + t)
theorem wrapL_zero {ks : List NodeD} {j : Nat} {x : NodeD} (hx : kidsOf x = []) : wrapL ks j x 0 = insK ks j x := by
  unfold wrapL insK
  rw [List.take_zero, ← hx, setKids_self, Nat.add_zero]
theorem wrapL_mem {ks : List NodeD} {j : Nat} {x : NodeD} {t : Nat} (hx : nodeE x = 0) (hl : leafOf x = false) (hE : ∀ k ∈ ks, nodeE k = 0) : ∀ y ∈ wrapL ks j x t, nodeE y = 0 := by
  intro y hy
  unfold wrapL at hy
  rcases List.mem_append.1 hy with hy | hy
  · exact hE y (List.mem_of_mem_take hy)
  · rcases List.mem_cons.1 hy with rfl | hy
    · exact nodeE_setKids hx (fun k hk => hE k (List.mem_of_mem_drop (List.mem_of_mem_take hk))) (fun h => by rw [hl] at h; cases h)
    · exact hE y (List.mem_of_mem_drop hy)
theorem wrapL_len {ks : List NodeD} {j : Nat} {x : NodeD} {t : Nat} (hj : j + t ≤ ks.length) : (wrapL ks j x t).length = ks.length - t + 1 := by
  unfold wrapL
  simp; omega
theorem wrapL_at {ks : List NodeD} {j : Nat} {x : NodeD} {t : Nat} (hj : j ≤ ks.length) : (wrapL ks j x t)[j]? = some (setKids x ((ks.drop j).take t)) := by
  unfold wrapL
  rw [List.getElem?_append_right (by simp; omega)]
  simp [Nat.min_eq_left hj]
theorem wrapL_next {ks : List NodeD} {j : Nat} {x : NodeD} {t : Nat} (hj : j + t < ks.length) : (wrapL ks j x t)[j + 1]? = some ks[j + t] := by
  unfold wrapL
  rw [List.getElem?_append_right (by simp; omega)]
  simp [Nat.min_eq_left (show j ≤ ks.length by omega), show j + 1 - j = 1 by omega, List.getElem?_eq_getElem hj]
theorem wrapL_step {ks : List NodeD} {j : Nat} {x : NodeD} {t : Nat} (hj : j + t < ks.length) :
    ((wrapL ks j x t).eraseIdx (j + 1)).set j (setKids x (insK ((ks.drop j).take t) t ks[j + t])) = wrapL ks j x (t + 1) := by
  have hl : (ks.take j).length = j := by simp; omega
  unfold wrapL
  rw [List.eraseIdx_append_of_length_le (by omega), hl, show j + 1 - j = 1 by omega, List.eraseIdx_cons_succ, List.set_append_right _ _ (by omega), hl, Nat.sub_self, List.set_cons_zero, List.eraseIdx_zero, List.tail_drop]
  have e : insK ((ks.drop j).take t) t ks[j + t] = (ks.drop j).take (t + 1) := by
    have hd : t < (ks.drop j).length := by simp; omega
    unfold insK
    rw [List.take_take, Nat.min_self, List.drop_eq_nil_of_le (List.length_take_le _ _), List.take_succ_eq_append_getElem hd, List.getElem_drop]
  rw [e, Nat.add_assoc]
section
variable {n k : NodeD} {p : List Int} (hn : nodeE n = 0) (hr : leafOf n = false) (ha : atN n p = some k) (hk : leafOf k = false)
include hn hr ha hk
/-- One Kid moved into the one ahead of it. -/
theorem wrap_one {j t : Nat} {x : NodeD} (hx : nodeE x = 0) (hl : leafOf x = false) (hj : j + t < (kidsOf k).length) :
    applyN (putN n p (setKids k (wrapL (kidsOf k) j x t))) (OpD.full ⟨5, p ++ [(j : Int) + 1], p ++ [(j : Int), (t : Int)], 0, zeroN, []⟩) = (putN n p (setKids k (wrapL (kidsOf k) j x (t + 1))), 0) := by
  have hE := nodeE_kids (nodeE_at p n k hn ha)
  have hat := atN_put p n k (setKids k (wrapL (kidsOf k) j x t)) ha
  have hwl : (wrapL (kidsOf k) j x t).length = (kidsOf k).length - t + 1 := wrapL_len (by omega)
  have hjl : j + 1 < (kidsOf (setKids k (wrapL (kidsOf k) j x t))).length := by rw [kids_setKids, hwl]; omega
  have hc := cutN_kid hat hjl
  have hy : (kidsOf (setKids k (wrapL (kidsOf k) j x t)))[j + 1] = (kidsOf k)[j + t] := by
    have := wrapL_next (x := x) hj
    simp only [kids_setKids]
    rw [List.getElem?_eq_getElem (by rw [kids_setKids] at hjl; exact hjl)] at this
    exact Option.some.inj this
  rw [hy] at hc
  rw [kids_setKids, setKids_setKids, putN_put p n k _ _ ha] at hc
  have hat3 := atN_put p n k (setKids k ((wrapL (kidsOf k) j x t).eraseIdx (j + 1))) ha
  have hjl2 : j < (kidsOf (setKids k ((wrapL (kidsOf k) j x t).eraseIdx (j + 1)))).length := by rw [kids_setKids, List.length_eraseIdx]; split <;> omega
  have hz : (kidsOf (setKids k ((wrapL (kidsOf k) j x t).eraseIdx (j + 1))))[j] = setKids x (((kidsOf k).drop j).take t) := by
    have := wrapL_at (ks := kidsOf k) (j := j) (x := x) (t := t) (by omega)
    simp only [kids_setKids]
    rw [List.getElem_eraseIdx, dif_pos (by omega)]
    rw [List.getElem?_eq_getElem (by omega)] at this
    exact Option.some.inj this
  have hat4 := atN_snoc hat3 hjl2
  rw [hz] at hat4
  have e1 : p ++ [(j : Int) + 1] = p ++ [((j + 1 : Nat) : Int)] := by simp
  have e2 : p ++ [(j : Int), (t : Int)] = p ++ [(j : Int)] ++ [(t : Int)] := by simp
  rw [e1, e2]
  refine (mov_kid (q := []) (nodeE_putK hn ha hk (wrapL_mem hx hl hE)) ((leaf_putK ha).trans hr) hat ((leaf_setKids _ _).trans hk) hc hat4 ((leaf_setKids _ _).trans hl) (by rw [kids_setKids]; simp; omega)).trans ?_
  rw [putN_append p _ _ _ _ hat3, putN_cons hjl2, putN_put p n k _ _ ha]
  simp only [kids_setKids, setKids_setKids, putN]
  rw [wrapL_step hj]
theorem wrap_all {j : Nat} {x : NodeD} (hx : nodeE x = 0) (hl : leafOf x = false) : ∀ (m t : Nat), j + t + m ≤ (kidsOf k).length →
    playN (putN n p (setKids k (wrapL (kidsOf k) j x t))) ((List.range' t m).map fun i : Nat => OpD.full ⟨5, p ++ [(j : Int) + 1], p ++ [(j : Int), (i : Int)], 0, zeroN, []⟩) = some (putN n p (setKids k (wrapL (kidsOf k) j x (t + m))))
  | 0, t, h => by simp [playN]
  | m + 1, t, h => by
    rw [List.range'_succ, List.map_cons, playN_cons (wrap_one hn hr ha hk hx hl (by omega))]
    rw [wrap_all hx hl m (t + 1) (by omega), show t + 1 + m = t + (m + 1) by omega]
end

/-- An element's Kids behind its repair. -/
def fixK (r : RuleD) (ks : List NodeD) (f : FindD) : List NodeD :=
  if f.1 = 1 ∨ f.1 = 5 then ks.eraseIdx f.2.1.toNat
  else if f.1 = 2 then ks.take f.2.1.toNat ++ (kidsOf (kidAt ks f.2.1.toNat) ++ ks.drop (f.2.1.toNat + 1))
  else if f.1 = 3 then wrapL ks f.2.1.toNat (elemN (actOf r (kidAt ks f.2.1.toNat)).2) f.2.2.toNat
  else if f.1 = 4 then (ks.eraseIdx f.2.1.toNat).set (f.2.1.toNat - 1) (joinN (kidAt ks (f.2.1.toNat - 1)) (kidAt ks f.2.1.toNat))
  else [if r.fill = 1 then .mk true [] [] [] else elemN r.fillT]
theorem fixK_one {r : RuleD} {ks : List NodeD} {f : FindD} (h : f.1 = 1 ∨ f.1 = 5) : fixK r ks f = ks.eraseIdx f.2.1.toNat := by
  unfold fixK; rw [if_pos h]
theorem fixK_two {r : RuleD} {ks : List NodeD} {f : FindD} (h : f.1 = 2) : fixK r ks f = ks.take f.2.1.toNat ++ (kidsOf (kidAt ks f.2.1.toNat) ++ ks.drop (f.2.1.toNat + 1)) := by
  unfold fixK; rw [if_neg (by omega), if_pos h]
theorem fixK_three {r : RuleD} {ks : List NodeD} {f : FindD} (h : f.1 = 3) : fixK r ks f = wrapL ks f.2.1.toNat (elemN (actOf r (kidAt ks f.2.1.toNat)).2) f.2.2.toNat := by
  unfold fixK; rw [if_neg (by omega), if_neg (by omega), if_pos h]
theorem fixK_four {r : RuleD} {ks : List NodeD} {f : FindD} (h : f.1 = 4) : fixK r ks f = (ks.eraseIdx f.2.1.toNat).set (f.2.1.toNat - 1) (joinN (kidAt ks (f.2.1.toNat - 1)) (kidAt ks f.2.1.toNat)) := by
  unfold fixK; rw [if_neg (by omega), if_neg (by omega), if_neg (by omega), if_pos h]
theorem fixK_six {r : RuleD} {ks : List NodeD} {f : FindD} (h : f.1 = 6) : fixK r ks f = [if r.fill = 1 then .mk true [] [] [] else elemN r.fillT] := by
  unfold fixK; rw [if_neg (by omega), if_neg (by omega), if_neg (by omega), if_neg (by omega)]
theorem fixL_one {r : RuleD} {ks : List NodeD} {p : List Int} {f : FindD} (h : f.1 = 1 ∨ f.1 = 5) : fixL r ks p f = [⟨2, p ++ [f.2.1], [], 0, kidAt ks f.2.1.toNat, []⟩] := by
  unfold fixL; rw [if_pos h]
theorem fixL_two {r : RuleD} {ks : List NodeD} {p : List Int} {f : FindD} (h : f.1 = 2) : fixL r ks p f = (List.range (kidsOf (kidAt ks f.2.1.toNat)).length).map (fun i : Nat => (⟨5, p ++ [f.2.1, 0], p ++ [f.2.1 + (1 + (i : Int))], 0, zeroN, []⟩ : OpD)) ++ [⟨2, p ++ [f.2.1], [], 0, noKids (kidAt ks f.2.1.toNat), []⟩] := by
  unfold fixL; rw [if_neg (by omega), if_pos h]
theorem fixL_three {r : RuleD} {ks : List NodeD} {p : List Int} {f : FindD} (h : f.1 = 3) : fixL r ks p f = ⟨1, p ++ [f.2.1], [], 0, elemN (actOf r (kidAt ks f.2.1.toNat)).2, []⟩ :: (List.range f.2.2.toNat).map (fun i : Nat => (⟨5, p ++ [f.2.1 + 1], p ++ [f.2.1, (i : Int)], 0, zeroN, []⟩ : OpD)) := by
  unfold fixL; rw [if_neg (by omega), if_neg (by omega), if_pos h]
theorem fixL_four {r : RuleD} {ks : List NodeD} {p : List Int} {f : FindD} (h : f.1 = 4) : fixL r ks p f = [⟨3, p ++ [f.2.1], [], (textOf (kidAt ks (f.2.1.toNat - 1))).length, zeroN, propsOf (kidAt ks f.2.1.toNat)⟩] := by
  unfold fixL; rw [if_neg (by omega), if_neg (by omega), if_neg (by omega), if_pos h]
theorem fixL_six {r : RuleD} {ks : List NodeD} {p : List Int} {f : FindD} (h : f.1 = 6) : fixL r ks p f = [⟨1, p ++ [f.2.1], [], 0, if r.fill = 1 then .mk true [] [] [] else elemN r.fillT, []⟩] := by
  unfold fixL; rw [if_neg (by omega), if_neg (by omega), if_neg (by omega), if_neg (by omega)]
theorem kid_at {ks : List NodeD} {j : Nat} (h : j < ks.length) : kidAt ks j = ks[j] := by simp [List.getElem?_eq_getElem h]
theorem many_fits (r : RuleD) (ks : List NodeD) (j : Nat) (hj : j < ks.length) (h : lookN r ks 3 = j) : j + manyN r ks 3 ≤ ks.length := by
  unfold manyN
  rw [if_pos rfl, h]
  unfold runA
  have := (List.takeWhile_sublist (fun a => decide (a = (actsOf r ks).getD ((j : Int)).toNat (0, []))) (l := (actsOf r ks).drop (((j : Int)).toNat + 1))).length_le
  simp only [List.length_drop, List.length_map, Int.toNat_natCast] at this
  simp only [Int.toNat_natCast]
  omega
end Go.Proofs.YtaopoincbigjhaaGreatDoor
/- Walks: tree.Put, Add, Cut. -/
namespace Go.Proofs.YtaopoincbigjhaaGreatDoor
open Go.RowKit Go.Redl
set_option linter.unusedVariables false
set_option linter.unusedSimpArgs false

/-- A tree, or why there is none. -/
def TreeP (W : World) (R : NodeD × Int) (e : Ending) (w' : World) : Prop :=
  Below W.heap.size W w' ∧ if R.2 = 0 then ∃ cs, e = .returned (.tuple #[.agg cs.toArray, .int .i64 0]) ∧ NodeQ w' (fun b => W.heap.size ≤ b) R.1 cs
    else e = .returned (.tuple #[.agg #[.bool false, .slice none 0 0, .slice none 0 0, .slice none 0 0], .int .i64 R.2])
theorem TreeP.of_changed {W w : World} {n : NodeD} {p : List Int} {R : NodeD → NodeD × Int} {e : Ending} {w' : World} {r : NodeD × Int} (hb : Below W.heap.size W w) (h : ChangedP w n p R e w')
    (hr : r = match atN n p with | none => (zeroN, 5) | some m => if (R m).2 = 0 then (putN n p (R m).1, 0) else (zeroN, (R m).2)) : TreeP W r e w' := by
  obtain ⟨h1, h2⟩ := h
  refine ⟨hb.trans (h1.mono hb.size), ?_⟩
  subst hr
  cases hat : atN n p with
  | none => rw [hat] at h2; simp only; rw [if_neg (by decide)]; exact h2
  | some m =>
    rw [hat] at h2
    simp only at h2 ⊢
    by_cases hz : (R m).2 = 0
    · rw [if_pos hz] at h2
      simp only [hz, if_true]
      obtain ⟨cs, rfl, hq⟩ := h2
      exact ⟨cs, rfl, NodeQ.keep (Nat.le_refl _) (fun _ _ _ => rfl) (fun x hx _ => Nat.le_trans hb.size hx) _ _ hq⟩
    · rw [if_neg hz] at h2
      simp only [hz, if_false]
      exact h2
/-- The result's box written. -/
theorem tree_ok {W w0 w1 : World} {N : Nat} {r : NodeD} {l : Bool} {b1 b2 b3 : Option Addr} {o1 o2 o3 d1 d2 d3 : Nat} (hb : Below W.heap.size W w1) (hW : W.heap.size ≤ w0.heap.size) (hN : N < w0.heap.size) (hN2 : W.heap.size ≤ N) (hq : NodeQ w1 (fun b => w0.heap.size ≤ b) r [.bool l, .slice b1 o1 d1, .slice b2 o2 d2, .slice b3 o3 d3]) :
    TreeP W (r, 0) (.returned (.tuple #[.agg #[.bool l, .slice b1 o1 d1, .slice b2 o2 d2, .slice b3 o3 d3], .int .i64 0])) ((((w1.setCell ⟨N, 0, none⟩ (.bool l)).setCell ⟨N, 1, none⟩ (.slice b1 o1 d1)).setCell ⟨N, 2, none⟩ (.slice b2 o2 d2)).setCell ⟨N, 3, none⟩ (.slice b3 o3 d3)) := by
  refine ⟨below_all hb hN2 _ _ _ _, ?_⟩
  rw [if_pos rfl]
  have hne : ¬ (w0.heap.size ≤ N) := by omega
  exact ⟨_, rfl, NodeQ.keep (Nat.le_refl _) (fun _ _ _ => rfl) (fun b hb _ => Nat.le_trans hW hb) _ _ (nodeq_set (nodeq_set (nodeq_set (nodeq_set hq hne) hne) hne) hne)⟩
theorem tree_no {W w1 : World} {N : Nat} {r : NodeD × Int} (hb : Below W.heap.size W w1) (hN2 : W.heap.size ≤ N) (hr : r.2 ≠ 0) :
    TreeP W r (.returned (.tuple #[.agg #[.bool false, .slice none 0 0, .slice none 0 0, .slice none 0 0], .int .i64 r.2])) ((((w1.setCell ⟨N, 0, none⟩ (.bool false)).setCell ⟨N, 1, none⟩ (.slice none 0 0)).setCell ⟨N, 2, none⟩ (.slice none 0 0)).setCell ⟨N, 3, none⟩ (.slice none 0 0)) := by
  refine ⟨below_all hb hN2 _ _ _ _, ?_⟩
  rw [if_neg hr]
theorem TreeP.cases {W : World} {R : NodeD × Int} {e : Ending} {w' : World} (h : TreeP W R e w') : Below W.heap.size W w' ∧ ((R.2 = 0 ∧ ∃ l b1 o1 d1 b2 o2 d2 b3 o3 d3, e = .returned (.tuple #[.agg #[.bool l, .slice b1 o1 d1, .slice b2 o2 d2, .slice b3 o3 d3], .int .i64 0]) ∧ NodeQ w' (fun b => W.heap.size ≤ b) R.1 [.bool l, .slice b1 o1 d1, .slice b2 o2 d2, .slice b3 o3 d3]) ∨
    (R.2 ≠ 0 ∧ e = .returned (.tuple #[.agg #[.bool false, .slice none 0 0, .slice none 0 0, .slice none 0 0], .int .i64 R.2]))) := by
  obtain ⟨h1, h2⟩ := h
  refine ⟨h1, ?_⟩
  by_cases hz : R.2 = 0
  · rw [if_pos hz] at h2
    obtain ⟨cs, rfl, hq⟩ := h2
    obtain ⟨l, b1, o1, d1, b2, o2, d2, b3, o3, d3, rfl⟩ := hq.form
    exact .inl ⟨hz, l, b1, o1, d1, b2, o2, d2, b3, o3, d3, rfl, hq⟩
  · rw [if_neg hz] at h2
    exact .inr ⟨hz, h2⟩
set_option maxRecDepth 100000 in
set_option maxHeartbeats 4000000 in
theorem put_c (n m' : NodeD) (p : List Int) (v v' : Value) (pa : Option Addr) (pc : Nat) (W : World) (hbig : n.wt ≤ 100000000) (hbig' : m'.wt ≤ 100000000) (hv : NodeV W W.heap.size n v) (hv' : NodeV W W.heap.size m' v') (hp : RowA W W.heap.size 1 pa p.length pc (p.map (Value.int .i64))) :
    Calls Tryz.prog 172 #[v, .slice pa p.length pc, v'] W (TreeP W (putE n p m')) := by
  obtain ⟨R, hR⟩ : ∃ R, R = putE n p m' := ⟨_, rfl⟩
  rw [← hR]
  have HR := Lib.hid hR
  obtain ⟨csn, rfl, hc⟩ := hv
  obtain ⟨l, a1, n1, c1, a2, n2, c2, a3, n3, c3, rfl⟩ := hc.form
  obtain ⟨csm, rfl, hcm⟩ := hv'
  obtain ⟨e0, b1, m1, d1, b2, m2, d2, b3, m3, d3, rfl⟩ := hcm.form
  clear hR
  obtain ⟨w0, hw0⟩ : ∃ w0, w0 = ((W.alloc (Obj.cells #[.bool l, .slice a1 n1 c1, .slice a2 n2 c2, .slice a3 n3 c3] 35)).alloc (Obj.cells #[.bool e0, .slice b1 m1 d1, .slice b2 m2 d2, .slice b3 m3 d3] 35)).alloc (Obj.cells #[.bool false, .slice none 0 0, .slice none 0 0, .slice none 0 0] 35) := ⟨_, rfl⟩
  have hb0 : Below W.heap.size W w0 := by rw [hw0]; exact three_below _ _ _ _
  have hA : NodeAt w0 W.heap.size (.bool l) (.slice a1 n1 c1) (.slice a2 n2 c2) (.slice a3 n3 c3) := by rw [hw0]; exact ((NodeAt.fresh W _ _ _ _).alloc _).alloc _
  have hM : NodeAt w0 (W.heap.size + 1) (.bool e0) (.slice b1 m1 d1) (.slice b2 m2 d2) (.slice b3 m3 d3) := by rw [hw0]; exact (node_second W _ _ _ _ _).alloc _
  have hB : NodeAt w0 (W.heap.size + 1 + 1) (.bool false) (.slice none 0 0) (.slice none 0 0) (.slice none 0 0) := by rw [hw0]; exact At.third W _ _ _ _
  have hs0 : w0.heap.size = W.heap.size + 3 := by rw [hw0]; simp
  have hvm : NodeV w0 w0.heap.size m' (.agg #[.bool e0, .slice b1 m1 d1, .slice b2 m2 d2, .slice b3 m3 d3]) := ⟨_, rfl, NodeC.keep hb0 hb0.size _ _ hcm⟩
  have HC := Lib.hid (changed_c 222 #[.pointer (some ⟨W.heap.size + 1, 0, none⟩)] put1_ent n p (.agg #[.bool l, .slice a1 n1 c1, .slice a2 n2 c2, .slice a3 n3 c3]) pa pc (fun _ => (m', 0)) w0 hbig ⟨_, rfl, NodeC.keep hb0 hb0.size _ _ hc⟩ (hp.keep hb0 hb0.size) (fun m _ => put1_c m' m (W.heap.size + 1) e0 b1 b2 b3 m1 m2 m3 d1 d2 d3 w0 hM hvm hbig'))
  obtain ⟨y0, y1, y2, y3, -, -⟩ := hA.facts
  have Hw0 := Lib.hid hw0; have Hb0 := Lib.hid hb0; have HB := Lib.hid hB; have Hs0 := Lib.hid hs0
  clear hc hcm hb0 hA hM hB hs0 hvm hp hw0
  go_enter Tryz.func172, Tryz.ntmps172
  go_upto_region 1 with fail
  rw [← Hw0.out]
  clear Hw0
  go_wp2_with fail
  refine HC.out.mono ?_
  intro e w1 hch
  have ht : TreeP w0 R e w1 := TreeP.of_changed (Below.refl _ _) hch (by rw [HR.out]; unfold putE; cases atN n p <;> rfl)
  clear HR
  obtain ⟨R1, R2⟩ := R
  have hB1 := HB.out.keep (hch.1.mono (by rw [Hs0.out]; omega))
  obtain ⟨x0, x1, x2, x3, ⟨f0, f1, f2, f3⟩, -⟩ := hB1.facts
  obtain ⟨hb1, ⟨hz, l', k1, o1, r1, k2, o2, r2, k3, o3, r3, rfl, hq⟩ | ⟨hz, rfl⟩⟩ := ht.cases
  · simp only at hz
    subst hz
    have Hq := Lib.hid hq; have Hb1 := Lib.hid (Hb0.out.trans (hb1.mono Hb0.out.size))
    clear HC hch ht hB1 hb1 hq y0 y1 y2 y3
    go_wp2_with fail
    refine bodyPost_ret (v := .tuple #[.agg #[.bool l', .slice k1 o1 r1, .slice k2 o2 r2, .slice k3 o3 r3], .int .i64 0]) (by simp [results, Tryz.results172, go_sem, x0, x1, x2, x3, f0, f1, f2, f3]) rfl ?_
    exact tree_ok (N := W.heap.size + 1 + 1) Hb1.out Hb0.out.size (by rw [Hs0.out]; omega) (by omega) Hq.out
  · have Hz := Lib.hid hz; have Hb1 := Lib.hid (Hb0.out.trans (hb1.mono Hb0.out.size))
    clear HC hch ht hB1 hb1 hz y0 y1 y2 y3
    simp only
    go_wp2_with fail
    refine bodyPost_ret (v := .tuple #[.agg #[.bool false, .slice none 0 0, .slice none 0 0, .slice none 0 0], .int .i64 R2]) (by simp [results, Tryz.results172, go_sem, x0, x1, x2, x3, f0, f1, f2, f3]) rfl ?_
    exact tree_no (N := W.heap.size + 1 + 1) (r := (R1, R2)) Hb1.out (by omega) Hz.out
theorem row_up {w : World} {B pc : Nat} {a : Option Addr} {q : List Int} {i : Int} (h : RowA w B 1 a (q ++ [i]).length pc ((q ++ [i]).map (Value.int .i64))) :
    ∃ b off, a = some ⟨b, off, none⟩ ∧ b < B ∧ w.cell? ⟨b, off + q.length, none⟩ = some (.int .i64 i) ∧ RowA w B 1 (some ⟨b, off, none⟩) q.length pc (q.map (Value.int .i64)) := by
  obtain ⟨b, off, ha, hb, hc⟩ := h.some_ (by simp)
  have hle := h.le
  rw [List.length_append, List.length_singleton] at hle
  refine ⟨b, off, ha, hb, hc _ _ (by simp), ⟨by simp, by omega, h.max, (by intro u hu; obtain ⟨z, -, rfl⟩ := List.mem_map.1 hu; rfl), (fun e => by cases e), fun _ => ⟨b, off, rfl, hb, fun j u hj => hc j u ?_⟩⟩⟩
  rw [List.map_append, List.getElem?_append_left]
  · exact hj
  · rcases Nat.lt_or_ge j (q.map (Value.int .i64)).length with h | h
    · exact h
    · rw [List.getElem?_eq_none h] at hj; cases hj
set_option maxRecDepth 100000 in
set_option maxHeartbeats 4000000 in
theorem add_nil (n m' : NodeD) (v v' : Value) (pa : Option Addr) (pc : Nat) (W : World) (hv : NodeV W W.heap.size n v) (hv' : NodeV W W.heap.size m' v') :
    Calls Tryz.prog 118 #[v, .slice pa 0 pc, v'] W (TreeP W (zeroN, 6)) := by
  obtain ⟨csn, rfl, hc⟩ := hv
  obtain ⟨l, a1, n1, c1, a2, n2, c2, a3, n3, c3, rfl⟩ := hc.form
  obtain ⟨csm, rfl, hcm⟩ := hv'
  obtain ⟨e0, b1, m1, d1, b2, m2, d2, b3, m3, d3, rfl⟩ := hcm.form
  clear hc hcm
  go_enter Tryz.func118, Tryz.ntmps118
  go_wp2_with fail
  refine bodyPost_ret (v := .tuple #[.agg #[.bool false, .slice none 0 0, .slice none 0 0, .slice none 0 0], .int .i64 6]) (by simp [results, Tryz.results118, go_sem]) rfl ?_
  exact ⟨three_below _ _ _ _, by rw [if_neg (by decide)]⟩
theorem add1_c (m' m : NodeD) (i : Int) (M N : Nat) (e0 : Bool) (a1 a2 a3 : Option Addr) (n1 n2 n3 q1 q2 q3 : Nat) (W : World) (hM : W.cell? ⟨M, 0, none⟩ = some (.int .i64 i)) (hMW : M < W.heap.size) (hN : At W N [.bool e0, .slice a1 n1 q1, .slice a2 n2 q2, .slice a3 n3 q3] 35) (hv : NodeV W W.heap.size m' (.agg #[.bool e0, .slice a1 n1 q1, .slice a2 n2 q2, .slice a3 n3 q3])) (hbig : m'.wt ≤ 100000000) (hn : m.wt ≤ 100000000) :
    HowC 169 #[.pointer (some ⟨M, 0, none⟩), .pointer (some ⟨N, 0, none⟩)] W m (addR i m' m) := by
  by_cases he : (addR i m' m).2 = 0
  · unfold addR at he ⊢
    split at he
    · cases he
    · rename_i hl
      rw [if_neg hl]
      split at he
      · cases he
      · rename_i hi
        rw [if_neg hi]
        obtain ⟨k, rfl⟩ : ∃ k : Nat, i = k := ⟨i.toNat, by omega⟩
        rw [Int.toNat_natCast]
        have hk : (kidsOf m).length ≤ 100000000 := by obtain ⟨l, ps, t, ks⟩ := m; have := wtAll_len ks; simp only [NodeD.wt] at hn; simp only [kidsOf]; omega
        exact add1_ok m' m k M N e0 a1 a2 a3 n1 n2 n3 q1 q2 q3 W hM hMW hN hv hbig (by simpa using hl) (by omega) hk
  · exact add1_no m' m i M N W hM hMW he
set_option maxRecDepth 100000 in
set_option maxHeartbeats 4000000 in
theorem add_some (n m' : NodeD) (q : List Int) (i : Int) (v v' : Value) (pa : Option Addr) (pc : Nat) (W : World) (hbig : n.wt ≤ 100000000) (hbig' : m'.wt ≤ 100000000) (hv : NodeV W W.heap.size n v) (hv' : NodeV W W.heap.size m' v') (hp : RowA W W.heap.size 1 pa (q ++ [i]).length pc ((q ++ [i]).map (Value.int .i64))) (hq : q.length ≤ 1000000) :
    Calls Tryz.prog 118 #[v, .slice pa (q ++ [i]).length pc, v'] W (TreeP W (addN n (q ++ [i]) m')) := by
  obtain ⟨R, hR⟩ : ∃ R, R = addN n (q ++ [i]) m' := ⟨_, rfl⟩
  rw [← hR]
  have HR := Lib.hid hR
  obtain ⟨pb, po, rfl, hpb, hpi, hpq⟩ := row_up hp
  have hpc : q.length + 1 ≤ pc := by have := hp.le; simpa using this
  have hpm := hp.max
  unfold maxLen at hpm
  rw [List.length_append, List.length_singleton] at *
  obtain ⟨csn, rfl, hc⟩ := hv
  obtain ⟨l, a1, n1, c1, a2, n2, c2, a3, n3, c3, rfl⟩ := hc.form
  obtain ⟨csm, rfl, hcm⟩ := hv'
  obtain ⟨e0, b1, m1, d1, b2, m2, d2, b3, m3, d3, rfl⟩ := hcm.form
  clear hR hp
  obtain ⟨w0, hw0⟩ : ∃ w0, w0 = ((W.alloc (Obj.cells #[.bool l, .slice a1 n1 c1, .slice a2 n2 c2, .slice a3 n3 c3] 35)).alloc (Obj.cells #[.bool e0, .slice b1 m1 d1, .slice b2 m2 d2, .slice b3 m3 d3] 35)).alloc (Obj.cells #[.bool false, .slice none 0 0, .slice none 0 0, .slice none 0 0] 35) := ⟨_, rfl⟩
  have hb0 : Below W.heap.size W w0 := by rw [hw0]; exact three_below _ _ _ _
  have hA : NodeAt w0 W.heap.size (.bool l) (.slice a1 n1 c1) (.slice a2 n2 c2) (.slice a3 n3 c3) := by rw [hw0]; exact ((NodeAt.fresh W _ _ _ _).alloc _).alloc _
  have hM : NodeAt w0 (W.heap.size + 1) (.bool e0) (.slice b1 m1 d1) (.slice b2 m2 d2) (.slice b3 m3 d3) := by rw [hw0]; exact (node_second W _ _ _ _ _).alloc _
  have hB : NodeAt w0 (W.heap.size + 1 + 1) (.bool false) (.slice none 0 0) (.slice none 0 0) (.slice none 0 0) := by rw [hw0]; exact At.third W _ _ _ _
  have hs0 : w0.heap.size = W.heap.size + 3 := by rw [hw0]; simp
  have y0 : w0.cell? ⟨pb, po + q.length, none⟩ = some (.int .i64 i) := (hb0.cell (p := ⟨pb, po + q.length, none⟩) hpb).trans hpi
  have hpbw : pb < w0.heap.size := Nat.lt_of_lt_of_le hpb hb0.size
  have HA := Lib.hid hA; have HM := Lib.hid hM; have HB := Lib.hid hB
  have Hw0 := Lib.hid hw0; have Hb0 := Lib.hid hb0; have Hs0 := Lib.hid hs0; have Hc := Lib.hid hc; have Hcm := Lib.hid hcm; have Hpq := Lib.hid hpq
  have h1 : ((q.length : Int) + 1) - 1 = (q.length : Int) := by omega
  have h2 : (q.length : Int) ≤ (pc : Int) := by omega
  clear hc hcm hb0 hA hM hB hs0 hw0 hpq hpi
  go_enter Tryz.func118, Tryz.ntmps118
  go_upto_region 1 with fail
  rw [← Hw0.out]
  clear Hw0
  go_upto_region 3 with fail
  go_region
  obtain ⟨w1, hw1⟩ : ∃ w1, w1 = (w0.alloc (Obj.cells #[.int .i64 i] 3)).drew := ⟨_, rfl⟩
  rw [← hw1]
  have hb1 : Below w0.heap.size w0 w1 := by rw [hw1]; exact (one_below _ _).drew
  have hI : At w1 w0.heap.size [.int .i64 i] 3 := by rw [hw1]; exact At.fresh w0 _ _
  have hbb := Hb0.out.trans (hb1.mono Hb0.out.size)
  have hA1 := HA.out.keep (hb1.mono (by rw [Hs0.out]; omega)); have hM1 := HM.out.keep (hb1.mono (by rw [Hs0.out]; omega))
  have HB1 := Lib.hid (HB.out.keep (hb1.mono (by rw [Hs0.out]; omega)))
  have hvm : NodeV w1 w1.heap.size m' (.agg #[.bool e0, .slice b1 m1 d1, .slice b2 m2 d2, .slice b3 m3 d3]) := ⟨_, rfl, NodeC.keep hbb hbb.size _ _ Hcm.out⟩
  have HC := Lib.hid (changed_c 169 #[.pointer (some ⟨w0.heap.size, 0, none⟩), .pointer (some ⟨W.heap.size + 1, 0, none⟩)] add1_ent n q (.agg #[.bool l, .slice a1 n1 c1, .slice a2 n2 c2, .slice a3 n3 c3]) (some ⟨pb, po, none⟩) pc (addR i m') w1 hbig ⟨_, rfl, NodeC.keep hbb hbb.size _ _ Hc.out⟩ (Hpq.out.keep hbb hbb.size) (fun m hm => add1_c m' m i w0.heap.size (W.heap.size + 1) e0 b1 b2 b3 m1 m2 m3 d1 d2 d3 w1 (hI.cell 0 rfl) hI.lt hM1 hvm hbig' (Nat.le_trans (atN_wt q n m hm) hbig)))
  obtain ⟨x0, x1, x2, x3, -, -⟩ := hA1.facts
  have Hbb := Lib.hid hbb
  have Hs1 := Lib.hid (show W.heap.size + 3 ≤ w1.heap.size by have := hb1.size; rw [Hs0.out] at this; exact this)
  clear hw1 hb1 hI hbb hA1 hM1 hvm y0 HA HM HB
  go_wp2_with fail
  refine HC.out.mono ?_
  intro e w2 hch
  have ht : TreeP w1 R e w2 := TreeP.of_changed (Below.refl _ _) hch (by
    rw [HR.out]
    unfold addN
    rw [if_neg (by simp), drop_snoc, last_snoc]
    cases atN n q with
    | none => rfl
    | some k =>
      simp only [addR]
      split
      · rfl
      · split <;> rfl)
  clear HR
  obtain ⟨R1, R2⟩ := R
  have hB2 := HB1.out.keep (hch.1.mono (by have := Hs1.out; omega))
  obtain ⟨z0, z1, z2, z3, ⟨f0, f1, f2, f3⟩, -⟩ := hB2.facts
  obtain ⟨hb2, ⟨hz, l', k1, o1, r1, k2, o2, r2, k3, o3, r3, rfl, hq⟩ | ⟨hz, rfl⟩⟩ := ht.cases
  · simp only at hz
    subst hz
    have Hq := Lib.hid hq; have Hb2 := Lib.hid (Hbb.out.trans (hb2.mono Hbb.out.size))
    clear HC hch ht hB2 hb2 hq x0 x1 x2 x3
    go_wp2_with fail
    refine bodyPost_ret (v := .tuple #[.agg #[.bool l', .slice k1 o1 r1, .slice k2 o2 r2, .slice k3 o3 r3], .int .i64 0]) (by simp [results, Tryz.results118, go_sem, z0, z1, z2, z3, f0, f1, f2, f3]) rfl ?_
    exact tree_ok (N := W.heap.size + 1 + 1) Hb2.out Hbb.out.size (by have := Hs1.out; omega) (by omega) Hq.out
  · have Hz := Lib.hid hz; have Hb2 := Lib.hid (Hbb.out.trans (hb2.mono Hbb.out.size))
    clear HC hch ht hB2 hb2 hz x0 x1 x2 x3
    simp only
    go_wp2_with fail
    refine bodyPost_ret (v := .tuple #[.agg #[.bool false, .slice none 0 0, .slice none 0 0, .slice none 0 0], .int .i64 R2]) (by simp [results, Tryz.results118, go_sem, z0, z1, z2, z3, f0, f1, f2, f3]) rfl ?_
    exact tree_no (N := W.heap.size + 1 + 1) (r := (R1, R2)) Hb2.out (by omega) Hz.out
theorem add_c (n m' : NodeD) (p : List Int) (v v' : Value) (pa : Option Addr) (pc : Nat) (W : World) (hbig : n.wt ≤ 100000000) (hbig' : m'.wt ≤ 100000000) (hv : NodeV W W.heap.size n v) (hv' : NodeV W W.heap.size m' v') (hp : RowA W W.heap.size 1 pa p.length pc (p.map (Value.int .i64))) (hq : p.length ≤ 1000000) :
    Calls Tryz.prog 118 #[v, .slice pa p.length pc, v'] W (TreeP W (addN n p m')) := by
  rcases List.eq_nil_or_concat p with rfl | ⟨q, i, rfl⟩
  · exact add_nil n m' v v' pa pc W hv hv'
  · rw [List.concat_eq_append] at *
    exact add_some n m' q i v v' pa pc W hbig hbig' hv hv' hp (by simp at hq; omega)
end Go.Proofs.YtaopoincbigjhaaGreatDoor
/- Walks: tree.Cut. -/
namespace Go.Proofs.YtaopoincbigjhaaGreatDoor
open Go.RowKit Go.Redl
set_option linter.unusedVariables false
set_option linter.unusedSimpArgs false

/-- What is left of a tree, and what was taken out; or why not. -/
def CutP (W : World) (R : NodeD × NodeD × Int) (e : Ending) (w' : World) : Prop :=
  Below W.heap.size W w' ∧ if R.2.2 = 0 then ∃ cs ds, e = .returned (.tuple #[.agg cs.toArray, .agg ds.toArray, .int .i64 0]) ∧ NodeQ w' (fun b => W.heap.size ≤ b) R.1 cs ∧ NodeQ w' (fun b => W.heap.size ≤ b) R.2.1 ds
    else e = .returned (.tuple #[.agg #[.bool false, .slice none 0 0, .slice none 0 0, .slice none 0 0], .agg #[.bool false, .slice none 0 0, .slice none 0 0, .slice none 0 0], .int .i64 R.2.2])
theorem NodeAt.set4 {w : World} {M N : Nat} {c0 c1 c2 c3 : Value} (h : NodeAt w M c0 c1 c2 c3) (hne : M ≠ N) (d0 d1 d2 d3 : Value) : NodeAt ((((w.setCell ⟨N, 0, none⟩ d0).setCell ⟨N, 1, none⟩ d1).setCell ⟨N, 2, none⟩ d2).setCell ⟨N, 3, none⟩ d3) M c0 c1 c2 c3 := (((h.set hne).set hne).set hne).set hne
theorem nodeq_since {w w' : World} {ok : Nat → Prop} {n : NodeD} {cs : List Value} (h : NodeQ w ok n cs) (hb : Below w.heap.size w w') : NodeQ w' ok n cs := NodeQ.keep hb.size (fun b _ hlt => hb.block b hlt) (fun _ h _ => h) n cs h
theorem nodeq_set4 {w : World} {ok : Nat → Prop} {N : Nat} {n : NodeD} {cs : List Value} (h : NodeQ w ok n cs) (hne : ¬ ok N) (d0 d1 d2 d3 : Value) : NodeQ ((((w.setCell ⟨N, 0, none⟩ d0).setCell ⟨N, 1, none⟩ d1).setCell ⟨N, 2, none⟩ d2).setCell ⟨N, 3, none⟩ d3) ok n cs := nodeq_set (nodeq_set (nodeq_set (nodeq_set h hne) hne) hne) hne
theorem atN_up {n m : NodeD} {q : List Int} {i : Int} (h : atN n (q ++ [i]) = some m) : ∃ (k : NodeD) (j : Nat), atN n q = some k ∧ i = j ∧ ∃ hj : j < (kidsOf k).length, (kidsOf k)[j] = m := by
  rw [atN_append] at h
  cases hk : atN n q with
  | none => rw [hk] at h; cases h
  | some k =>
    rw [hk] at h
    obtain ⟨j, rfl, hj, h2⟩ := atN_cons_some (show atN k [i] = some m from h)
    have e : (kidsOf k)[j] = m := by simpa [atN] using h2
    exact ⟨k, j, rfl, rfl, hj, e⟩
set_option maxRecDepth 100000 in
set_option maxHeartbeats 4000000 in
theorem cut_nil (n : NodeD) (v : Value) (pa : Option Addr) (pc : Nat) (W : World) (hv : NodeV W W.heap.size n v) :
    Calls Tryz.prog 117 #[v, .slice pa 0 pc] W (CutP W (zeroN, zeroN, 6)) := by
  obtain ⟨csn, rfl, hc⟩ := hv
  obtain ⟨l, a1, n1, c1, a2, n2, c2, a3, n3, c3, rfl⟩ := hc.form
  clear hc
  go_enter Tryz.func117, Tryz.ntmps117
  go_wp2_with fail
  refine bodyPost_ret (v := .tuple #[.agg #[.bool false, .slice none 0 0, .slice none 0 0, .slice none 0 0], .agg #[.bool false, .slice none 0 0, .slice none 0 0, .slice none 0 0], .int .i64 6]) (by simp [results, Tryz.results117, go_sem]) rfl ?_
  exact ⟨three_below _ _ _ _, by rw [if_neg (by decide)]⟩
set_option maxRecDepth 100000 in
set_option maxHeartbeats 4000000 in
theorem cut_no (n : NodeD) (q : List Int) (i : Int) (v : Value) (pa : Option Addr) (pc : Nat) (W : World) (hbig : n.wt ≤ 100000000) (hv : NodeV W W.heap.size n v) (hp : RowA W W.heap.size 1 pa (q ++ [i]).length pc ((q ++ [i]).map (Value.int .i64))) (hat : atN n (q ++ [i]) = none) :
    Calls Tryz.prog 117 #[v, .slice pa (q ++ [i]).length pc] W (CutP W (zeroN, zeroN, 5)) := by
  obtain ⟨csn, rfl, hc⟩ := hv
  obtain ⟨l, a1, n1, c1, a2, n2, c2, a3, n3, c3, rfl⟩ := hc.form
  obtain ⟨w0, hw0⟩ : ∃ w0, w0 = ((W.alloc (Obj.cells #[.bool l, .slice a1 n1 c1, .slice a2 n2 c2, .slice a3 n3 c3] 35)).alloc (Obj.cells #[.bool false, .slice none 0 0, .slice none 0 0, .slice none 0 0] 35)).alloc (Obj.cells #[.bool false, .slice none 0 0, .slice none 0 0, .slice none 0 0] 35) := ⟨_, rfl⟩
  have hb0 : Below W.heap.size W w0 := by rw [hw0]; exact three_below _ _ _ _
  have hA : NodeAt w0 W.heap.size (.bool l) (.slice a1 n1 c1) (.slice a2 n2 c2) (.slice a3 n3 c3) := by rw [hw0]; exact ((NodeAt.fresh W _ _ _ _).alloc _).alloc _
  have hB : NodeAt w0 (W.heap.size + 1) (.bool false) (.slice none 0 0) (.slice none 0 0) (.slice none 0 0) := by rw [hw0]; exact (node_second W _ _ _ _ _).alloc _
  have hC : NodeAt w0 (W.heap.size + 1 + 1) (.bool false) (.slice none 0 0) (.slice none 0 0) (.slice none 0 0) := by rw [hw0]; exact At.third W _ _ _ _
  have hs0 : w0.heap.size = W.heap.size + 3 := by rw [hw0]; simp
  have hg := get_c n (q ++ [i]) (.agg #[.bool l, .slice a1 n1 c1, .slice a2 n2 c2, .slice a3 n3 c3]) pa pc w0 hbig ⟨_, rfl, NodeC.keep hb0 hb0.size _ _ hc⟩ (hp.keep hb0 hb0.size)
  rw [hat] at hg
  have HG := Lib.hid hg
  obtain ⟨y0, y1, y2, y3, -, -⟩ := hA.facts
  have HB := Lib.hid hB; have HC := Lib.hid hC; have Hw0 := Lib.hid hw0; have Hb0 := Lib.hid hb0; have Hs0 := Lib.hid hs0
  clear hc hp hat hg hA hB hC hb0 hs0 hw0
  obtain ⟨k, hk⟩ : ∃ k, (q ++ [i]).length = k + 1 := ⟨q.length, by simp⟩
  rw [hk] at HG ⊢
  clear hk
  go_enter Tryz.func117, Tryz.ntmps117
  go_upto_region 1 with fail
  rw [← Hw0.out]
  clear Hw0
  go_wp2_with fail
  refine HG.out.mono ?_
  rintro e w1 ⟨rfl, hb1⟩
  obtain ⟨x0, x1, x2, x3, ⟨f0, f1, f2, f3⟩, xl⟩ := (HB.out.keep (hb1.mono (by rw [Hs0.out]; omega))).facts
  obtain ⟨z0, z1, z2, z3, ⟨g0, g1, g2, g3⟩, zl⟩ := (HC.out.keep (hb1.mono (by rw [Hs0.out]; omega))).facts
  have Hb1 := Lib.hid (Hb0.out.trans (hb1.mono Hb0.out.size)); have Hb10 := Lib.hid hb1
  clear HG hb1 y0 y1 y2 y3
  go_wp2_with fail
  have h1 : W.heap.size ≤ W.heap.size + 1 + 1 := by omega
  have h2 : W.heap.size ≤ W.heap.size + 1 := by omega
  have hx := (HB.out.keep (Hb10.out.mono (by rw [Hs0.out]; omega)))
  have hz := (HC.out.keep (Hb10.out.mono (by rw [Hs0.out]; omega)))
  have q1 := below_all (below_all (below_all Hb1.out h1 (.bool false) (.slice none 0 0) (.slice none 0 0) (.slice none 0 0)) h2 (.bool false) (.slice none 0 0) (.slice none 0 0) (.slice none 0 0)) h1 (.bool false) (.slice none 0 0) (.slice none 0 0) (.slice none 0 0)
  have q2 := NodeAt.set4 (N := W.heap.size + 1 + 1) (NodeAt.all (NodeAt.set4 (N := W.heap.size + 1 + 1) hx (by omega) (.bool false) (.slice none 0 0) (.slice none 0 0) (.slice none 0 0)) (.bool false) (.slice none 0 0) (.slice none 0 0) (.slice none 0 0)) (by omega) (.bool false) (.slice none 0 0) (.slice none 0 0) (.slice none 0 0)
  have q3 := NodeAt.all (NodeAt.set4 (N := W.heap.size + 1) (NodeAt.all hz (.bool false) (.slice none 0 0) (.slice none 0 0) (.slice none 0 0)) (by omega) (.bool false) (.slice none 0 0) (.slice none 0 0) (.slice none 0 0)) (.bool false) (.slice none 0 0) (.slice none 0 0) (.slice none 0 0)
  clear x0 x1 x2 x3 f0 f1 f2 f3 xl z0 z1 z2 z3 g0 g1 g2 g3 zl hx hz
  with_reducible generalize World.setCell (World.setCell (World.setCell (World.setCell (World.setCell (World.setCell (World.setCell (World.setCell (World.setCell (World.setCell (World.setCell (World.setCell w1 _ _) _ _) _ _) _ _) _ _) _ _) _ _) _ _) _ _) _ _) _ _) _ _ = w5 at q1 q2 q3 ⊢
  obtain ⟨x0, x1, x2, x3, -, -⟩ := q2.facts
  obtain ⟨z0, z1, z2, z3, -, -⟩ := q3.facts
  refine bodyPost_ret (v := .tuple #[.agg #[.bool false, .slice none 0 0, .slice none 0 0, .slice none 0 0], .agg #[.bool false, .slice none 0 0, .slice none 0 0, .slice none 0 0], .int .i64 5]) (by simp [results, Tryz.results117, go_sem, x0, x1, x2, x3, z0, z1, z2, z3]) rfl ?_
  exact ⟨q1, by rw [if_neg (by decide)]⟩
set_option maxRecDepth 100000 in
set_option maxHeartbeats 4000000 in
theorem cut_yes (n m k : NodeD) (q : List Int) (j : Nat) (v : Value) (pa : Option Addr) (pc : Nat) (W : World) (hbig : n.wt ≤ 100000000) (hv : NodeV W W.heap.size n v) (hp : RowA W W.heap.size 1 pa (q ++ [(j : Int)]).length pc ((q ++ [(j : Int)]).map (Value.int .i64))) (hq : q.length ≤ 1000000) (hat : atN n (q ++ [(j : Int)]) = some m) (hk : atN n q = some k) (hj : j < (kidsOf k).length) :
    Calls Tryz.prog 117 #[v, .slice pa (q ++ [(j : Int)]).length pc] W (CutP W (putN n q (setKids k ((kidsOf k).eraseIdx j)), m, 0)) := by
  have hkw := Nat.le_trans (atN_wt q n k hk) hbig
  have hmw := Nat.le_trans (atN_wt _ n m hat) hbig
  have hkl : (kidsOf k).length ≤ 100000000 := by obtain ⟨l, ps, t, ks⟩ := k; have := wtAll_len ks; simp only [NodeD.wt] at hkw; simp only [kidsOf]; omega
  have hg0 := fun (w0 : World) (v : Value) (hv : NodeV w0 w0.heap.size n v) (hp : RowA w0 w0.heap.size 1 pa (q ++ [(j : Int)]).length pc ((q ++ [(j : Int)]).map (Value.int .i64))) => get_c n (q ++ [(j : Int)]) v pa pc w0 hbig hv hp
  rw [hat] at hg0
  have hp0 := hp
  obtain ⟨pb, po, rfl, hpb, hpi, hpq⟩ := row_up hp
  have hpc : q.length + 1 ≤ pc := by have := hp.le; simpa using this
  have hpm := hp.max
  unfold maxLen at hpm
  obtain ⟨csn, rfl, hc⟩ := hv
  obtain ⟨l, a1, n1, c1, a2, n2, c2, a3, n3, c3, rfl⟩ := hc.form
  obtain ⟨w0, hw0⟩ : ∃ w0, w0 = ((W.alloc (Obj.cells #[.bool l, .slice a1 n1 c1, .slice a2 n2 c2, .slice a3 n3 c3] 35)).alloc (Obj.cells #[.bool false, .slice none 0 0, .slice none 0 0, .slice none 0 0] 35)).alloc (Obj.cells #[.bool false, .slice none 0 0, .slice none 0 0, .slice none 0 0] 35) := ⟨_, rfl⟩
  have hb0 : Below W.heap.size W w0 := by rw [hw0]; exact three_below _ _ _ _
  have hA : NodeAt w0 W.heap.size (.bool l) (.slice a1 n1 c1) (.slice a2 n2 c2) (.slice a3 n3 c3) := by rw [hw0]; exact ((NodeAt.fresh W _ _ _ _).alloc _).alloc _
  have hB : NodeAt w0 (W.heap.size + 1) (.bool false) (.slice none 0 0) (.slice none 0 0) (.slice none 0 0) := by rw [hw0]; exact (node_second W _ _ _ _ _).alloc _
  have hC : NodeAt w0 (W.heap.size + 1 + 1) (.bool false) (.slice none 0 0) (.slice none 0 0) (.slice none 0 0) := by rw [hw0]; exact At.third W _ _ _ _
  have hs0 : w0.heap.size = W.heap.size + 3 := by rw [hw0]; simp
  have HG := Lib.hid (hg0 w0 (.agg #[.bool l, .slice a1 n1 c1, .slice a2 n2 c2, .slice a3 n3 c3]) ⟨_, rfl, NodeC.keep hb0 hb0.size _ _ hc⟩ (hp0.keep hb0 hb0.size))
  obtain ⟨y0, y1, y2, y3, -, -⟩ := hA.facts
  have HA := Lib.hid hA; have HB := Lib.hid hB; have HC := Lib.hid hC; have Hw0 := Lib.hid hw0; have Hb0 := Lib.hid hb0; have Hs0 := Lib.hid hs0; have Hc := Lib.hid hc; have Hpq := Lib.hid hpq; have Hpi := Lib.hid hpi
  have Hk := Lib.hid hk
  have h1 : ((q.length : Int) + 1) - 1 = (q.length : Int) := by omega
  have h2 : (q.length : Int) ≤ (pc : Int) := by omega
  clear hc hp hp0 hat hg0 hA hB hC hb0 hs0 hw0 hpq hpi hk
  rw [List.length_append, List.length_singleton] at *
  go_enter Tryz.func117, Tryz.ntmps117
  go_upto_region 1 with fail
  rw [← Hw0.out]
  clear Hw0
  go_upto_region 3 with fail
  go_wp2_with fail
  refine HG.out.mono ?_
  rintro e w1 ⟨cs, rfl, hqm, hb1⟩
  obtain ⟨lm, p1, o1, d1, p2, o2, d2, p3, o3, d3, rfl⟩ := hqm.form
  have hC1 := HC.out.keep (hb1.mono (by rw [Hs0.out]; omega))
  obtain ⟨z0, z1, z2, z3, ⟨g0, g1, g2, g3⟩, zl⟩ := hC1.facts
  have Hb1 := Lib.hid hb1; have Hqm := Lib.hid hqm; have HC1 := Lib.hid hC1
  clear HG hb1 y0 y1 y2 y3 hqm hC1
  go_upto_region 6 with fail
  obtain ⟨w2, hw2⟩ : ∃ w2, w2 = (((w1.setCell ⟨W.heap.size + 1 + 1, 0, none⟩ (.bool lm)).setCell ⟨W.heap.size + 1 + 1, 1, none⟩ (.slice p1 o1 d1)).setCell ⟨W.heap.size + 1 + 1, 2, none⟩ (.slice p2 o2 d2)).setCell ⟨W.heap.size + 1 + 1, 3, none⟩ (.slice p3 o3 d3) := ⟨_, rfl⟩
  rw [← hw2]
  have hs1 := Hb1.out.size
  have hs0 := Hs0.out
  have hs2 : w2.heap.size = w1.heap.size := by rw [hw2]; simp [World.setCell]
  have hC2 : NodeAt w2 (W.heap.size + 1 + 1) (.bool lm) (.slice p1 o1 d1) (.slice p2 o2 d2) (.slice p3 o3 d3) := by rw [hw2]; exact NodeAt.all HC1.out _ _ _ _
  have hA2 : NodeAt w2 W.heap.size (.bool l) (.slice a1 n1 c1) (.slice a2 n2 c2) (.slice a3 n3 c3) := by rw [hw2]; exact NodeAt.set4 (HA.out.keep (Hb1.out.mono (by omega))) (by omega) _ _ _ _
  have hB2 : NodeAt w2 (W.heap.size + 1) (.bool false) (.slice none 0 0) (.slice none 0 0) (.slice none 0 0) := by rw [hw2]; exact NodeAt.set4 (HB.out.keep (Hb1.out.mono (by omega))) (by omega) _ _ _ _
  have hb2 : Below W.heap.size W w2 := by rw [hw2]; exact below_all (Hb0.out.trans (Hb1.out.mono Hb0.out.size)) (by omega) _ _ _ _
  have hq2 : NodeQ w2 (fun b => w0.heap.size ≤ b) m [.bool lm, .slice p1 o1 d1, .slice p2 o2 d2, .slice p3 o3 d3] := by
    have hne : ¬ (w0.heap.size ≤ W.heap.size + 1 + 1) := by omega
    rw [hw2]; exact nodeq_set (nodeq_set (nodeq_set (nodeq_set Hqm.out hne) hne) hne) hne
  have y0 : w2.cell? ⟨pb, po + q.length, none⟩ = some (.int .i64 (j : Int)) := (hb2.cell (p := ⟨pb, po + q.length, none⟩) hpb).trans Hpi.out
  have HA2 := Lib.hid hA2; have HB2 := Lib.hid hB2; have HC2 := Lib.hid hC2; have Hb2 := Lib.hid hb2; have Hq2 := Lib.hid hq2
  have Hs2 := Lib.hid (show W.heap.size + 3 ≤ w2.heap.size by omega)
  have hpbw : pb < w2.heap.size := Nat.lt_of_lt_of_le hpb hb2.size
  clear hw2 hs1 hs0 hs2 hC2 hA2 hB2 hb2 hq2 z0 z1 z2 z3 g0 g1 g2 g3 zl HA HB HC HC1 Hqm Hpi
  go_region
  obtain ⟨w3, hw3⟩ : ∃ w3, w3 = (w2.alloc (Obj.cells #[.int .i64 (j : Int)] 3)).drew := ⟨_, rfl⟩
  rw [← hw3]
  have hb3 : Below w2.heap.size w2 w3 := by rw [hw3]; exact (one_below _ _).drew
  have hI : At w3 w2.heap.size [.int .i64 (j : Int)] 3 := by rw [hw3]; exact At.fresh w2 _ _
  have hbb := Hb2.out.trans (hb3.mono Hb2.out.size)
  have hs2 := Hs2.out
  have hA3 := HA2.out.keep (hb3.mono (by omega))
  have HB3 := Lib.hid (HB2.out.keep (hb3.mono (by omega))); have HC3 := Lib.hid (HC2.out.keep (hb3.mono (by omega)))
  have HCh := Lib.hid (changed_c 167 #[.pointer (some ⟨w2.heap.size, 0, none⟩)] cut1_ent n q (.agg #[.bool l, .slice a1 n1 c1, .slice a2 n2 c2, .slice a3 n3 c3]) (some ⟨pb, po, none⟩) pc (fun k => (setKids k ((kidsOf k).eraseIdx j), 0)) w3 hbig ⟨_, rfl, NodeC.keep hbb hbb.size _ _ Hc.out⟩ (Hpq.out.keep hbb hbb.size) (fun k' hk' => by
    have e : k' = k := by have := Hk.out; rw [this] at hk'; exact (Option.some.inj hk').symm
    subst e
    exact cut1_c k' j w2.heap.size w3 (hI.cell 0 rfl) hI.lt hj hkl))
  obtain ⟨x0, x1, x2, x3, -, -⟩ := hA3.facts
  have Hbb := Lib.hid hbb; have Hb3 := Lib.hid hb3
  have Hs3 := Lib.hid (show w2.heap.size ≤ w3.heap.size from hb3.size)
  clear hw3 hb3 hI hbb hA3 y0 HA2 HB2 HC2 hs2
  go_wp2_with fail
  refine HCh.out.mono ?_
  intro e w4 hch
  have ht : TreeP w3 (putN n q (setKids k ((kidsOf k).eraseIdx j)), 0) e w4 := TreeP.of_changed (Below.refl _ _) hch (by rw [Hk.out]; simp)
  have hs2 := Hs2.out; have hs3 := Hs3.out
  have hB4 := HB3.out.keep (hch.1.mono (by omega))
  have hC4 := HC3.out.keep (hch.1.mono (by omega))
  obtain ⟨hb4, ⟨-, l', k1, s1, r1, k2, s2, r2, k3, s3, r3, rfl, hqr⟩ | ⟨hz, -⟩⟩ := ht.cases
  · obtain ⟨z0, z1, z2, z3, ⟨f0, f1, f2, f3⟩, zl⟩ := hB4.facts
    obtain ⟨v0, v1, v2, v3, ⟨g0, g1, g2, g3⟩, vl⟩ := hC4.facts
    have Hqr := Lib.hid hqr; have Hb4 := Lib.hid (Hbb.out.trans (hb4.mono Hbb.out.size)); have Hb40 := Lib.hid hb4
    have HB4 := Lib.hid hB4; have HC4 := Lib.hid hC4
    clear HCh hch ht hB4 hC4 hb4 hqr x0 x1 x2 x3
    go_upto_region 8 with fail
    obtain ⟨w5, hw5⟩ : ∃ w5, w5 = (((w4.setCell ⟨W.heap.size + 1, 0, none⟩ (.bool l')).setCell ⟨W.heap.size + 1, 1, none⟩ (.slice k1 s1 r1)).setCell ⟨W.heap.size + 1, 2, none⟩ (.slice k2 s2 r2)).setCell ⟨W.heap.size + 1, 3, none⟩ (.slice k3 s3 r3) := ⟨_, rfl⟩
    rw [← hw5]
    have hB5 : NodeAt w5 (W.heap.size + 1) (.bool l') (.slice k1 s1 r1) (.slice k2 s2 r2) (.slice k3 s3 r3) := by rw [hw5]; exact NodeAt.all HB4.out _ _ _ _
    have hC5 : NodeAt w5 (W.heap.size + 1 + 1) (.bool lm) (.slice p1 o1 d1) (.slice p2 o2 d2) (.slice p3 o3 d3) := by rw [hw5]; exact NodeAt.set4 HC4.out (by omega) _ _ _ _
    have hb5 : Below W.heap.size W w5 := by rw [hw5]; exact below_all Hb4.out (by omega) _ _ _ _
    have hs0 := Hs0.out
    have hq5 : NodeQ w5 (fun b => w0.heap.size ≤ b) (putN n q (setKids k ((kidsOf k).eraseIdx j))) [.bool l', .slice k1 s1 r1, .slice k2 s2 r2, .slice k3 s3 r3] := by
      have hne : ¬ (w3.heap.size ≤ W.heap.size + 1) := by omega
      rw [hw5]
      exact NodeQ.keep (Nat.le_refl _) (fun _ _ _ => rfl) (fun b hb _ => by omega) _ _ (nodeq_set (nodeq_set (nodeq_set (nodeq_set Hqr.out hne) hne) hne) hne)
    have hm5 : NodeQ w5 (fun b => w0.heap.size ≤ b) m [.bool lm, .slice p1 o1 d1, .slice p2 o2 d2, .slice p3 o3 d3] := by
      have hne : ¬ (w0.heap.size ≤ W.heap.size + 1) := by omega
      rw [hw5]
      exact nodeq_set (nodeq_set (nodeq_set (nodeq_set (nodeq_since (nodeq_since Hq2.out Hb3.out) Hb40.out) hne) hne) hne) hne
    have HB5 := Lib.hid hB5; have HC5 := Lib.hid hC5; have Hb5 := Lib.hid hb5; have Hq5 := Lib.hid hq5; have Hm5 := Lib.hid hm5
    obtain ⟨z0, z1, z2, z3, ⟨f0, f1, f2, f3⟩, zl⟩ := hB5.facts
    obtain ⟨v0, v1, v2, v3, ⟨g0, g1, g2, g3⟩, vl⟩ := hC5.facts
    clear hw5 hB5 hC5 hb5 hq5 hm5 HB4 HC4 Hb4 Hqr hs0 hs2 hs3
    go_region
    have hn0 := Hs0.out
    have q0 := below_all (below_all Hb5.out (N := W.heap.size + 1) (by omega) (.bool l') (.slice k1 s1 r1) (.slice k2 s2 r2) (.slice k3 s3 r3)) (N := W.heap.size + 1 + 1) (by omega) (.bool lm) (.slice p1 o1 d1) (.slice p2 o2 d2) (.slice p3 o3 d3)
    have q1 := NodeAt.set4 (N := W.heap.size + 1 + 1) (NodeAt.all HB5.out (.bool l') (.slice k1 s1 r1) (.slice k2 s2 r2) (.slice k3 s3 r3)) (by omega) (.bool lm) (.slice p1 o1 d1) (.slice p2 o2 d2) (.slice p3 o3 d3)
    have q2 := NodeAt.all (NodeAt.set4 (N := W.heap.size + 1) HC5.out (by omega) (.bool l') (.slice k1 s1 r1) (.slice k2 s2 r2) (.slice k3 s3 r3)) (.bool lm) (.slice p1 o1 d1) (.slice p2 o2 d2) (.slice p3 o3 d3)
    have hx1 : ¬ (w0.heap.size ≤ W.heap.size + 1) := by omega
    have hx2 : ¬ (w0.heap.size ≤ W.heap.size + 1 + 1) := by omega
    have q3 := nodeq_set4 (nodeq_set4 Hq5.out hx1 (.bool l') (.slice k1 s1 r1) (.slice k2 s2 r2) (.slice k3 s3 r3)) hx2 (.bool lm) (.slice p1 o1 d1) (.slice p2 o2 d2) (.slice p3 o3 d3)
    have q4 := nodeq_set4 (nodeq_set4 Hm5.out hx1 (.bool l') (.slice k1 s1 r1) (.slice k2 s2 r2) (.slice k3 s3 r3)) hx2 (.bool lm) (.slice p1 o1 d1) (.slice p2 o2 d2) (.slice p3 o3 d3)
    clear z0 z1 z2 z3 f0 f1 f2 f3 zl v0 v1 v2 v3 g0 g1 g2 g3 vl
    with_reducible generalize World.setCell (World.setCell (World.setCell (World.setCell (World.setCell (World.setCell (World.setCell (World.setCell w5 _ _) _ _) _ _) _ _) _ _) _ _) _ _) _ _ = w6 at q0 q1 q2 q3 q4 ⊢
    obtain ⟨x0, x1, x2, x3, -, -⟩ := q1.facts
    obtain ⟨z0, z1, z2, z3, -, -⟩ := q2.facts
    have Q0 := Lib.hid q0; have Q3 := Lib.hid q3; have Q4 := Lib.hid q4
    clear q0 q1 q2 q3 q4 hx1 hx2 hn0
    go_wp2_with fail
    refine bodyPost_ret (v := .tuple #[.agg #[.bool l', .slice k1 s1 r1, .slice k2 s2 r2, .slice k3 s3 r3], .agg #[.bool lm, .slice p1 o1 d1, .slice p2 o2 d2, .slice p3 o3 d3], .int .i64 0]) (by simp [results, Tryz.results117, go_sem, x0, x1, x2, x3, z0, z1, z2, z3]) rfl ?_
    have hbw := Hb0.out.size
    refine ⟨Q0.out.drew, ?_⟩
    rw [if_pos rfl]
    exact ⟨_, _, rfl, NodeQ.keep (w := w6) (w' := w6.drew) (Nat.le_refl _) (fun _ _ _ => rfl) (fun b hb _ => Nat.le_trans hbw hb) _ _ Q3.out, NodeQ.keep (w := w6) (w' := w6.drew) (Nat.le_refl _) (fun _ _ _ => rfl) (fun b hb _ => Nat.le_trans hbw hb) _ _ Q4.out⟩
  · exact absurd rfl hz
theorem cut_c (n : NodeD) (p : List Int) (v : Value) (pa : Option Addr) (pc : Nat) (W : World) (hbig : n.wt ≤ 100000000) (hv : NodeV W W.heap.size n v) (hp : RowA W W.heap.size 1 pa p.length pc (p.map (Value.int .i64))) (hq : p.length ≤ 1000000) :
    Calls Tryz.prog 117 #[v, .slice pa p.length pc] W (CutP W (cutN n p)) := by
  rcases List.eq_nil_or_concat p with rfl | ⟨q, i, rfl⟩
  · exact cut_nil n v pa pc W hv
  · rw [List.concat_eq_append] at *
    cases hat : atN n (q ++ [i]) with
    | none =>
      have e : cutN n (q ++ [i]) = (zeroN, zeroN, 5) := by unfold cutN; rw [if_neg (by simp), hat]
      rw [e]
      exact cut_no n q i v pa pc W hbig hv hp hat
    | some m =>
      obtain ⟨k, j, hk, rfl, hj, hm⟩ := atN_up hat
      have e := cutN_kid hk hj
      rw [hm] at e
      rw [e]
      exact cut_yes n m k q j v pa pc W hbig hv hp (by simp at hq; omega) hat hk hj
end Go.Proofs.YtaopoincbigjhaaGreatDoor
