/- Parts of the proof, one behind the other: RKP, RKT, RM2, RM3, RFN, RKS, RF1, RFB. -/
import Derived.Test.YtajclfjedlkbcaaGreatDoorWF14
import Derived.Laws.OwnMore
import Derived.Test.YtajclfjedlkbcaaGreatDoorWF9
import Derived.Test.YtajclfjedlkbcaaGreatDoorWF4
import Derived.Test.YtajclfjedlkbcaaGreatDoorRows
import Derived.WalkKit
import Derived.ProofKit
import Derived.LaidMore
import Derived.OpenShut
import Derived.ChangeOld
import Derived.Below
import Derived.Stop.Joined
import Derived.Deep.DeepHandedRow
import Derived.Deep.DeepWitnessRowRef
import Derived.JoinedCond
import Derived.Test.YtajclfjedlkbcaaGreatDoorWF12
import Derived.Test.YtajclfjedlkbcaaGreatDoorWF2
import Derived.Laws.BytesArg
import Derived.Deep.RegionWith
import Derived.Test.YtajclfjedlkbcaaGreatDoorCards
import Derived.Test.YtajclfjedlkbcaaGreatDoorTie
import Derived.ShutString
import Derived.Lib.LaidTab
import Derived.Stop.LaidErr
import Derived.Lay
import Derived.SevenTiedAt
/- Plain words: a row put behind a row, in a region that draws; which lists have one region. -/
namespace Go.Proofs.YtajclfjedlkbcaaGreatDoor
open Go.RowKit Go.Redl
set_option linter.unusedVariables false
set_option linter.unusedSimpArgs false

/-- A row put behind an own row. -/
theorem RowX.join {M : Nat} {w w' : World} {v v' : Value} {xs ys : List PX} {B : Nat} {u : Value} (h : RowX w M 0 v xs) (hr : ReadX w B u ys) (hBM : B ≤ M) (hB : B ≤ w.heap.size)
    (hg : w.grownBy w' v.ownBlock) (hown : w'.ownsRow M 47 1 v' (xs.length + ys.length) (xs.map pxV ++ ys.map pxV)) (hw : v'.ownBlock = v.ownBlock ∨ ∀ k, v'.ownBlock = some k → w.heap.size ≤ k) : RowX w' M 0 v' (xs ++ ys) := by
  have hs := hg.size
  have hall : ∀ x ∈ xs ++ ys, PxQ w (fun b => 0 ≤ b ∧ v.ownBlock ≠ some b) x := fun x hx => by
    rcases List.mem_append.1 hx with hx | hx
    · exact h.all x hx
    · exact rowq_imp ((hr.all x hx).q hB) fun b hb => ⟨Nat.zero_le _, fun e => by have := h.ge b e; omega⟩
  refine ⟨by rw [List.length_append, List.map_append]; exact hown, fun x hx => (hall x hx).keep hs (fun b hb hlt => hg.block b hlt (fun e => hb.2 e.symm)) fun b hb hlt => ⟨Nat.zero_le _, ?_⟩⟩
  rcases hw with e | e
  · rw [e]; exact hb.2
  · intro e2; have := e b e2; omega
theorem step_appx {P : Program} {ops : Array Oper} {o : Oper} {a : Act} {w : World} {K : Act → World → Prop} {Q : Exit → Act → World → Prop} {E : Prop}
    (hg : o.guard = none) (s x : Operand) (ho : o.op = .call { callee := .builtin .append, args := #[s, x], argTypes := #[36, 36] })
    (ht : P.underlying 36 = some (.slice 47)) (hi : (P.info? 47).map (fun i => (i.zero, i.size, i.bytes)) = some (some (.slice none 0 0), 1, 24))
    (M : Nat) (v : Value) (xs : List PX) (hs : a.eval s = v) (hO : RowX w M 0 v xs) (ys : List PX) (ya : Option Addr) (yc B : Nat) (hx : a.eval x = .slice ya ys.length yc) (hr : ReadX w B (.slice ya ys.length yc) ys) (hBM : B ≤ M) (hB : B ≤ w.heap.size)
    (hn : xs.length + ys.length ≤ 100000000) (hM : M ≤ w.heap.size)
    (h : ∀ v' w', RowX w' M 0 v' (xs ++ ys) → Below M w w' → K (a.put o.dst v') w') : if Region.wanted o (yielded ops a.tmps) = true then Oper.wp P o a w K Q else E := by
  cases ya with
  | none =>
    obtain ⟨a', c', hv, hrow⟩ := hr.row
    injection hv with e1 e2 e3
    subst e1; subst e3
    have hc0 : yc = 0 := hrow.nil rfl
    have hn0 : ys.length = 0 := by have := hrow.le; omega
    obtain rfl : ys = [] := List.eq_nil_of_length_eq_zero hn0
    subst hc0
    have hw : Region.wanted o (yielded ops a.tmps) = true := by simp [Region.wanted, hg]
    rw [if_pos hw]
    obtain ⟨i, hi', -, hsize, -⟩ := info_parts hi
    have hrun := run_append_owned_none (P := P) (w := w) M 36 o.type 47 i 1 ht hi' v xs.length (xs.map pxV) hO.own
    unfold Oper.wp execOp
    simp only [ho, resolve, invoke, builtin, Sem.run_bind, Sem.run_pure, Result.andThen_ok, List.map_toArray, List.map_cons, List.map_nil, hs, hx, List.length_nil, hrun]
    exact h v w (by rw [List.append_nil]; exact hO) (Below.refl _ _)
  | some ad =>
    obtain ⟨a', c', hv, hrow⟩ := hr.row
    injection hv with e1 e2 e3
    subst e1; subst e3
    refine step_app2 hg s x 36 ho M 47 (.slice none 0 0) 1 24 ht hi rfl (by decide) v xs.length (xs.map pxV) hs hO.own ad ys.length yc B (ys.map pxV) hx hrow (by unfold maxLen; omega) (by omega) hM fun v' w' hown hgrow hwh => ?_
    exact h v' w' (RowX.join hO hr hBM hB hgrow hown hwh) ((Below.refl M w).grown hgrow hM (fun k hk => hO.ge k hk))

theorem readyF_len : ∀ (q : Option (List Int)) (l : List (List Int)), (readyF q l).length ≤ l.length := by
  intro q l
  induction l generalizing q with
  | nil => cases q <;> simp [readyF]
  | cons p l ih =>
    cases q with
    | none => simp only [readyF, List.length_cons]; have := ih (some p); omega
    | some q =>
      simp only [readyF]
      split
      · have := ih (some q); simp; omega
      · have := ih (some p); simp; omega
theorem ready_of {L : List (List Int)} : (readyL (setL L)).length ≤ L.length ∧ ∀ p ∈ readyL (setL L), p ∈ L :=
  ⟨Nat.le_trans (readyF_len none (setL L)) (setL_len L), fun p hp => mem_setL.1 ((readyL_spec _ (setL_strict L)).1 p hp)⟩
/-- Lists that lead to the same elements have one region. -/
theorem reg_cov {n : NodeD} (hw : n.wt ≤ 1048576) {L L' : List (List Int)} (h : ∀ x, covB (L.filter (isElem n)) x = covB (L'.filter (isElem n)) x) : regN n L = regN n L' := by
  rw [regN_eq hw, regN_eq hw]
  congr 1
  funext x
  exact h x
theorem reg_twice {n : NodeD} (hw : n.wt ≤ 1048576) (L : List (List Int)) : regN n (L ++ L) = regN n L :=
  reg_cov hw fun x => by rw [List.filter_append]; unfold covB; rw [List.any_append, Bool.or_self]
theorem reg_elems {n : NodeD} (hw : n.wt ≤ 1048576) (L : List (List Int)) : regN n (L.filter (isElem n)) = regN n L :=
  reg_cov hw fun x => by rw [List.filter_filter]; simp
theorem reg_ready {n : NodeD} (hw : n.wt ≤ 1048576) (L : List (List Int)) : regN n (readyL (setL (L.filter (isElem n)))) = regN n L :=
  reg_cov hw fun x => by
    have he : (readyL (setL (L.filter (isElem n)))).filter (isElem n) = readyL (setL (L.filter (isElem n))) := List.filter_eq_self.2 fun p hp => by
      have h1 := (readyL_spec _ (setL_strict (L.filter (isElem n)))).1 p hp
      exact (List.mem_filter.1 (mem_setL.1 h1)).2
    rw [he, cov_ready]

end Go.Proofs.YtajclfjedlkbcaaGreatDoor
/- Plain laws: the region of all elements; more elements, no smaller a region. -/
namespace Go.Proofs.YtajclfjedlkbcaaGreatDoor
open Go.RowKit Go.Redl
set_option linter.unusedVariables false
set_option linter.unusedSimpArgs false

theorem mem_pathsK {want : NodeD → Bool} : ∀ (ks : List NodeD) (j : Nat) (q : List Int) (m : Nat) (k : NodeD) (x : List Int), ks[m]? = some k → x ∈ pathsW want k (q ++ [((j + m : Nat) : Int)]) → x ∈ pathsK want ks j q
  | [], j, q, m, k, x, h, _ => by simp at h
  | c :: ks, j, q, 0, k, x, h, hx => by
    simp at h
    subst h
    unfold pathsK
    exact List.mem_append.2 (.inl (by simpa using hx))
  | c :: ks, j, q, m + 1, k, x, h, hx => by
    unfold pathsK
    refine List.mem_append.2 (.inr (mem_pathsK ks (j + 1) q m k x (by simpa using h) ?_))
    rw [show j + 1 + m = j + (m + 1) by omega]
    exact hx
theorem mem_paths : ∀ (p : List Int) (n k : NodeD) (q : List Int), atN n p = some k → q ++ p ∈ pathsW (fun _ => true) n q
  | [], .mk l ps t ks, k, q, _ => by unfold pathsW; simp
  | i :: p, .mk l ps t ks, k, q, h => by
    rw [atN] at h
    split at h
    · rename_i hi
      cases hk : ks[i.toNat]? with
      | none => rw [show (kidsOf (.mk l ps t ks))[i.toNat]? = ks[i.toNat]? from rfl, hk] at h; cases h
      | some c =>
        rw [show (kidsOf (.mk l ps t ks))[i.toNat]? = ks[i.toNat]? from rfl, hk] at h
        have ih := mem_paths p c k (q ++ [i]) h
        unfold pathsW
        refine List.mem_append.2 (.inr (mem_pathsK ks 0 q i.toNat c _ hk ?_))
        rw [show ((0 + i.toNat : Nat) : Int) = i by omega]
        simpa using ih
    · cases h
theorem elem_mem {n : NodeD} {q : List Int} (h : isElem n q = true) : q ∈ allN n := by
  unfold isElem at h
  cases hat : atN n q with
  | none => rw [hat] at h; cases h
  | some k => simpa using mem_paths q n k [] hat
/-- All elements of a tree. -/
abbrev elemsN (n : NodeD) : List (List Int) := (allN n).filter (isElem n)
theorem cov_elems {n : NodeD} {x : List Int} : covB (elemsN n) x = true ↔ ∃ q, isElem n q = true ∧ q <+: x := by
  rw [cov_iff]
  constructor
  · rintro ⟨q, h1, h2⟩; exact ⟨q, (List.mem_filter.1 h1).2, h2⟩
  · rintro ⟨q, h1, h2⟩; exact ⟨q, List.mem_filter.2 ⟨elem_mem h1, h1⟩, h2⟩
/-- The region of all elements. -/
def regA (n : NodeD) : Nat := regN n (setL (elemsN n))
theorem regA_eq {n : NodeD} (hw : n.wt ≤ 1048576) : regA n = (allN n).countP (covB (elemsN n)) := by
  unfold regA
  rw [regN_eq hw]
  congr 1
  funext x
  rw [Bool.eq_iff_iff, cov_iff, cov_iff]
  constructor
  · rintro ⟨q, h1, h2⟩; exact ⟨q, mem_setL.1 (List.mem_filter.1 h1).1, h2⟩
  · rintro ⟨q, h1, h2⟩; exact ⟨q, List.mem_filter.2 ⟨mem_setL.2 h1, (List.mem_filter.1 h1).2⟩, h2⟩
theorem regA_most {n : NodeD} (hw : n.wt ≤ 1048576) (L : List (List Int)) : regN n L ≤ regA n := by
  rw [regN_eq hw, regA_eq hw]
  refine List.countP_mono_left fun x _ h => ?_
  obtain ⟨q, h1, h2⟩ := cov_iff.1 h
  exact cov_elems.2 ⟨q, (List.mem_filter.1 h1).2, h2⟩
theorem reg_more {n : NodeD} (hw : n.wt ≤ 1048576) (L L' : List (List Int)) : regN n L ≤ regN n (L ++ L') := by
  rw [regN_eq hw, regN_eq hw]
  refine List.countP_mono_left fun x _ h => ?_
  obtain ⟨q, h1, h2⟩ := cov_iff.1 h
  exact cov_iff.2 ⟨q, by rw [List.filter_append]; exact List.mem_append.2 (.inl h1), h2⟩
theorem reg_nil (n : NodeD) : regN n [] = 0 := rfl
theorem regA_le {n : NodeD} (hw : n.wt ≤ 1048576) : regA n ≤ n.wt := by
  rw [regA_eq hw]
  exact Nat.le_trans (List.countP_le_length) (pathsW_len _ n [])
theorem regA_elem {n : NodeD} (hw : n.wt ≤ 1048576) (hl : leafOf n = false) : regA n = (allN n).length := by
  rw [regA_eq hw]
  refine List.countP_eq_length.2 fun x _ => cov_elems.2 ⟨[], ?_, List.nil_prefix⟩
  unfold isElem
  rw [show atN n [] = some n by rw [atN]]
  simp [hl]
mutual
theorem pathsW_map (want : NodeD → Bool) : ∀ (n : NodeD) (p q : List Int), pathsW want n (p ++ q) = (pathsW want n q).map (p ++ ·)
  | .mk l ps t ks, p, q => by
    unfold pathsW
    rw [List.map_append, pathsK_map want ks 0 p q]
    split <;> simp
theorem pathsK_map (want : NodeD → Bool) : ∀ (ks : List NodeD) (i : Nat) (p q : List Int), pathsK want ks i (p ++ q) = (pathsK want ks i q).map (p ++ ·)
  | [], i, p, q => rfl
  | k :: ks, i, p, q => by
    unfold pathsK
    rw [List.map_append, List.append_assoc, pathsW_map want k p (q ++ [(i : Int)]), pathsK_map want ks (i + 1) p q]
end
def sumA (ks : List NodeD) : Nat := (ks.map regA).sum
theorem sumA_le : ∀ {ks : List NodeD}, wtAll ks ≤ 1048576 → sumA ks ≤ wtAll ks
  | [], _ => by simp [sumA, wtAll]
  | k :: ks, h => by
    simp only [wtAll] at h
    have h1 := regA_le (n := k) (by omega)
    have h2 := sumA_le (ks := ks) (by omega)
    have e : sumA (k :: ks) = regA k + sumA ks := by simp [sumA]
    rw [e]
    simp only [wtAll]
    omega
/-- A leaf that has Kids all the same: the regions of these. -/
theorem regA_leaf {n : NodeD} (hw : n.wt ≤ 1048576) (hl : leafOf n = true) : regA n = sumA (kidsOf n) := by
  rw [regA_eq hw]
  obtain ⟨l, ps, t, ks⟩ := n
  have hroot : isElem (.mk l ps t ks) [] = false := by
    unfold isElem
    rw [show atN (.mk l ps t ks) [] = some (.mk l ps t ks) by rw [atN]]
    simp only [leafOf] at hl ⊢
    simp [hl]
  have hkw : wtAll ks ≤ 1048576 := by simp only [NodeD.wt] at hw; omega
  have hat : ∀ (m : Nat) (k : NodeD) (q : List Int), ks[m]? = some k → isElem (.mk l ps t ks) ((m : Int) :: q) = isElem k q := by
    intro m k q hk
    unfold isElem
    rw [atN, if_pos (by omega)]
    rw [show (kidsOf (.mk l ps t ks))[((m : Int)).toNat]? = some k by show ks[((m : Int)).toNat]? = _; simpa using hk]
  have hcov : ∀ (m : Nat) (k : NodeD) (y : List Int), ks[m]? = some k → covB (elemsN (.mk l ps t ks)) ((m : Int) :: y) = covB (elemsN k) y := by
    intro m k y hk
    rw [Bool.eq_iff_iff, cov_elems, cov_elems]
    constructor
    · rintro ⟨q, h1, h2⟩
      cases q with
      | nil => rw [hroot] at h1; cases h1
      | cons i q =>
        obtain ⟨rfl, h3⟩ := List.cons_prefix_cons.1 h2
        exact ⟨q, by rw [← hat m k q hk]; exact h1, h3⟩
    · rintro ⟨q, h1, h2⟩
      exact ⟨(m : Int) :: q, by rw [hat m k q hk]; exact h1, List.cons_prefix_cons.2 ⟨rfl, h2⟩⟩
  have hK : ∀ (cs : List NodeD) (j : Nat), (∀ m, cs[m]? = ks[j + m]?) → wtAll cs ≤ 1048576 → (pathsK (fun _ => true) cs j []).countP (covB (elemsN (.mk l ps t ks))) = sumA cs := by
    intro cs
    induction cs with
    | nil => intro j _ _; unfold pathsK; simp [sumA]
    | cons c cs ih =>
      intro j hj hcw
      have h0 := hj 0
      simp only [List.getElem?_cons_zero, Nat.add_zero] at h0
      simp only [wtAll] at hcw
      unfold pathsK
      rw [List.countP_append, ih (j + 1) (fun m => by have := hj (m + 1); simp only [List.getElem?_cons_succ] at this; rw [this]; congr 1; omega) (by omega)]
      have e : pathsW (fun _ => true) c ([] ++ [(j : Int)]) = (allN c).map ((j : Int) :: ·) := by
        have := pathsW_map (fun _ => true) c [(j : Int)] []
        simpa using this
      rw [e, List.countP_map]
      have e2 : (allN c).countP (covB (elemsN (.mk l ps t ks)) ∘ ((j : Int) :: ·)) = regA c := by
        rw [regA_eq (by omega)]
        congr 1
        funext y
        exact hcov j c y h0.symm
      rw [e2]
      simp [sumA]
  have h0 : covB (elemsN (.mk l ps t ks)) [] = false := by
    cases h : covB (elemsN (.mk l ps t ks)) [] with
    | false => rfl
    | true =>
      obtain ⟨q, h1, h2⟩ := cov_elems.1 h
      rw [List.prefix_nil.1 h2, hroot] at h1
      cases h1
  show (pathsW (fun _ => true) (.mk l ps t ks) []).countP (covB (elemsN (.mk l ps t ks))) = sumA ks
  rw [pathsW, List.countP_append, hK ks 0 (fun m => by simp) hkw]
  simp only [if_true]
  rw [List.countP_cons_of_neg (by simp [h0]), List.countP_nil, Nat.zero_add]
mutual
theorem pathsW_long (want : NodeD → Bool) : ∀ (n : NodeD) (p x : List Int), x ∈ pathsW want n p → x.length ≤ p.length + n.wt
  | .mk l ps t ks, p, x => by
    intro h
    unfold pathsW at h
    rcases List.mem_append.1 h with h | h
    · split at h
      · rw [List.mem_singleton.1 h]; omega
      · simp at h
    · have := pathsK_long want ks 0 p x h
      simp only [NodeD.wt]; omega
theorem pathsK_long (want : NodeD → Bool) : ∀ (ks : List NodeD) (i : Nat) (p x : List Int), x ∈ pathsK want ks i p → x.length ≤ p.length + 1 + wtAll ks
  | [], i, p, x => by intro h; unfold pathsK at h; simp at h
  | k :: ks, i, p, x => by
    intro h
    unfold pathsK at h
    simp only [wtAll]
    rcases List.mem_append.1 h with h | h
    · have := pathsW_long want k _ x h
      simp at this; omega
    · have := pathsK_long want ks (i + 1) p x h
      omega
end
theorem elems_long {n : NodeD} : (setL (elemsN n)).length ≤ n.wt ∧ ∀ p ∈ setL (elemsN n), p.length ≤ n.wt :=
  ⟨Nat.le_trans (setL_len _) (Nat.le_trans (List.length_filter_le _ _) (pathsW_len _ n [])), fun p hp => by
    have := pathsW_long _ n [] p (List.mem_filter.1 (mem_setL.1 hp)).1
    simpa using this⟩

end Go.Proofs.YtajclfjedlkbcaaGreatDoor
/- Walk: weight.Bound. -/
namespace Go.Proofs.YtajclfjedlkbcaaGreatDoor
open Go.RowKit Go.Redl
set_option linter.unusedVariables false
set_option linter.unusedSimpArgs false

/-- What Bound answers. -/
def boundS (s : SchemaD) (n : NodeD) (L : List (List Int)) : Int × Int := if (fillsS s).2 ≠ 0 then (0, (fillsS s).2) else ((regN n L : Int) * (4 + 2 * (fillsS s).1), 0)
theorem bound_ent : ∀ args w, (callFunc 7 args).run Tryz.prog w = .ok (.enter 7 args) w := by intro args w; kernel_rfl
theorem reg_wt {n : NodeD} (hw : n.wt ≤ 1048576) (L : List (List Int)) : regN n L ≤ 1048576 := Nat.le_trans (regA_most hw L) (Nat.le_trans (regA_le hw) hw)
theorem mul_small {a b : Int} (ha : 0 ≤ a) (ha2 : a ≤ 1048576) (hb : 0 ≤ b) (hb2 : b ≤ 2200000) : 0 ≤ a * b ∧ a * b ≤ 2306867200000 := by
  refine ⟨Int.mul_nonneg ha hb, ?_⟩
  have h1 : a * b ≤ 1048576 * b := Int.mul_le_mul_of_nonneg_right ha2 hb
  omega
set_option maxRecDepth 100000 in
set_option maxHeartbeats 4000000 in
theorem bound_c (s : SchemaD) (n : NodeD) (u v : Value) (vx : Value) (xs : List PX) (W : World) (hs : s.wt ≤ 1048576) (hn : n.wt ≤ 1048576) (hxl : xs.length ≤ 1048576) (hxm : ∀ x ∈ xs, x.1.length ≤ 100000000) (hu : SchemaV W W.heap.size s u) (hv : NodeV W W.heap.size n v) (hx : ReadX W W.heap.size vx xs) :
    Calls Tryz.prog 7 #[u, v, vx] W fun e w' => e = .returned (.tuple #[.int .i64 (boundS s n (pxs xs)).1, .int .i64 (boundS s n (pxs xs)).2]) ∧ Below W.heap.size W w' := by
  have hu0 := hu; have hv0 := hv
  obtain ⟨l, ps, t, ks⟩ := n
  obtain ⟨a, c, css, ea, ec, o0, o1, o2, o3, o4, o5, rfl, -, -, -, -⟩ := hu0.open
  obtain ⟨ap, cp, at_, ct, ak, ck, cs4, rfl, -, -, -, -⟩ := hv0.open
  generalize NodeD.mk l ps t ks = n at hn hv ⊢
  obtain ⟨xa, xc, rfl, -⟩ := hx.row
  obtain ⟨w0, hw0⟩ : ∃ w0, w0 = (W.alloc (Obj.cells #[.slice a s.rules.length c, strV s.els.type, .int .i64 s.els.text.1, strV s.els.text.2, .int .i64 s.els.other.1, strV s.els.other.2, .slice ea s.els.kids.length ec, .int .i64 s.els.fill, strV s.els.fillT, .int .i64 o0, .int .i64 o1, .int .i64 o2, .int .i64 o3, .int .i64 o4, .int .i64 o5, .int .i64 s.cap] 30)).alloc (Obj.cells #[.bool l, .slice ap ps.length cp, .slice at_ t.length ct, .slice ak ks.length ck] 35) := ⟨_, rfl⟩
  have hb0 : Below W.heap.size W w0 := by rw [hw0]; exact two_below _ _ _
  have hA : At w0 W.heap.size [.slice a s.rules.length c, strV s.els.type, .int .i64 s.els.text.1, strV s.els.text.2, .int .i64 s.els.other.1, strV s.els.other.2, .slice ea s.els.kids.length ec, .int .i64 s.els.fill, strV s.els.fillT, .int .i64 o0, .int .i64 o1, .int .i64 o2, .int .i64 o3, .int .i64 o4, .int .i64 o5, .int .i64 s.cap] 30 := by rw [hw0]; exact (At.fresh W _ _).alloc _
  have hN : At w0 (W.heap.size + 1) [.bool l, .slice ap ps.length cp, .slice at_ t.length ct, .slice ak ks.length ck] 35 := by rw [hw0]; exact At.second W _ _ _
  have hld := load_at (P := Tryz.prog) hA Tryz.underlying30 rfl (by kernel_rfl)
  simp [go_sem] at hld
  have HF := Lib.hid (fills_c s _ w0 (by omega) (hu.keep hb0 hb0.size))
  have HRg := Lib.hid (fun (w' : World) (hb : Below W.heap.size W w') => region_c n _ W.heap.size _ xs w' (by omega) (hv.keep hb (Nat.le_refl _)) hb.size (hx.keep hb (Nat.le_refl _)) (by omega) hxm)
  have Hreg := Lib.hid (reg_wt hn (pxs xs))
  have Hf0 := Lib.hid (fills_ge s); have Hf1 := Lib.hid (show (fillsS s).1 ≤ 1048580 by have h1 := fills_le s; have h2 := rulesWt_len s.rules; unfold SchemaD.wt at hs; omega)
  have Hw0 := Lib.hid hw0; have Hb0 := Lib.hid hb0; have HN := Lib.hid hN
  have HBd := Lib.hid (show boundS s n (pxs xs) = if (fillsS s).2 ≠ 0 then (0, (fillsS s).2) else ((regN n (pxs xs) : Int) * (4 + 2 * (fillsS s).1), 0) from rfl)
  obtain ⟨BD, hBD⟩ : ∃ BD, BD = boundS s n (pxs xs) := ⟨_, rfl⟩
  rw [← hBD] at HBd ⊢
  obtain ⟨RG, hRG⟩ : ∃ RG, RG = regN n (pxs xs) := ⟨_, rfl⟩
  rw [← hRG] at HRg Hreg HBd
  obtain ⟨⟨F1, F2⟩, hFF⟩ : ∃ z, fillsS s = z := ⟨_, rfl⟩
  rw [hFF] at HF Hf0 Hf1 HBd
  simp only at HF Hf0 Hf1 HBd
  have xl := hN.lt
  clear hu hv hu0 hv0 hs hn hb0 hw0 hA hN hx hxm hRG hBD hFF
  go_enter Tryz.func7, Tryz.ntmps7
  go_upto_region 1 with fail
  rw [← Hw0.out]
  clear Hw0
  go_wp2_with fail
  refine HF.out.mono ?_
  rintro e w1 ⟨rfl, hbel⟩
  have Hb1 := Lib.hid (Hb0.out.trans (hbel.mono Hb0.out.size))
  obtain ⟨⟨y0, y1, y2, y3⟩, -, yl⟩ := (HN.out.kept hbel).f4
  have HR1 := Lib.hid (HRg.out w1 Hb1.out)
  clear hbel HF HRg hld
  by_cases h0 : F2 = 0
  · subst h0
    have Hz := Lib.hid (show BD = ((RG : Int) * (4 + 2 * F1), 0) by rw [HBd.out, if_neg (by simp)])
    go_wp2_with fail
    refine HR1.out.mono ?_
    rintro e w2 ⟨rfl, hbel⟩
    have Hb2 := Lib.hid (Hb1.out.trans (hbel.mono Hb1.out.size))
    have hf0 := Hf0.out; have hf1 := Hf1.out; have hreg := Hreg.out
    have hr0 : (0 : Int) ≤ RG := by omega
    have hr1 : (RG : Int) ≤ 1048576 := by omega
    have hm := mul_small hr0 hr1 (show (0 : Int) ≤ 4 + 2 * F1 by omega) (by omega)
    have e1 : IntKind.i64.wrap (2 * F1) = 2 * F1 := IntWalk.i64_in _ (by omega)
    have e2 : IntKind.i64.wrap (4 + 2 * F1) = 4 + 2 * F1 := IntWalk.i64_in _ (by omega)
    have e3 : IntKind.i64.wrap ((RG : Int) * (4 + 2 * F1)) = (RG : Int) * (4 + 2 * F1) := IntWalk.i64_in _ (by omega)
    clear hbel HR1 y0 y1 y2 y3 hf0 hf1 hreg hr0 hr1 hm
    go_wp2_with fail
    go_ret2
    rw [Hz.out]
    exact ⟨rfl, Hb2.out⟩
  · have Hz := Lib.hid (show BD = (0, F2) by rw [HBd.out, if_pos h0])
    clear HR1 y0 y1 y2 y3
    go_wp2_with fail
    go_ret2
    rw [Hz.out]
    exact ⟨rfl, Hb1.out⟩

end Go.Proofs.YtajclfjedlkbcaaGreatDoor
/- Walk: WeightFills: for every schema, tree and list of paths the law returns true, where what is read is of bulk at most 1048576. -/
namespace Go.Proofs.YtajclfjedlkbcaaGreatDoor
open Go.RowKit Go.Redl
set_option linter.unusedVariables false
set_option linter.unusedSimpArgs false

theorem small19_len2 {s : SchemaD} {n : NodeD} {L : List (List Int)} {m : Nat} (h : small19 s n L m = true) : (∀ p ∈ L, p.length ≤ 40) ∧ L.length ≤ 30 := by
  unfold small19 at h
  simp only [Bool.and_eq_true, List.all_eq_true, decide_eq_true_eq] at h
  exact ⟨h.1, h.2.2.2.1⟩

set_option maxRecDepth 100000 in
set_option maxHeartbeats 4000000 in
theorem weightfills_walk (s : SchemaD) (n : NodeD) (u v : Value) (vx : Value) (xs : List PX) (W : World) (hs : s.wt ≤ 1048576) (hn : n.wt ≤ 1048576) (hxl : xs.length ≤ 1048576) (hu : SchemaV W W.heap.size s u) (hv : NodeV W W.heap.size n v) (hx : ReadX W W.heap.size vx xs) :
    Calls Tryz.prog 4 #[u, v, vx] W (fun e w' => e = .returned (.bool true) ∧ Below W.heap.size W w') := by
  have hu0 := hu; have hv0 := hv
  obtain ⟨l, ps, t, ks⟩ := n
  obtain ⟨a, c, css, ea, ec, o0, o1, o2, o3, o4, o5, rfl, -, -, -, -⟩ := hu0.open
  obtain ⟨ap, cp, at_, ct, ak, ck, cs4, rfl, -, -, -, -⟩ := hv0.open
  generalize hnn : NodeD.mk l ps t ks = n at hn hv ⊢
  obtain ⟨xa, xc, rfl, -⟩ := hx.row
  obtain ⟨w0, hw0⟩ : ∃ w0, w0 = (W.alloc (Obj.cells #[.slice a s.rules.length c, strV s.els.type, .int .i64 s.els.text.1, strV s.els.text.2, .int .i64 s.els.other.1, strV s.els.other.2, .slice ea s.els.kids.length ec, .int .i64 s.els.fill, strV s.els.fillT, .int .i64 o0, .int .i64 o1, .int .i64 o2, .int .i64 o3, .int .i64 o4, .int .i64 o5, .int .i64 s.cap] 30)).alloc (Obj.cells #[.bool l, .slice ap ps.length cp, .slice at_ t.length ct, .slice ak ks.length ck] 35) := ⟨_, rfl⟩
  have hb0 : Below W.heap.size W w0 := by rw [hw0]; exact (one_below _ _).trans ((one_below _ _).mono (one_below _ _).size)
  have hA : At w0 W.heap.size [.slice a s.rules.length c, strV s.els.type, .int .i64 s.els.text.1, strV s.els.text.2, .int .i64 s.els.other.1, strV s.els.other.2, .slice ea s.els.kids.length ec, .int .i64 s.els.fill, strV s.els.fillT, .int .i64 o0, .int .i64 o1, .int .i64 o2, .int .i64 o3, .int .i64 o4, .int .i64 o5, .int .i64 s.cap] 30 := by rw [hw0]; exact (At.fresh W _ _).alloc _
  have hN : At w0 (W.heap.size + 1) [.bool l, .slice ap ps.length cp, .slice at_ t.length ct, .slice ak ks.length ck] 35 := by rw [hw0]; exact At.second W _ _ _
  have HF := Lib.hid (fun (w' : World) (hb : Below w0.heap.size w0 w') => few19_c s n _ _ _ xs none 0 0 w' (by omega) (by omega) (by omega) (by simp) (hu.keep (hb0.trans (hb.mono hb0.size)) (hb0.trans (hb.mono hb0.size)).size) (hv.keep (hb0.trans (hb.mono hb0.size)) (hb0.trans (hb.mono hb0.size)).size) (hx.keep (hb0.trans (hb.mono hb0.size)) (hb0.trans (hb.mono hb0.size)).size))
  have HL := Lib.hid (live19_c w0)
  have HA := Lib.hid hA; have HN := Lib.hid hN
  have Hb0 := Lib.hid hb0; have Hw0 := Lib.hid hw0
  have hld := fun (w' : World) (h : At w' W.heap.size [.slice a s.rules.length c, strV s.els.type, .int .i64 s.els.text.1, strV s.els.text.2, .int .i64 s.els.other.1, strV s.els.other.2, .slice ea s.els.kids.length ec, .int .i64 s.els.fill, strV s.els.fillT, .int .i64 o0, .int .i64 o1, .int .i64 o2, .int .i64 o3, .int .i64 o4, .int .i64 o5, .int .i64 s.cap] 30) => load_at (P := Tryz.prog) h Tryz.underlying30 rfl (by kernel_rfl)
  simp [go_sem] at hld
  cases hsm : small19 s n (pxs xs) 0 with
  | false =>
    rw [hsm] at HF
    clear hu hv hu0 hv0 hs hn hb0 hw0 hA hN hx hsm hnn
    go_enter Tryz.func4, Tryz.ntmps4
    go_upto_region 1 with fail
    rw [← Hw0.out]
    clear Hw0
    go_wp2_with fail
    refine HL.out.mono ?_
    rintro e w1 ⟨rfl, hbel⟩
    have Hb1 := Lib.hid hbel
    have hS := hld w1 (HA.out.kept hbel)
    obtain ⟨⟨y0, y1, y2, y3⟩, -, yl⟩ := (HN.out.kept hbel).f4
    have HF1 := Lib.hid (HF.out w1 hbel)
    clear hbel HL HF hld
    go_wp2_with fail
    refine HF1.out.mono ?_
    rintro e w2 ⟨rfl, hbel⟩
    have Hb2 := Lib.hid (Hb0.out.trans ((below_and Hb1.out hbel).mono Hb0.out.size))
    clear hbel HF1 hS y0 y1 y2 y3 yl
    go_wp2_with fail
    go_ret
    exact ⟨rfl, Hb2.out⟩
  | true =>
    rw [hsm] at HF
    obtain ⟨hl40, hl30⟩ := small19_len2 hsm
    have hxm : ∀ x ∈ xs, x.1.length ≤ 100000000 := fun x hx => by have := hl40 x.1 (List.mem_map.2 ⟨x, hx, rfl⟩); omega
    have HFi := Lib.hid (fun (w' : World) (hb : Below W.heap.size W w') => fills_c s _ w' (by omega) (hu.keep hb hb.size))
    have HBo := Lib.hid (fun (w' : World) (hb : Below W.heap.size W w') => bound_c s n _ _ _ xs w' hs hn hxl hxm (hu.keep hb hb.size) (hv.keep hb hb.size) (hx.keep hb hb.size))
    have HRg := Lib.hid (fun (w' : World) (hb : Below W.heap.size W w') => region_c n _ W.heap.size _ xs w' (by omega) (hv.keep hb (Nat.le_refl _)) hb.size (hx.keep hb (Nat.le_refl _)) (by omega) hxm)
    have Hreg := Lib.hid (reg_wt hn (pxs xs))
    have Hf0 := Lib.hid (fills_ge s); have Hf1 := Lib.hid (show (fillsS s).1 ≤ 1048580 by have h1 := fills_le s; have h2 := rulesWt_len s.rules; unfold SchemaD.wt at hs; omega)
    have HBd := Lib.hid (show boundS s n (pxs xs) = if (fillsS s).2 ≠ 0 then (0, (fillsS s).2) else ((regN n (pxs xs) : Int) * (4 + 2 * (fillsS s).1), 0) from rfl)
    obtain ⟨BD, hBD⟩ : ∃ BD, BD = boundS s n (pxs xs) := ⟨_, rfl⟩
    rw [← hBD] at HBo HBd
    obtain ⟨RG, hRG⟩ : ∃ RG, RG = regN n (pxs xs) := ⟨_, rfl⟩
    rw [← hRG] at HRg Hreg HBd
    obtain ⟨⟨F1, F2⟩, hFF⟩ : ∃ z, fillsS s = z := ⟨_, rfl⟩
    rw [hFF] at HFi Hf0 Hf1 HBd
    simp only at HFi Hf0 Hf1 HBd
    have HLD := Lib.hid hld
    clear hu hv hu0 hv0 hs hn hb0 hw0 hA hN hx hsm hnn hl40 hl30 hxm hRG hBD hFF hld
    go_enter Tryz.func4, Tryz.ntmps4
    go_upto_region 1 with fail
    rw [← Hw0.out]
    clear Hw0
    go_wp2_with fail
    refine HL.out.mono ?_
    rintro e w1 ⟨rfl, hbel⟩
    have Hb1 := Lib.hid hbel
    have hS := HLD.out w1 (HA.out.kept hbel)
    obtain ⟨⟨y0, y1, y2, y3⟩, -, yl⟩ := (HN.out.kept hbel).f4
    have HF1 := Lib.hid (HF.out w1 hbel)
    clear hbel HL HF
    go_wp2_with fail
    refine HF1.out.mono ?_
    rintro e w2 ⟨rfl, hbel⟩
    have Hb2 := Lib.hid (below_and Hb1.out hbel)
    have hS2 := HLD.out w2 (HA.out.kept Hb2.out)
    have HFi2 := Lib.hid (HFi.out w2 (Hb0.out.trans (Hb2.out.mono Hb0.out.size)))
    have zl2 := (HA.out.kept Hb2.out).lt
    clear hbel HF1 hS y0 y1 y2 y3 yl HFi
    go_wp2_with fail
    refine HFi2.out.mono ?_
    rintro e w3 ⟨rfl, hbel⟩
    have Hb3 := Lib.hid (below_and Hb2.out hbel)
    have hS3 := HLD.out w3 (HA.out.kept Hb3.out)
    obtain ⟨⟨y0, y1, y2, y3⟩, -, yl⟩ := (HN.out.kept Hb3.out).f4
    have HBo3 := Lib.hid (HBo.out w3 (Hb0.out.trans (Hb3.out.mono Hb0.out.size)))
    clear hbel HFi2 hS2 zl2 HBo
    by_cases h0 : F2 = 0
    · subst h0
      have Hz := Lib.hid (show BD = ((RG : Int) * (4 + 2 * F1), 0) by rw [HBd.out, if_neg (by simp)])
      rw [Hz.out] at HBo3
      simp only at HBo3
      go_wp2_with fail
      refine HBo3.out.mono ?_
      rintro e w4 ⟨rfl, hbel⟩
      have Hb4 := Lib.hid (below_and Hb3.out hbel)
      clear hbel HBo3 hS3 y0 y1 y2 y3 yl
      obtain ⟨⟨y0, y1, y2, y3⟩, -, yl⟩ := (HN.out.kept Hb4.out).f4
      have HR4 := Lib.hid (HRg.out w4 (Hb0.out.trans (Hb4.out.mono Hb0.out.size)))
      go_wp2_with fail
      refine HR4.out.mono ?_
      rintro e w5 ⟨rfl, hbel⟩
      have Hb5 := Lib.hid (below_and Hb4.out hbel)
      have hf0 := Hf0.out; have hf1 := Hf1.out; have hreg := Hreg.out
      have hr0 : (0 : Int) ≤ RG := by omega
      have hr1 : (RG : Int) ≤ 1048576 := by omega
      have hm := mul_small hr0 hr1 (show (0 : Int) ≤ 2 * F1 + 4 by omega) (by omega)
      have e1 : IntKind.i64.wrap (2 * F1) = 2 * F1 := IntWalk.i64_in _ (by omega)
      have e2 : IntKind.i64.wrap (2 * F1 + 4) = 2 * F1 + 4 := IntWalk.i64_in _ (by omega)
      have e3 : IntKind.i64.wrap ((RG : Int) * (2 * F1 + 4)) = (RG : Int) * (2 * F1 + 4) := IntWalk.i64_in _ (by omega)
      have e4 : ((RG : Int) * (4 + 2 * F1) == (RG : Int) * (2 * F1 + 4)) = true := by rw [Int.add_comm 4]; simp
      have e5 : decide (0 ≤ F1) = true := decide_eq_true hf0
      clear hbel HR4 y0 y1 y2 y3 yl hf1 hreg hr0 hr1 hm
      go_wp2_with fail
      go_ret
      exact ⟨ret_bool (by simp [e4]), Hb0.out.trans (Hb5.out.mono Hb0.out.size)⟩
    · have Hz := Lib.hid (show BD = (0, F2) by rw [HBd.out, if_pos h0])
      rw [Hz.out] at HBo3
      simp only at HBo3
      go_wp2_with fail
      refine HBo3.out.mono ?_
      rintro e w4 ⟨rfl, hbel⟩
      have Hb4 := Lib.hid (below_and Hb3.out hbel)
      have hF2 : (F2 == F2) = true := by simp
      clear hbel HBo3 hS3 y0 y1 y2 y3 yl
      go_wp2_with fail
      go_ret
      exact ⟨ret_bool (by simp), Hb0.out.trans (Hb4.out.mono Hb0.out.size)⟩

end Go.Proofs.YtajclfjedlkbcaaGreatDoor
/- The frame of the Upto laws whose rows list no table: how paths and schemas that came in are read. -/
namespace Go.Proofs.YtajclfjedlkbcaaGreatDoor
open Go.ChangeShapes Go.WideShapes Go.ChangeAt Go.WideMaps Go.WideElems Go.RowKit Go.Redl Go.Deep
set_option linter.unusedVariables false

theorem own : ownKnob Tryz.prog.godebug = none := by kernel_rfl
theorem laidOut : laidOutB Tryz.prog = true := by kernel_rfl

def IntΦ {H : Type} (z : Int) (cs : List Value) (d : DataW H) : Prop := cs = [.int .i64 z] ∧ 1 ≤ Rows.uptoBulk d
theorem elems_path {H : Type} : ∀ {l : List Int} {css : List Value} {ds : List (DataW H)}, Elems IntΦ l css ds → css = l.map (Value.int .i64) ∧ l.length ≤ Rows.uptoBulkAll ds
  | [], css, ds, h => by obtain ⟨rfl, rfl⟩ := h; exact ⟨rfl, by simp⟩
  | z :: l, css, ds, h => by
    obtain ⟨c, cs, d, ds', rfl, rfl, ⟨rfl, hb⟩, hr⟩ := h
    obtain ⟨rfl, h3⟩ := elems_path hr
    exact ⟨rfl, by simp only [List.length_cons, Rows.uptoBulkAll]; omega⟩
theorem path_of_trod {H : Type} {enc : TypeId × Value → H} {W : World} {fuel : Nat} {cs : List Value} {x : DataW H × List MemPlace} (h : DataW.trod enc Tryz.prog W 0 (fun _ => true) true fuel 47 cs = some x) :
    ∃ a cap zs, cs = [.slice a (List.length zs) cap] ∧ RowA W W.heap.size 1 a (List.length zs) cap (zs.map (Value.int .i64)) ∧ zs.length + 1 ≤ Rows.uptoBulk x.1 := by
  obtain ⟨a, cap, ys, css, ds, rfl, hr, hel, hs⟩ := row_of_trod IntΦ Tryz.underlying47 (show Tryz.prog.cellsOf 3 = 1 by kernel_rfl) (by decide)
    (fun m cs x _ hx => by
      obtain ⟨xv, xp⟩ := x
      obtain ⟨z, e0, e1, -⟩ := DataW.trod_int Tryz.underlying3 hx
      have e2 := (Prod.mk.inj e1).1
      subst e2
      exact ⟨z, e0, by simp [Rows.uptoBulk]⟩) (fun y c d hh => by obtain ⟨rfl, -⟩ := hh; intro u hu; simp at hu; subst hu; rfl) h
  obtain ⟨rfl, hlen⟩ := elems_path hel
  have m0 := slice_bulk (n := 0) (hs.imp (fun h => ⟨h.1, rfl, h.2.2⟩) id)
  exact ⟨a, cap, ys, rfl, hr, by omega⟩

end Go.Proofs.YtajclfjedlkbcaaGreatDoor
/- The frame: how a list of paths that came in is read. -/
namespace Go.Proofs.YtajclfjedlkbcaaGreatDoor
open Go.ChangeShapes Go.WideShapes Go.ChangeAt Go.WideMaps Go.WideElems Go.RowKit Go.Redl Go.Deep
set_option linter.unusedVariables false

def PathΦ {H : Type} (W : World) (x : PX) (cs : List Value) (d : DataW H) : Prop := cs = [pxV x] ∧ RowA W W.heap.size 1 x.2.1 x.1.length x.2.2 (x.1.map (Value.int .i64)) ∧ x.1.length + 1 ≤ Rows.uptoBulk d
theorem elems_px {H : Type} {W : World} : ∀ {l : List PX} {css : List Value} {ds : List (DataW H)}, Elems (PathΦ W) l css ds → css = l.map pxV ∧ (∀ x ∈ l, RowA W W.heap.size 1 x.2.1 x.1.length x.2.2 (x.1.map (Value.int .i64))) ∧ l.length ≤ Rows.uptoBulkAll ds
  | [], css, ds, h => by obtain ⟨rfl, rfl⟩ := h; exact ⟨rfl, by simp, by simp⟩
  | x :: l, css, ds, h => by
    obtain ⟨c, cs, d, ds', rfl, rfl, ⟨rfl, hr, hb⟩, ht⟩ := h
    obtain ⟨rfl, h2, h3⟩ := elems_px ht
    refine ⟨rfl, fun y hy => ?_, by simp only [List.length_cons, Rows.uptoBulkAll]; omega⟩
    rcases List.mem_cons.1 hy with rfl | hy
    · exact hr
    · exact h2 y hy
theorem pathrow_of_trod {H : Type} {enc : TypeId × Value → H} {W : World} {fuel : Nat} {cs : List Value} {x : DataW H × List MemPlace} (h : DataW.trod enc Tryz.prog W 0 (fun _ => true) true fuel 36 cs = some x) :
    ∃ a cap xs, cs = [.slice a (List.length xs) cap] ∧ ReadX W W.heap.size (.slice a (List.length xs) cap) xs ∧ xs.length + 1 ≤ Rows.uptoBulk x.1 := by
  obtain ⟨a, cap, ys, css, ds, rfl, hr, hel, hs⟩ := row_of_trod (PathΦ W) Tryz.underlying36 (show Tryz.prog.cellsOf 47 = 1 by kernel_rfl) (by decide)
    (fun m cs x _ hx => by
      obtain ⟨pa, pc, zs, rfl, h1, h2⟩ := path_of_trod hx
      exact ⟨(zs, pa, pc), rfl, h1, h2⟩) (fun y c d hh => by obtain ⟨rfl, -⟩ := hh; intro u hu; simp at hu; subst hu; rfl) h
  obtain ⟨rfl, hall, hlen⟩ := elems_px hel
  have m0 := slice_bulk (n := 0) (hs.imp (fun h => ⟨h.1, rfl, h.2.2⟩) id)
  exact ⟨a, cap, ys, rfl, ⟨⟨a, cap, rfl, hr⟩, hall⟩, by omega⟩

end Go.Proofs.YtajclfjedlkbcaaGreatDoor
/- Walks: strconv.FormatInt at base 16; glyph.plain, glyph.escaped. -/
namespace Go.Proofs.YtajclfjedlkbcaaGreatDoor
open Go.RowKit Go.Redl
set_option linter.unusedVariables false

end Go.Proofs.YtajclfjedlkbcaaGreatDoor
/- The frame of the Upto laws at this seat. -/
namespace Go.Proofs.YtajclfjedlkbcaaGreatDoor
open Go.ChangeShapes Go.WideShapes Go.ChangeAt Go.WideMaps Go.WideElems Go.RowKit Go.Redl
set_option linter.unusedVariables false


def dB64 : List Int := [0, 1, 56, 2, 57, 49, 28, 3, 61, 58, 42, 50, 38, 29, 17, 4, 62, 47, 59, 36, 45, 43, 51, 22, 53, 39, 33, 30, 24, 18, 12, 5, 63, 55, 48, 27, 60, 41, 37, 16, 46, 35, 44, 21, 52, 32, 23, 11, 54, 26, 40, 15, 34, 20, 31, 10, 25, 14, 19, 9, 13, 8, 7, 6]

end Go.Proofs.YtajclfjedlkbcaaGreatDoor
