/- Parts of the proof, one behind the other: RN3, RR2, RDA, RR3, RTrim, RW1, RG4, RF1, RR1, RR4, RR5, RW2. -/
import Derived.Test.YtmhgbocejjnoaaaGreatDoorPC1
import Derived.Laws.Cover1
import Derived.Shelf.Strings.SlTrimAscii
import Derived.Test.YtmhgbocejjnoaaaGreatDoorProg
import Derived.Lib.SlTrimSet
import Derived.Laws.BytesArg
import Derived.Deep.RegionWith
/- What is asked of trees: may one be, how it is written. Plain functions and their laws. -/
namespace Go.Proofs.YtmhgbocejjnoaaaGreatDoor
open Go.RowKit Go.Redl
set_option linter.unusedVariables false

def lowB (c : UInt8) : Bool := decide (97 ≤ c.toNat ∧ c.toNat ≤ 122)
def valcB (c : UInt8) : Bool := lowB c || decide (48 ≤ c.toNat ∧ c.toNat ≤ 57) || c == 45
def keyB (s : List UInt8) : Bool := decide (1 ≤ s.length ∧ s.length ≤ 16) && s.all lowB
def valB (s : List UInt8) : Bool := decide (s.length ≤ 32) && s.all valcB
def leB (a b : List UInt8) : Bool := Op.bytesLess a b || a == b
/-- The first thing wrong with properties, behind a key. -/
def propsGo : List UInt8 → List PropD → Int
  | _, [] => 0
  | last, p :: ps => if keyB p.1 && valB p.2 then (if leB p.1 last then 1 else propsGo p.1 ps) else 3
def propsE (ps : List PropD) : Int := if 16 < ps.length then 2 else propsGo [] ps
/-- The key ahead of the k-th. -/
def lastK (ps : List PropD) (k : Nat) : List UInt8 := match k with | 0 => [] | k + 1 => (ps.getD k ([], [])).1
theorem propsGo_step {ps : List PropD} {k : Nat} (h : k < ps.length) : propsGo (lastK ps k) (ps.drop k) = if keyB ps[k].1 && valB ps[k].2 then (if leB ps[k].1 (lastK ps k) then 1 else propsGo (lastK ps (k + 1)) (ps.drop (k + 1))) else 3 := by
  conv => lhs; rw [List.drop_eq_getElem_cons h]
  simp only [propsGo]
  rw [show lastK ps (k + 1) = ps[k].1 by show (ps.getD k ([], [])).1 = _; rw [getD_of_lt h]]
theorem propsGo_end {ps : List PropD} {l : List UInt8} : propsGo l (ps.drop ps.length) = 0 := by simp [propsGo]

/-- What is wrong with a node by itself. -/
def ownE (l : Bool) (ps : List PropD) (t : List Int) (m : Nat) : Int := if propsE ps ≠ 0 then propsE ps else if (l && decide (0 < m)) || (!l && decide (0 < t.length)) then 7 else checkE t
mutual
/-- The first thing wrong with a tree. -/
def nodeE : NodeD → Int
  | .mk l ps t ks => if ownE l ps t ks.length ≠ 0 then ownE l ps t ks.length else kidsE ks
def kidsE : List NodeD → Int
  | [] => 0
  | k :: ks => if nodeE k ≠ 0 then nodeE k else kidsE ks
end
mutual
def sizeN : NodeD → Nat
  | .mk _ _ t ks => 1 + t.length + sizeK ks
def sizeK : List NodeD → Nat
  | [] => 0
  | k :: ks => sizeN k + sizeK ks
end
mutual
theorem sizeN_le : ∀ n : NodeD, sizeN n ≤ n.wt
  | .mk l ps t ks => by have := sizeK_le ks; simp only [sizeN, NodeD.wt]; omega
theorem sizeK_le : ∀ ks : List NodeD, sizeK ks ≤ wtAll ks
  | [] => by simp [sizeK, wtAll]
  | k :: ks => by have := sizeN_le k; have := sizeK_le ks; simp only [sizeK, wtAll]; omega
end
theorem sizeK_append (a b : List NodeD) : sizeK (a ++ b) = sizeK a + sizeK b := by
  induction a with
  | nil => simp [sizeK]
  | cons k ks ih => simp only [List.cons_append, sizeK, ih]; omega
theorem sizeK_succ {ks : List NodeD} {k : Nat} (h : k < ks.length) : sizeK (ks.take (k + 1)) = sizeK (ks.take k) + sizeN ks[k] := by
  rw [List.take_succ_eq_append_getElem h, sizeK_append]; simp [sizeK]
theorem kidsE_step {ks : List NodeD} {k : Nat} (h : k < ks.length) : kidsE (ks.drop k) = if nodeE ks[k] ≠ 0 then nodeE ks[k] else kidsE (ks.drop (k + 1)) := by
  conv => lhs; rw [List.drop_eq_getElem_cons h]
  simp only [kidsE]

/-- How a property, and properties, are written. -/
def propL (p : PropD) : List UInt8 := p.1 ++ 58 :: p.2
def propsC : UInt8 → List PropD → List UInt8
  | _, [] => []
  | c, p :: ps => c :: (propL p ++ propsC 44 ps)
def propsL (ps : List PropD) : List UInt8 := if ps.length = 0 then [] else propsC 123 ps ++ [125]
theorem propsC_succ : ∀ (ps : List PropD) (c : UInt8) (k : Nat) (h : k < ps.length), propsC c (ps.take (k + 1)) = propsC c (ps.take k) ++ ((if k = 0 then c else 44) :: propL ps[k])
  | [], c, k, h => absurd h (by simp)
  | p :: ps, c, 0, h => by simp [propsC]
  | p :: ps, c, k + 1, h => by
    have := propsC_succ ps 44 k (by simpa using h)
    simp only [List.take_succ_cons, propsC, this]
    simp
theorem propsC_len : ∀ (ps : List PropD) (c : UInt8), (propsC c ps).length = propsWt ps
  | [], c => rfl
  | p :: ps, c => by
    have := propsC_len ps 44
    simp only [propsC, propsWt, propL, List.length_cons, List.length_append, this]; omega
theorem propsWt_take (ps : List PropD) (k : Nat) : propsWt (ps.take k) ≤ propsWt ps := by
  induction ps generalizing k with
  | nil => simp
  | cons p ps ih =>
    cases k with
    | zero => simp [propsWt]
    | succ k => have := ih k; simp only [List.take_succ_cons, propsWt]; omega
mutual
/-- How a tree is written. -/
def printL : NodeD → List UInt8
  | .mk l ps t ks => propsL ps ++ (if l then quoteL t else 91 :: (printK ks ++ [93]))
def printK : List NodeD → List UInt8
  | [] => []
  | k :: ks => printL k ++ printK ks
end
theorem printK_append (a b : List NodeD) : printK (a ++ b) = printK a ++ printK b := by
  induction a with
  | nil => simp [printK]
  | cons k ks ih => simp only [List.cons_append, printK, ih, List.append_assoc]
theorem printK_succ {ks : List NodeD} {k : Nat} (h : k < ks.length) : printK (ks.take (k + 1)) = printK (ks.take k) ++ printL ks[k] := by
  rw [List.take_succ_eq_append_getElem h, printK_append]; simp [printK]
theorem propsL_len (ps : List PropD) : (propsL ps).length ≤ propsWt ps + 1 := by
  unfold propsL
  split
  · simp
  · simp [propsC_len]
theorem quoteL_len (zs : List Int) : (quoteL zs).length ≤ 22 * zs.length + 2 := by
  have := body_len zs
  simp [quoteL]; omega
mutual
theorem printL_len : ∀ n : NodeD, (printL n).length ≤ 22 * n.wt
  | .mk l ps t ks => by
    have h1 := printK_len ks
    have h2 := propsL_len ps
    have h3 := quoteL_len t
    simp only [printL, NodeD.wt, List.length_append]
    split
    · omega
    · simp only [List.length_cons, List.length_append, List.length_nil]; omega
theorem printK_len : ∀ ks : List NodeD, (printK ks).length ≤ 22 * wtAll ks
  | [] => by simp [printK, wtAll]
  | k :: ks => by
    have h1 := printL_len k
    have h2 := printK_len ks
    simp only [printK, wtAll, List.length_append]; omega
end
theorem printK_take_len (ks : List NodeD) (k : Nat) : (printK (ks.take k)).length ≤ 22 * wtAll ks := by
  have h1 := printK_len (ks.take k)
  have h2 := wtAll_take ks k
  omega

end Go.Proofs.YtmhgbocejjnoaaaGreatDoor
/- Walks: the reference of prop: Key, Val, Check. -/
namespace Go.Proofs.YtmhgbocejjnoaaaGreatDoor
open Go.RowKit Go.Redl
set_option linter.unusedVariables false

theorem all_upto {α : Type} {p : α → Bool} {l : List α} (h : Upto (fun c => !p c) l l.length) : l.all p = true := by
  rw [List.all_eq_true]
  intro x hx
  have := h x (by simpa using hx)
  simpa using this
theorem all_not {α : Type} {p : α → Bool} {l : List α} {k : Nat} (hk : k < l.length) (h : p l[k] = false) : l.all p = false := by
  rw [List.all_eq_false]
  exact ⟨l[k], List.getElem_mem hk, by simp [h]⟩

end Go.Proofs.YtmhgbocejjnoaaaGreatDoor
/- Walks: code's wrong, stands, run. -/
namespace Go.Proofs.YtmhgbocejjnoaaaGreatDoor
open Go.RowKit Go.Redl
set_option linter.unusedVariables false

def standsB (s : List UInt8) (at_ : Nat) (c : UInt8) : Bool := s[at_]? == some c

set_option maxRecDepth 100000 in
set_option maxHeartbeats 1000000 in
theorem wrong_c (a : Int) (W : World) : Calls Tryz.prog 17 #[.int .i64 a] W fun e w' => e = .returned (.agg #[.int .i64 a, .int .i64 11]) ∧ Below W.heap.size W w' := by
  go_enter Tryz.func17, Tryz.ntmps17
  go_wp2_with fail
  exact bodyPost_ret (v := .agg #[.int .i64 a, .int .i64 11]) (by simp [results, Tryz.results17, go_sem]) rfl ⟨rfl, (Below.refl _ _).alloc (Nat.le_refl _) _⟩

set_option maxRecDepth 100000 in
set_option maxHeartbeats 1000000 in
theorem stands_c (s : List UInt8) (k : Nat) (c : UInt8) (n : Int) (hc : (c.toNat : Int) = n) (W : World) (hn : s.length ≤ 1000000000) :
    Calls Tryz.prog 32 #[.string ⟨s.toArray⟩, .int .i64 k, .int .u8 n] W fun e w' => e = .returned (.bool (standsB s k c)) ∧ W = w' := by
  subst hc
  have hall : ∀ x : UInt8, s[k]? = some x → ∀ h, (⟨s.toArray⟩ : ByteArray)[k]'h = x := by
    intro x hx h
    exact Option.some.inj ((List.getElem?_eq_getElem (l := s) h).symm.trans hx)
  have hsz : (⟨s.toArray⟩ : ByteArray).size = s.length := rfl
  have Hs : Hid (standsB s k c = (s[k]? == some c)) := rfl
  generalize (⟨s.toArray⟩ : ByteArray) = S at hall hsz ⊢
  by_cases hlt : k < s.length
  · have hg := hall s[k] (List.getElem?_eq_getElem hlt)
    have hk : s[k]? = some s[k] := List.getElem?_eq_getElem hlt
    generalize s[k] = x at hg hk
    have Hr : Hid (standsB s k c = (x == c)) := by
      show standsB s k c = _
      rw [Hs.out, hk]
      simp
    have Hx : Hid ((x == c) = ((x.toNat : Int) == (c.toNat : Int))) := by
      show (x == c) = _
      rw [Bool.eq_iff_iff]; simp [← UInt8.toNat_inj]
      omega
    clear hk hall Hs
    go_enter Tryz.func32, Tryz.ntmps32
    go_wp2_with fail
    go_ret
    exact ⟨ret_bool (by rw [Hr.out, Hx.out]), rfl⟩
  · have Hr : Hid (standsB s k c = false) := by
      show standsB s k c = _
      rw [Hs.out, List.getElem?_eq_none (by omega)]; rfl
    clear hall Hs
    go_enter Tryz.func32, Tryz.ntmps32
    go_wp2_with fail
    go_ret
    exact ⟨ret_bool Hr.out.symm, rfl⟩

/-- How far a run of such bytes goes. -/
def runN (p : UInt8 → Bool) (s : List UInt8) (at_ : Nat) : Nat := ((s.drop at_).takeWhile p).length
theorem runN_at {p : UInt8 → Bool} {s : List UInt8} {a k : Nat} (h : Upto (fun c => !p c) (s.drop a) k) (hk : a + k ≤ s.length) (he : a + k = s.length ∨ ∃ x, s[a + k]? = some x ∧ p x = false) : runN p s a = k := by
  unfold runN
  have hl : (s.drop a).take k ++ (s.drop a).drop k = s.drop a := List.take_append_drop _ _
  have ha : ∀ c ∈ (s.drop a).take k, p c = true := fun c hc => by simpa using h c hc
  rw [← hl, List.takeWhile_append_of_pos ha, List.drop_drop]
  have hz : (s.drop (a + k)).takeWhile p = [] := by
    rcases he with he | ⟨x, hx, hp⟩
    · rw [he]; simp
    · have hlt : a + k < s.length := by
        rcases Nat.lt_or_ge (a + k) s.length with h | h
        · exact h
        · rw [List.getElem?_eq_none h] at hx; cases hx
      rw [List.drop_eq_getElem_cons hlt, List.takeWhile_cons_of_neg]
      rw [List.getElem?_eq_getElem hlt] at hx
      rw [Option.some.inj hx, hp]; simp
  rw [hz]
  simp; omega

set_option maxRecDepth 100000 in
set_option maxHeartbeats 4000000 in
theorem run_c (s : List UInt8) (a : Nat) (more : Bool) (W : World) (hn : s.length ≤ 1000000000) (ha : a ≤ s.length) :
    Calls Tryz.prog 50 #[.string ⟨s.toArray⟩, .int .i64 a, .bool more] W fun e w' => e = .returned (.int .i64 (runN (if more then valcB else lowB) s a)) ∧ W = w' := by
  have Hall : Hid (∀ (k : Nat) (x : UInt8), s[k]? = some x → ∀ h, (⟨s.toArray⟩ : ByteArray)[k]'h = x) := by
    show ∀ (k : Nat) (x : UInt8), s[k]? = some x → ∀ h, (⟨s.toArray⟩ : ByteArray)[k]'h = x
    intro k x hx h
    exact Option.some.inj ((List.getElem?_eq_getElem (l := s) h).symm.trans hx)
  have hsz : (⟨s.toArray⟩ : ByteArray).size = s.length := rfl
  generalize (⟨s.toArray⟩ : ByteArray) = S at Hall hsz ⊢
  obtain ⟨p, hp⟩ : ∃ p : UInt8 → Bool, p = if more then valcB else lowB := ⟨_, rfl⟩
  rw [← hp]
  have Hp := Lib.hid hp
  clear hp
  go_enter Tryz.func50, Tryz.ntmps50
  go_wp2_with fail
  go_loopw [7] (fun i wr => ∃ k : Nat, a + k ≤ s.length ∧ i = .int .i64 k ∧ Upto (fun c => !p c) (s.drop a) k ∧ W = wr) (fun i _ => s.length - (intOf i).toNat)
  case atStart => exact ⟨0, by omega, rfl, upto_zero _ _, rfl⟩
  case round =>
    obtain ⟨k, hk, rfl, hu, rfl⟩ := hrel
    have Hu := Lib.hid hu
    clear hu
    by_cases hlt : a + k < s.length
    · have hx0 : s[a + k]? = some s[a + k] := List.getElem?_eq_getElem hlt
      have hg := Hall.out (a + k) s[a + k] hx0
      have hdl : k < (s.drop a).length := by simp; omega
      have hde : (s.drop a)[k] = s[a + k] := by simp
      have Hnext := Lib.hid (fun h => upto_succ (p := fun c => !p c) Hu.out hdl h)
      rw [hde] at Hnext
      have Hstop := Lib.hid (fun h => runN_at Hu.out hk (.inr ⟨_, hx0, h⟩))
      have hx8 := s[a + k].toNat_lt
      generalize s[a + k] = x at hg Hnext Hstop hx8
      clear hx0 hdl hde
      have HL : Hid (lowB x = decide (97 ≤ x.toNat ∧ x.toNat ≤ 122)) := rfl
      have HV : Hid (valcB x = (lowB x || decide (48 ≤ x.toNat ∧ x.toNat ≤ 57) || x == 45)) := rfl
      by_cases hl : 97 ≤ x.toNat ∧ x.toNat ≤ 122
      · obtain ⟨h1, h2⟩ := hl
        have Hok : Hid (Upto (fun c => !p c) (s.drop a) (k + 1)) := Hnext.out (by
          have : lowB x = true := by rw [HL.out, decide_eq_true ⟨h1, h2⟩]
          rw [Hp.out]; cases more <;> simp [this, HV.out])
        have h45 : ((x.toNat : Int) == 45) = false := by simp only [beq_eq_false_iff_ne, ne_eq]; omega
        have h57 : decide ((x.toNat : Int) ≤ 57) = false := decide_eq_false (by omega)
        clear Hnext Hstop
        go_wp2_with fail
        go_roundw
        case rel => exact ⟨k + 1, by omega, by go_num, Hok.out, trivial⟩
        case measure => simp [intOf]; omega
      · have Hl0 : Hid (lowB x = false) := by show lowB x = false; rw [HL.out, decide_eq_false hl]
        by_cases hd : 48 ≤ x.toNat ∧ x.toNat ≤ 57 ∨ x.toNat = 45
        · have Hv1 : Hid (valcB x = true) := by
            show valcB x = true
            rw [HV.out]
            rcases hd with h | h
            · rw [decide_eq_true h]; simp
            · have : x = 45 := UInt8.toNat_inj.1 h
              subst this; decide
          cases more with
          | false =>
            have Hr : Hid (runN p s a = k) := Hstop.out (by rw [Hp.out]; exact Hl0.out)
            clear Hnext Hstop hl
            rcases hd with ⟨h1, h2⟩ | h
            · have h45 : ((x.toNat : Int) == 45) = false := by simp only [beq_eq_false_iff_ne, ne_eq]; omega
              go_wp2_with fail
              go_ret
              exact ⟨ret_int (by rw [Hr.out]), rfl⟩
            · have h45 : ((x.toNat : Int)) = 45 := by omega
              clear h hx8
              go_wp2_with fail
              go_ret
              exact ⟨ret_int (by rw [Hr.out]), rfl⟩
          | true =>
            have Hok : Hid (Upto (fun c => !p c) (s.drop a) (k + 1)) := Hnext.out (by rw [Hp.out]; simp [Hv1.out])
            clear Hnext Hstop hl
            rcases hd with ⟨h1, h2⟩ | h
            · have h45 : ((x.toNat : Int) == 45) = false := by simp only [beq_eq_false_iff_ne, ne_eq]; omega
              go_wp2_with fail
              go_roundw
              case rel => exact ⟨k + 1, by omega, by go_num, Hok.out, trivial⟩
              case measure => simp [intOf]; omega
            · have h45 : ((x.toNat : Int)) = 45 := by omega
              clear h hx8
              go_wp2_with fail
              go_roundw
              case rel => exact ⟨k + 1, by omega, by go_num, Hok.out, trivial⟩
              case measure => simp [intOf]; omega
        · have Hr : Hid (runN p s a = k) := Hstop.out (by
            have hv : valcB x = false := by
              rw [HV.out, Hl0.out, decide_eq_false (fun h => hd (.inl h))]
              have : x ≠ 45 := fun h => hd (.inr (by rw [h]; rfl))
              simpa using this
            rw [Hp.out]; cases more <;> simp [Hl0.out, hv])
          have h45 : ((x.toNat : Int) == 45) = false := by simp only [beq_eq_false_iff_ne, ne_eq]; omega
          clear Hnext Hstop
          by_cases h1 : x.toNat < 48
          · have h2 : x.toNat < 97 := by omega
            clear hl hd
            go_wp2_with fail
            go_ret
            exact ⟨ret_int (by rw [Hr.out]), rfl⟩
          · have h1' : 48 ≤ x.toNat := by omega
            have h57 : decide ((x.toNat : Int) ≤ 57) = false := decide_eq_false (by omega)
            by_cases h2 : x.toNat < 97
            · clear hl hd h1
              go_wp2_with fail
              go_ret
              exact ⟨ret_int (by rw [Hr.out]), rfl⟩
            · have h2' : 97 ≤ x.toNat := by omega
              have h122 : decide ((x.toNat : Int) ≤ 122) = false := decide_eq_false (by omega)
              clear hl hd h1 h2
              go_wp2_with fail
              go_ret
              exact ⟨ret_int (by rw [Hr.out]), rfl⟩
    · have hke : a + k = s.length := by omega
      have Hr : Hid (runN p s a = k) := runN_at Hu.out hk (.inl hke)
      clear hke
      go_wp2_with fail
      go_ret
      exact ⟨ret_int (by rw [Hr.out]), rfl⟩

end Go.Proofs.YtmhgbocejjnoaaaGreatDoor
/- Walks: the reference of prop: Check. -/
namespace Go.Proofs.YtmhgbocejjnoaaaGreatDoor
open Go.RowKit Go.Redl
set_option linter.unusedVariables false

theorem props_len {w : World} {B cap n : Nat} {a : Option Addr} {cs : List Value} {sz : Nat} (h : RowA w B sz a n cap cs) : n ≤ 9223372036854775807 := by
  have h1 := h.le; have h2 := h.max; unfold maxLen at h2; omega
theorem str_le (a b : List UInt8) : (Op.bytesLess (⟨a.toArray⟩ : ByteArray).toList (⟨b.toArray⟩ : ByteArray).toList || (⟨a.toArray⟩ : ByteArray).toList == (⟨b.toArray⟩ : ByteArray).toList) = leB a b := by
  rw [ByteArray.toList_mk, ByteArray.toList_mk]; rfl
theorem leB_nil {p : List UInt8} (h : keyB p = true) : leB p [] = false := by
  unfold keyB at h
  cases p with
  | nil => simp at h
  | cons c p => simp [leB, Op.bytesLess]

end Go.Proofs.YtmhgbocejjnoaaaGreatDoor
/- strings.Trim at a set of ASCII bytes: its contract, laid by the kit (its shelf) at this program, in plain words. -/
namespace Go.Proofs
open Go.Shelf
def Tryz.lays160_ren : Go.Shelf.Ren := ⟨fun | 160 => 73 | 232 => 80 | 231 => 79 | 227 => 81 | 234 => 83 | 233 => 82 | 236 => 85 | 235 => 84 | 228 => 92 | 271 => 95 | 151 => 94 | 197 => 93 | 120 => 109 | 152 => 108 | 260 => 107 | 137 => 51 | 119 => 65 | 224 => 115 | 225 => 116 | 217 => 66 | 266 => 75 | n => n, fun | 9 => 9 | 4 => 4 | 3 => 3 | 5 => 5 | 117 => 110 | 116 => 109 | 0 => 0 | 124 => 113 | 21 => 21 | 105 => 95 | 46 => 115 | 119 => 140 | 139 => 143 | 138 => 142 | n => n, fun | 3 => 4 | 4 => 5 | n => n⟩
theorem Tryz.lays160 : Go.Proofs.Lays.n160 Tryz.prog Tryz.lays160_ren := {
  mixed := by kernel_rfl
  f119 := Tryz.func65.trans (congrArg some (by kernel_rfl))
  f120 := Tryz.func109.trans (congrArg some (by kernel_rfl))
  f137 := Tryz.func51.trans (congrArg some (by kernel_rfl))
  f151 := Tryz.func94.trans (congrArg some (by kernel_rfl))
  f152 := Tryz.func108.trans (congrArg some (by kernel_rfl))
  f160 := Tryz.func73.trans (congrArg some (by kernel_rfl))
  f197 := Tryz.func93.trans (congrArg some (by kernel_rfl))
  f217 := Tryz.func66.trans (congrArg some (by kernel_rfl))
  f224 := Tryz.func115.trans (congrArg some (by kernel_rfl))
  f225 := Tryz.func116.trans (congrArg some (by kernel_rfl))
  f227 := Tryz.func81.trans (congrArg some (by kernel_rfl))
  f228 := Tryz.func92.trans (congrArg some (by kernel_rfl))
  f231 := Tryz.func79.trans (congrArg some (by kernel_rfl))
  f232 := Tryz.func80.trans (congrArg some (by kernel_rfl))
  f233 := Tryz.func82.trans (congrArg some (by kernel_rfl))
  f234 := Tryz.func83.trans (congrArg some (by kernel_rfl))
  f235 := Tryz.func84.trans (congrArg some (by kernel_rfl))
  f236 := Tryz.func85.trans (congrArg some (by kernel_rfl))
  f260 := Tryz.func107.trans (congrArg some (by kernel_rfl))
  f266 := Tryz.func75.trans (congrArg some (by kernel_rfl))
  f271 := Tryz.func95.trans (congrArg some (by kernel_rfl))
  t0 := Tryz.underlying0
  a0 := Tryz.isAgg0
  z0 := Tryz.sizeOf0
  v0 := Tryz.zeroValue0
  t3 := Tryz.underlying3
  a3 := Tryz.isAgg3
  z3 := Tryz.sizeOf3
  v3 := Tryz.zeroValue3
  t4 := Tryz.underlying4
  a4 := Tryz.isAgg4
  z4 := Tryz.sizeOf4
  v4 := Tryz.zeroValue4
  t5 := Tryz.underlying5
  a5 := Tryz.isAgg5
  z5 := Tryz.sizeOf5
  v5 := Tryz.zeroValue5
  t9 := Tryz.underlying9
  a9 := Tryz.isAgg9
  z9 := Tryz.sizeOf9
  v9 := Tryz.zeroValue9
  t21 := Tryz.underlying21
  a21 := Tryz.isAgg21
  z21 := Tryz.sizeOf21
  v21 := Tryz.zeroValue21
  t46 := Tryz.underlying115
  a46 := Tryz.isAgg115
  z46 := Tryz.sizeOf115
  v46 := Tryz.zeroValue115
  t105 := Tryz.underlying95
  a105 := Tryz.isAgg95
  z105 := Tryz.sizeOf95
  v105 := Tryz.zeroValue95
  t116 := Tryz.underlying109
  a116 := Tryz.isAgg109
  z116 := Tryz.sizeOf109
  t117 := Tryz.underlying110
  a117 := Tryz.isAgg110
  z117 := Tryz.sizeOf110
  v117 := Tryz.zeroValue110
  t119 := Tryz.underlying140
  a119 := Tryz.isAgg140
  z119 := Tryz.sizeOf140
  t124 := Tryz.underlying113
  a124 := Tryz.isAgg113
  z124 := Tryz.sizeOf113
  v124 := Tryz.zeroValue113
  t138 := Tryz.underlying142
  a138 := Tryz.isAgg142
  z138 := Tryz.sizeOf142
  v138 := Tryz.zeroValue142
  t139 := Tryz.underlying143
  a139 := Tryz.isAgg143
  z139 := Tryz.sizeOf143
  v139 := Tryz.zeroValue143
  g3 := by kernel_rfl
  g4 := by kernel_rfl }
open Go.RowKit in
theorem Tryz.strings_Trim_set (s cutset : ByteArray) (w : World) (hs : s.size ≤ 9223372036854775807) (hcs : cutset.size < 4294967281) (hascii : ∀ (j : Nat) b, cutset.data.toList[j]? = some b → b.toNat < 128) :
    Calls Tryz.prog 73 #[.string s, .string cutset] w fun e w' => e = .returned (.string ⟨(Lib.trimS s.data.toList cutset.data.toList).toArray⟩) ∧ Below w.heap.size w w' := Any.strings_Trim_laid Tryz.lays160 (by kernel_rfl) s cutset w hs hcs hascii
end Go.Proofs
/- Walks: prop's key, val. -/
namespace Go.Proofs.YtmhgbocejjnoaaaGreatDoor
open Go.RowKit Go.Redl
set_option linter.unusedVariables false

theorem dropWhile_all {α : Type} {p : α → Bool} : ∀ {l : List α}, (∀ x ∈ l.dropWhile p, p x = true) → ∀ x ∈ l, p x = true
  | [], _ => by simp
  | a :: l, h => by
    cases ha : p a with
    | true =>
      rw [List.dropWhile_cons_of_pos ha] at h
      intro x hx
      rcases List.mem_cons.1 hx with rfl | hx
      · exact ha
      · exact dropWhile_all h x hx
    | false =>
      rw [List.dropWhile_cons_of_neg (by simp [ha])] at h
      have := h a (by simp)
      rw [ha] at this; cases this
theorem dropWhile_none {α : Type} {p : α → Bool} : ∀ {l : List α}, (∀ x ∈ l, p x = true) → l.dropWhile p = []
  | [], _ => rfl
  | a :: l, h => by
    rw [List.dropWhile_cons_of_pos (h a (by simp))]
    exact dropWhile_none fun x hx => h x (by simp [hx])
theorem trim_nil (l cs : List UInt8) : Lib.trimS l cs = [] ↔ l.all (cs.contains ·) = true := by
  unfold Lib.trimS Lib.trimLeftS Lib.trimRightS
  rw [List.all_eq_true]
  constructor
  · intro h
    have h1 : ∀ x ∈ (l.reverse.dropWhile (cs.contains ·)).reverse, cs.contains x = true := dropWhile_all (by rw [h]; simp)
    have h2 : ∀ x ∈ l.reverse, cs.contains x = true := dropWhile_all fun x hx => h1 x (List.mem_reverse.2 hx)
    exact fun x hx => h2 x (by simpa using hx)
  · intro h
    rw [dropWhile_none (l := l.reverse) fun x hx => h x (by simpa using hx)]
    rfl
def lowSet : List UInt8 := [97, 98, 99, 100, 101, 102, 103, 104, 105, 106, 107, 108, 109, 110, 111, 112, 113, 114, 115, 116, 117, 118, 119, 120, 121, 122]
def valSet : List UInt8 := [97, 98, 99, 100, 101, 102, 103, 104, 105, 106, 107, 108, 109, 110, 111, 112, 113, 114, 115, 116, 117, 118, 119, 120, 121, 122, 48, 49, 50, 51, 52, 53, 54, 55, 56, 57, 45]
theorem low_set (c : UInt8) : lowSet.contains c = lowB c := by
  have h : ∀ n : Fin 256, lowSet.contains (UInt8.ofNat n.1) = lowB (UInt8.ofNat n.1) := by decide +kernel
  have := h ⟨c.toNat, c.toNat_lt⟩
  simpa using this
theorem val_set (c : UInt8) : valSet.contains c = valcB c := by
  have h : ∀ n : Fin 256, valSet.contains (UInt8.ofNat n.1) = valcB (UInt8.ofNat n.1) := by decide +kernel
  have := h ⟨c.toNat, c.toNat_lt⟩
  simpa using this
theorem all_set {s cs : List UInt8} {p : UInt8 → Bool} (h : ∀ c, cs.contains c = p c) : s.all (cs.contains ·) = s.all p := by
  congr 1; funext c; exact h c
/-- strings.Trim, at such a set: is nothing left? -/
theorem trim_c (s cs : List UInt8) (p : UInt8 → Bool) (hp : ∀ c, cs.contains c = p c) (hc : cs.length ≤ 1000) (ha : cs.all (fun b => decide (b.toNat < 128)) = true) (w : World) (hn : s.length ≤ 1000000000) :
    (s.all p = true → Calls Tryz.prog 73 #[.string ⟨s.toArray⟩, .string ⟨cs.toArray⟩] w fun e w' => e = .returned (.string ⟨#[]⟩) ∧ Below w.heap.size w w') ∧
    (s.all p = false → ∃ y ys, Calls Tryz.prog 73 #[.string ⟨s.toArray⟩, .string ⟨cs.toArray⟩] w fun e w' => e = .returned (.string ⟨(y :: ys).toArray⟩) ∧ Below w.heap.size w w') := by
  have h := Tryz.strings_Trim_set ⟨s.toArray⟩ ⟨cs.toArray⟩ w (by show s.length ≤ _; omega) (by show cs.length < _; omega) (fun j b hj => by
    rw [List.all_eq_true] at ha
    have : b ∈ cs := List.mem_of_getElem? (by simpa using hj)
    simpa using ha b this)
  have h0 := trim_nil s cs
  rw [all_set hp] at h0
  constructor
  · intro hs
    have : Lib.trimS (⟨s.toArray⟩ : ByteArray).data.toList (⟨cs.toArray⟩ : ByteArray).data.toList = [] := by simpa using h0.2 hs
    rw [this] at h
    exact h
  · intro hs
    have hne : Lib.trimS (⟨s.toArray⟩ : ByteArray).data.toList (⟨cs.toArray⟩ : ByteArray).data.toList ≠ [] := by
      intro he
      have := h0.1 (by simpa using he)
      rw [hs] at this; cases this
    obtain ⟨y, ys, hy⟩ := List.exists_cons_of_ne_nil hne
    rw [hy] at h
    exact ⟨y, ys, h⟩

set_option maxRecDepth 100000 in
set_option maxHeartbeats 1000000 in
theorem key_c (s : List UInt8) (w : World) (hn : s.length ≤ 1000000000) :
    Calls Tryz.prog 61 #[.string ⟨s.toArray⟩] w fun e w' => e = .returned (.bool (keyB s)) ∧ Below w.heap.size w w' := by
  have Hk : Hid (keyB s = (decide (1 ≤ s.length ∧ s.length ≤ 16) && s.all lowB)) := rfl
  obtain ⟨hT, hF⟩ := trim_c s lowSet lowB low_set (by decide) (by decide +kernel) w hn
  have HT := Lib.hid hT; have HF := Lib.hid hF
  clear hT hF
  cases s with
  | nil =>
    go_enter Tryz.func61, Tryz.ntmps61
    go_wp2_with fail
    go_ret
    exact ⟨ret_bool (by rw [Hk.out]; rfl), Below.refl _ _⟩
  | cons c r =>
    have hsz : (⟨(c :: r).toArray⟩ : ByteArray).size = r.length + 1 := rfl
    have hne : ((⟨(c :: r).toArray⟩ : ByteArray).toList.isEmpty) = false := by rw [ByteArray.toList_mk]; rfl
    have hne2 : (!(⟨(c :: r).toArray⟩ : ByteArray).toList.isEmpty) = true := by rw [ByteArray.toList_mk]; rfl
    obtain ⟨S, hS⟩ : ∃ S, S = (⟨(c :: r).toArray⟩ : ByteArray) := ⟨_, rfl⟩
    rw [← hS] at hsz hne hne2 HT HF ⊢
    by_cases h16 : 16 < r.length + 1
    · have Hz : Hid (keyB (c :: r) = false) := by
        show keyB _ = false
        rw [Hk.out, decide_eq_false (by simp only [List.length_cons]; omega)]; rfl
      clear hS HT HF
      go_enter Tryz.func61, Tryz.ntmps61
      go_wp2_with fail
      go_ret
      exact ⟨ret_bool Hz.out.symm, Below.refl _ _⟩
    · have Hk2 : Hid (keyB (c :: r) = (c :: r).all lowB) := by
        show keyB _ = _
        rw [Hk.out, decide_eq_true (by simp only [List.length_cons]; omega)]; simp
      cases hall : (c :: r).all lowB with
      | true =>
        have HC := Lib.hid (HT.out hall)
        rw [hall] at Hk2
        clear hS HT HF hall
        go_enter Tryz.func61, Tryz.ntmps61
        go_wp2_with fail
        refine HC.out.mono ?_
        rintro e w1 ⟨rfl, hb⟩
        have Hb := Lib.hid hb
        clear hb
        go_wp2_with fail
        go_ret
        exact ⟨ret_bool Hk2.out.symm, Hb.out⟩
      | false =>
        obtain ⟨y, ys, hC⟩ := HF.out hall
        have HC := Lib.hid hC
        rw [hall] at Hk2
        have hn2 : ((⟨(y :: ys).toArray⟩ : ByteArray).toList.isEmpty) = false := by rw [ByteArray.toList_mk]; rfl
        clear hS HT HF hall hC
        go_enter Tryz.func61, Tryz.ntmps61
        go_wp2_with fail
        refine HC.out.mono ?_
        rintro e w1 ⟨rfl, hb⟩
        have Hb := Lib.hid hb
        clear hb
        go_wp2_with fail
        go_ret
        exact ⟨ret_bool Hk2.out.symm, Hb.out⟩

set_option maxRecDepth 100000 in
set_option maxHeartbeats 1000000 in
theorem val_c (s : List UInt8) (w : World) (hn : s.length ≤ 1000000000) :
    Calls Tryz.prog 62 #[.string ⟨s.toArray⟩] w fun e w' => e = .returned (.bool (valB s)) ∧ Below w.heap.size w w' := by
  have Hk : Hid (valB s = (decide (s.length ≤ 32) && s.all valcB)) := rfl
  obtain ⟨hT, hF⟩ := trim_c s valSet valcB val_set (by decide) (by decide +kernel) w hn
  have HT := Lib.hid hT; have HF := Lib.hid hF
  have hsz : (⟨s.toArray⟩ : ByteArray).size = s.length := rfl
  clear hT hF
  obtain ⟨S, hS⟩ : ∃ S, S = (⟨s.toArray⟩ : ByteArray) := ⟨_, rfl⟩
  rw [← hS] at hsz HT HF ⊢
  clear hS
  by_cases h32 : 32 < s.length
  · have Hz : Hid (valB s = false) := by
      show valB _ = false
      rw [Hk.out, decide_eq_false (by omega)]; rfl
    clear HT HF
    go_enter Tryz.func62, Tryz.ntmps62
    go_wp2_with fail
    go_ret
    exact ⟨ret_bool Hz.out.symm, Below.refl _ _⟩
  · have Hk2 : Hid (valB s = s.all valcB) := by
      show valB _ = _
      rw [Hk.out, decide_eq_true (by omega)]; simp
    cases hall : s.all valcB with
    | true =>
      have HC := Lib.hid (HT.out hall)
      rw [hall] at Hk2
      clear HT HF hall
      go_enter Tryz.func62, Tryz.ntmps62
      go_wp2_with fail
      refine HC.out.mono ?_
      rintro e w1 ⟨rfl, hb⟩
      have Hb := Lib.hid hb
      clear hb
      go_wp2_with fail
      go_ret
      exact ⟨ret_bool Hk2.out.symm, Hb.out⟩
    | false =>
      obtain ⟨y, ys, hC⟩ := HF.out hall
      have HC := Lib.hid hC
      rw [hall] at Hk2
      have hn2 : ((⟨(y :: ys).toArray⟩ : ByteArray).toList.isEmpty) = false := by rw [ByteArray.toList_mk]; rfl
      clear HT HF hall hC
      go_enter Tryz.func62, Tryz.ntmps62
      go_wp2_with fail
      refine HC.out.mono ?_
      rintro e w1 ⟨rfl, hb⟩
      have Hb := Lib.hid hb
      clear hb
      go_wp2_with fail
      go_ret
      exact ⟨ret_bool Hk2.out.symm, Hb.out⟩

end Go.Proofs.YtmhgbocejjnoaaaGreatDoor
/- Walks: the reference of glyph, but for its quoting. -/
namespace Go.Proofs.YtmhgbocejjnoaaaGreatDoor
open Go.RowKit Go.Redl
set_option linter.unusedVariables false

set_option maxHeartbeats 400000 in
theorem rsame_c (v1 v2 : Value) (B : Nat) (xs ys : List Int) (w : World) (h1 : Ints .i32 w B v1 xs) (h2 : Ints .i32 w B v2 ys) :
    Calls Tryz.prog 21 #[v1, v2] w fun e w' => e = .returned (.bool (decide (xs = ys))) ∧ Drawn w w' := by
  obtain ⟨⟨a, cap, rfl, hr⟩, -⟩ := h1
  obtain ⟨⟨a', cap', rfl, hr'⟩, -⟩ := h2
  have hm : xs.length ≤ 9223372036854775807 := by have h1 := hr.le; have h2 := hr.max; unfold maxLen at h2; omega
  have hm' : ys.length ≤ 9223372036854775807 := by have h1 := hr'.le; have h2 := hr'.max; unfold maxLen at h2; omega
  by_cases hl : xs.length = ys.length
  · go_enter Tryz.func21, Tryz.ntmps21
    have hle : ys.length ≤ xs.length := by omega
    have hle' : xs.length ≤ ys.length := by omega
    have hne : (((xs.length : Nat) : Int) != (ys.length : Int)) = false := by simp [hl]
    have Hl := Lib.hid hl; clear hl
    go_wp2_with fail
    go_loopw [13] (fun i wr => ∃ k : Nat, k ≤ xs.length ∧ i = .int .i64 k ∧ SameTo xs ys k ∧ Drawn w wr) (fun i _ => xs.length - (intOf i).toNat)
    case atStart => exact ⟨0, Nat.zero_le _, rfl, sameTo_zero _ _, ⟨0, rfl⟩⟩
    case round =>
      obtain ⟨k, hk, rfl, hp, q, rfl⟩ := hrel
      have Hp := Lib.hid hp; clear hp
      by_cases hlt : k < xs.length
      · obtain ⟨b, off, rfl, hb, hcell⟩ := hr.int_at k hlt
        obtain ⟨b', off', rfl, hb', hcell'⟩ := hr'.int_at k (by omega)
        have hcell := hcell k hlt
        have hcell' := hcell' k (by omega)
        have hlt' : k < ys.length := by omega
        rw [getD_of_lt hlt] at hcell
        rw [getD_of_lt hlt'] at hcell'
        go_wp2_with fail
        by_cases he : xs[k] = ys[k]
        · have hne : (xs[k] != ys[k]) = false := by simp [he]
          have He := Lib.hid he; clear he
          go_quiet (fail)
          go_wp2_with fail
          go_roundw
          case rel => exact ⟨k + 1, by omega, by go_num, sameTo_succ Hp.out hlt hlt' He.out, by first | exact drawn_one _ _ | exact drawn_two _ _ _⟩
          case measure => simp [intOf]; omega
        · have hne : (xs[k] != ys[k]) = true := by simp [he]
          have He := Lib.hid he; clear he
          go_quiet (fail)
          go_wp2_with fail
          go_ret
          exact ⟨ret_bool (by simp [same_not hlt hlt' He.out]), drawn_two _ _ _⟩
      · go_wp2_with fail
        go_ret
        obtain rfl : k = xs.length := by omega
        exact ⟨ret_bool (by simp [sameTo_all Hp.out Hl.out]), drawn_one _ _⟩
  · have hne : (((xs.length : Nat) : Int) != (ys.length : Int)) = true := by simp; omega
    have Hl := Lib.hid hl; clear hl
    go_enter Tryz.func21, Tryz.ntmps21
    go_wp2_with fail
    go_ret
    exact ⟨ret_bool (by simp [show xs ≠ ys from fun h => Hl.out (by rw [h])]), drawn_zero _⟩



set_option maxRecDepth 100000 in
set_option maxHeartbeats 400000 in
theorem ris_c (c : Int) (w : World) :
    Calls Tryz.prog 68 #[.int .i32 c] w fun e w' => e = .returned (.bool (validB c)) ∧ w = w' := by
  by_cases h0 : 0 ≤ c
  · by_cases h1 : c ≤ 55295
    · go_enter Tryz.func68, Tryz.ntmps68
      go_wp2
      go_ret
      exact ⟨ret_bool (by unfold validB; simp; omega), rfl⟩
    · by_cases h2 : 57344 ≤ c
      · by_cases h3 : c ≤ 1114111
        · go_enter Tryz.func68, Tryz.ntmps68
          go_wp2
          go_ret
          exact ⟨ret_bool (by unfold validB; simp; omega), rfl⟩
        · go_enter Tryz.func68, Tryz.ntmps68
          go_wp2
          go_ret
          exact ⟨ret_bool (by unfold validB; simp; omega), rfl⟩
      · go_enter Tryz.func68, Tryz.ntmps68
        go_wp2
        go_ret
        exact ⟨ret_bool (by unfold validB; simp; omega), rfl⟩
  · by_cases h2 : 57344 ≤ c
    · omega
    · go_enter Tryz.func68, Tryz.ntmps68
      go_wp2
      go_ret
      exact ⟨ret_bool (by unfold validB; simp; omega), rfl⟩

end Go.Proofs.YtmhgbocejjnoaaaGreatDoor
/- Walks: strconv.FormatInt at base 16; glyph.plain, glyph.escaped. -/
namespace Go.Proofs.YtmhgbocejjnoaaaGreatDoor
open Go.RowKit Go.Redl
set_option linter.unusedVariables false

/-- The one cell of the library's table that is read. -/
def TabAt (w : World) : Prop := w.cell? ⟨7, 15, none⟩ = some (.int .u8 4)

set_option maxRecDepth 100000 in
set_option maxHeartbeats 400000 in
theorem tz64_16 (w : World) (h : w.cell? ⟨7, 15, none⟩ = some (.int .u8 4)) :
    Calls Tryz.prog 114 #[.int .u64 16] w fun e w' => e = .returned (.int .i64 4) ∧ w = w' := by
  have hoff : (IntKind.u64.wrap (bits BinOp.and IntKind.u64 16 (IntKind.u64.wrap (-16)) * 285870213051353865) / 288230376151711744).toNat = 15 := by decide +kernel
  have h' : w.cell? ⟨7, (IntKind.u64.wrap (bits BinOp.and IntKind.u64 16 (IntKind.u64.wrap (-16)) * 285870213051353865) / 288230376151711744).toNat, none⟩ = some (.int .u8 4) := by rw [hoff]; exact h
  clear hoff h
  go_enter Tryz.func114, Tryz.ntmps114
  go_wp2_with fail
  go_ret
  exact ⟨rfl, rfl⟩

set_option maxRecDepth 100000 in
set_option maxHeartbeats 400000 in
theorem tz_16 (w : World) (h : w.cell? ⟨7, 15, none⟩ = some (.int .u8 4)) :
    Calls Tryz.prog 106 #[.int .u64 16] w fun e w' => e = .returned (.int .i64 4) ∧ w = w' := by
  have H := Lib.hid (tz64_16 w h)
  clear h
  go_enter Tryz.func106, Tryz.ntmps106
  go_wp2_with fail
  refine H.out.mono ?_
  rintro e w' ⟨rfl, rfl⟩
  go_wp2_with fail
  go_ret
  exact ⟨rfl, rfl⟩

set_option maxRecDepth 100000 in
set_option maxHeartbeats 400000 in
theorem pow2_16 (w : World) :
    Calls Tryz.prog 105 #[.int .i64 16] w fun e w' => e = .returned (.bool true) ∧ w = w' := by
  go_enter Tryz.func105, Tryz.ntmps105
  go_wp2_with fail
  go_ret
  exact ⟨rfl, rfl⟩

set_option maxRecDepth 100000 in
set_option maxHeartbeats 1000000 in
theorem formatBits_16 (n : Nat) (w : World) (hn : n ≤ 2000000000) (h : TabAt w) (hg : 7 < w.heap.size) :
    Calls Tryz.prog 91 #[.slice none 0 0, .int .u64 n, .int .i64 16, .bool false, .bool false] w fun e w' => e = .returned (.tuple #[.slice none 0 0, .string ⟨(hexL n).toArray⟩]) ∧ Below w.heap.size w w' := by
  go_enter Tryz.func91, Tryz.ntmps91
  go_wp2_with fail
  refine (pow2_16 _).mono ?_
  rintro e w' ⟨rfl, rfl⟩
  go_wp2_with fail
  refine (tz_16 _ ?_).mono ?_
  · rw [← h]; exact World.cell?_of_block (Below.heap_alloc _ _ _ hg)
  rintro e w' ⟨rfl, rfl⟩
  go_wp2_with fail
  have hT : TailAt (w.alloc (Obj.cells Tryz.zeroCells131 131)) w.heap.size 131 65 [] := ⟨⟨_, heap_alloc_new w _, by kernel_rfl, by kernel_rfl⟩⟩
  have HT := Lib.hid hT
  have HB := Lib.hid ((Below.refl w.heap.size w).alloc (Nat.le_refl _) (Obj.cells Tryz.zeroCells131 131))
  have HI := Lib.hid (hinv_start hn)
  clear hT h
  go_loopw [1, 13] (fun x y wr => ∃ (u i : Nat) (L : List UInt8), x = .int .u64 u ∧ y = .int .i64 i ∧ HInv n u L i ∧ TailAt wr w.heap.size 131 i L ∧ Below w.heap.size w wr ∧ u ≤ 2000000000) (fun x _ _ => (intOf x).toNat)
  case atStart => exact ⟨n, 65, [], rfl, rfl, HI.out, HT.out, HB.out, hn⟩
  case round =>
    obtain ⟨u, i, L, rfl, rfl, hI, hT, hB, hu⟩ := hrel
    clear HI HT HB
    obtain ⟨hi1, hi2⟩ := hinv_pos hI
    obtain ⟨x, hc, hf⟩ := hT.cell (i - 1) (by omega)
    by_cases h16 : 16 ≤ u
    · obtain ⟨m, hm⟩ : ∃ m, m = u % 16 := ⟨_, rfl⟩
      have hstep := hinv_step hI h16
      rw [← hm] at hstep
      have HI := Lib.hid hstep
      have HT := Lib.hid (hT.put (by omega) hi2 (dig m))
      have hand : bits BinOp.and IntKind.u64 (u : Int) 15 = (m : Int) := by rw [hm]; exact and15 u hu
      have hm16 : m < 16 := by omega
      clear hm hstep
      have HB := Lib.hid hB
      clear hI hT hB
      go_wp2_with fail
      go_roundw
      case rel =>
        rw [dig_byte m hm16]
        exact ⟨u / 16, i - 1, dig m :: L, by go_num, by go_num, HI.out, HT.out, HB.out.setCell (Nat.le_refl _) _, by omega⟩
      case measure => simp [intOf]; omega
    · have HI := Lib.hid (hinv_end hI (by omega))
      have HT := Lib.hid (hT.put (by omega) hi2 (dig u))
      have HB := Lib.hid hB
      have hu16 : u < 16 := by omega
      have hlen := hinv_len hI (by omega)
      clear hI hT hB
      have hdb := dig_byte u hu16
      have hsl : ∀ W, (Instr.sliceAt 131 (.pointer (some ⟨w.heap.size, 0, none⟩)) (some (.int .i64 ((i : Int) - 1))) none none).run Tryz.prog W = .ok (.slice (some ⟨w.heap.size, i - 1, none⟩) (65 - (i - 1)) (65 - (i - 1))) W := by
        intro W
        rw [run_sliceAt_array_l W 131 ⟨w.heap.size, 0, none⟩ (by kernel_rfl) .i64 ((i : Int) - 1) (by omega) (by rw [show Tryz.prog.arrayLen 131 = 65 by kernel_rfl]; omega)]
        rw [show Tryz.prog.arrayLen 131 = 65 by kernel_rfl, show (sizeOf (Tryz.prog.elem 131)).run Tryz.prog W = .ok 1 W by kernel_rfl]
        simp only [Result.andThen, slicedAt]
        rw [show ((i : Int) - 1).toNat = i - 1 by omega, if_neg (by omega), addr_add]
        simp
      have hcv := HT.out.string (P := Tryz.prog) Tryz.underlying56 Tryz.underlying5 Tryz.underlying9 (65 - (i - 1)) (65 - (i - 1)) hlen
      go_wp2_with fail
      go_ret2
      exact ⟨by rw [HI.out]; rfl, HB.out.setCell (Nat.le_refl _) _⟩

set_option maxRecDepth 100000 in
set_option maxHeartbeats 1000000 in
theorem iformatInt_16 (n : Nat) (w : World) (hn : n ≤ 2000000000) (h : TabAt w) (hg : 7 < w.heap.size) :
    Calls Tryz.prog 78 #[.int .i64 n, .int .i64 16] w fun e w' => e = .returned (.string ⟨(hexL n).toArray⟩) ∧ Below w.heap.size w w' := by
  have H := Lib.hid (formatBits_16 n w hn h hg)
  clear h
  go_enter Tryz.func78, Tryz.ntmps78
  go_wp2_with fail
  refine H.out.mono ?_
  rintro e w1 ⟨rfl, hb⟩
  have Hb := Lib.hid hb
  clear hb
  go_wp2_with fail
  go_ret
  exact ⟨rfl, Hb.out⟩

set_option maxRecDepth 100000 in
set_option maxHeartbeats 1000000 in
theorem formatInt_16 (n : Nat) (w : World) (hn : n ≤ 2000000000) (h : TabAt w) (hg : 7 < w.heap.size) :
    Calls Tryz.prog 72 #[.int .i64 n, .int .i64 16] w fun e w' => e = .returned (.string ⟨(hexL n).toArray⟩) ∧ Below w.heap.size w w' := by
  have H := Lib.hid (iformatInt_16 n w hn h hg)
  clear h
  go_enter Tryz.func72, Tryz.ntmps72
  go_wp2_with fail
  refine H.out.mono ?_
  rintro e w1 ⟨rfl, hb⟩
  have Hb := Lib.hid hb
  clear hb
  go_wp2_with fail
  go_ret
  exact ⟨rfl, Hb.out⟩

set_option maxRecDepth 100000 in
set_option maxHeartbeats 1000000 in
theorem escaped_c (n : Nat) (w : World) (hn : n ≤ 2000000000) (h : TabAt w) (hg : 7 < w.heap.size) :
    Calls Tryz.prog 59 #[.int .i32 n] w fun e w' => e = .returned (.string ⟨(escL n).toArray⟩) ∧ Below w.heap.size w w' := by
  have H := Lib.hid (formatInt_16 n w hn h hg)
  clear h
  have hl : (hexL n).length ≤ 20 := hexL_len n
  go_enter Tryz.func59, Tryz.ntmps59
  go_wp2_with fail
  refine H.out.mono ?_
  rintro e w1 ⟨rfl, hb⟩
  have Hb := Lib.hid hb
  clear hb
  go_wp2_with fail
  rw [esc_string n]
  go_ret
  exact ⟨rfl, Hb.out⟩

set_option maxRecDepth 100000 in
set_option maxHeartbeats 400000 in
theorem plain_c (c : Int) (w : World) :
    Calls Tryz.prog 57 #[.int .i32 c] w fun e w' => e = .returned (.bool (plainB c)) ∧ w = w' := by
  by_cases h1 : 32 ≤ c
  · by_cases h2 : c ≤ 126
    · by_cases h3 : c = 34
      · subst h3
        go_enter Tryz.func57, Tryz.ntmps57
        go_wp2_with fail
        go_ret
        exact ⟨ret_bool (by decide), rfl⟩
      · have b3 : (c != 34) = true := by simp [h3]
        by_cases h4 : c = 92
        · subst h4
          go_enter Tryz.func57, Tryz.ntmps57
          go_wp2_with fail
          go_ret
          exact ⟨ret_bool (by decide), rfl⟩
        · have b4 : (c != 92) = true := by simp [h4]
          have Hp : Hid (plainB c = true) := by show plainB c = true; unfold plainB; simp; omega
          clear h3 h4
          go_enter Tryz.func57, Tryz.ntmps57
          go_wp2_with fail
          go_ret
          exact ⟨ret_bool Hp.out.symm, rfl⟩
    · have Hp : Hid (plainB c = false) := by show plainB c = false; unfold plainB; simp; omega
      go_enter Tryz.func57, Tryz.ntmps57
      go_wp2_with fail
      go_ret
      exact ⟨ret_bool Hp.out.symm, rfl⟩
  · have Hp : Hid (plainB c = false) := by show plainB c = false; unfold plainB; simp; omega
    go_enter Tryz.func57, Tryz.ntmps57
    go_wp2_with fail
    go_ret
    exact ⟨ret_bool Hp.out.symm, rfl⟩

end Go.Proofs.YtmhgbocejjnoaaaGreatDoor
/- Walks: the reference of glyph: how a text is written. -/
namespace Go.Proofs.YtmhgbocejjnoaaaGreatDoor
open Go.RowKit Go.Redl
set_option linter.unusedVariables false

theorem check_valid' {zs : List Int} (h : checkE zs = 0) : ∀ c ∈ zs, validB c = true := by
  intro c hc
  unfold checkE at h
  cases hv : validB c with
  | true => rfl
  | false =>
    have : (zs.any fun c => !validB c) = true := List.any_eq_true.2 ⟨c, hc, by simp [hv]⟩
    rw [this] at h
    cases h

set_option maxRecDepth 100000 in
set_option maxHeartbeats 400000 in
theorem rplain_c (c : Int) (w : World) :
    Calls Tryz.prog 55 #[.int .i32 c] w fun e w' => e = .returned (.bool (plainB c)) ∧ w = w' := by
  by_cases h1 : 32 ≤ c
  · by_cases h2 : c ≤ 126
    · by_cases h3 : c = 34
      · subst h3
        go_enter Tryz.func55, Tryz.ntmps55
        go_wp2_with fail
        go_ret
        exact ⟨ret_bool (by decide), rfl⟩
      · have b3 : (c != 34) = true := by simp [h3]
        by_cases h4 : c = 92
        · subst h4
          go_enter Tryz.func55, Tryz.ntmps55
          go_wp2_with fail
          go_ret
          exact ⟨ret_bool (by decide), rfl⟩
        · have b4 : (c != 92) = true := by simp [h4]
          have Hp : Hid (plainB c = true) := by show plainB c = true; unfold plainB; simp; omega
          clear h3 h4
          go_enter Tryz.func55, Tryz.ntmps55
          go_wp2_with fail
          go_ret
          exact ⟨ret_bool Hp.out.symm, rfl⟩
    · have Hp : Hid (plainB c = false) := by show plainB c = false; unfold plainB; simp; omega
      go_enter Tryz.func55, Tryz.ntmps55
      go_wp2_with fail
      go_ret
      exact ⟨ret_bool Hp.out.symm, rfl⟩
  · have Hp : Hid (plainB c = false) := by show plainB c = false; unfold plainB; simp; omega
    go_enter Tryz.func55, Tryz.ntmps55
    go_wp2_with fail
    go_ret
    exact ⟨ret_bool Hp.out.symm, rfl⟩


theorem dig16 (m : Nat) (hm : m < 16) : (⟨#[48, 49, 50, 51, 52, 53, 54, 55, 56, 57, 97, 98, 99, 100, 101, 102]⟩ : ByteArray).extract m (m + 1) = ⟨[dig m].toArray⟩ := by
  have : m = 0 ∨ m = 1 ∨ m = 2 ∨ m = 3 ∨ m = 4 ∨ m = 5 ∨ m = 6 ∨ m = 7 ∨ m = 8 ∨ m = 9 ∨ m = 10 ∨ m = 11 ∨ m = 12 ∨ m = 13 ∨ m = 14 ∨ m = 15 := by omega
  rcases this with rfl | rfl | rfl | rfl | rfl | rfl | rfl | rfl | rfl | rfl | rfl | rfl | rfl | rfl | rfl | rfl <;> rfl

set_option maxRecDepth 100000 in
set_option maxHeartbeats 1000000 in
theorem rhexF_c (f : Nat) : ∀ (n : Nat) (w : World), n < 16 ^ f → n ≤ 2000000000 → 1 ≤ f → f ≤ 100 →
    Calls Tryz.prog 69 #[.int .i32 n] w fun e w' => e = .returned (.string ⟨(hexF f n).toArray⟩) ∧ w = w' := by
  induction f with
  | zero => intro n w _ _ h _; omega
  | succ f ih =>
    intro n w hn hm _ hf100
    have hd := dig16 (n % 16) (Nat.mod_lt _ (by decide))
    have hlt16 : n % 16 < 16 := Nat.mod_lt _ (by decide)
    have Hh : Hid (hexF (f + 1) n = if n < 16 then [dig n] else hexF f (n / 16) ++ [dig (n % 16)]) := rfl
    by_cases hs : n < 16
    · have Hd := Lib.hid hd
      clear hd ih
      go_enter Tryz.func69, Tryz.ntmps69
      go_wp2_with fail
      go_ret
      refine ⟨congrArg (fun s => Ending.returned (Value.string s)) ?_, rfl⟩
      rw [Hd.out, Hh.out, if_pos hs, Nat.mod_eq_of_lt hs]
    · have hf : 1 ≤ f := by
        rcases Nat.eq_zero_or_pos f with rfl | h
        · simp at hn; omega
        · exact h
      have HI := Lib.hid (ih (n / 16) w (by rw [Nat.pow_succ] at hn; omega) (by omega) hf (by omega))
      have hlen := hexF_len f (n / 16)
      have hq : (n : Int) / 16 = ((n / 16 : Nat) : Int) := by omega
      have Hq := Lib.hid hq
      have Hd := Lib.hid hd
      clear hd ih hq hn hf
      go_enter Tryz.func69, Tryz.ntmps69
      go_wp2_with fail
      rw [Hq.out]
      refine HI.out.mono ?_
      rintro e w1 ⟨rfl, rfl⟩
      go_wp2_with fail
      go_ret
      refine ⟨congrArg (fun s => Ending.returned (Value.string s)) ?_, rfl⟩
      rw [Hd.out, Hh.out, if_neg hs, bytes_append]

theorem rhex_c (n : Nat) (w : World) (h : n ≤ 2000000000) : Calls Tryz.prog 69 #[.int .i32 n] w fun e w' => e = .returned (.string ⟨(hexL n).toArray⟩) ∧ w = w' :=
  rhexF_c 20 n w (Nat.lt_of_le_of_lt h (by decide)) h (by decide) (by decide)

theorem one_byte8 (w : World) (b : Nat) (hb : b < 256) : (convert 56 9 (.slice (some ⟨w.heap.size, 0, none⟩) 1 1)).run Tryz.prog (w.alloc (.cells #[.int .u8 b] 5)) = .ok (.string ⟨[UInt8.ofNat b].toArray⟩) (w.alloc (.cells #[.int .u8 b] 5)) := by
  refine bytes_string Tryz.underlying56 Tryz.underlying5 Tryz.underlying9 w.heap.size 0 1 1 [UInt8.ofNat b] rfl fun j hj => ?_
  have : j = 0 := by simpa using hj
  subst this
  simp only [World.cell?, World.alloc, Array.getElem?_push_size]
  simp [Nat.mod_eq_of_lt hb]

end Go.Proofs.YtmhgbocejjnoaaaGreatDoor
/- Walks: the reference of node: Size. -/
namespace Go.Proofs.YtmhgbocejjnoaaaGreatDoor
open Go.RowKit Go.Redl
set_option linter.unusedVariables false

end Go.Proofs.YtmhgbocejjnoaaaGreatDoor
/- Walks: the reference of node: check, Check. -/
namespace Go.Proofs.YtmhgbocejjnoaaaGreatDoor
open Go.RowKit Go.Redl
set_option linter.unusedVariables false

/-- A box of four cells, behind more memory. -/
theorem box_keep {w w1 : World} {c0 c1 c2 c3 : Value} {T : TypeId} (hb : Below (w.heap.size + 1) (w.alloc (.cells #[c0, c1, c2, c3] T)) w1) :
    w1.cell? ⟨w.heap.size, 0, none⟩ = some c0 ∧ w1.cell? ⟨w.heap.size, 1, none⟩ = some c1 ∧ w1.cell? ⟨w.heap.size, 2, none⟩ = some c2 ∧ w1.cell? ⟨w.heap.size, 3, none⟩ = some c3 := by
  have h : w1.heap[w.heap.size]? = some (.cells #[c0, c1, c2, c3] T (0, 0)) := by
    rw [hb.block w.heap.size (by omega)]
    exact heap_alloc_new w _
  refine ⟨?_, ?_, ?_, ?_⟩ <;> (rw [cell_of_row _ _ _ _ _ _ h]; rfl)
theorem below_box {w w1 : World} {o : Obj} (hb : Below (w.alloc o).heap.size (w.alloc o) w1) : Below (w.heap.size + 1) (w.alloc o) w1 := by
  have : (w.alloc o).heap.size = w.heap.size + 1 := by simp
  rwa [this] at hb
theorem below_unbox {w w1 : World} {o : Obj} (hb : Below (w.heap.size + 1) (w.alloc o) w1) : Below w.heap.size w w1 :=
  ((Below.refl w.heap.size w).alloc (Nat.le_refl _) o).trans (hb.mono (by omega))
theorem below_box_more {w w1 : World} {o o' : Obj} (hb : Below (w.heap.size + 1) (w.alloc o) w1) : Below (w.heap.size + 1) (w.alloc o) (w1.alloc o') :=
  hb.alloc (by have := hb.size; simp at this; omega) o'
theorem ownE_cases (l : Bool) (ps : List PropD) (t : List Int) (m : Nat) : ownE l ps t m = if propsE ps ≠ 0 then propsE ps else if (l && decide (0 < m)) || (!l && decide (0 < t.length)) then 7 else checkE t := rfl

end Go.Proofs.YtmhgbocejjnoaaaGreatDoor
/- Walks: prop.Check. -/
namespace Go.Proofs.YtmhgbocejjnoaaaGreatDoor
open Go.RowKit Go.Redl
set_option linter.unusedVariables false

/-- A box of two cells, behind more memory. -/
theorem box2_keep {w w1 : World} {c0 c1 : Value} {T : TypeId} (hb : Below (w.heap.size + 1) (w.alloc (.cells #[c0, c1] T)) w1) :
    w1.cell? ⟨w.heap.size, 0, none⟩ = some c0 ∧ w1.cell? ⟨w.heap.size, 1, none⟩ = some c1 := by
  have h : w1.heap[w.heap.size]? = some (.cells #[c0, c1] T (0, 0)) := by
    rw [hb.block w.heap.size (by omega)]
    exact heap_alloc_new w _
  refine ⟨?_, ?_⟩ <;> (rw [cell_of_row _ _ _ _ _ _ h]; rfl)
theorem below_then {B : Nat} {w w1 w2 : World} (h : Below B w w1) (h2 : Below w1.heap.size w1 w2) (hB : B ≤ w.heap.size) : Below B w w2 :=
  h.trans (h2.mono (Nat.le_trans hB h.size))

set_option maxRecDepth 100000 in
set_option maxHeartbeats 2000000 in
theorem pcheck_c (v : Value) (B : Nat) (ps : List PropD) (w : World) (hv : ∃ a cap, v = .slice a ps.length cap ∧ RowA w B 2 a ps.length cap (propCells ps)) (hB : B ≤ w.heap.size) (hn : propsWt ps ≤ 1000000000) :
    Calls Tryz.prog 48 #[v] w fun e w' => e = .returned (.int .i64 (propsE ps)) ∧ Below w.heap.size w w' := by
  obtain ⟨a, cap, rfl, hr⟩ := hv
  have hm := props_len hr
  by_cases h16 : 16 < ps.length
  · have He : Hid (propsE ps = if 16 < ps.length then 2 else propsGo [] ps) := rfl
    go_enter Tryz.func48, Tryz.ntmps48
    go_wp2_with fail
    go_ret
    exact ⟨ret_int (by rw [He.out, if_pos h16]), Below.refl _ _⟩
  · have He : Hid (propsE ps = propsGo [] ps) := by
      show propsE ps = _
      unfold propsE; rw [if_neg h16]
    go_enter Tryz.func48, Tryz.ntmps48
    go_wp2_with fail
    go_loopw [3, 11] (fun s i wr => ∃ (k : Nat) (q : List UInt8), k ≤ ps.length ∧ i = .int .i64 k ∧ s = .string ⟨q.toArray⟩ ∧ q = lastK ps k ∧ propsGo q (ps.drop k) = propsE ps ∧ Below w.heap.size w wr) (fun _ i _ => ps.length - (intOf i).toNat)
    case atStart => exact ⟨0, [], Nat.zero_le _, rfl, rfl, rfl, by rw [He.out]; rfl, Below.refl _ _⟩
    case round =>
      obtain ⟨k, q, hk, rfl, rfl, hq, hp, hbel⟩ := hrel
      have hr2 := hr.keep (hbel.mono hB) (Nat.le_refl _)
      have Hp := Lib.hid hp
      have Hb := Lib.hid hbel
      have Hq := Lib.hid hq
      clear hp hbel hq
      by_cases hlt : k < ps.length
      · have Hstep := Lib.hid (propsGo_step hlt)
        rw [← Hq.out] at Hstep
        obtain ⟨b, off, rfl, hb, hc0, hc1⟩ := hr2.prop_at k hlt
        have hmem := propsWt_mem (List.getElem_mem hlt)
        have HK := Lib.hid (key_c ps[k].1)
        have HV := Lib.hid (val_c ps[k].2)
        have hla : Hid (lastK ps (k + 1) = ps[k].1) := by show (ps.getD k ([], [])).1 = _; rw [getD_of_lt hlt]
        generalize ps[k] = p at hc0 hc1 hmem HK HV Hstep hla
        obtain ⟨p1, p2⟩ := p
        simp only at hc0 hc1 hmem HK HV Hstep hla
        have hl1 : p1.length ≤ 1000000000 := by omega
        have hl2 : p2.length ≤ 1000000000 := by omega
        have HK1 := fun W => Lib.hid (HK.out W hl1)
        have HV1 := fun W => Lib.hid (HV.out W hl2)
        clear HK HV hmem
        cases hkey : keyB p1
        · simp only [hkey] at HK1
          go_wp2_with fail
          refine (HK1 _).out.mono ?_
          rintro e w1 ⟨rfl, hbel⟩
          have Hb1 := Lib.hid (below_then Hb.out (below_unbox (below_box hbel)) (Nat.le_refl _))
          clear hbel
          go_wp2_with fail
          go_ret
          exact ⟨ret_int (by rw [← Hp.out, Hstep.out, hkey]; simp), Hb1.out⟩
        · simp only [hkey] at HK1
          cases hval : valB p2
          · simp only [hval] at HV1
            go_wp2_with fail
            refine (HK1 _).out.mono ?_
            rintro e w1 ⟨rfl, hbel⟩
            obtain ⟨x0, x1⟩ := box2_keep (below_box hbel)
            have Hb1 := Lib.hid (below_then Hb.out (below_unbox (below_box hbel)) (Nat.le_refl _))
            clear hbel
            go_wp2_with fail
            refine (HV1 _).out.mono ?_
            rintro e w2 ⟨rfl, hbel⟩
            have Hb2 := Lib.hid (below_then Hb1.out hbel (Nat.le_refl _))
            clear hbel x0 x1
            go_wp2_with fail
            go_ret
            exact ⟨ret_int (by rw [← Hp.out, Hstep.out, hkey, hval]; simp), Hb2.out⟩
          · simp only [hval] at HV1
            have Hkv : Hid (propsE ps = if leB p1 q = true then 1 else propsGo (lastK ps (k + 1)) (ps.drop (k + 1))) := by
              show propsE ps = _
              rw [← Hp.out, Hstep.out, hkey, hval]; simp
            have Hle : Hid (leB p1 q = (Op.bytesLess p1 q || p1 == q)) := rfl
            clear hkey hval
            cases hx : Op.bytesLess p1 q
            · cases hy : (p1 == q)
              · have Hlb : Hid (leB p1 q = false) := by show leB p1 q = false; rw [Hle.out, hx, hy]; rfl
                go_wp2_with fail
                refine (HK1 _).out.mono ?_
                rintro e w1 ⟨rfl, hbel⟩
                obtain ⟨x0, x1⟩ := box2_keep (below_box hbel)
                have Hb1 := Lib.hid (below_then Hb.out (below_unbox (below_box hbel)) (Nat.le_refl _))
                have Hbx := Lib.hid (below_box hbel)
                clear hbel
                go_wp2_with fail
                refine (HV1 _).out.mono ?_
                rintro e w2 ⟨rfl, hbel⟩
                obtain ⟨y0, y1⟩ := box2_keep (below_then Hbx.out hbel (by simp))
                have Hb2 := Lib.hid (below_then Hb1.out hbel (Nat.le_refl _))
                clear hbel x0 x1
                go_wp2_with fail
                go_roundw
                case rel => exact ⟨k + 1, p1, by omega, by go_num, rfl, hla.out.symm, by rw [Hkv.out, hla.out, Hlb.out]; simp, Hb2.out⟩
                case measure => simp [intOf]; omega
              · have Hlb : Hid (leB p1 q = true) := by show leB p1 q = true; rw [Hle.out, hx, hy]; rfl
                go_wp2_with fail
                refine (HK1 _).out.mono ?_
                rintro e w1 ⟨rfl, hbel⟩
                obtain ⟨x0, x1⟩ := box2_keep (below_box hbel)
                have Hb1 := Lib.hid (below_then Hb.out (below_unbox (below_box hbel)) (Nat.le_refl _))
                have Hbx := Lib.hid (below_box hbel)
                clear hbel
                go_wp2_with fail
                refine (HV1 _).out.mono ?_
                rintro e w2 ⟨rfl, hbel⟩
                obtain ⟨y0, y1⟩ := box2_keep (below_then Hbx.out hbel (by simp))
                have Hb2 := Lib.hid (below_then Hb1.out hbel (Nat.le_refl _))
                clear hbel x0 x1
                go_wp2_with fail
                go_ret
                exact ⟨ret_int (by rw [Hkv.out, Hlb.out]; simp), Hb2.out⟩
            · have Hlb : Hid (leB p1 q = true) := by show leB p1 q = true; rw [Hle.out, hx]; rfl
              go_wp2_with fail
              refine (HK1 _).out.mono ?_
              rintro e w1 ⟨rfl, hbel⟩
              obtain ⟨x0, x1⟩ := box2_keep (below_box hbel)
              have Hb1 := Lib.hid (below_then Hb.out (below_unbox (below_box hbel)) (Nat.le_refl _))
              have Hbx := Lib.hid (below_box hbel)
              clear hbel
              go_wp2_with fail
              refine (HV1 _).out.mono ?_
              rintro e w2 ⟨rfl, hbel⟩
              obtain ⟨y0, y1⟩ := box2_keep (below_then Hbx.out hbel (by simp))
              have Hb2 := Lib.hid (below_then Hb1.out hbel (Nat.le_refl _))
              clear hbel x0 x1
              go_wp2_with fail
              go_ret
              exact ⟨ret_int (by rw [Hkv.out, Hlb.out]; simp), Hb2.out⟩
      · obtain rfl : k = ps.length := by omega
        go_wp2_with fail
        go_ret
        exact ⟨ret_int (by rw [← Hp.out, propsGo_end]), Hb.out⟩

end Go.Proofs.YtmhgbocejjnoaaaGreatDoor
