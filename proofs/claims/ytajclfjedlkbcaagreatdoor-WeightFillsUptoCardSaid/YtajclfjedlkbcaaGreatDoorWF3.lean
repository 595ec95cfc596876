/- Parts of the proof, one behind the other: RN3, RR2, RR3, RW1, RCO, RCP, RCQ. -/
import Derived.Test.YtajclfjedlkbcaaGreatDoorWF2
import Derived.Laws.Cover1
import Derived.Test.YtajclfjedlkbcaaGreatDoorWF1
import Derived.Lib.SlTrimSet
import Derived.Deep.LoopGhost
import Derived.Deep.DeepCutAuto
import Derived.Deep.RegionLaw
/- What is asked of trees: may one be, how it is written. Plain functions and their laws. -/
namespace Go.Proofs.YtajclfjedlkbcaaGreatDoor
open Go.RowKit Go.Redl
set_option linter.unusedVariables false

def lowB (c : UInt8) : Bool := decide (97 ≤ c.toNat ∧ c.toNat ≤ 122)
def valcB (c : UInt8) : Bool := lowB c || decide (48 ≤ c.toNat ∧ c.toNat ≤ 57) || c == 45
def keyB (s : List UInt8) : Bool := decide (1 ≤ s.length ∧ s.length ≤ 16) && s.all lowB
def valB (s : List UInt8) : Bool := decide (s.length ≤ 32) && s.all valcB
def leB (a b : List UInt8) : Bool := Op.bytesLess a b || a == b
/-- The first thing wrong with properties, behind a key. -/
def propsGo : List UInt8 → List PropD → Int
  | _, [] => 0
  | last, p :: ps => if keyB p.1 && valB p.2 then (if leB p.1 last then 1 else propsGo p.1 ps) else 3
def propsE (ps : List PropD) : Int := if 16 < ps.length then 2 else propsGo [] ps
/-- The key ahead of the k-th. -/
def lastK (ps : List PropD) (k : Nat) : List UInt8 := match k with | 0 => [] | k + 1 => (ps.getD k ([], [])).1
theorem propsGo_step {ps : List PropD} {k : Nat} (h : k < ps.length) : propsGo (lastK ps k) (ps.drop k) = if keyB ps[k].1 && valB ps[k].2 then (if leB ps[k].1 (lastK ps k) then 1 else propsGo (lastK ps (k + 1)) (ps.drop (k + 1))) else 3 := by
  conv => lhs; rw [List.drop_eq_getElem_cons h]
  simp only [propsGo]
  rw [show lastK ps (k + 1) = ps[k].1 by show (ps.getD k ([], [])).1 = _; rw [getD_of_lt h]]
theorem propsGo_end {ps : List PropD} {l : List UInt8} : propsGo l (ps.drop ps.length) = 0 := by simp [propsGo]

/-- What is wrong with a node by itself. -/
def ownE (l : Bool) (ps : List PropD) (t : List Int) (m : Nat) : Int := if propsE ps ≠ 0 then propsE ps else if (l && decide (0 < m)) || (!l && decide (0 < t.length)) then 7 else checkE t
mutual
/-- The first thing wrong with a tree. -/
def nodeE : NodeD → Int
  | .mk l ps t ks => if ownE l ps t ks.length ≠ 0 then ownE l ps t ks.length else kidsE ks
def kidsE : List NodeD → Int
  | [] => 0
  | k :: ks => if nodeE k ≠ 0 then nodeE k else kidsE ks
end
mutual
def sizeN : NodeD → Nat
  | .mk _ _ t ks => 1 + t.length + sizeK ks
def sizeK : List NodeD → Nat
  | [] => 0
  | k :: ks => sizeN k + sizeK ks
end
mutual
theorem sizeN_le : ∀ n : NodeD, sizeN n ≤ n.wt
  | .mk l ps t ks => by have := sizeK_le ks; simp only [sizeN, NodeD.wt]; omega
theorem sizeK_le : ∀ ks : List NodeD, sizeK ks ≤ wtAll ks
  | [] => by simp [sizeK, wtAll]
  | k :: ks => by have := sizeN_le k; have := sizeK_le ks; simp only [sizeK, wtAll]; omega
end
theorem sizeK_append (a b : List NodeD) : sizeK (a ++ b) = sizeK a + sizeK b := by
  induction a with
  | nil => simp [sizeK]
  | cons k ks ih => simp only [List.cons_append, sizeK, ih]; omega
theorem sizeK_succ {ks : List NodeD} {k : Nat} (h : k < ks.length) : sizeK (ks.take (k + 1)) = sizeK (ks.take k) + sizeN ks[k] := by
  rw [List.take_succ_eq_append_getElem h, sizeK_append]; simp [sizeK]
theorem kidsE_step {ks : List NodeD} {k : Nat} (h : k < ks.length) : kidsE (ks.drop k) = if nodeE ks[k] ≠ 0 then nodeE ks[k] else kidsE (ks.drop (k + 1)) := by
  conv => lhs; rw [List.drop_eq_getElem_cons h]
  simp only [kidsE]

/-- How a property, and properties, are written. -/
def propL (p : PropD) : List UInt8 := p.1 ++ 58 :: p.2
def propsC : UInt8 → List PropD → List UInt8
  | _, [] => []
  | c, p :: ps => c :: (propL p ++ propsC 44 ps)
def propsL (ps : List PropD) : List UInt8 := if ps.length = 0 then [] else propsC 123 ps ++ [125]
theorem propsC_succ : ∀ (ps : List PropD) (c : UInt8) (k : Nat) (h : k < ps.length), propsC c (ps.take (k + 1)) = propsC c (ps.take k) ++ ((if k = 0 then c else 44) :: propL ps[k])
  | [], c, k, h => absurd h (by simp)
  | p :: ps, c, 0, h => by simp [propsC]
  | p :: ps, c, k + 1, h => by
    have := propsC_succ ps 44 k (by simpa using h)
    simp only [List.take_succ_cons, propsC, this]
    simp
theorem propsC_len : ∀ (ps : List PropD) (c : UInt8), (propsC c ps).length = propsWt ps
  | [], c => rfl
  | p :: ps, c => by
    have := propsC_len ps 44
    simp only [propsC, propsWt, propL, List.length_cons, List.length_append, this]; omega
theorem propsWt_take (ps : List PropD) (k : Nat) : propsWt (ps.take k) ≤ propsWt ps := by
  induction ps generalizing k with
  | nil => simp
  | cons p ps ih =>
    cases k with
    | zero => simp [propsWt]
    | succ k => have := ih k; simp only [List.take_succ_cons, propsWt]; omega
mutual
/-- How a tree is written. -/
def printL : NodeD → List UInt8
  | .mk l ps t ks => propsL ps ++ (if l then quoteL t else 91 :: (printK ks ++ [93]))
def printK : List NodeD → List UInt8
  | [] => []
  | k :: ks => printL k ++ printK ks
end
theorem printK_append (a b : List NodeD) : printK (a ++ b) = printK a ++ printK b := by
  induction a with
  | nil => simp [printK]
  | cons k ks ih => simp only [List.cons_append, printK, ih, List.append_assoc]
theorem printK_succ {ks : List NodeD} {k : Nat} (h : k < ks.length) : printK (ks.take (k + 1)) = printK (ks.take k) ++ printL ks[k] := by
  rw [List.take_succ_eq_append_getElem h, printK_append]; simp [printK]
theorem propsL_len (ps : List PropD) : (propsL ps).length ≤ propsWt ps + 1 := by
  unfold propsL
  split
  · simp
  · simp [propsC_len]
theorem quoteL_len (zs : List Int) : (quoteL zs).length ≤ 22 * zs.length + 2 := by
  have := body_len zs
  simp [quoteL]; omega
mutual
theorem printL_len : ∀ n : NodeD, (printL n).length ≤ 22 * n.wt
  | .mk l ps t ks => by
    have h1 := printK_len ks
    have h2 := propsL_len ps
    have h3 := quoteL_len t
    simp only [printL, NodeD.wt, List.length_append]
    split
    · omega
    · simp only [List.length_cons, List.length_append, List.length_nil]; omega
theorem printK_len : ∀ ks : List NodeD, (printK ks).length ≤ 22 * wtAll ks
  | [] => by simp [printK, wtAll]
  | k :: ks => by
    have h1 := printL_len k
    have h2 := printK_len ks
    simp only [printK, wtAll, List.length_append]; omega
end
theorem printK_take_len (ks : List NodeD) (k : Nat) : (printK (ks.take k)).length ≤ 22 * wtAll ks := by
  have h1 := printK_len (ks.take k)
  have h2 := wtAll_take ks k
  omega

end Go.Proofs.YtajclfjedlkbcaaGreatDoor
/- Walks: the reference of prop: Key, Val, Check. -/
namespace Go.Proofs.YtajclfjedlkbcaaGreatDoor
open Go.RowKit Go.Redl
set_option linter.unusedVariables false

theorem all_upto {α : Type} {p : α → Bool} {l : List α} (h : Upto (fun c => !p c) l l.length) : l.all p = true := by
  rw [List.all_eq_true]
  intro x hx
  have := h x (by simpa using hx)
  simpa using this
theorem all_not {α : Type} {p : α → Bool} {l : List α} {k : Nat} (hk : k < l.length) (h : p l[k] = false) : l.all p = false := by
  rw [List.all_eq_false]
  exact ⟨l[k], List.getElem_mem hk, by simp [h]⟩

set_option maxRecDepth 100000 in
set_option maxHeartbeats 1000000 in
theorem rval_c (s : List UInt8) (w : World) (hn : s.length ≤ 1000000000) :
    Calls Tryz.prog 104 #[.string ⟨s.toArray⟩] w fun e w' => e = .returned (.bool (valB s)) ∧ w = w' := by
  have Hall : Hid (∀ (k : Nat) (x : UInt8), s[k]? = some x → ∀ h, (⟨s.toArray⟩ : ByteArray)[k]'h = x) := by
    show ∀ (k : Nat) (x : UInt8), s[k]? = some x → ∀ h, (⟨s.toArray⟩ : ByteArray)[k]'h = x
    intro k x hx h
    exact Option.some.inj ((List.getElem?_eq_getElem (l := s) h).symm.trans hx)
  have hsz : (⟨s.toArray⟩ : ByteArray).size = s.length := rfl
  generalize (⟨s.toArray⟩ : ByteArray) = S at Hall hsz ⊢
  go_enter Tryz.func104, Tryz.ntmps104
  go_wp2_with fail
  go_loop [7] (fun i => ∃ k : Nat, k ≤ s.length ∧ i = .int .i64 k ∧ Upto (fun c => !valcB c) s k) (fun i => s.length - (intOf i).toNat)
  case atStart => exact ⟨0, Nat.zero_le _, rfl, upto_zero _ s⟩
  case round =>
    obtain ⟨k, hk, rfl, hp⟩ := hrel
    have Hp := Lib.hid hp; clear hp
    by_cases hlt : k < s.length
    · have hg := Hall.out k s[k] (List.getElem?_eq_getElem hlt)
      have hx := s[k].toNat_lt
      have Hn1 : Hid (valcB s[k] = (decide (97 ≤ s[k].toNat ∧ s[k].toNat ≤ 122) || decide (48 ≤ s[k].toNat ∧ s[k].toNat ≤ 57) || s[k] == 45)) := rfl
      have Hno := Lib.hid (fun h => all_not (p := valcB) (l := s) hlt h)
      have Hok := Lib.hid (fun (h : valcB s[k] = true) => upto_succ Hp.out hlt (show (!valcB s[k]) = false by rw [h]; rfl))
      generalize s[k] = x at hg hx Hn1 Hno Hok
      have H45 : Hid ((x == 45) = decide (x.toNat = 45)) := by
        show (x == 45) = decide (x.toNat = 45)
        rw [Bool.eq_iff_iff]; simp [← UInt8.toNat_inj]
      have Hbad : Hid (valcB x = false → valB s = false) := by
        show valcB x = false → valB s = false
        intro h; unfold valB; rw [Hno.out h]; simp
      by_cases hv : valcB x = true
      · have HV := Lib.hid (Hok.out hv)
        rw [Hn1.out, H45.out] at hv
        simp only [Bool.or_eq_true, decide_eq_true_eq] at hv
        rcases hv with (h | h) | h
        · obtain ⟨ha, hb⟩ := h
          go_wp2_with fail
          go_round
          case rel => exact ⟨k + 1, by omega, by go_num, HV.out⟩
          case measure => simp [intOf]; omega
        · obtain ⟨ha, hb⟩ := h
          have hc : x.toNat < 97 := by omega
          go_wp2_with fail
          go_round
          case rel => exact ⟨k + 1, by omega, by go_num, HV.out⟩
          case measure => simp [intOf]; omega
        · have hd : (x.toNat : Int) = 45 := by omega
          clear h hx
          go_wp2_with fail
          go_round
          case rel => exact ⟨k + 1, by omega, by go_num, HV.out⟩
          case measure => simp [intOf]; omega
      · have Hv2 := Lib.hid (Hbad.out (by simpa using hv))
        rw [Hn1.out, H45.out] at hv
        simp only [Bool.or_eq_true, decide_eq_true_eq, not_or] at hv
        obtain ⟨⟨h1, h2⟩, h3⟩ := hv
        have h45 : ((x.toNat : Int) == 45) = false := by simp only [beq_eq_false_iff_ne, ne_eq]; omega
        clear h3
        by_cases ha : 97 ≤ x.toNat
        · have hb : decide ((x.toNat : Int) ≤ 122) = false := decide_eq_false (by omega)
          clear h1
          by_cases hc : 48 ≤ x.toNat
          · have hd : decide ((x.toNat : Int) ≤ 57) = false := decide_eq_false (by omega)
            clear h2
            go_wp2_with fail
            go_ret
            exact ⟨ret_bool Hv2.out.symm, rfl⟩
          · omega
        · clear h1
          have ha2 : x.toNat < 97 := by omega
          by_cases hc : 48 ≤ x.toNat
          · have hd : decide ((x.toNat : Int) ≤ 57) = false := decide_eq_false (by omega)
            clear h2
            go_wp2_with fail
            go_ret
            exact ⟨ret_bool Hv2.out.symm, rfl⟩
          · clear h2
            have hc2 : x.toNat < 48 := by omega
            clear hc ha
            go_wp2_with fail
            go_ret
            exact ⟨ret_bool Hv2.out.symm, rfl⟩
    · obtain rfl : k = s.length := by omega
      have Ha := Lib.hid (all_upto Hp.out)
      have Hk : Hid (valB s = (decide (s.length ≤ 32) && s.all valcB)) := rfl
      go_wp2_with fail
      go_ret
      exact ⟨ret_bool (by rw [Hk.out, Ha.out]; simp <;> omega), rfl⟩

end Go.Proofs.YtajclfjedlkbcaaGreatDoor
/- Walks: the reference of prop: Check. -/
namespace Go.Proofs.YtajclfjedlkbcaaGreatDoor
open Go.RowKit Go.Redl
set_option linter.unusedVariables false

theorem str_le (a b : List UInt8) : (Op.bytesLess (⟨a.toArray⟩ : ByteArray).toList (⟨b.toArray⟩ : ByteArray).toList || (⟨a.toArray⟩ : ByteArray).toList == (⟨b.toArray⟩ : ByteArray).toList) = leB a b := by
  rw [ByteArray.toList_mk, ByteArray.toList_mk]; rfl
theorem leB_nil {p : List UInt8} (h : keyB p = true) : leB p [] = false := by
  unfold keyB at h
  cases p with
  | nil => simp at h
  | cons c p => simp [leB, Op.bytesLess]

end Go.Proofs.YtajclfjedlkbcaaGreatDoor
/- Walks: prop's key, val. -/
namespace Go.Proofs.YtajclfjedlkbcaaGreatDoor
open Go.RowKit Go.Redl
set_option linter.unusedVariables false

theorem dropWhile_all {α : Type} {p : α → Bool} : ∀ {l : List α}, (∀ x ∈ l.dropWhile p, p x = true) → ∀ x ∈ l, p x = true
  | [], _ => by simp
  | a :: l, h => by
    cases ha : p a with
    | true =>
      rw [List.dropWhile_cons_of_pos ha] at h
      intro x hx
      rcases List.mem_cons.1 hx with rfl | hx
      · exact ha
      · exact dropWhile_all h x hx
    | false =>
      rw [List.dropWhile_cons_of_neg (by simp [ha])] at h
      have := h a (by simp)
      rw [ha] at this; cases this
theorem dropWhile_none {α : Type} {p : α → Bool} : ∀ {l : List α}, (∀ x ∈ l, p x = true) → l.dropWhile p = []
  | [], _ => rfl
  | a :: l, h => by
    rw [List.dropWhile_cons_of_pos (h a (by simp))]
    exact dropWhile_none fun x hx => h x (by simp [hx])
theorem trim_nil (l cs : List UInt8) : Lib.trimS l cs = [] ↔ l.all (cs.contains ·) = true := by
  unfold Lib.trimS Lib.trimLeftS Lib.trimRightS
  rw [List.all_eq_true]
  constructor
  · intro h
    have h1 : ∀ x ∈ (l.reverse.dropWhile (cs.contains ·)).reverse, cs.contains x = true := dropWhile_all (by rw [h]; simp)
    have h2 : ∀ x ∈ l.reverse, cs.contains x = true := dropWhile_all fun x hx => h1 x (List.mem_reverse.2 hx)
    exact fun x hx => h2 x (by simpa using hx)
  · intro h
    rw [dropWhile_none (l := l.reverse) fun x hx => h x (by simpa using hx)]
    rfl
def lowSet : List UInt8 := [97, 98, 99, 100, 101, 102, 103, 104, 105, 106, 107, 108, 109, 110, 111, 112, 113, 114, 115, 116, 117, 118, 119, 120, 121, 122]
def valSet : List UInt8 := [97, 98, 99, 100, 101, 102, 103, 104, 105, 106, 107, 108, 109, 110, 111, 112, 113, 114, 115, 116, 117, 118, 119, 120, 121, 122, 48, 49, 50, 51, 52, 53, 54, 55, 56, 57, 45]
theorem low_set (c : UInt8) : lowSet.contains c = lowB c := by
  have h : ∀ n : Fin 256, lowSet.contains (UInt8.ofNat n.1) = lowB (UInt8.ofNat n.1) := by decide +kernel
  have := h ⟨c.toNat, c.toNat_lt⟩
  simpa using this
theorem val_set (c : UInt8) : valSet.contains c = valcB c := by
  have h : ∀ n : Fin 256, valSet.contains (UInt8.ofNat n.1) = valcB (UInt8.ofNat n.1) := by decide +kernel
  have := h ⟨c.toNat, c.toNat_lt⟩
  simpa using this
theorem all_set {s cs : List UInt8} {p : UInt8 → Bool} (h : ∀ c, cs.contains c = p c) : s.all (cs.contains ·) = s.all p := by
  congr 1; funext c; exact h c
/-- strings.Trim, at such a set: is nothing left? -/
theorem trim_c (s cs : List UInt8) (p : UInt8 → Bool) (hp : ∀ c, cs.contains c = p c) (hc : cs.length ≤ 1000) (ha : cs.all (fun b => decide (b.toNat < 128)) = true) (w : World) (hn : s.length ≤ 1000000000) :
    (s.all p = true → Calls Tryz.prog 120 #[.string ⟨s.toArray⟩, .string ⟨cs.toArray⟩] w fun e w' => e = .returned (.string ⟨#[]⟩) ∧ Below w.heap.size w w') ∧
    (s.all p = false → ∃ y ys, Calls Tryz.prog 120 #[.string ⟨s.toArray⟩, .string ⟨cs.toArray⟩] w fun e w' => e = .returned (.string ⟨(y :: ys).toArray⟩) ∧ Below w.heap.size w w') := by
  have h := Tryz.strings_Trim_set ⟨s.toArray⟩ ⟨cs.toArray⟩ w (by show s.length ≤ _; omega) (by show cs.length < _; omega) (fun j b hj => by
    rw [List.all_eq_true] at ha
    have : b ∈ cs := List.mem_of_getElem? (by simpa using hj)
    simpa using ha b this)
  have h0 := trim_nil s cs
  rw [all_set hp] at h0
  constructor
  · intro hs
    have : Lib.trimS (⟨s.toArray⟩ : ByteArray).data.toList (⟨cs.toArray⟩ : ByteArray).data.toList = [] := by simpa using h0.2 hs
    rw [this] at h
    exact h
  · intro hs
    have hne : Lib.trimS (⟨s.toArray⟩ : ByteArray).data.toList (⟨cs.toArray⟩ : ByteArray).data.toList ≠ [] := by
      intro he
      have := h0.1 (by simpa using he)
      rw [hs] at this; cases this
    obtain ⟨y, ys, hy⟩ := List.exists_cons_of_ne_nil hne
    rw [hy] at h
    exact ⟨y, ys, h⟩

end Go.Proofs.YtajclfjedlkbcaaGreatDoor
/- Walks: clones of rows; node.Copy. -/
namespace Go.Proofs.YtajclfjedlkbcaaGreatDoor
open Go.RowKit Go.Redl
set_option linter.unusedVariables false

theorem info_propC : (Tryz.prog.info? 68).map (fun i => (i.zero, i.size, i.bytes)) = some (some (.agg #[.string ⟨#[]⟩, .string ⟨#[]⟩]), 2, 32) := by kernel_rfl
theorem info_nodeC : (Tryz.prog.info? 35).map (fun i => (i.zero, i.size, i.bytes)) = some (some (.agg #[.bool false, .slice none 0 0, .slice none 0 0, .slice none 0 0]), 4, 80) := by kernel_rfl

set_option maxRecDepth 100000 in
set_option maxHeartbeats 400000 in
theorem clone_prop (B n : Nat) (a : Option Addr) (cap : Nat) (cs : List Value) (w : World) (hr : RowA w B 2 a n cap cs) (hB : B ≤ w.heap.size) (hn : n ≤ 100000000) :
    Calls Tryz.prog 86 #[.slice a n cap] w (MadeRow w 68 2 n cs) := by
  have hel := fun (w : World) => Lib.run_eql_slice_nil w (P := Tryz.prog) 31 68 a n cap 0 0 Tryz.underlying31
  cases ha : a with
  | none =>
    subst ha
    obtain rfl := hr.nil rfl
    obtain rfl : n = 0 := by have := hr.le; omega
    have hcs : cs = [] := List.eq_nil_of_length_eq_zero (by simpa using hr.len)
    subst hcs
    go_enter Tryz.func86, Tryz.ntmps86
    go_wp2_with fail
    go_ret
    exact ⟨_, rfl, World.ownsRow_nil _ _ _ _, Below.refl _ _⟩
  | some ad =>
    subst ha
    go_enter Tryz.func86, Tryz.ntmps86
    go_wp2_with (at_builtin; refine wpList_app rfl _ _ 31 rfl w.heap.size 68 (.agg #[.string ⟨#[]⟩, .string ⟨#[]⟩]) 2 32 Tryz.underlying31 info_propC rfl (by decide) _ 0 [] rfl ?hown _ n cap B cs rfl ?hr ?h63 ?hb ?hbase ?_)
    case hown => exact World.ownsRow_lit w #[] 0 (Nat.le_refl _) (Nat.zero_le _) rfl
    case hr => exact hr.keep ((Below.refl _ _).alloc hB _) (Nat.le_refl _)
    case h63 => unfold maxLen; omega
    case hb => omega
    case hbase => simp
    intro v' w1 hown hgrow
    have Ho := Lib.hid hown; have Hg := Lib.hid hgrow; clear hown hgrow hel hr
    go_wp2_with fail
    go_ret
    refine ⟨v', rfl, by simpa using Ho.out, ((Below.refl _ _).alloc (Nat.le_refl _) _).grown Hg.out (by simp) ?_⟩
    simp [Value.ownBlock]

set_option maxRecDepth 100000 in
set_option maxHeartbeats 400000 in
theorem clone_node (B n : Nat) (a : Option Addr) (cap : Nat) (cs : List Value) (w : World) (hr : RowA w B 4 a n cap cs) (hB : B ≤ w.heap.size) (hn : n ≤ 100000000) :
    Calls Tryz.prog 88 #[.slice a n cap] w (MadeRow w 35 4 n cs) := by
  have hel := fun (w : World) => Lib.run_eql_slice_nil w (P := Tryz.prog) 33 35 a n cap 0 0 Tryz.underlying33
  cases ha : a with
  | none =>
    subst ha
    obtain rfl := hr.nil rfl
    obtain rfl : n = 0 := by have := hr.le; omega
    have hcs : cs = [] := List.eq_nil_of_length_eq_zero (by simpa using hr.len)
    subst hcs
    go_enter Tryz.func88, Tryz.ntmps88
    go_wp2_with fail
    go_ret
    exact ⟨_, rfl, World.ownsRow_nil _ _ _ _, Below.refl _ _⟩
  | some ad =>
    subst ha
    go_enter Tryz.func88, Tryz.ntmps88
    go_wp2_with (at_builtin; refine wpList_app rfl _ _ 33 rfl w.heap.size 35 (.agg #[.bool false, .slice none 0 0, .slice none 0 0, .slice none 0 0]) 4 80 Tryz.underlying33 info_nodeC rfl (by decide) _ 0 [] rfl ?hown _ n cap B cs rfl ?hr ?h63 ?hb ?hbase ?_)
    case hown => exact World.ownsRow_lit w #[] 0 (Nat.le_refl _) (Nat.zero_le _) rfl
    case hr => exact hr.keep ((Below.refl _ _).alloc hB _) (Nat.le_refl _)
    case h63 => unfold maxLen; omega
    case hb => omega
    case hbase => simp
    intro v' w1 hown hgrow
    have Ho := Lib.hid hown; have Hg := Lib.hid hgrow; clear hown hgrow hel hr
    go_wp2_with fail
    go_ret
    refine ⟨v', rfl, by simpa using Ho.out, ((Below.refl _ _).alloc (Nat.le_refl _) _).grown Hg.out (by simp) ?_⟩
    simp [Value.ownBlock]

set_option maxRecDepth 100000 in
set_option maxHeartbeats 400000 in
theorem clone_runes (B n : Nat) (a : Option Addr) (cap : Nat) (cs : List Value) (w : World) (hr : RowA w B 1 a n cap cs) (hB : B ≤ w.heap.size) (hn : n ≤ 100000000) :
    Calls Tryz.prog 87 #[.slice a n cap] w (MadeRow w 21 1 n cs) := by
  have hel := fun (w : World) => Lib.run_eql_slice_nil w (P := Tryz.prog) 32 21 a n cap 0 0 Tryz.underlying32
  cases ha : a with
  | none =>
    subst ha
    obtain rfl := hr.nil rfl
    obtain rfl : n = 0 := by have := hr.le; omega
    have hcs : cs = [] := List.eq_nil_of_length_eq_zero (by simpa using hr.len)
    subst hcs
    go_enter Tryz.func87, Tryz.ntmps87
    go_wp2_with fail
    go_ret
    exact ⟨_, rfl, World.ownsRow_nil _ _ _ _, Below.refl _ _⟩
  | some ad =>
    subst ha
    go_enter Tryz.func87, Tryz.ntmps87
    go_wp2_with (at_builtin; refine wpList_app rfl _ _ 32 rfl w.heap.size 21 (.int .i32 0) 1 4 Tryz.underlying32 info_int32 rfl (by decide) _ 0 [] rfl ?hown _ n cap B cs rfl ?hr ?h63 ?hb ?hbase ?_)
    case hown => exact World.ownsRow_lit w #[] 0 (Nat.le_refl _) (Nat.zero_le _) rfl
    case hr => exact hr.keep ((Below.refl _ _).alloc hB _) (Nat.le_refl _)
    case h63 => unfold maxLen; omega
    case hb => omega
    case hbase => simp
    intro v' w1 hown hgrow
    have Ho := Lib.hid hown; have Hg := Lib.hid hgrow; clear hown hgrow hel hr
    go_wp2_with fail
    go_ret
    refine ⟨v', rfl, by simpa using Ho.out, ((Below.refl _ _).alloc (Nat.le_refl _) _).grown Hg.out (by simp) ?_⟩
    simp [Value.ownBlock]


end Go.Proofs.YtajclfjedlkbcaaGreatDoor
/- Walks: node.Copy. -/
namespace Go.Proofs.YtajclfjedlkbcaaGreatDoor
open Go.RowKit Go.Redl
set_option linter.unusedVariables false

theorem clp_ent : ∀ args w, (callFunc 86 args).run Tryz.prog w = .ok (.enter 86 args) w := by intro args w; kernel_rfl
theorem clr_ent : ∀ args w, (callFunc 87 args).run Tryz.prog w = .ok (.enter 87 args) w := by intro args w; kernel_rfl
theorem cln_ent : ∀ args w, (callFunc 88 args).run Tryz.prog w = .ok (.enter 88 args) w := by intro args w; kernel_rfl
theorem copy_ent : ∀ args w, (callFunc 40 args).run Tryz.prog w = .ok (.enter 40 args) w := by intro args w; kernel_rfl

/-- Two rows of the call's own, made one behind the other. -/
theorem row_apart {w1 w3 : World} {b1 b3 e e' sz sz' n n' c M : Nat} {a : Option Addr} {u : Value} {cs cs' : List Value} (h1 : w1.ownsRow b1 e sz (.slice a n c) n cs) (ho : ∀ u ∈ cs, u.oneCell' = true) (hb : Below w1.heap.size w1 w3) (h3 : w3.ownsRow b3 e' sz' u n' cs') (hle : w1.heap.size ≤ b3) (hM : M ≤ b1) :
    RowQ w3 (fun b => M ≤ b ∧ u.ownBlock ≠ some b) sz a n c cs := by
  obtain ⟨a', c', hv, hr⟩ := RowQ.of_own h1 ho
  injection hv with e1 e2 e3
  subst e1; subst e3
  refine hr.keep hb.size (fun b _ hlt => hb.block b hlt) (fun b hk hlt => ⟨Nat.le_trans hM (h1.lt b hk).1, fun hu => ?_⟩)
  have := (h3.lt b hu).1
  omega
theorem own_some {w : World} {base e sz n c : Nat} {a : Option Addr} {cs : List Value} (h : w.ownsRow base e sz (.slice a n c) n cs) (hne : cs ≠ []) : ∃ g, a = some ⟨g, 0, none⟩ ∧ base ≤ g := by
  rcases h.2 with ⟨h', h2⟩ | ⟨g, cap, cur, h', hb, hg, -⟩
  · have := h.1
    rw [h2] at this
    exact absurd (List.eq_nil_of_length_eq_zero (by simpa using this)) hne
  · injection h' with e1 e2 e3
    exact ⟨g, e1, hb⟩

theorem KidsQ.len' {w : World} {ok : Nat → Prop} {ks : List NodeD} {css : List Value} (h : KidsQ w ok ks css) : css.length = ks.length * 4 := (KidsQ.kids _ _ h).len
theorem set_four {p q r : List Value} {k : Nat} {a b c d u0 u1 u2 u3 : Value} (hk : p.length = k) (hq : q = a :: b :: c :: d :: r) : ((((p ++ q).set k u0).set (k + 1) u1).set (k + 2) u2).set (k + 3) u3 = (p ++ [u0, u1, u2, u3]) ++ r := by
  subst hq; subst hk
  simp
theorem own_at {w : World} {base e sz n c g : Nat} {cs : List Value} (h : w.ownsRow base e sz (.slice (some ⟨g, 0, none⟩) n c) n cs) (j : Nat) (u : Value) (hu : cs[j]? = some u) : w.cell? ⟨g, j, none⟩ = some u := by
  have := World.ownsRow.cells (g := g) h rfl j u hu
  rw [addr_add] at this
  simpa using this

/-- What Copy gives: the same tree, in memory of its own. -/
def CopyP (W : World) (n : NodeD) (e : Ending) (w' : World) : Prop := ∃ cs, e = .returned (.agg cs.toArray) ∧ NodeQ w' (fun b => W.heap.size ≤ b) n cs ∧ Below W.heap.size W w'

set_option maxRecDepth 100000 in
set_option maxHeartbeats 4000000 in
theorem copy_c (m : Nat) : ∀ (n : NodeD) (v : Value) (W : World), n.wt ≤ m → n.wt ≤ 100000000 → NodeV W W.heap.size n v → Calls Tryz.prog 40 #[v] W (CopyP W n) := by
  induction m with
  | zero => intro n v W hm; have := wt_pos n; omega
  | succ m IH =>
    intro n v W hm hbig hv
    obtain ⟨l, ps, t, ks⟩ := n
    obtain ⟨ap, cp, at_, ct, ak, ck, css, rfl, hp, ht, hk, hkk⟩ := hv.open
    have hwt : wtAll ks ≤ m := by simp only [NodeD.wt] at hm; omega
    have hpl : ps.length ≤ 100000000 := by have := propsWt_len ps; simp only [NodeD.wt] at hbig; omega
    have htl : t.length ≤ 100000000 := by simp only [NodeD.wt] at hbig; omega
    have hkl : ks.length ≤ 100000000 := by have := wtAll_len ks; simp only [NodeD.wt] at hbig; omega
    have hkw : wtAll ks ≤ 100000000 := by simp only [NodeD.wt] at hbig; omega
    obtain ⟨⟨at2, ct2, htv, htr⟩, htw⟩ := ht
    injection htv with e1 e2 e3
    subst e1; subst e3
    have hA := (NodeAt.fresh W (.bool l) (.slice ap ps.length cp) (.slice at_ t.length ct) (.slice ak ks.length ck)).alloc (Obj.cells #[.bool false, .slice none 0 0, .slice none 0 0, .slice none 0 0] 35)
    have hB := node_second W (Obj.cells #[.bool l, .slice ap ps.length cp, .slice at_ t.length ct, .slice ak ks.length ck] 35) (.bool false) (.slice none 0 0) (.slice none 0 0) (.slice none 0 0)
    have hb0 : Below W.heap.size W ((W.alloc (Obj.cells #[.bool l, .slice ap ps.length cp, .slice at_ t.length ct, .slice ak ks.length ck] 35)).alloc (Obj.cells #[.bool false, .slice none 0 0, .slice none 0 0, .slice none 0 0] 35)) := ((Below.refl _ _).alloc (Nat.le_refl _) _).alloc (by simp) _
    have hs0 : ((W.alloc (Obj.cells #[.bool l, .slice ap ps.length cp, .slice at_ t.length ct, .slice ak ks.length ck] 35)).alloc (Obj.cells #[.bool false, .slice none 0 0, .slice none 0 0, .slice none 0 0] 35)).heap.size = W.heap.size + 2 := by simp
    have HI := Lib.hid (fun (i : Nat) (h : i < ks.length) (v : Value) (W2 : World) (q : NodeV W2 W2.heap.size ks[i] v) => IH ks[i] v W2 (Nat.le_trans (wtAll_mem (List.getElem_mem h)) hwt) (Nat.le_trans (wtAll_mem (List.getElem_mem h)) hkw) q)
    have Hp := Lib.hid (hp.keep hb0 (Nat.le_refl _)); have Ht := Lib.hid (htr.keep hb0 (Nat.le_refl _)); have Hk := Lib.hid (hk.keep hb0 (Nat.le_refl _)); have Hkk := Lib.hid (KidsC.keep hb0 (Nat.le_refl _) _ _ hkk)
    have Htone := Lib.hid (show ∀ u ∈ t.map (Value.int .i32), u.oneCell' = true by intro u hu; obtain ⟨z, -, rfl⟩ := List.mem_map.1 hu; rfl); have Hkkone := Lib.hid hkk.one
    have HkkW := Lib.hid hkk
    have Htw := Lib.hid htw; have Hb0 := Lib.hid hb0; have HA := Lib.hid hA; have HB := Lib.hid hB; have Hs0 := Lib.hid hs0
    clear IH hm hbig hv hp htr hk hkk htw hb0 hA hB hwt hkw hs0
    go_enter Tryz.func40, Tryz.ntmps40
    go_upto_region 1 with fail
    obtain ⟨w0, hw0⟩ : ∃ w0, w0 = (W.alloc (Obj.cells #[.bool l, .slice ap ps.length cp, .slice at_ t.length ct, .slice ak ks.length ck] 35)).alloc (Obj.cells #[.bool false, .slice none 0 0, .slice none 0 0, .slice none 0 0] 35) := ⟨_, rfl⟩
    rw [← hw0] at Hp Ht Hk Hkk Hb0 HA HB Hs0 ⊢
    clear hw0
    obtain ⟨x0, x1, x2, x3, ⟨f0, f1, f2, f3⟩, hA4⟩ := HA.out.facts
    go_cut [] (fun wx => ∃ pa pc ta tc ka kc, NodeAt wx W.heap.size (.bool l) (.slice pa ps.length pc) (.slice ta t.length tc) (.slice ka ks.length kc) ∧ NodeAt wx (W.heap.size + 1) (.bool false) (.slice none 0 0) (.slice none 0 0) (.slice none 0 0) ∧
      RowQ wx (fun b => W.heap.size + 2 ≤ b ∧ (Value.slice ka ks.length kc).ownBlock ≠ some b) 2 pa ps.length pc (propCells ps) ∧ RowQ wx (fun b => W.heap.size + 2 ≤ b ∧ (Value.slice ka ks.length kc).ownBlock ≠ some b) 1 ta t.length tc (t.map (Value.int .i32)) ∧
      wx.ownsRow (W.heap.size + 2) 35 4 (.slice ka ks.length kc) ks.length css ∧ Below W.heap.size W wx)
    case first =>
      go_region_law (first
        | (refine step_call rfl 86 _ _ rfl clp_ent [Value.slice ap ps.length cp] ?_ _ (clone_prop W.heap.size ps.length ap cp _ _ (Hp.out.keep ?_ (Nat.le_refl _)) ?_ hpl) ?_
           · go_simp
           · exact (Below.refl _ _).drew
           · show W.heap.size ≤ w0.heap.size; rw [Hs0.out]; omega
           rintro e w1 ⟨v1, rfl, hown, hbel⟩
           obtain ⟨pa, pc, rfl, -⟩ := row_of_own hown (propCells_one _)
           refine ⟨_, rfl, ?_⟩
           have Hbel1 := Lib.hid (((Below.refl w0.heap.size w0).drew).trans hbel); have Hown1 := Lib.hid hown
           have hA1 := HA.out.keep (Hbel1.out.mono (by rw [Hs0.out]; omega))
           obtain ⟨y0, y1, y2, y3, ⟨k0, k1, k2, k3⟩, hA5⟩ := hA1.facts
           clear hbel hown hA1)
        | (refine step_call rfl 87 _ _ rfl clr_ent [Value.slice at_ t.length ct] ?_ _ (clone_runes W.heap.size t.length at_ ct _ _ (Ht.out.keep (Hbel1.out.mono ?_) (Nat.le_refl _)) ?_ htl) ?_
           · go_simp
           · rw [Hs0.out]; omega
           · have := Hbel1.out.size; rw [Hs0.out] at this; omega
           rintro e w2 ⟨v2, rfl, hown, hbel⟩
           obtain ⟨ta, tc, rfl, -⟩ := row_of_own hown Htone.out
           refine ⟨_, rfl, ?_⟩
           have Hbel2 := Lib.hid (Hbel1.out.trans (hbel.mono Hbel1.out.size)); have Hown2 := Lib.hid hown; have Hbel12 := Lib.hid hbel
           have hA1 := HA.out.keep (Hbel2.out.mono (by rw [Hs0.out]; omega))
           obtain ⟨z0, z1, z2, z3, ⟨g0, g1, g2, g3⟩, hA6⟩ := hA1.facts
           clear hbel hown hA1)
        | (refine step_call rfl 88 _ _ rfl cln_ent [Value.slice ak ks.length ck] ?_ _ (clone_node W.heap.size ks.length ak ck _ _ (Hk.out.keep (Hbel2.out.mono ?_) (Nat.le_refl _)) ?_ hkl) ?_
           · go_simp
           · rw [Hs0.out]; omega
           · have := Hbel2.out.size; rw [Hs0.out] at this; omega
           rintro e w3 ⟨v3, rfl, hown, hbel⟩
           obtain ⟨ka, kc, rfl, -⟩ := row_of_own hown Hkkone.out
           refine ⟨_, rfl, ?_⟩
           have Hbel3 := Lib.hid (Hbel2.out.trans (hbel.mono Hbel2.out.size)); have Hown3 := Lib.hid hown; have Hbel23 := Lib.hid hbel
           have hA1 := HA.out.keep (Hbel3.out.mono (by rw [Hs0.out]; omega))
           obtain ⟨t0, t1, t2, t3, ⟨r0, r1, r2, r3⟩, hA7⟩ := hA1.facts
           have HA3 := Lib.hid hA1
           clear hbel hown hA1))
      all_goals
        go_wp2_with fail
        go_meet
        case rel =>
          have hM3 : W.heap.size + 2 ≤ w0.heap.size := by rw [Hs0.out]; omega
          have hrp := row_apart (M := W.heap.size + 2) Hown1.out (propCells_one _) (Hbel12.out.trans (Hbel23.out.mono Hbel12.out.size)) Hown3.out Hbel12.out.size hM3
          have hrt := row_apart (M := W.heap.size + 2) Hown2.out Htone.out Hbel23.out Hown3.out (Nat.le_refl _) (Nat.le_trans hM3 Hbel1.out.size)
          have hkM : W.heap.size + 2 ≤ w2.heap.size := Nat.le_trans hM3 Hbel2.out.size
          have hn1 : ¬ (W.heap.size + 2 ≤ W.heap.size ∧ (Value.slice ka ks.length kc).ownBlock ≠ some W.heap.size) := fun h => by omega
          refine ⟨pa, pc, ta, tc, ka, kc, ?_, ?_, ?_, ?_, ?_, ?_⟩
          · exact ((HA3.out.s1 _).s2 _).s3 _
          · exact (((HB.out.keep (Hbel3.out.mono (by rw [Hs0.out]; omega))).set (by omega)).set (by omega)).set (by omega)
          · exact rowq_set (rowq_set (rowq_set hrp hn1) hn1) hn1
          · exact rowq_set (rowq_set (rowq_set hrt hn1) hn1) hn1
          · exact own_mono (ownsRow_setCell_below (a := ⟨W.heap.size, 3, none⟩) (ownsRow_setCell_below (a := ⟨W.heap.size, 2, none⟩) (ownsRow_setCell_below (a := ⟨W.heap.size, 1, none⟩) Hown3.out (show W.heap.size < w2.heap.size by omega) _) (show W.heap.size < w2.heap.size by omega) _) (show W.heap.size < w2.heap.size by omega) _) hkM
          · exact ((((Hb0.out.trans (Hbel3.out.mono (by rw [Hs0.out]; omega))).setCell (p := ⟨W.heap.size, 1, none⟩) (Nat.le_refl _) _).setCell (p := ⟨W.heap.size, 2, none⟩) (Nat.le_refl _) _).setCell (p := ⟨W.heap.size, 3, none⟩) (Nat.le_refl _) _)
    case rest =>
      obtain ⟨pa, pc, ta, tc, ka, kc, hA, hB, hrp, hrt, hown, hbel⟩ := hcut
      obtain ⟨y0, y1, y2, y3, -, hA5⟩ := hA.facts
      have Hi := Lib.hid (show _ ∧ _ ∧ _ ∧ _ ∧ _ ∧ _ from ⟨hA, hB, hrp, hrt, hown, hbel⟩)
      clear hA hB hrp hrt hown hbel x0 x1 x2 x3 f0 f1 f2 f3 hA4 HA HB Hp Ht Hk
      go_wp2_with fail
      clear y0 y1 y2 y3 hA5
      go_loopg [20] ks.length (fun g i wr => ∃ (j : Nat) (csN : List Value), i = .int .i64 j ∧ j + g = ks.length ∧ NodeAt wr W.heap.size (.bool l) (.slice pa ps.length pc) (.slice ta t.length tc) (.slice ka ks.length kc) ∧ NodeAt wr (W.heap.size + 1) (.bool false) (.slice none 0 0) (.slice none 0 0) (.slice none 0 0) ∧
        RowQ wr (fun b => W.heap.size + 2 ≤ b ∧ (Value.slice ka ks.length kc).ownBlock ≠ some b) 2 pa ps.length pc (propCells ps) ∧ RowQ wr (fun b => W.heap.size + 2 ≤ b ∧ (Value.slice ka ks.length kc).ownBlock ≠ some b) 1 ta t.length tc (t.map (Value.int .i32)) ∧
        wr.ownsRow (W.heap.size + 2) 35 4 (.slice ka ks.length kc) ks.length (csN ++ css.drop (j * 4)) ∧ KidsQ wr (fun b => W.heap.size + 2 ≤ b ∧ (Value.slice ka ks.length kc).ownBlock ≠ some b) (ks.take j) csN ∧ Below W.heap.size W wr)
      case atStart =>
        obtain ⟨hA, hB, hrp, hrt, hown, hbel⟩ := Hi.out
        exact ⟨0, [], rfl, by omega, hA, hB, hrp, hrt, by simpa using hown, by unfold KidsQ; simp, hbel⟩
      case round =>
        obtain ⟨j, csN, rfl, hg, hA, hB, hrp, hrt, hown, hkids, hbel⟩ := hrel
        obtain ⟨y0, y1, y2, y3, ⟨p0, p1, p2, p3⟩, hA5⟩ := hA.facts
        obtain ⟨z0, z1, z2, z3, ⟨q0, q1, q2, q3⟩, hB5⟩ := hB.facts
        have hcl := KidsQ.len' hkids
        have hclen := Hkk.out.len
        have HA2 := Lib.hid hA; have HB2 := Lib.hid hB; have Hrp := Lib.hid hrp; have Hrt := Lib.hid hrt; have Hown := Lib.hid hown; have Hkids := Lib.hid hkids; have Hbel := Lib.hid hbel
        clear hA hB hrp hrt hkids
        by_cases hlt : j < ks.length
        · obtain ⟨c, hc, hall⟩ := HkkW.out.at_ j hlt
          have hc' := NodeC.keep hbel (Nat.le_refl _) _ _ hc
          obtain ⟨l1, a1, n1, c1, a2, n2, c2, a3, n3, c3, rfl⟩ := hc'.form
          have hcj : csN.length = j * 4 := by rw [hcl, List.length_take, Nat.min_eq_left (by omega)]
          have hjl : j * 4 + 4 ≤ css.length := by rw [hclen]; omega
          obtain ⟨g, rfl, hgM⟩ := own_some Hown.out (by
            intro e
            have := congrArg List.length e
            simp only [List.length_append, List.length_drop, List.length_nil] at this
            omega)
          have hgl : g < wr.heap.size := (Hown.out.lt g rfl).2
          have hat : ∀ i, i < 4 → (csN ++ css.drop (j * 4))[j * 4 + i]? = [Value.bool l1, .slice a1 n1 c1, .slice a2 n2 c2, .slice a3 n3 c3][i]? := by
            intro i hi
            rw [List.getElem?_append_right (by omega), List.getElem?_drop, hcj, show j * 4 + (j * 4 + i - j * 4) = j * 4 + i by omega]
            exact hall i hi
          have k0 := own_at Hown.out _ _ (hat 0 (by omega))
          have k1 := own_at Hown.out _ _ (hat 1 (by omega))
          have k2 := own_at Hown.out _ _ (hat 2 (by omega))
          have k3 := own_at Hown.out _ _ (hat 3 (by omega))
          have hdrop : ∃ x0 x1 x2 x3, css.drop (j * 4) = x0 :: x1 :: x2 :: x3 :: css.drop ((j + 1) * 4) := by
            refine ⟨css[j * 4], css[j * 4 + 1], css[j * 4 + 2], css[j * 4 + 3], ?_⟩
            rw [List.drop_eq_getElem_cons (by omega), List.drop_eq_getElem_cons (by omega), List.drop_eq_getElem_cons (by omega), List.drop_eq_getElem_cons (by omega)]
            rw [show (j + 1) * 4 = j * 4 + 1 + 1 + 1 + 1 by omega]
          have hlti : (j : Int) < ks.length := by omega
          have HC := Lib.hid (fun (W' : World) (hbw : Below wr.heap.size wr W') => HI.out j hlt (.agg #[.bool l1, .slice a1 n1 c1, .slice a2 n2 c2, .slice a3 n3 c3]) W' ⟨_, rfl, NodeC.keep (hbw.mono hbel.size) (Nat.le_trans hbel.size hbw.size) _ _ hc'⟩)
          have Hdrop := Lib.hid hdrop; have Hcj := Lib.hid hcj
          have hW := hbel.size
          have hgne : g ≠ W.heap.size := by omega
          clear hc hc' hall hat hdrop hcj hown hbel Hi hcl hclen hjl
          simp only [Nat.add_zero] at k0
          go_wp2_with fail
          go_region_law (first
            | (refine step_call rfl 40 _ _ rfl copy_ent [Value.agg #[.bool l1, .slice a1 n1 c1, .slice a2 n2 c2, .slice a3 n3 c3]] ?_ _ (HC.out _ ?_) ?_
               · go_simp
               · exact ((Below.refl _ _).alloc (Nat.le_refl _) _).drew
               rintro e w6 ⟨cs', rfl, hnode, hbel6⟩
               obtain ⟨m1, b1, o1, d1, b2, o2, d2, b3, o3, d3, rfl⟩ := hnode.form
               refine ⟨_, rfl, ?_⟩
               have Hb6 := Lib.hid ((((Below.refl wr.heap.size wr).alloc (Nat.le_refl _) (Obj.cells #[.bool l1, .slice a1 n1 c1, .slice a2 n2 c2, .slice a3 n3 c3] 35)).drew).trans (hbel6.mono (by show wr.heap.size ≤ (wr.alloc _).heap.size; simp)))
               have hA6 := HA2.out.keep (Hb6.out.mono (by omega))
               have hown6 := own_keep Hown.out Hb6.out
               have r0 := hown6.frozenAt (j * 4); have r1 := hown6.frozenAt (j * 4 + 1); have r2 := hown6.frozenAt (j * 4 + 2); have r3 := hown6.frozenAt (j * 4 + 3)
               have hg6 := (hown6.lt g rfl).2
               have k0' := (Hb6.out.cell (p := ⟨g, j * 4, none⟩) hgl).trans k0; have k1' := (Hb6.out.cell (p := ⟨g, j * 4 + 1, none⟩) hgl).trans k1; have k2' := (Hb6.out.cell (p := ⟨g, j * 4 + 2, none⟩) hgl).trans k2; have k3' := (Hb6.out.cell (p := ⟨g, j * 4 + 3, none⟩) hgl).trans k3
               obtain ⟨s0, s1, s2, s3, -, hA7⟩ := hA6.facts
               have HA6 := Lib.hid hA6; have Hown6 := Lib.hid hown6; have Hnode := Lib.hid hnode
               clear hA6 hown6 hnode hbel6))
          all_goals
            go_wp2_with fail
            go_roundg (gk - 1)
            case measure => omega
            case rel =>
              have hz : (Value.slice (some ⟨g, 0, none⟩) ks.length kc).ownBlock = some g := by simp [Value.ownBlock]
              obtain ⟨x0, x1, x2, x3, hdr⟩ := Hdrop.out
              have hs := (((Hown6.out.stored (j * 4) (.bool m1)).1.stored (j * 4 + 1) (.slice b1 o1 d1)).1.stored (j * 4 + 2) (.slice b2 o2 d2)).1.stored (j * 4 + 3) (.slice b3 o3 d3) |>.1
              rw [set_four Hcj.out hdr] at hs
              have hng : ¬ (W.heap.size + 2 ≤ g ∧ (Value.slice (some ⟨g, 0, none⟩) ks.length kc).ownBlock ≠ some g) := fun h => h.2 hz
              have hk6 := KidsQ.keep (w' := w6) (ok' := fun b => W.heap.size + 2 ≤ b ∧ (Value.slice (some ⟨g, 0, none⟩) ks.length kc).ownBlock ≠ some b) Hb6.out.size (fun b _ hlt => Hb6.out.block b hlt) (fun b hb _ => hb) _ _ Hkids.out
              have hrp6 := Hrp.out.keep (w' := w6) (ok' := fun b => W.heap.size + 2 ≤ b ∧ (Value.slice (some ⟨g, 0, none⟩) ks.length kc).ownBlock ≠ some b) Hb6.out.size (fun b _ hlt => Hb6.out.block b hlt) (fun b hb _ => hb)
              have hrt6 := Hrt.out.keep (w' := w6) (ok' := fun b => W.heap.size + 2 ≤ b ∧ (Value.slice (some ⟨g, 0, none⟩) ks.length kc).ownBlock ≠ some b) Hb6.out.size (fun b _ hlt => Hb6.out.block b hlt) (fun b hb _ => hb)
              have hB6 := HB2.out.keep (Hb6.out.mono (by omega))
              have hbl : ∀ b, (wr.alloc (Obj.cells #[.bool l1, .slice a1 n1 c1, .slice a2 n2 c2, .slice a3 n3 c3] 35)).heap.size ≤ b → W.heap.size + 2 ≤ b ∧ (Value.slice (some ⟨g, 0, none⟩) ks.length kc).ownBlock ≠ some b := by
                intro b hb
                have h1 : wr.heap.size + 1 ≤ b := by simpa using hb
                refine ⟨by omega, ?_⟩
                rw [hz]
                intro e
                injection e with e
                omega
              have hnq := NodeQ.keep (w' := w6) (ok' := fun b => W.heap.size + 2 ≤ b ∧ (Value.slice (some ⟨g, 0, none⟩) ks.length kc).ownBlock ≠ some b) (Nat.le_refl _) (fun _ _ _ => rfl) (fun b hb _ => hbl b hb) _ _ Hnode.out
              have hkk := kidsq_set (o := j * 4 + 3) (u := .slice b3 o3 d3) (kidsq_set (o := j * 4 + 2) (u := .slice b2 o2 d2) (kidsq_set (o := j * 4 + 1) (u := .slice b1 o1 d1) (kidsq_set (o := j * 4) (u := .bool m1) (hk6.append (KidsQ.one hnq)) hng) hng) hng) hng
              rw [← List.take_succ_eq_append_getElem hlt] at hkk
              refine ⟨j + 1, csN ++ [.bool m1, .slice b1 o1 d1, .slice b2 o2 d2, .slice b3 o3 d3], rfl, by omega, ?_, ?_, ?_, ?_, hs, hkk, ?_⟩
              · exact (((HA6.out.set hgne.symm).set hgne.symm).set hgne.symm).set hgne.symm
              · exact (((hB6.set (by omega)).set (by omega)).set (by omega)).set (by omega)
              · exact rowq_set (rowq_set (rowq_set (rowq_set hrp6 hng) hng) hng) hng
              · exact rowq_set (rowq_set (rowq_set (rowq_set hrt6 hng) hng) hng) hng
              · exact ((((below_then Hbel.out Hb6.out (Nat.le_refl _)).setCell (p := ⟨g, j * 4, none⟩) (by show W.heap.size ≤ g; omega) _).setCell (p := ⟨g, j * 4 + 1, none⟩) (by show W.heap.size ≤ g; omega) _).setCell (p := ⟨g, j * 4 + 2, none⟩) (by show W.heap.size ≤ g; omega) _).setCell (p := ⟨g, j * 4 + 3, none⟩) (by show W.heap.size ≤ g; omega) _
        · have hnl : decide ((j : Int) < ks.length) = false := by simp; omega
          clear hown hbel Hi
          go_wp2_with fail
          refine bodyPost_ret (v := .agg #[.bool l, .slice pa ps.length pc, .slice ta t.length tc, .slice ka ks.length kc]) (by simp [results, Tryz.results40, go_sem, z0, z1, z2, z3]) rfl ?_
          have hj : j = ks.length := by omega
          have hown2 := Hown.out
          have hkids2 := Hkids.out
          rw [hj, List.take_length] at hkids2
          rw [hj, List.drop_eq_nil_of_le (by omega), List.append_nil] at hown2
          have hn1 : ¬ (W.heap.size + 2 ≤ W.heap.size + 1 ∧ (Value.slice ka ks.length kc).ownBlock ≠ some (W.heap.size + 1)) := fun h => by omega
          have hn2 : ¬ (W.heap.size + 2 ≤ W.heap.size + 1) := by omega
          obtain ⟨ka', kc', hka, hrk⟩ := RowQ.of_own hown2 (KidsQ.onec hkids2)
          injection hka with e1 e2 e3
          subst e1; subst e3
          have hrk2 : RowQ wr (fun b => W.heap.size + 2 ≤ b) 4 ka ks.length kc csN := hrk.keep (Nat.le_refl _) (fun _ _ _ => rfl) (fun b hb _ => (hown2.lt b hb).1)
          refine ⟨[.bool l, .slice pa ps.length pc, .slice ta t.length tc, .slice ka ks.length kc], rfl, ?_, ?_⟩
          · unfold NodeQ
            refine ⟨pa, pc, ta, tc, ka, kc, csN, rfl, ?_, ?_, Htw.out, ?_, ?_⟩
            · exact (rowq_all Hrp.out hn1 _ _ _ _).keep (Nat.le_refl _) (fun _ _ _ => rfl) (fun b hb _ => by omega)
            · exact (rowq_all Hrt.out hn1 _ _ _ _).keep (Nat.le_refl _) (fun _ _ _ => rfl) (fun b hb _ => by omega)
            · exact (rowq_all hrk2 hn2 _ _ _ _).keep (Nat.le_refl _) (fun _ _ _ => rfl) (fun b hb _ => by omega)
            · exact KidsQ.keep (Nat.le_refl _) (fun _ _ _ => rfl) (fun b hb _ => by omega) _ _ (kidsq_all hkids2 hn1 _ _ _ _)
          · with_reducible exact below_all Hbel.out (Nat.le_succ _) _ _ _ _

end Go.Proofs.YtajclfjedlkbcaaGreatDoor
/- Walks: tree's at, Get. -/
namespace Go.Proofs.YtajclfjedlkbcaaGreatDoor
open Go.RowKit Go.Redl
set_option linter.unusedVariables false

def kidsOf : NodeD → List NodeD
  | .mk _ _ _ ks => ks
/-- The node at a path. -/
def atN : NodeD → List Int → Option NodeD
  | n, [] => some n
  | n, i :: p => if 0 ≤ i then (match (kidsOf n)[i.toNat]? with | some k => atN k p | none => none) else none
/-- A node that lies at an address. -/
def NodeP (w : World) (B b off : Nat) (n : NodeD) : Prop := ∃ l a1 n1 c1 a2 n2 c2 a3 n3 c3, NodeC w B n [.bool l, .slice a1 n1 c1, .slice a2 n2 c2, .slice a3 n3 c3] ∧ w.cell? ⟨b, off, none⟩ = some (.bool l) ∧ w.cell? ⟨b, off + 1, none⟩ = some (.slice a1 n1 c1) ∧
  w.cell? ⟨b, off + 2, none⟩ = some (.slice a2 n2 c2) ∧ w.cell? ⟨b, off + 3, none⟩ = some (.slice a3 n3 c3)
def AtP (w : World) (B : Nat) (R : Option NodeD) (e : Ending) (w' : World) : Prop :=
  match R with
  | some m => (∃ b off, e = .returned (.tuple #[.pointer (some ⟨b, off, none⟩), .int .i64 0]) ∧ NodeP w B b off m) ∧ w = w'
  | none => e = .returned (.tuple #[.pointer none, .int .i64 5]) ∧ w = w'

set_option maxRecDepth 100000 in
set_option maxHeartbeats 2000000 in
theorem at_c (n : NodeD) (p : List Int) (a : Option Addr) (cap : Nat) (b off B : Nat) (w : World) (hn : NodeP w B b off n) (hr : RowA w B 1 a p.length cap (p.map (Value.int .i64))) :
    Calls Tryz.prog 39 #[.pointer (some ⟨b, off, none⟩), .slice a p.length cap] w (AtP w B (atN n p)) := by
  have hm : p.length ≤ 9223372036854775807 := by have h1 := hr.le; have h2 := hr.max; unfold maxLen at h2; omega
  obtain ⟨R, hR⟩ : ∃ R, R = atN n p := ⟨_, rfl⟩
  rw [← hR]
  have HR := Lib.hid hR; have Hn := Lib.hid hn
  clear hR hn
  go_enter Tryz.func39, Tryz.ntmps39
  go_wp2_with fail
  go_loopg [0, 10] p.length (fun g q i wr => ∃ (k b' off' : Nat) (n' : NodeD), q = .pointer (some ⟨b', off', none⟩) ∧ i = .int .i64 k ∧ k + g = p.length ∧ atN n' (p.drop k) = R ∧ NodeP w B b' off' n' ∧ wr = w)
  case atStart => exact ⟨0, b, off, n, rfl, rfl, by omega, HR.out.symm, Hn.out, rfl⟩
  case round =>
    obtain ⟨k, b', off', n', rfl, rfl, hg, hat, hn', rfl⟩ := hrel
    have Hat := Lib.hid hat; have Hn' := Lib.hid hn'
    obtain ⟨l, a1, n1, c1, a2, n2, c2, a3, n3, c3, hnc, x0, x1, x2, x3⟩ := hn'
    clear hat Hn HR
    by_cases hlt : k < p.length
    · have hd : p.drop k = p[k] :: p.drop (k + 1) := List.drop_eq_getElem_cons hlt
      have Hd := Lib.hid hd
      obtain ⟨pb, po, rfl, hpb, hcell0⟩ := hr.int_at k hlt
      have hcell := hcell0 k hlt
      rw [getD_of_lt hlt] at hcell
      clear hcell0
      generalize p[k] = i at hcell Hd
      have hlti : (k : Int) < p.length := by omega
      clear hd
      obtain ⟨l', ps', t', ks'⟩ := n'
      have hnc2 := hnc
      unfold NodeC at hnc2
      obtain ⟨ap, cp, at_, ct, ak, ck, css, hcs, -, -, -, hk, hkk⟩ := hnc2
      injection hcs with e0 e1; injection e1 with e1 e2; injection e2 with e2 e3; injection e3 with e3 e4
      injection e3 with f1 f2 f3
      subst f1; subst f2; subst f3
      clear e0 e1 e2 e4 hnc
      by_cases h0 : 0 ≤ i
      · obtain ⟨j, rfl⟩ : ∃ j : Nat, i = j := ⟨i.toNat, by omega⟩
        by_cases hj : j < ks'.length
        · obtain ⟨kb, ko, l1, b1, o1, d1, b2, o2, d2, b3, o3, d3, rfl, hkb, hkn, g0, g1, g2, g3⟩ := hk.kid_at hkk j hj
          have Hat2 : Hid (atN ks'[j] (p.drop (k + 1)) = R) := by
            show _ = R
            rw [← Hat.out, Hd.out]
            simp [atN, kidsOf, List.getElem?_eq_getElem hj]
          have Hkn := Lib.hid (show NodeP wr B kb (ko + j * 4) ks'[j] from ⟨l1, b1, o1, d1, b2, o2, d2, b3, o3, d3, hkn, g0, g1, g2, g3⟩)
          have hnl : decide ((j : Int) < 0) = false := by simp
          have hji : (j : Int) < ks'.length := by omega
          have hge : decide ((ks'.length : Int) ≤ j) = false := by simp; omega
          clear hkn hk hkk Hat
          go_wp2_with fail
          go_roundg (gk - 1)
          case measure => omega
          case rel => exact ⟨k + 1, kb, ko + j * 4, ks'[j], rfl, rfl, by omega, Hat2.out, Hkn.out, rfl⟩
        · have HR2 : Hid (R = none) := by
            show R = none
            rw [← Hat.out, Hd.out]
            simp [atN, kidsOf, List.getElem?_eq_none (Nat.le_of_not_lt hj)]
          have hnl : decide ((j : Int) < 0) = false := by simp
          have hge : decide ((ks'.length : Int) ≤ j) = true := by simp; omega
          clear hk hkk Hat
          go_wp2_with fail
          go_ret2
          rw [HR2.out]
          exact ⟨rfl, rfl⟩
      · have HR2 : Hid (R = none) := by
          show R = none
          rw [← Hat.out, Hd.out]
          simp only [atN]
          rw [if_neg h0]
        have hneg : i < 0 := by omega
        clear hk hkk Hat
        go_wp2_with fail
        go_ret2
        rw [HR2.out]
        exact ⟨rfl, rfl⟩
    · have hnl : decide ((k : Int) < p.length) = false := by simp; omega
      have HR2 : Hid (R = some n') := by
        show R = _
        rw [← Hat.out, List.drop_eq_nil_of_le (by omega)]
        rfl
      clear hnc
      go_wp2_with fail
      go_ret2
      rw [HR2.out]
      exact ⟨⟨b', off', rfl, Hn'.out⟩, rfl⟩

theorem atN_wt : ∀ (p : List Int) (n m : NodeD), atN n p = some m → m.wt ≤ n.wt
  | [], n, m, h => by unfold atN at h; injection h with h; subst h; exact Nat.le_refl _
  | i :: p, n, m, h => by
    unfold atN at h
    split at h
    · split at h
      · rename_i k hk
        have h1 := atN_wt p k m h
        obtain ⟨l, ps, t, ks⟩ := n
        have hm : k ∈ ks := List.mem_of_getElem? hk
        have := wtAll_mem hm
        simp only [NodeD.wt]
        omega
      · cases h
    · cases h
def GetP (W : World) (R : Option NodeD) (e : Ending) (w' : World) : Prop :=
  match R with
  | some m => ∃ cs, e = .returned (.tuple #[.agg cs.toArray, .int .i64 0]) ∧ NodeQ w' (fun b => W.heap.size ≤ b) m cs ∧ Below W.heap.size W w'
  | none => e = .returned (.tuple #[.agg #[.bool false, .slice none 0 0, .slice none 0 0, .slice none 0 0], .int .i64 5]) ∧ Below W.heap.size W w'

set_option maxRecDepth 100000 in
set_option maxHeartbeats 2000000 in
theorem get_c (n : NodeD) (p : List Int) (v : Value) (pa : Option Addr) (pc : Nat) (W : World) (hbig : n.wt ≤ 100000000) (hv : NodeV W W.heap.size n v) (hp : RowA W W.heap.size 1 pa p.length pc (p.map (Value.int .i64))) :
    Calls Tryz.prog 19 #[v, .slice pa p.length pc] W (GetP W (atN n p)) := by
  have hwt := atN_wt p n
  obtain ⟨csn, rfl, hc⟩ := hv
  obtain ⟨l, a1, n1, c1, a2, n2, c2, a3, n3, c3, rfl⟩ := hc.form
  have hA := (NodeAt.fresh W (.bool l) (.slice a1 n1 c1) (.slice a2 n2 c2) (.slice a3 n3 c3)).alloc (Obj.cells #[.bool false, .slice none 0 0, .slice none 0 0, .slice none 0 0] 35)
  have hB := node_second W (Obj.cells #[.bool l, .slice a1 n1 c1, .slice a2 n2 c2, .slice a3 n3 c3] 35) (.bool false) (.slice none 0 0) (.slice none 0 0) (.slice none 0 0)
  have hb0 : Below W.heap.size W ((W.alloc (Obj.cells #[.bool l, .slice a1 n1 c1, .slice a2 n2 c2, .slice a3 n3 c3] 35)).alloc (Obj.cells #[.bool false, .slice none 0 0, .slice none 0 0, .slice none 0 0] 35)) := ((Below.refl _ _).alloc (Nat.le_refl _) _).alloc (by simp) _
  have hs0 : ((W.alloc (Obj.cells #[.bool l, .slice a1 n1 c1, .slice a2 n2 c2, .slice a3 n3 c3] 35)).alloc (Obj.cells #[.bool false, .slice none 0 0, .slice none 0 0, .slice none 0 0] 35)).heap.size = W.heap.size + 2 := by simp
  obtain ⟨y0, y1, y2, y3, -, -⟩ := hA.facts
  have HAt := Lib.hid (at_c n p pa pc W.heap.size 0 W.heap.size _ ⟨l, a1, n1, c1, a2, n2, c2, a3, n3, c3, NodeC.keep hb0 (Nat.le_refl _) _ _ hc, y0, y1, y2, y3⟩ (hp.keep hb0 (Nat.le_refl _)))
  have Hb0 := Lib.hid hb0; have HB := Lib.hid hB; have Hs0 := Lib.hid hs0
  clear hc hA hB hb0 hs0 y0 y1 y2 y3 hp
  cases hat : atN n p with
  | none =>
    rw [hat] at HAt
    clear hat hwt
    go_enter Tryz.func19, Tryz.ntmps19
    go_wp2_with fail
    refine HAt.out.mono ?_
    rintro e w1 ⟨rfl, rfl⟩
    clear HAt
    go_wp2_with fail
    refine bodyPost_ret (v := .tuple #[.agg #[.bool false, .slice none 0 0, .slice none 0 0, .slice none 0 0], .int .i64 5]) (by simp [results, Tryz.results19, go_sem]) rfl ?_
    exact ⟨rfl, Hb0.out⟩
  | some m =>
    rw [hat] at HAt
    have hmw := hwt m hat
    clear hat hwt
    go_enter Tryz.func19, Tryz.ntmps19
    obtain ⟨w0, hw0⟩ : ∃ w0, w0 = (W.alloc (Obj.cells #[.bool l, .slice a1 n1 c1, .slice a2 n2 c2, .slice a3 n3 c3] 35)).alloc (Obj.cells #[.bool false, .slice none 0 0, .slice none 0 0, .slice none 0 0] 35) := ⟨_, rfl⟩
    go_wp2_with fail
    rw [← hw0] at HAt Hb0 HB Hs0 ⊢
    refine HAt.out.mono ?_
    rintro e w1 ⟨⟨b, off, rfl, l', b1, o1, d1, b2, o2, d2, b3, o3, d3, hmc, x0, x1, x2, x3⟩, rfl⟩
    have HC := Lib.hid (copy_c m.wt m (.agg #[.bool l', .slice b1 o1 d1, .slice b2 o2 d2, .slice b3 o3 d3]) w0 (Nat.le_refl _) (by omega) ⟨_, rfl, NodeC.keep (Below.refl _ _) (by rw [Hs0.out]; omega) _ _ hmc⟩)
    clear HAt hw0 hmc
    go_wp2_with fail
    refine HC.out.mono ?_
    rintro e w2 ⟨cs, rfl, hnode, hbel⟩
    obtain ⟨m1, p1, q1, r1, p2, q2, r2, p3, q3, r3, rfl⟩ := hnode.form
    have hB2 := HB.out.keep (hbel.mono (by rw [Hs0.out]; omega))
    obtain ⟨z0, z1, z2, z3, ⟨g0, g1, g2, g3⟩, hB5⟩ := hB2.facts
    have Hb2 := Lib.hid (Hb0.out.trans (hbel.mono (by rw [Hs0.out]; omega)))
    have Hnode := Lib.hid hnode
    clear HC hnode hbel x0 x1 x2 x3 hB2 HB
    go_wp2_with fail
    refine bodyPost_ret (v := .tuple #[.agg #[.bool m1, .slice p1 q1 r1, .slice p2 q2 r2, .slice p3 q3 r3], .int .i64 0]) (by simp [results, Tryz.results19, go_sem, z0, z1, z2, z3]) rfl ?_
    have hne : ¬ (w0.heap.size ≤ W.heap.size + 1) := by rw [Hs0.out]; omega
    refine ⟨_, rfl, ?_, ?_⟩
    · have hq := nodeq_set (N := W.heap.size + 1) (o := 3) (u := .slice p3 q3 r3) (nodeq_set (N := W.heap.size + 1) (o := 2) (u := .slice p2 q2 r2) (nodeq_set (N := W.heap.size + 1) (o := 1) (u := .slice p1 q1 r1) (nodeq_set (N := W.heap.size + 1) (o := 0) (u := .bool m1) Hnode.out hne) hne) hne) hne
      exact NodeQ.keep (Nat.le_refl _) (fun _ _ _ => rfl) (fun b hb _ => by rw [Hs0.out] at hb; omega) _ _ hq
    · with_reducible exact below_all Hb2.out (Nat.le_succ _) _ _ _ _

end Go.Proofs.YtajclfjedlkbcaaGreatDoor
