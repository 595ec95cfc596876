/- Parts of the proof, one behind the other: RDA, RDB, RS1, RShelf. -/
import Derived.Test.YtmhgbocejjnoaaaDoorQ2
import Derived.Test.YtmhgbocejjnoaaaDoorQ3
import Derived.Test.YtmhgbocejjnoaaaDoorQ4
import Derived.Test.YtmhgbocejjnoaaaDoorQ1
import Derived.Shelf.Strings.Builder1
import Derived.Shelf.Strings.Trim
import Derived.Shelf.Small.Utf8
import Derived.Shelf.Small.Strs
import Derived.Shelf.Strings.BuilderF
import Derived.Shelf.Strings.BuilderK
import Derived.Shelf.Strings.BuilderRune
import Derived.Shelf.Utf8.AppendRune
import Derived.Shelf.Utf8.AppendRunePlain
import Derived.Shelf.Strconv.Itoa0
import Derived.Shelf.Strconv.Itoa1
import Derived.Shelf.LaysM
import Derived.Shelf.Strconv.Itoa2
import Derived.Shelf.Strconv.Itoa3
import Derived.Shelf.Strconv.Clone
import Derived.Shelf.Strconv.SyntaxError
import Derived.Shelf.LaysC
import Derived.Shelf.Strconv.ToError
import Derived.Shelf.Strconv.Lower
import Derived.Shelf.Strconv.RangeError
import Derived.Shelf.Strconv.ToErrorRange
import Derived.Shelf.Strings.Search1
import Derived.Shelf.Unicode.Decode
import Derived.Shelf.Strings.Runes
import Derived.Shelf.Strings.AsciiSet
import Derived.Shelf.Unicode.DecodeSlow
import Derived.Shelf.Unicode.DecodeAny
import Derived.Shelf.Unicode.DecodeLast
import Derived.Ground.Names2Prog
import Derived.Shelf.Slices.Clone
import Derived.Ground.SlgnProg
import Derived.Shelf.SlicesE.Clone
import Derived.Test.YtmhgbocejjnoaaaDoorProg
/- Walks: code's wrong, stands, run. -/
namespace Go.Proofs.YtmhgbocejjnoaaaDoor
open Go.RowKit Go.Redl
set_option linter.unusedVariables false

def standsB (s : List UInt8) (at_ : Nat) (c : UInt8) : Bool := s[at_]? == some c

set_option maxRecDepth 100000 in
set_option maxHeartbeats 1000000 in
theorem wrong_c (a : Int) (W : World) : Calls Tryd.prog 34 #[.int .i64 a] W fun e w' => e = .returned (.agg #[.int .i64 a, .int .i64 11]) ∧ Below W.heap.size W w' := by
  go_enter Tryd.func34, Tryd.ntmps34
  go_wp2_with fail
  exact bodyPost_ret (v := .agg #[.int .i64 a, .int .i64 11]) (by simp [results, Tryd.results34, go_sem]) rfl ⟨rfl, (Below.refl _ _).alloc (Nat.le_refl _) _⟩

set_option maxRecDepth 100000 in
set_option maxHeartbeats 1000000 in
theorem stands_c (s : List UInt8) (k : Nat) (c : UInt8) (n : Int) (hc : (c.toNat : Int) = n) (W : World) (hn : s.length ≤ 1000000000) :
    Calls Tryd.prog 55 #[.string ⟨s.toArray⟩, .int .i64 k, .int .u8 n] W fun e w' => e = .returned (.bool (standsB s k c)) ∧ W = w' := by
  subst hc
  have hall : ∀ x : UInt8, s[k]? = some x → ∀ h, (⟨s.toArray⟩ : ByteArray)[k]'h = x := by
    intro x hx h
    exact Option.some.inj ((List.getElem?_eq_getElem (l := s) h).symm.trans hx)
  have hsz : (⟨s.toArray⟩ : ByteArray).size = s.length := rfl
  have Hs : Hid (standsB s k c = (s[k]? == some c)) := rfl
  generalize (⟨s.toArray⟩ : ByteArray) = S at hall hsz ⊢
  by_cases hlt : k < s.length
  · have hg := hall s[k] (List.getElem?_eq_getElem hlt)
    have hk : s[k]? = some s[k] := List.getElem?_eq_getElem hlt
    generalize s[k] = x at hg hk
    have Hr : Hid (standsB s k c = (x == c)) := by
      show standsB s k c = _
      rw [Hs.out, hk]
      simp
    have Hx : Hid ((x == c) = ((x.toNat : Int) == (c.toNat : Int))) := by
      show (x == c) = _
      rw [Bool.eq_iff_iff]; simp [← UInt8.toNat_inj]
      omega
    clear hk hall Hs
    go_enter Tryd.func55, Tryd.ntmps55
    go_wp2_with fail
    go_ret
    exact ⟨ret_bool (by rw [Hr.out, Hx.out]), rfl⟩
  · have Hr : Hid (standsB s k c = false) := by
      show standsB s k c = _
      rw [Hs.out, List.getElem?_eq_none (by omega)]; rfl
    clear hall Hs
    go_enter Tryd.func55, Tryd.ntmps55
    go_wp2_with fail
    go_ret
    exact ⟨ret_bool Hr.out.symm, rfl⟩

/-- How far a run of such bytes goes. -/
def runN (p : UInt8 → Bool) (s : List UInt8) (at_ : Nat) : Nat := ((s.drop at_).takeWhile p).length
theorem runN_at {p : UInt8 → Bool} {s : List UInt8} {a k : Nat} (h : Upto (fun c => !p c) (s.drop a) k) (hk : a + k ≤ s.length) (he : a + k = s.length ∨ ∃ x, s[a + k]? = some x ∧ p x = false) : runN p s a = k := by
  unfold runN
  have hl : (s.drop a).take k ++ (s.drop a).drop k = s.drop a := List.take_append_drop _ _
  have ha : ∀ c ∈ (s.drop a).take k, p c = true := fun c hc => by simpa using h c hc
  rw [← hl, List.takeWhile_append_of_pos ha, List.drop_drop]
  have hz : (s.drop (a + k)).takeWhile p = [] := by
    rcases he with he | ⟨x, hx, hp⟩
    · rw [he]; simp
    · have hlt : a + k < s.length := by
        rcases Nat.lt_or_ge (a + k) s.length with h | h
        · exact h
        · rw [List.getElem?_eq_none h] at hx; cases hx
      rw [List.drop_eq_getElem_cons hlt, List.takeWhile_cons_of_neg]
      rw [List.getElem?_eq_getElem hlt] at hx
      rw [Option.some.inj hx, hp]; simp
  rw [hz]
  simp; omega

set_option maxRecDepth 100000 in
set_option maxHeartbeats 4000000 in
theorem run_c (s : List UInt8) (a : Nat) (more : Bool) (W : World) (hn : s.length ≤ 1000000000) (ha : a ≤ s.length) :
    Calls Tryd.prog 71 #[.string ⟨s.toArray⟩, .int .i64 a, .bool more] W fun e w' => e = .returned (.int .i64 (runN (if more then valcB else lowB) s a)) ∧ W = w' := by
  have Hall : Hid (∀ (k : Nat) (x : UInt8), s[k]? = some x → ∀ h, (⟨s.toArray⟩ : ByteArray)[k]'h = x) := by
    show ∀ (k : Nat) (x : UInt8), s[k]? = some x → ∀ h, (⟨s.toArray⟩ : ByteArray)[k]'h = x
    intro k x hx h
    exact Option.some.inj ((List.getElem?_eq_getElem (l := s) h).symm.trans hx)
  have hsz : (⟨s.toArray⟩ : ByteArray).size = s.length := rfl
  generalize (⟨s.toArray⟩ : ByteArray) = S at Hall hsz ⊢
  obtain ⟨p, hp⟩ : ∃ p : UInt8 → Bool, p = if more then valcB else lowB := ⟨_, rfl⟩
  rw [← hp]
  have Hp := Lib.hid hp
  clear hp
  go_enter Tryd.func71, Tryd.ntmps71
  go_wp2_with fail
  go_loopw [7] (fun i wr => ∃ k : Nat, a + k ≤ s.length ∧ i = .int .i64 k ∧ Upto (fun c => !p c) (s.drop a) k ∧ W = wr) (fun i _ => s.length - (intOf i).toNat)
  case atStart => exact ⟨0, by omega, rfl, upto_zero _ _, rfl⟩
  case round =>
    obtain ⟨k, hk, rfl, hu, rfl⟩ := hrel
    have Hu := Lib.hid hu
    clear hu
    by_cases hlt : a + k < s.length
    · have hx0 : s[a + k]? = some s[a + k] := List.getElem?_eq_getElem hlt
      have hg := Hall.out (a + k) s[a + k] hx0
      have hdl : k < (s.drop a).length := by simp; omega
      have hde : (s.drop a)[k] = s[a + k] := by simp
      have Hnext := Lib.hid (fun h => upto_succ (p := fun c => !p c) Hu.out hdl h)
      rw [hde] at Hnext
      have Hstop := Lib.hid (fun h => runN_at Hu.out hk (.inr ⟨_, hx0, h⟩))
      have hx8 := s[a + k].toNat_lt
      generalize s[a + k] = x at hg Hnext Hstop hx8
      clear hx0 hdl hde
      have HL : Hid (lowB x = decide (97 ≤ x.toNat ∧ x.toNat ≤ 122)) := rfl
      have HV : Hid (valcB x = (lowB x || decide (48 ≤ x.toNat ∧ x.toNat ≤ 57) || x == 45)) := rfl
      by_cases hl : 97 ≤ x.toNat ∧ x.toNat ≤ 122
      · obtain ⟨h1, h2⟩ := hl
        have Hok : Hid (Upto (fun c => !p c) (s.drop a) (k + 1)) := Hnext.out (by
          have : lowB x = true := by rw [HL.out, decide_eq_true ⟨h1, h2⟩]
          rw [Hp.out]; cases more <;> simp [this, HV.out])
        have h45 : ((x.toNat : Int) == 45) = false := by simp only [beq_eq_false_iff_ne, ne_eq]; omega
        have h57 : decide ((x.toNat : Int) ≤ 57) = false := decide_eq_false (by omega)
        clear Hnext Hstop
        go_wp2_with fail
        go_roundw
        case rel => exact ⟨k + 1, by omega, by go_num, Hok.out, trivial⟩
        case measure => simp [intOf]; omega
      · have Hl0 : Hid (lowB x = false) := by show lowB x = false; rw [HL.out, decide_eq_false hl]
        by_cases hd : 48 ≤ x.toNat ∧ x.toNat ≤ 57 ∨ x.toNat = 45
        · have Hv1 : Hid (valcB x = true) := by
            show valcB x = true
            rw [HV.out]
            rcases hd with h | h
            · rw [decide_eq_true h]; simp
            · have : x = 45 := UInt8.toNat_inj.1 h
              subst this; decide
          cases more with
          | false =>
            have Hr : Hid (runN p s a = k) := Hstop.out (by rw [Hp.out]; exact Hl0.out)
            clear Hnext Hstop hl
            rcases hd with ⟨h1, h2⟩ | h
            · have h45 : ((x.toNat : Int) == 45) = false := by simp only [beq_eq_false_iff_ne, ne_eq]; omega
              go_wp2_with fail
              go_ret
              exact ⟨ret_int (by rw [Hr.out]), rfl⟩
            · have h45 : ((x.toNat : Int)) = 45 := by omega
              clear h hx8
              go_wp2_with fail
              go_ret
              exact ⟨ret_int (by rw [Hr.out]), rfl⟩
          | true =>
            have Hok : Hid (Upto (fun c => !p c) (s.drop a) (k + 1)) := Hnext.out (by rw [Hp.out]; simp [Hv1.out])
            clear Hnext Hstop hl
            rcases hd with ⟨h1, h2⟩ | h
            · have h45 : ((x.toNat : Int) == 45) = false := by simp only [beq_eq_false_iff_ne, ne_eq]; omega
              go_wp2_with fail
              go_roundw
              case rel => exact ⟨k + 1, by omega, by go_num, Hok.out, trivial⟩
              case measure => simp [intOf]; omega
            · have h45 : ((x.toNat : Int)) = 45 := by omega
              clear h hx8
              go_wp2_with fail
              go_roundw
              case rel => exact ⟨k + 1, by omega, by go_num, Hok.out, trivial⟩
              case measure => simp [intOf]; omega
        · have Hr : Hid (runN p s a = k) := Hstop.out (by
            have hv : valcB x = false := by
              rw [HV.out, Hl0.out, decide_eq_false (fun h => hd (.inl h))]
              have : x ≠ 45 := fun h => hd (.inr (by rw [h]; rfl))
              simpa using this
            rw [Hp.out]; cases more <;> simp [Hl0.out, hv])
          have h45 : ((x.toNat : Int) == 45) = false := by simp only [beq_eq_false_iff_ne, ne_eq]; omega
          clear Hnext Hstop
          by_cases h1 : x.toNat < 48
          · have h2 : x.toNat < 97 := by omega
            clear hl hd
            go_wp2_with fail
            go_ret
            exact ⟨ret_int (by rw [Hr.out]), rfl⟩
          · have h1' : 48 ≤ x.toNat := by omega
            have h57 : decide ((x.toNat : Int) ≤ 57) = false := decide_eq_false (by omega)
            by_cases h2 : x.toNat < 97
            · clear hl hd h1
              go_wp2_with fail
              go_ret
              exact ⟨ret_int (by rw [Hr.out]), rfl⟩
            · have h2' : 97 ≤ x.toNat := by omega
              have h122 : decide ((x.toNat : Int) ≤ 122) = false := decide_eq_false (by omega)
              clear hl hd h1 h2
              go_wp2_with fail
              go_ret
              exact ⟨ret_int (by rw [Hr.out]), rfl⟩
    · have hke : a + k = s.length := by omega
      have Hr : Hid (runN p s a = k) := runN_at Hu.out hk (.inl hke)
      clear hke
      go_wp2_with fail
      go_ret
      exact ⟨ret_int (by rw [Hr.out]), rfl⟩

end Go.Proofs.YtmhgbocejjnoaaaDoor
/- Walks: code's props. -/
namespace Go.Proofs.YtmhgbocejjnoaaaDoor
open Go.RowKit Go.Redl
set_option linter.unusedVariables false

/-- What reading answers: a thing and the place behind it; or a place and an error. -/
inductive Rd (α : Type) where
  | ok (x : α) (e : Nat)
  | bad (at_ : Nat) (e : Int)

/-- A key, a value: where they end. -/
def keyAt (s : List UInt8) (a : Nat) : List UInt8 := (s.drop a).takeWhile lowB
def valAt (s : List UInt8) (a : Nat) : List UInt8 := (s.drop a).takeWhile valcB
/-- Properties, from the byte ahead of the first one on. -/
def rdP : Nat → List UInt8 → Nat → List PropD → List UInt8 → Rd (List PropD)
  | 0, _, a, _, _ => .bad a 11
  | f + 1, s, a, out, last =>
    if keyAt s (a + 1) = [] ∨ standsB s (a + 1 + (keyAt s (a + 1)).length) 58 = false then .bad (a + 1 + (keyAt s (a + 1)).length) 11
    else if out.length = 16 then .bad (a + 1) 2
    else if 16 < (keyAt s (a + 1)).length ∨ 32 < (valAt s (a + 1 + (keyAt s (a + 1)).length + 1)).length then .bad (a + 1) 3
    else if leB (keyAt s (a + 1)) last = true then .bad (a + 1) 1
    else if standsB s (a + 1 + (keyAt s (a + 1)).length + 1 + (valAt s (a + 1 + (keyAt s (a + 1)).length + 1)).length) 125 = true then .ok (out ++ [(keyAt s (a + 1), valAt s (a + 1 + (keyAt s (a + 1)).length + 1))]) (a + 1 + (keyAt s (a + 1)).length + 1 + (valAt s (a + 1 + (keyAt s (a + 1)).length + 1)).length + 1)
    else if standsB s (a + 1 + (keyAt s (a + 1)).length + 1 + (valAt s (a + 1 + (keyAt s (a + 1)).length + 1)).length) 44 = false then .bad (a + 1 + (keyAt s (a + 1)).length + 1 + (valAt s (a + 1 + (keyAt s (a + 1)).length + 1)).length) 11
    else rdP f s (a + 1 + (keyAt s (a + 1)).length + 1 + (valAt s (a + 1 + (keyAt s (a + 1)).length + 1)).length) (out ++ [(keyAt s (a + 1), valAt s (a + 1 + (keyAt s (a + 1)).length + 1))]) (keyAt s (a + 1))
/-- One step, its parts named. -/
theorem rdP_step (f : Nat) (s : List UInt8) (a : Nat) (out : List PropD) (last key val : List UInt8) (hk : keyAt s (a + 1) = key) (hv : valAt s (a + 1 + key.length + 1) = val) :
    rdP (f + 1) s a out last = if key = [] ∨ standsB s (a + 1 + key.length) 58 = false then .bad (a + 1 + key.length) 11
    else if out.length = 16 then .bad (a + 1) 2
    else if 16 < key.length ∨ 32 < val.length then .bad (a + 1) 3
    else if leB key last = true then .bad (a + 1) 1
    else if standsB s (a + 1 + key.length + 1 + val.length) 125 = true then .ok (out ++ [(key, val)]) (a + 1 + key.length + 1 + val.length + 1)
    else if standsB s (a + 1 + key.length + 1 + val.length) 44 = false then .bad (a + 1 + key.length + 1 + val.length) 11
    else rdP f s (a + 1 + key.length + 1 + val.length) (out ++ [(key, val)]) key := by
  subst hk; subst hv; rw [rdP]
theorem stands_lt {s : List UInt8} {a : Nat} {c : UInt8} (h : standsB s a c = true) : a < s.length := by
  rcases Nat.lt_or_ge a s.length with h1 | h1
  · exact h1
  · unfold standsB at h; rw [List.getElem?_eq_none h1] at h; simp at h
theorem takeWhile_le (p : UInt8 → Bool) (l : List UInt8) : (l.takeWhile p).length ≤ l.length := by
  have := congrArg List.length (List.takeWhile_append_dropWhile (p := p) (l := l))
  simp only [List.length_append] at this; omega
theorem keyAt_len (s : List UInt8) (a : Nat) (h : a ≤ s.length) : a + (keyAt s a).length ≤ s.length := by
  have := takeWhile_le lowB (s.drop a)
  unfold keyAt; simp only [List.length_drop] at this; omega
theorem valAt_len (s : List UInt8) (a : Nat) (h : a ≤ s.length) : a + (valAt s a).length ≤ s.length := by
  have := takeWhile_le valcB (s.drop a)
  unfold valAt; simp only [List.length_drop] at this; omega
theorem cut_run (s : List UInt8) (a : Nat) (l : List UInt8) (h : ∃ r, s.drop a = l ++ r) : (⟨s.toArray⟩ : ByteArray).extract a (a + l.length) = ⟨l.toArray⟩ := by
  obtain ⟨r, h⟩ := h
  rw [ByteArray.extract_mk, h]
  have : a + l.length - a = l.length := by omega
  rw [this, List.take_left]
theorem takeWhile_pre (p : UInt8 → Bool) (l : List UInt8) : ∃ r, l = l.takeWhile p ++ r := ⟨l.dropWhile p, (List.takeWhile_append_dropWhile).symm⟩

/-- What props answers. -/
def PropsP (W : World) (R : Rd (List PropD)) (e : Ending) (w' : World) : Prop :=
  match R with
  | .ok ps n => ∃ v, e = .returned (.tuple #[v, .int .i64 n, .agg #[.int .i64 0, .int .i64 0]]) ∧ w'.ownsRow W.heap.size 47 2 v ps.length (propCells ps) ∧ Below W.heap.size W w'
  | .bad a er => e = .returned (.tuple #[.slice none 0 0, .int .i64 0, .agg #[.int .i64 a, .int .i64 er]]) ∧ Below W.heap.size W w'

theorem stands_z (s : List UInt8) (k : Nat) (z : Int) (hz : z = k) (c : UInt8) (n : Int) (hc : (c.toNat : Int) = n) (b : Bool) (hb : standsB s k c = b) (W : World) (hn : s.length ≤ 1000000000) :
    Calls Tryd.prog 55 #[.string ⟨s.toArray⟩, .int .i64 z, .int .u8 n] W fun e w' => e = .returned (.bool b) ∧ W = w' := by
  subst hz; subst hb; exact stands_c s k c n hc W hn
theorem run_z (s : List UInt8) (a : Nat) (z : Int) (hz : z = a) (more : Bool) (m : Nat) (hm : runN (if more then valcB else lowB) s a = m) (W : World) (hn : s.length ≤ 1000000000) (ha : a ≤ s.length) :
    Calls Tryd.prog 71 #[.string ⟨s.toArray⟩, .int .i64 z, .bool more] W fun e w' => e = .returned (.int .i64 m) ∧ W = w' := by
  subst hz; subst hm; exact run_c s a more W hn ha

theorem box2f {w w1 : World} {c0 c1 : Value} {T : TypeId} (hb : Below (w.heap.size + 1) (w.alloc (.cells #[c0, c1] T)) w1) :
    w1.cell? ⟨w.heap.size, 0, none⟩ = some c0 ∧ w1.cell? ⟨w.heap.size, 1, none⟩ = some c1 ∧ w1.frozen? ⟨w.heap.size, 0, none⟩ = false ∧ w1.frozen? ⟨w.heap.size, 1, none⟩ = false := by
  have h : w1.heap[w.heap.size]? = some (.cells #[c0, c1] T (0, 0)) := by
    rw [hb.block w.heap.size (by omega)]
    exact heap_alloc_new w _
  refine ⟨?_, ?_, ?_, ?_⟩
  · rw [cell_of_row _ _ _ _ _ _ h]; rfl
  · rw [cell_of_row _ _ _ _ _ _ h]; rfl
  · simp [World.frozen?, h]
  · simp [World.frozen?, h]
theorem str_props (ps : List PropD) (p : PropD) : propCells ps ++ [.string ⟨p.1.toArray⟩, .string ⟨p.2.toArray⟩] = propCells (ps ++ [p]) := by simp [propCells]
/-- A literal of two cells, just made. -/
theorem row_two (w : World) (c0 c1 : Value) (E : TypeId) (B : Nat) (h0 : c0.oneCell' = true) (h1 : c1.oneCell' = true) (hB : w.heap.size < B := by omega) : RowA (w.alloc (.cells #[c0, c1] E)) B 2 (some ⟨w.heap.size, 0, none⟩) 1 1 [c0, c1] := by
  refine ⟨by simp, Nat.le_refl _, by unfold maxLen; omega, by simp [h0, h1], (fun h => by cases h), fun _ => ⟨w.heap.size, 0, rfl, hB, fun j u hj => ?_⟩⟩
  have hg : (w.alloc (.cells #[c0, c1] E)).heap[w.heap.size]? = some (.cells #[c0, c1] E (0, 0)) := heap_alloc_new w _
  rw [cell_of_row _ w.heap.size (0 + j) #[c0, c1] E (0, 0) hg]
  simpa using hj

/-- What is owned stays so behind a store into another block. -/
theorem own_set {w : World} {base e sz n b off : Nat} {v u : Value} {cs : List Value} (h : w.ownsRow base e sz v n cs) (hb : b < base) : (w.setCell ⟨b, off, none⟩ u).ownsRow base e sz v n cs := by
  refine h.kept (row := some b) ⟨rfl, rfl, rfl, by simp [World.setCell], fun i hi hne => Below.heap_setCell w ⟨b, off, none⟩ u i (fun e => hne (by rw [e]))⟩ ?_
  cases hv : v.ownBlock with
  | none => simp
  | some k =>
    have := (h.lt k hv).1
    simp
    try omega

theorem info_prop : (Tryd.prog.info? 47).map (fun i => (i.zero, i.size, i.bytes)) = some (some (.agg #[.string ⟨#[]⟩, .string ⟨#[]⟩]), 2, 32) := by kernel_rfl

set_option maxRecDepth 100000 in
set_option maxHeartbeats 4000000 in
theorem props_c (s : List UInt8) (a0 : Nat) (W : World) (hn : s.length ≤ 1000000) (ha : a0 < s.length) :
    Calls Tryd.prog 56 #[.string ⟨s.toArray⟩, .int .i64 a0] W (PropsP W (rdP (s.length + 1) s a0 [] [])) := by
  obtain ⟨R, hR⟩ : ∃ R, R = rdP (s.length + 1) s a0 [] [] := ⟨_, rfl⟩
  rw [← hR]
  have HR := Lib.hid hR
  have Hcut := Lib.hid (cut_run s)
  have hsz : (⟨s.toArray⟩ : ByteArray).size = s.length := rfl
  have HS := fun (k : Nat) (z : Int) (hz : z = k) (c : UInt8) (n : Int) (hc : (c.toNat : Int) = n) (b : Bool) (hb : standsB s k c = b) (W : World) => stands_z s k z hz c n hc b hb W (by omega)
  have HRun := fun (a : Nat) (z : Int) (hz : z = a) (more : Bool) (m : Nat) (hm : runN (if more then valcB else lowB) s a = m) (W : World) (ha : a ≤ s.length) => run_z s a z hz more m hm W (by omega) ha
  generalize (⟨s.toArray⟩ : ByteArray) = S at Hcut hsz HS HRun ⊢
  have HS := Lib.hid HS; have HRun := Lib.hid HRun
  clear hR
  go_enter Tryd.func56, Tryd.ntmps56
  go_wp2_with fail
  go_loopw [1, 7, 8] (fun i o l wr => ∃ (a f : Nat) (out : List PropD) (last : List UInt8), a < s.length ∧ s.length < f + a ∧ i = .int .i64 a ∧ l = .string ⟨last.toArray⟩ ∧ out.length ≤ a ∧ out.length ≤ 16 ∧ rdP f s a out last = R ∧ wr.ownsRow (W.heap.size + 1) 47 2 o out.length (propCells out) ∧ Below (W.heap.size + 1) (W.alloc (Obj.cells #[.int .i64 0, .int .i64 0] 71)) wr) (fun i _ _ _ => s.length - (intOf i).toNat)
  case atStart => exact ⟨a0, s.length + 1, [], [], ha, by omega, rfl, rfl, by simp, by simp, HR.out.symm, World.ownsRow_nil _ _ _ _, Below.refl _ _⟩
  case round =>
    obtain ⟨a, f, out, last, hal, hf, rfl, rfl, hoa, ho16, hr, hown, hbel⟩ := hrel
    obtain ⟨f, rfl⟩ : ∃ f', f = f' + 1 := ⟨f - 1, by omega⟩
    obtain ⟨oa, oc, rfl, horow⟩ := row_of_own hown (propCells_one _)
    have hoc := horow.le
    clear horow
    obtain ⟨key, hkey⟩ : ∃ key, keyAt s (a + 1) = key := ⟨_, rfl⟩
    obtain ⟨val, hval⟩ : ∃ val, valAt s (a + 1 + key.length + 1) = val := ⟨_, rfl⟩
    have hstep := rdP_step f s a out last key val hkey hval
    rw [hr] at hstep
    have Hstep := Lib.hid hstep
    have hkl := keyAt_len s (a + 1) (by omega)
    rw [hkey] at hkl
    have hkc := Hcut.out (a + 1) key (by rw [← hkey]; exact takeWhile_pre _ _)
    have HR1 := Lib.hid (HRun.out (a + 1) ((a : Int) + 1) (by omega) false key.length (by rw [← hkey]; rfl) wr (by omega))
    have Hown := Lib.hid hown; have Hb := Lib.hid hbel
    have Hval := Lib.hid hval
    clear hstep hr hown hbel hkey hval
    have HB := Lib.hid hkc
    cases key with
    | nil =>
      have HRb : Hid (R = .bad (a + 1) 11) := by
        show R = _
        rw [Hstep.out, if_pos (.inl rfl)]; rfl
      clear hkc
      go_wp2_with fail
      refine HR1.out.mono ?_
      rintro e w1 ⟨rfl, rfl⟩
      clear HR1
      have HWr := fun W => Lib.hid (wrong_c ((a : Int) + 1) W)
      go_wp2_with fail
      refine (HWr _).out.mono ?_
      rintro e w2 ⟨rfl, hbel⟩
      have Hb3 := Lib.hid (below_then Hb.out hbel (by simp))
      clear hbel HWr
      obtain ⟨y0, y1, f0, f1⟩ := box2f Hb3.out
      go_wp2_with fail
      refine bodyPost_ret (v := .tuple #[.slice none 0 0, .int .i64 0, .agg #[.int .i64 ((a : Int) + 1), .int .i64 11]]) (by simp [results, Tryd.results56, go_sem, y0, y1]) rfl ?_
      rw [HRb.out]
      exact ⟨rfl, ((below_unbox Hb3.out).setCell (p := ⟨W.heap.size, 0, none⟩) (Nat.le_refl _) _).setCell (p := ⟨W.heap.size, 1, none⟩) (Nat.le_refl _) _⟩
    | cons kc kr =>
      obtain ⟨key, hkey⟩ : ∃ key, key = kc :: kr := ⟨_, rfl⟩
      have hkne : key ≠ [] := by rw [hkey]; simp
      rw [← hkey] at hkc hkl HR1 Hval Hstep
      have hk1 : 1 ≤ key.length := by rw [hkey]; simp
      clear HB hkey
      have hKe : ((⟨key.toArray⟩ : ByteArray).toList.isEmpty) = false := by rw [ByteArray.toList_mk]; cases key with | nil => exact absurd rfl hkne | cons _ _ => rfl
      have hKs : (⟨key.toArray⟩ : ByteArray).size = key.length := rfl
      have hKl : (⟨key.toArray⟩ : ByteArray).toList = key := ByteArray.toList_mk _
      obtain ⟨K, hK⟩ : ∃ K, K = (⟨key.toArray⟩ : ByteArray) := ⟨_, rfl⟩
      rw [← hK] at hKe hKs hkc hKl
      have HK := Lib.hid hK; have HKl := Lib.hid hKl
      clear hK hKl
      cases h58 : standsB s (a + 1 + key.length) 58 with
      | false =>
        have HRb : Hid (R = .bad (a + 1 + key.length) 11) := by
          show R = _
          rw [Hstep.out, if_pos (.inr h58)]
        have HS1 := Lib.hid (HS.out (a + 1 + key.length) ((a : Int) + 1 + key.length) (by omega) 58 58 rfl false h58 wr)
        clear h58
        go_wp2_with fail
        refine HR1.out.mono ?_
        rintro e w1 ⟨rfl, rfl⟩
        clear HR1
        go_wp2_with fail
        refine HS1.out.mono ?_
        rintro e w1 ⟨rfl, rfl⟩
        clear HS1
        have HWr := fun W => Lib.hid (wrong_c ((a : Int) + 1 + key.length) W)
        go_wp2_with fail
        refine (HWr _).out.mono ?_
        rintro e w2 ⟨rfl, hbel⟩
        have Hb3 := Lib.hid (below_then Hb.out hbel (by simp))
        clear hbel HWr
        obtain ⟨y0, y1, f0, f1⟩ := box2f Hb3.out
        go_wp2_with fail
        refine bodyPost_ret (v := .tuple #[.slice none 0 0, .int .i64 0, .agg #[.int .i64 ((a : Int) + 1 + key.length), .int .i64 11]]) (by simp [results, Tryd.results56, go_sem, y0, y1]) rfl ?_
        rw [HRb.out]
        exact ⟨rfl, ((below_unbox Hb3.out).setCell (p := ⟨W.heap.size, 0, none⟩) (Nat.le_refl _) _).setCell (p := ⟨W.heap.size, 1, none⟩) (Nat.le_refl _) _⟩
      | true =>
        have ha2 := stands_lt h58
        have HS1 := Lib.hid (HS.out (a + 1 + key.length) ((a : Int) + 1 + key.length) (by omega) 58 58 rfl true h58 wr)
        have hvl := valAt_len s (a + 1 + key.length + 1) (by omega)
        rw [Hval.out] at hvl
        have hvc := Hcut.out (a + 1 + key.length + 1) val (by rw [← Hval.out]; exact takeWhile_pre _ _)
        have HR2 := Lib.hid (HRun.out (a + 1 + key.length + 1) ((a : Int) + 1 + key.length + 1) (by omega) true val.length (by rw [← Hval.out]; rfl) wr (by omega))
        have hVs : (⟨val.toArray⟩ : ByteArray).size = val.length := rfl
        obtain ⟨V, hV⟩ : ∃ V, V = (⟨val.toArray⟩ : ByteArray) := ⟨_, rfl⟩
        rw [← hV] at hVs hvc
        have HV := Lib.hid hV
        have Hs2 : Hid (R = if out.length = 16 then .bad (a + 1) 2
            else if 16 < key.length ∨ 32 < val.length then .bad (a + 1) 3
            else if leB key last = true then .bad (a + 1) 1
            else if standsB s (a + 1 + key.length + 1 + val.length) 125 = true then .ok (out ++ [(key, val)]) (a + 1 + key.length + 1 + val.length + 1)
            else if standsB s (a + 1 + key.length + 1 + val.length) 44 = false then .bad (a + 1 + key.length + 1 + val.length) 11
            else rdP f s (a + 1 + key.length + 1 + val.length) (out ++ [(key, val)]) key) := by
          show R = _
          rw [Hstep.out, if_neg (by simp [hkne, h58])]
        clear h58 hV Hstep Hval
        by_cases h16 : out.length = 16
        · have HRb : Hid (R = .bad (a + 1) 2) := by
            show R = _
            rw [Hs2.out, if_pos h16]
          have h16b : ((out.length : Int) == 16) = true := by simp only [beq_iff_eq]; omega
          clear h16 ho16
          go_wp2_with fail
          refine HR1.out.mono ?_
          rintro e w1 ⟨rfl, rfl⟩
          clear HR1
          go_wp2_with fail
          refine HS1.out.mono ?_
          rintro e w1 ⟨rfl, rfl⟩
          clear HS1
          go_wp2_with fail
          refine HR2.out.mono ?_
          rintro e w1 ⟨rfl, rfl⟩
          clear HR2
          obtain ⟨y0, y1, f0, f1⟩ := box2f Hb.out
          go_wp2_with fail
          refine bodyPost_ret (v := .tuple #[.slice none 0 0, .int .i64 0, .agg #[.int .i64 ((a : Int) + 1), .int .i64 2]]) (by simp [results, Tryd.results56, go_sem, y0, y1]) rfl ?_
          rw [HRb.out]
          exact ⟨rfl, ((below_unbox Hb.out).setCell (p := ⟨W.heap.size, 0, none⟩) (Nat.le_refl _) _).setCell (p := ⟨W.heap.size, 1, none⟩) (Nat.le_refl _) _⟩
        · have h16b : ((out.length : Int) == 16) = false := by simp only [beq_eq_false_iff_ne, ne_eq]; omega
          have ho15 : out.length ≤ 15 := by omega
          by_cases hlong : 16 < key.length ∨ 32 < val.length
          · have HRb : Hid (R = .bad (a + 1) 3) := by
              show R = _
              rw [Hs2.out, if_neg h16, if_pos hlong]
            by_cases hl1 : 16 < key.length
            · clear hlong h16
              go_wp2_with fail
              refine HR1.out.mono ?_
              rintro e w1 ⟨rfl, rfl⟩
              clear HR1
              go_wp2_with fail
              refine HS1.out.mono ?_
              rintro e w1 ⟨rfl, rfl⟩
              clear HS1
              go_wp2_with fail
              refine HR2.out.mono ?_
              rintro e w1 ⟨rfl, rfl⟩
              clear HR2
              obtain ⟨y0, y1, f0, f1⟩ := box2f Hb.out
              go_wp2_with fail
              refine bodyPost_ret (v := .tuple #[.slice none 0 0, .int .i64 0, .agg #[.int .i64 ((a : Int) + 1), .int .i64 3]]) (by simp [results, Tryd.results56, go_sem, y0, y1]) rfl ?_
              rw [HRb.out]
              exact ⟨rfl, ((below_unbox Hb.out).setCell (p := ⟨W.heap.size, 0, none⟩) (Nat.le_refl _) _).setCell (p := ⟨W.heap.size, 1, none⟩) (Nat.le_refl _) _⟩
            · have hl2 : 32 < val.length := by omega
              have hl1' : key.length ≤ 16 := by omega
              clear hlong h16 hl1
              go_wp2_with fail
              refine HR1.out.mono ?_
              rintro e w1 ⟨rfl, rfl⟩
              clear HR1
              go_wp2_with fail
              refine HS1.out.mono ?_
              rintro e w1 ⟨rfl, rfl⟩
              clear HS1
              go_wp2_with fail
              refine HR2.out.mono ?_
              rintro e w1 ⟨rfl, rfl⟩
              clear HR2
              obtain ⟨y0, y1, f0, f1⟩ := box2f Hb.out
              go_wp2_with fail
              refine bodyPost_ret (v := .tuple #[.slice none 0 0, .int .i64 0, .agg #[.int .i64 ((a : Int) + 1), .int .i64 3]]) (by simp [results, Tryd.results56, go_sem, y0, y1]) rfl ?_
              rw [HRb.out]
              exact ⟨rfl, ((below_unbox Hb.out).setCell (p := ⟨W.heap.size, 0, none⟩) (Nat.le_refl _) _).setCell (p := ⟨W.heap.size, 1, none⟩) (Nat.le_refl _) _⟩
          · have hl1 : key.length ≤ 16 := by omega
            have hl2 : val.length ≤ 32 := by omega
            have Hs3 : Hid (R = if leB key last = true then .bad (a + 1) 1
                else if standsB s (a + 1 + key.length + 1 + val.length) 125 = true then .ok (out ++ [(key, val)]) (a + 1 + key.length + 1 + val.length + 1)
                else if standsB s (a + 1 + key.length + 1 + val.length) 44 = false then .bad (a + 1 + key.length + 1 + val.length) 11
                else rdP f s (a + 1 + key.length + 1 + val.length) (out ++ [(key, val)]) key) := by
              show R = _
              rw [Hs2.out, if_neg h16, if_neg hlong]
            have Hle : Hid (leB key last = (Op.bytesLess K.toList last || K.toList == last)) := by
              show leB key last = _
              rw [HKl.out]; rfl
            clear Hs2 hlong h16
            cases hx : Op.bytesLess K.toList last with
            | true =>
              have HRb : Hid (R = .bad (a + 1) 1) := by
                show R = _
                rw [Hs3.out, if_pos (by rw [Hle.out, hx]; rfl)]
              go_wp2_with fail
              refine HR1.out.mono ?_
              rintro e w1 ⟨rfl, rfl⟩
              clear HR1
              go_wp2_with fail
              refine HS1.out.mono ?_
              rintro e w1 ⟨rfl, rfl⟩
              clear HS1
              go_wp2_with fail
              refine HR2.out.mono ?_
              rintro e w1 ⟨rfl, rfl⟩
              clear HR2
              obtain ⟨y0, y1, f0, f1⟩ := box2f Hb.out
              go_wp2_with fail
              refine bodyPost_ret (v := .tuple #[.slice none 0 0, .int .i64 0, .agg #[.int .i64 ((a : Int) + 1), .int .i64 1]]) (by simp [results, Tryd.results56, go_sem, y0, y1]) rfl ?_
              rw [HRb.out]
              exact ⟨rfl, ((below_unbox Hb.out).setCell (p := ⟨W.heap.size, 0, none⟩) (Nat.le_refl _) _).setCell (p := ⟨W.heap.size, 1, none⟩) (Nat.le_refl _) _⟩
            | false =>
              cases hy : (K.toList == last) with
              | true =>
                have HRb : Hid (R = .bad (a + 1) 1) := by
                  show R = _
                  rw [Hs3.out, if_pos (by rw [Hle.out, hx, hy]; rfl)]
                go_wp2_with fail
                refine HR1.out.mono ?_
                rintro e w1 ⟨rfl, rfl⟩
                clear HR1
                go_wp2_with fail
                refine HS1.out.mono ?_
                rintro e w1 ⟨rfl, rfl⟩
                clear HS1
                go_wp2_with fail
                refine HR2.out.mono ?_
                rintro e w1 ⟨rfl, rfl⟩
                clear HR2
                obtain ⟨y0, y1, f0, f1⟩ := box2f Hb.out
                go_wp2_with fail
                refine bodyPost_ret (v := .tuple #[.slice none 0 0, .int .i64 0, .agg #[.int .i64 ((a : Int) + 1), .int .i64 1]]) (by simp [results, Tryd.results56, go_sem, y0, y1]) rfl ?_
                rw [HRb.out]
                exact ⟨rfl, ((below_unbox Hb.out).setCell (p := ⟨W.heap.size, 0, none⟩) (Nat.le_refl _) _).setCell (p := ⟨W.heap.size, 1, none⟩) (Nat.le_refl _) _⟩
              | false =>
                have Hs4 : Hid (R = if standsB s (a + 1 + key.length + 1 + val.length) 125 = true then .ok (out ++ [(key, val)]) (a + 1 + key.length + 1 + val.length + 1)
                    else if standsB s (a + 1 + key.length + 1 + val.length) 44 = false then .bad (a + 1 + key.length + 1 + val.length) 11
                    else rdP f s (a + 1 + key.length + 1 + val.length) (out ++ [(key, val)]) key) := by
                  show R = _
                  rw [Hs3.out, if_neg (by rw [Hle.out, hx, hy]; simp)]
                clear Hs3 Hle
                cases h125 : standsB s (a + 1 + key.length + 1 + val.length) 125 with
                | true =>
                  have HRb : Hid (R = .ok (out ++ [(key, val)]) (a + 1 + key.length + 1 + val.length + 1)) := by
                    show R = _
                    rw [Hs4.out, if_pos h125]
                  have HS2 := fun W => Lib.hid (HS.out (a + 1 + key.length + 1 + val.length) ((a : Int) + 1 + key.length + 1 + val.length) (by omega) 125 125 rfl true h125 W)
                  clear h125
                  go_wp2_with fail
                  refine HR1.out.mono ?_
                  rintro e w1 ⟨rfl, rfl⟩
                  clear HR1
                  go_wp2_with fail
                  refine HS1.out.mono ?_
                  rintro e w1 ⟨rfl, rfl⟩
                  clear HS1
                  go_wp2_with fail
                  refine HR2.out.mono ?_
                  rintro e w1 ⟨rfl, rfl⟩
                  clear HR2
                  go_wp2_with (at_builtin; refine wpList_app rfl _ _ 22 rfl (W.heap.size + 1) 47 (.agg #[.string ⟨#[]⟩, .string ⟨#[]⟩]) 2 32 Tryd.underlying22 info_prop rfl (by decide) _ _ _ rfl (Hown.out.alloc _) (some ⟨wr.heap.size, 0, none⟩) 1 1 (wr.heap.size + 1) [.string K, .string V] rfl ?hr ?h63 ?hb ?hbase ?_)
                  case hr => exact row_two _ _ _ _ _ rfl rfl
                  case h63 => unfold maxLen; omega
                  case hb => omega
                  case hbase => have := Hb.out.size; simp at this ⊢; omega
                  intro v' w3 hown' hgrow
                  have hbel := ((Hb.out.alloc (by have := Hb.out.size; simpa using this) (Obj.cells #[.string K, .string V] 47)).grown hgrow (by have := Hb.out.size; simp at this ⊢; omega) (fun k hk => (Hown.out.lt k hk).1))
                  have hown2 : w3.ownsRow (W.heap.size + 1) 47 2 v' (out ++ [(key, val)]).length (propCells (out ++ [(key, val)])) := by
                    rw [← str_props, List.length_append]
                    have := hown'
                    rw [HK.out, HV.out] at this
                    exact this
                  obtain ⟨va, vc, rfl, -⟩ := row_of_own hown2 (propCells_one _)
                  have Hown2 := Lib.hid hown2; have Hb2 := Lib.hid hbel
                  clear hown' hbel hgrow hown2
                  go_wp2_with fail
                  refine (HS2 _).out.mono ?_
                  rintro e w1 ⟨rfl, rfl⟩
                  clear HS2
                  obtain ⟨y0, y1, f0, f1⟩ := box2f Hb2.out
                  go_wp2_with fail
                  refine bodyPost_ret (v := .tuple #[.slice va (out.length + 1) vc, .int .i64 ((a : Int) + 1 + key.length + 1 + val.length + 1), .agg #[.int .i64 0, .int .i64 0]]) (by simp [results, Tryd.results56, go_sem, y0, y1]) rfl ?_
                  rw [HRb.out]
                  refine ⟨_, rfl, ?_, ((below_unbox Hb2.out).setCell (p := ⟨W.heap.size, 0, none⟩) (Nat.le_refl _) _).setCell (p := ⟨W.heap.size, 1, none⟩) (Nat.le_refl _) _⟩
                  have := own_mono (own_set (off := 1) (u := .int .i64 0) (own_set (b := W.heap.size) (off := 0) (u := .int .i64 0) Hown2.out (by omega)) (b := W.heap.size) (by omega)) (Nat.le_succ _)
                  simpa using this
                | false =>
                  have HS2 := fun W => Lib.hid (HS.out (a + 1 + key.length + 1 + val.length) ((a : Int) + 1 + key.length + 1 + val.length) (by omega) 125 125 rfl false h125 W)
                  cases h44 : standsB s (a + 1 + key.length + 1 + val.length) 44 with
                  | false =>
                    have HRb : Hid (R = .bad (a + 1 + key.length + 1 + val.length) 11) := by
                      show R = _
                      rw [Hs4.out, if_neg (by rw [h125]; simp), if_pos h44]
                    have HS3 := fun W => Lib.hid (HS.out (a + 1 + key.length + 1 + val.length) ((a : Int) + 1 + key.length + 1 + val.length) (by omega) 44 44 rfl false h44 W)
                    clear h125 h44
                    go_wp2_with fail
                    refine HR1.out.mono ?_
                    rintro e w1 ⟨rfl, rfl⟩
                    clear HR1
                    go_wp2_with fail
                    refine HS1.out.mono ?_
                    rintro e w1 ⟨rfl, rfl⟩
                    clear HS1
                    go_wp2_with fail
                    refine HR2.out.mono ?_
                    rintro e w1 ⟨rfl, rfl⟩
                    clear HR2
                    go_wp2_with (at_builtin; refine wpList_app rfl _ _ 22 rfl (W.heap.size + 1) 47 (.agg #[.string ⟨#[]⟩, .string ⟨#[]⟩]) 2 32 Tryd.underlying22 info_prop rfl (by decide) _ _ _ rfl (Hown.out.alloc _) (some ⟨wr.heap.size, 0, none⟩) 1 1 (wr.heap.size + 1) [.string K, .string V] rfl ?hr ?h63 ?hb ?hbase ?_)
                    case hr => exact row_two _ _ _ _ _ rfl rfl
                    case h63 => unfold maxLen; omega
                    case hb => omega
                    case hbase => have := Hb.out.size; simp at this ⊢; omega
                    intro v' w3 hown' hgrow
                    have hbel := ((Hb.out.alloc (by have := Hb.out.size; simpa using this) (Obj.cells #[.string K, .string V] 47)).grown hgrow (by have := Hb.out.size; simp at this ⊢; omega) (fun k hk => (Hown.out.lt k hk).1))
                    have hown2 : w3.ownsRow (W.heap.size + 1) 47 2 v' (out ++ [(key, val)]).length (propCells (out ++ [(key, val)])) := by
                      rw [← str_props, List.length_append]
                      have := hown'
                      rw [HK.out, HV.out] at this
                      exact this
                    obtain ⟨va, vc, rfl, -⟩ := row_of_own hown2 (propCells_one _)
                    have Hown2 := Lib.hid hown2; have Hb2 := Lib.hid hbel
                    clear hown' hbel hgrow hown2
                    go_wp2_with fail
                    refine (HS2 _).out.mono ?_
                    rintro e w1 ⟨rfl, rfl⟩
                    clear HS2
                    go_wp2_with fail
                    refine (HS3 _).out.mono ?_
                    rintro e w1 ⟨rfl, rfl⟩
                    clear HS3
                    have HWr := fun W => Lib.hid (wrong_c ((a : Int) + 1 + key.length + 1 + val.length) W)
                    go_wp2_with fail
                    refine (HWr _).out.mono ?_
                    rintro e w2 ⟨rfl, hbel⟩
                    have Hb3 := Lib.hid (below_then Hb2.out hbel (by simp))
                    clear hbel HWr
                    obtain ⟨y0, y1, f0, f1⟩ := box2f Hb3.out
                    go_wp2_with fail
                    refine bodyPost_ret (v := .tuple #[.slice none 0 0, .int .i64 0, .agg #[.int .i64 ((a : Int) + 1 + key.length + 1 + val.length), .int .i64 11]]) (by simp [results, Tryd.results56, go_sem, y0, y1]) rfl ?_
                    rw [HRb.out]
                    exact ⟨rfl, ((below_unbox Hb3.out).setCell (p := ⟨W.heap.size, 0, none⟩) (Nat.le_refl _) _).setCell (p := ⟨W.heap.size, 1, none⟩) (Nat.le_refl _) _⟩
                  | true =>
                    have ha4 := stands_lt h44
                    have HRn : Hid (rdP f s (a + 1 + key.length + 1 + val.length) (out ++ [(key, val)]) key = R) := by
                      show _ = R
                      rw [Hs4.out, if_neg (by rw [h125]; simp), if_neg (by rw [h44]; simp)]
                    have HS3 := fun W => Lib.hid (HS.out (a + 1 + key.length + 1 + val.length) ((a : Int) + 1 + key.length + 1 + val.length) (by omega) 44 44 rfl true h44 W)
                    clear h125 h44
                    go_wp2_with fail
                    refine HR1.out.mono ?_
                    rintro e w1 ⟨rfl, rfl⟩
                    clear HR1
                    go_wp2_with fail
                    refine HS1.out.mono ?_
                    rintro e w1 ⟨rfl, rfl⟩
                    clear HS1
                    go_wp2_with fail
                    refine HR2.out.mono ?_
                    rintro e w1 ⟨rfl, rfl⟩
                    clear HR2
                    go_wp2_with (at_builtin; refine wpList_app rfl _ _ 22 rfl (W.heap.size + 1) 47 (.agg #[.string ⟨#[]⟩, .string ⟨#[]⟩]) 2 32 Tryd.underlying22 info_prop rfl (by decide) _ _ _ rfl (Hown.out.alloc _) (some ⟨wr.heap.size, 0, none⟩) 1 1 (wr.heap.size + 1) [.string K, .string V] rfl ?hr ?h63 ?hb ?hbase ?_)
                    case hr => exact row_two _ _ _ _ _ rfl rfl
                    case h63 => unfold maxLen; omega
                    case hb => omega
                    case hbase => have := Hb.out.size; simp at this ⊢; omega
                    intro v' w3 hown' hgrow
                    have hbel := ((Hb.out.alloc (by have := Hb.out.size; simpa using this) (Obj.cells #[.string K, .string V] 47)).grown hgrow (by have := Hb.out.size; simp at this ⊢; omega) (fun k hk => (Hown.out.lt k hk).1))
                    have hown2 : w3.ownsRow (W.heap.size + 1) 47 2 v' (out ++ [(key, val)]).length (propCells (out ++ [(key, val)])) := by
                      rw [← str_props, List.length_append]
                      have := hown'
                      rw [HK.out, HV.out] at this
                      exact this
                    obtain ⟨va, vc, rfl, -⟩ := row_of_own hown2 (propCells_one _)
                    have Hown2 := Lib.hid hown2; have Hb2 := Lib.hid hbel
                    clear hown' hbel hgrow hown2
                    go_wp2_with fail
                    refine (HS2 _).out.mono ?_
                    rintro e w1 ⟨rfl, rfl⟩
                    clear HS2
                    go_wp2_with fail
                    refine (HS3 _).out.mono ?_
                    rintro e w1 ⟨rfl, rfl⟩
                    clear HS3
                    go_wp2_with fail
                    go_roundw
                    case rel => exact ⟨a + 1 + key.length + 1 + val.length, f, out ++ [(key, val)], key, by omega, by omega, by go_num, by rw [HK.out], by simp; omega, by simp; omega, HRn.out, by have := Hown2.out; simpa using this, Hb2.out⟩
                    case measure => simp [intOf]; omega

end Go.Proofs.YtmhgbocejjnoaaaDoor
/- Plain words and laws: reading a quoted text. No walk. -/
namespace Go.Redl
open Go.RowKit
set_option linter.unusedVariables false

/-- A digit's value, as ParseUint takes it; none: it is no digit. -/
def digv (c : UInt8) : Option Nat :=
  if 48 ≤ c.toNat ∧ c.toNat ≤ 57 then some (c.toNat - 48)
  else if 97 ≤ (c ||| 32).toNat ∧ (c ||| 32).toNat ≤ 122 then some ((c ||| 32).toNat - 87) else none
/-- What ParseUint makes of digits at base 16 and 32 bits. -/
def parseP : List UInt8 → Nat → Option Nat
  | [], acc => some acc
  | c :: s, acc => match digv c with
    | none => none
    | some d => if 16 ≤ d then none else if 4294967295 < acc * 16 + d then none else parseP s (acc * 16 + d)

theorem digv_dig (n : Nat) (h : n < 16) : digv (dig n) = some n := by
  have : n = 0 ∨ n = 1 ∨ n = 2 ∨ n = 3 ∨ n = 4 ∨ n = 5 ∨ n = 6 ∨ n = 7 ∨ n = 8 ∨ n = 9 ∨ n = 10 ∨ n = 11 ∨ n = 12 ∨ n = 13 ∨ n = 14 ∨ n = 15 := by omega
  rcases this with rfl | rfl | rfl | rfl | rfl | rfl | rfl | rfl | rfl | rfl | rfl | rfl | rfl | rfl | rfl | rfl <;> decide
theorem dig_not59 (n : Nat) (h : n < 16) : dig n ≠ 59 := by
  have : n = 0 ∨ n = 1 ∨ n = 2 ∨ n = 3 ∨ n = 4 ∨ n = 5 ∨ n = 6 ∨ n = 7 ∨ n = 8 ∨ n = 9 ∨ n = 10 ∨ n = 11 ∨ n = 12 ∨ n = 13 ∨ n = 14 ∨ n = 15 := by omega
  rcases this with rfl | rfl | rfl | rfl | rfl | rfl | rfl | rfl | rfl | rfl | rfl | rfl | rfl | rfl | rfl | rfl <;> decide

theorem parseP_snoc : ∀ (xs : List UInt8) (c : UInt8) (acc m d : Nat), parseP xs acc = some m → digv c = some d → d < 16 → m * 16 + d ≤ 4294967295 → parseP (xs ++ [c]) acc = some (m * 16 + d)
  | [], c, acc, m, d, h, hc, hd, hm => by
    simp only [parseP, Option.some.injEq] at h
    subst h
    simp only [List.nil_append, parseP, hc]
    rw [if_neg (by omega), if_neg (by omega)]
  | x :: xs, c, acc, m, d, h, hc, hd, hm => by
    simp only [List.cons_append, parseP] at h ⊢
    cases hx : digv x with
    | none => rw [hx] at h; cases h
    | some e =>
      rw [hx] at h
      simp only at h ⊢
      split at h
      · cases h
      · rename_i h1
        split at h
        · cases h
        · rename_i h2
          rw [if_neg h1, if_neg h2]
          exact parseP_snoc xs c _ m d h hc hd hm
theorem parseP_hexF : ∀ (f n : Nat), n < 16 ^ f → n ≤ 4294967295 → parseP (hexF f n) 0 = some n
  | 0, n, h, _ => by
    have : n = 0 := by simpa using h
    subst this; rfl
  | f + 1, n, h, hb => by
    unfold hexF
    split
    · rename_i hn
      simp only [parseP, digv_dig n hn]
      rw [if_neg (by omega), if_neg (by omega)]
      simp
    · have h1 : n / 16 < 16 ^ f := by
        rw [Nat.pow_succ] at h
        exact Nat.div_lt_of_lt_mul (by rw [Nat.mul_comm]; exact h)
      have := parseP_snoc _ (dig (n % 16)) 0 (n / 16) (n % 16) (parseP_hexF f (n / 16) h1 (by omega)) (digv_dig _ (by omega)) (by omega) (by omega)
      rw [this]
      congr 1; omega
theorem parseP_hexL (n : Nat) (h : n ≤ 4294967295) : parseP (hexL n) 0 = some n := by
  have : (16 : Nat) ^ 20 = 1208925819614629174706176 := by decide
  exact parseP_hexF 20 n (by rw [this]; omega) h
theorem hexF_not59 : ∀ (f n : Nat), ∀ c ∈ hexF f n, c ≠ 59
  | 0, n, c, h => by simp [hexF] at h
  | f + 1, n, c, h => by
    unfold hexF at h
    split at h
    · rename_i hn
      simp at h; subst h; exact dig_not59 n hn
    · simp only [List.mem_append, List.mem_singleton] at h
      rcases h with h | h
      · exact hexF_not59 f _ c h
      · subst h; exact dig_not59 _ (by omega)
theorem hexL_not59 (n : Nat) : ∀ c ∈ hexL n, c ≠ 59 := hexF_not59 20 n
theorem hexL_inj {n m : Nat} (hn : n ≤ 4294967295) (hm : m ≤ 4294967295) (h : hexL n = hexL m) : n = m := by
  have h1 := parseP_hexL n hn
  rw [h, parseP_hexL m hm] at h1
  exact (Option.some.inj h1).symm

/-- The rune that is escaped at the head of a text. -/
def escN (t : List UInt8) : Option Nat :=
  match parseP (t.tail.takeWhile fun c => c != 59) 0 with
  | some n => if validB n && !plainB n && (escL n).isPrefixOf t then some n else none
  | none => none
theorem takeWhile_hex (n : Nat) (rest : List UInt8) : (hexL n ++ 59 :: rest).takeWhile (fun c => c != 59) = hexL n := by
  rw [List.takeWhile_append_of_pos (by intro c hc; simpa using hexL_not59 n c hc)]
  simp
theorem escN_some {t : List UInt8} {n : Nat} : escN t = some n ↔ validB n = true ∧ plainB n = false ∧ escL n <+: t := by
  constructor
  · intro h
    unfold escN at h
    split at h
    · rename_i m hm
      split at h
      · rename_i hc
        cases h
        simp only [Bool.and_eq_true, Bool.not_eq_true', List.isPrefixOf_iff_prefix] at hc
        exact ⟨hc.1.1, hc.1.2, hc.2⟩
      · cases h
    · cases h
  · rintro ⟨h1, h2, h3⟩
    obtain ⟨rest, rfl⟩ := h3
    have hb := valid_bound h1
    unfold escN
    have : ((escL n ++ rest).tail.takeWhile fun c => c != 59) = hexL n := by
      simp only [escL, List.cons_append, List.tail_cons, List.append_assoc]
      exact takeWhile_hex n rest
    rw [this, parseP_hexL n (by omega)]
    simp only
    rw [if_pos]
    simp [h1, h2, List.isPrefixOf_iff_prefix]
/-- The rune that stands first, and how many bytes it has; 0: it is none. -/
def firstS (t : List UInt8) : Int × Nat :=
  match t with
  | [] => (0, 0)
  | c :: _ => if plainB c.toNat then (c.toNat, 1) else match escN t with
    | some n => (n, (escL n).length)
    | none => (0, 0)
/-- Reading on: what is left, what was read, where. -/
def uq : Nat → List UInt8 → List Int → Nat → List Int × Int × Int
  | 0, _, _, at_ => ([], at_, 11)
  | f + 1, t, out, at_ => match t with
    | [] => ([], at_, 11)
    | c :: rest => if c = 34 then (if rest = [] then (out, 0, 0) else ([], at_ + 1, 11))
      else if (firstS t).2 = 0 then ([], at_, 11) else uq f (t.drop (firstS t).2) (out ++ [(firstS t).1]) (at_ + (firstS t).2)
/-- What Unquote answers. -/
def unqL (s : List UInt8) : List Int × Int × Int :=
  match s with
  | [] => ([], 0, 11)
  | c :: rest => if c = 34 then uq (rest.length + 1) rest [] 1 else ([], 0, 11)

end Go.Redl
/- Contracts of the library at this program, laid by the kit (its shelf), in plain words. -/
namespace Go.Proofs
open Go.Shelf
def Tryd.lays137_ren : Go.Shelf.Ren := ⟨fun | 137 => 72 | 217 => 84 | 266 => 92 | n => n, fun | 9 => 9 | 5 => 5 | 3 => 3 | n => n, fun | n => n⟩
theorem Tryd.lays137 : Go.Proofs.Lays.n137 Tryd.prog Tryd.lays137_ren := {
  mixed := by kernel_rfl
  f137 := Tryd.func72.trans (congrArg some (by kernel_rfl))
  f217 := Tryd.func84.trans (congrArg some (by kernel_rfl))
  f266 := Tryd.func92.trans (congrArg some (by kernel_rfl))
  t3 := Tryd.underlying3
  a3 := Tryd.isAgg3
  z3 := Tryd.sizeOf3
  v3 := Tryd.zeroValue3
  t5 := Tryd.underlying5
  a5 := Tryd.isAgg5
  z5 := Tryd.sizeOf5
  v5 := Tryd.zeroValue5
  t9 := Tryd.underlying9
  a9 := Tryd.isAgg9
  z9 := Tryd.sizeOf9
  v9 := Tryd.zeroValue9 }
open Go.RowKit in
theorem Tryd.strings_IndexByte (s : ByteArray) (c : Int) (w : World) :
    Calls Tryd.prog 72 #[.string s, .int .u8 c] w fun e w' => e = .returned (.int .i64 (Lib.indexByte s.data.toList c.toNat.toUInt8)) ∧ w' = w := Any.strings_IndexByte Tryd.lays137 s c w
def Tryd.laysC245_ren : Go.Shelf.Ren := ⟨fun | 245 => 104 | 279 => 111 | 280 => 112 | 281 => 113 | 282 => 114 | 316 => 118 | 171 => 120 | 205 => 119 | 243 => 123 | 246 => 70 | 283 => 80 | 284 => 81 | 285 => 82 | 286 => 83 | 129 => 88 | 317 => 87 | 318 => 89 | 319 => 90 | 320 => 91 | 337 => 101 | 338 => 102 | n => n, fun | 9 => 9 | 3 => 3 | 75 => 63 | 167 => 137 | 4 => 4 | 168 => 139 | 210 => 145 | 37 => 41 | 0 => 0 | 127 => 79 | 145 => 154 | 143 => 152 | 2 => 2 | 171 => 107 | 53 => 108 | 5 => 5 | 173 => 111 | 212 => 118 | 51 => 98 | 20 => 20 | 213 => 119 | 46 => 105 | 232 => 135 | 233 => 136 | 80 => 54 | n => n, fun | 15 => 4 | 16 => 5 | 17 => 0 | 18 => 2 | 19 => 3 | n => n⟩
theorem Tryd.laysC245 : Go.Proofs.LaysC.n245 Tryd.prog Tryd.laysC245_ren := {
  mixed := by kernel_rfl
  f129 := Tryd.func88.trans (congrArg some (by kernel_rfl))
  f171 := Tryd.func120.trans (congrArg some (by kernel_rfl))
  f205 := Tryd.func119.trans (congrArg some (by kernel_rfl))
  f243 := Tryd.func123.trans (congrArg some (by kernel_rfl))
  f245 := Tryd.func104.trans (congrArg some (by kernel_rfl))
  f246 := Tryd.func70.trans (congrArg some (by kernel_rfl))
  f279 := Tryd.func111.trans (congrArg some (by kernel_rfl))
  f280 := Tryd.func112.trans (congrArg some (by kernel_rfl))
  f281 := Tryd.func113.trans (congrArg some (by kernel_rfl))
  f282 := Tryd.func114.trans (congrArg some (by kernel_rfl))
  f283 := Tryd.func80.trans (congrArg some (by kernel_rfl))
  f284 := Tryd.func81.trans (congrArg some (by kernel_rfl))
  f285 := Tryd.func82.trans (congrArg some (by kernel_rfl))
  f286 := Tryd.func83.trans (congrArg some (by kernel_rfl))
  f316 := Tryd.func118.trans (congrArg some (by kernel_rfl))
  f317 := Tryd.func87.trans (congrArg some (by kernel_rfl))
  f318 := Tryd.func89.trans (congrArg some (by kernel_rfl))
  f319 := Tryd.func90.trans (congrArg some (by kernel_rfl))
  f320 := Tryd.func91.trans (congrArg some (by kernel_rfl))
  f337 := Tryd.func101.trans (congrArg some (by kernel_rfl))
  f338 := Tryd.func102.trans (congrArg some (by kernel_rfl))
  t0 := Tryd.underlying0
  a0 := Tryd.isAgg0
  z0 := Tryd.sizeOf0
  v0 := Tryd.zeroValue0
  t2 := Tryd.underlying2
  a2 := Tryd.isAgg2
  z2 := Tryd.sizeOf2
  v2 := Tryd.zeroValue2
  t3 := Tryd.underlying3
  a3 := Tryd.isAgg3
  z3 := Tryd.sizeOf3
  v3 := Tryd.zeroValue3
  t4 := Tryd.underlying4
  a4 := Tryd.isAgg4
  z4 := Tryd.sizeOf4
  v4 := Tryd.zeroValue4
  t5 := Tryd.underlying5
  a5 := Tryd.isAgg5
  z5 := Tryd.sizeOf5
  v5 := Tryd.zeroValue5
  t9 := Tryd.underlying9
  a9 := Tryd.isAgg9
  z9 := Tryd.sizeOf9
  v9 := Tryd.zeroValue9
  t20 := Tryd.underlying20
  a20 := Tryd.isAgg20
  z20 := Tryd.sizeOf20
  v20 := Tryd.zeroValue20
  t37 := Tryd.underlying41
  a37 := Tryd.isAgg41
  z37 := Tryd.sizeOf41
  v37 := Tryd.zeroValue41
  t46 := Tryd.underlying105
  a46 := Tryd.isAgg105
  z46 := Tryd.sizeOf105
  v46 := Tryd.zeroValue105
  t51 := Tryd.underlying98
  a51 := Tryd.isAgg98
  z51 := Tryd.sizeOf98
  v51 := Tryd.zeroValue98
  t53 := Tryd.underlying108
  a53 := Tryd.isAgg108
  z53 := Tryd.sizeOf108
  v53 := Tryd.zeroValue108
  t75 := Tryd.underlying63
  a75 := Tryd.isAgg63
  z75 := Tryd.sizeOf63
  v75 := Tryd.zeroValue63
  t127 := Tryd.underlying79
  a127 := Tryd.isAgg79
  z127 := Tryd.sizeOf79
  v127 := Tryd.zeroValue79
  t143 := Tryd.underlying152
  a143 := Tryd.isAgg152
  z143 := Tryd.sizeOf152
  v143 := Tryd.zeroValue152
  t145 := Tryd.underlying154
  a145 := Tryd.isAgg154
  z145 := Tryd.sizeOf154
  v145 := Tryd.zeroValue154
  t167 := Tryd.underlying137
  a167 := Tryd.isAgg137
  z167 := Tryd.sizeOf137
  v167 := Tryd.zeroValue137
  t168 := Tryd.underlying139
  a168 := Tryd.isAgg139
  z168 := Tryd.sizeOf139
  v168 := Tryd.zeroValue139
  t171 := Tryd.underlying107
  a171 := Tryd.isAgg107
  z171 := Tryd.sizeOf107
  v171 := Tryd.zeroValue107
  t173 := Tryd.underlying111
  a173 := Tryd.isAgg111
  z173 := Tryd.sizeOf111
  v173 := Tryd.zeroValue111
  t210 := Tryd.underlying145
  a210 := Tryd.isAgg145
  z210 := Tryd.sizeOf145
  v210 := Tryd.zeroValue145
  t212 := Tryd.underlying118
  a212 := Tryd.isAgg118
  z212 := Tryd.sizeOf118
  v212 := Tryd.zeroValue118
  t213 := Tryd.underlying119
  a213 := Tryd.isAgg119
  z213 := Tryd.sizeOf119
  t232 := Tryd.underlying135
  a232 := Tryd.isAgg135
  z232 := Tryd.sizeOf135
  v232 := Tryd.zeroValue135
  t233 := Tryd.underlying136
  a233 := Tryd.isAgg136
  z233 := Tryd.sizeOf136
  v233 := Tryd.zeroValue136
  g15 := by kernel_rfl
  g16 := by kernel_rfl
  g17 := by kernel_rfl
  g18 := by kernel_rfl
  g19 := by kernel_rfl
  t80 := Tryd.underlying54
  a80 := Tryd.isAgg54
  z80 := Tryd.sizeOf54
  v80 := Tryd.zeroValue54
  i0 := by kernel_rfl
  i2 := by kernel_rfl
  i3 := by kernel_rfl
  i4 := by kernel_rfl
  i5 := by kernel_rfl
  i9 := by kernel_rfl
  i20 := by kernel_rfl
  i37 := by kernel_rfl
  i46 := by kernel_rfl
  i51 := by kernel_rfl
  i53 := by kernel_rfl
  i75 := by kernel_rfl
  i80 := by kernel_rfl
  i127 := by kernel_rfl
  i143 := by kernel_rfl
  i145 := by kernel_rfl
  i167 := by kernel_rfl
  i168 := by kernel_rfl
  i171 := by kernel_rfl
  i173 := by kernel_rfl
  i210 := by kernel_rfl
  i212 := by kernel_rfl
  i232 := by kernel_rfl
  i233 := by kernel_rfl
  m15 := by kernel_rfl
  m16 := by kernel_rfl
  m17 := by kernel_rfl
  m18 := by kernel_rfl
  m19 := by kernel_rfl
  c0 := by kernel_rfl
  c2 := by kernel_rfl
  c3 := by kernel_rfl
  c4 := by kernel_rfl
  c5 := by kernel_rfl
  c9 := by kernel_rfl
  c20 := by kernel_rfl
  c37 := by kernel_rfl
  c46 := by kernel_rfl
  c51 := by kernel_rfl
  c53 := by kernel_rfl
  c75 := by kernel_rfl
  c80 := by kernel_rfl
  c127 := by kernel_rfl
  c143 := by kernel_rfl
  c145 := by kernel_rfl
  c167 := by kernel_rfl
  c168 := by kernel_rfl
  c171 := by kernel_rfl
  c173 := by kernel_rfl
  c210 := by kernel_rfl
  c212 := by kernel_rfl
  c213 := by kernel_rfl
  c232 := by kernel_rfl
  c233 := by kernel_rfl }
open Go.RowKit in
theorem Tryd.strconv_toError_syntax (fn s : ByteArray) (base bits : Int) (ev : Value) (w : World) (hlim : s.size ≤ 281474976710656) (hv : w.cell? ⟨4, 0, none⟩ = some ev) (hev : ev = .nilIface ∨ ∃ te pe, ev = .iface te pe) :
    Calls Tryd.prog 104 #[.string fn, .string s, .int .i64 base, .int .i64 bits, .iface 137 (.int .i64 2)] w fun e w' => ∃ N, e = .returned (.iface 139 (.pointer (some ⟨N, 0, none⟩))) ∧ w.heap.size ≤ N ∧ w'.heap[N]? = some (.cells #[.string fn, .string s, ev] 145 (0, 0)) ∧ Below w.heap.size w w' := Any.strconv_toError_syntax Tryd.laysC245 fn s base bits ev w hlim hv hev
def Tryd.lays321_ren : Go.Shelf.Ren := ⟨fun | 321 => 109 | n => n, fun | 5 => 5 | n => n, fun | n => n⟩
theorem Tryd.lays321 : Go.Proofs.Lays.n321 Tryd.prog Tryd.lays321_ren := {
  mixed := by kernel_rfl
  f321 := Tryd.func109.trans (congrArg some (by kernel_rfl))
  t5 := Tryd.underlying5
  a5 := Tryd.isAgg5
  z5 := Tryd.sizeOf5
  v5 := Tryd.zeroValue5 }
open Go.RowKit in
theorem Tryd.internal_strconv_lower (c : Int) (w : World) :
    Calls Tryd.prog 109 #[.int .u8 c] w fun e w' => e = .returned (.int .u8 (bits .or .u8 c 32)) ∧ w' = w := Any.internal_strconv_lower Tryd.lays321 c w
open Go.RowKit in
theorem Tryd.strconv_toError_range (fn s : ByteArray) (base bits : Int) (ev : Value) (w : World) (hlim : s.size ≤ 281474976710656) (hv : w.cell? ⟨5, 0, none⟩ = some ev) (hev : ev = .nilIface ∨ ∃ te pe, ev = .iface te pe) :
    Calls Tryd.prog 104 #[.string fn, .string s, .int .i64 base, .int .i64 bits, .iface 137 (.int .i64 1)] w fun e w' => ∃ N, e = .returned (.iface 139 (.pointer (some ⟨N, 0, none⟩))) ∧ w.heap.size ≤ N ∧ w'.heap[N]? = some (.cells #[.string fn, .string s, ev] 145 (0, 0)) ∧ Below w.heap.size w w' := Any.strconv_toError_range Tryd.laysC245 fn s base bits ev w hlim hv hev
end Go.Proofs
