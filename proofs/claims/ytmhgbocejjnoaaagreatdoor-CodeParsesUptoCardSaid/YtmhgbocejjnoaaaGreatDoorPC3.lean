/- Parts of the proof, one behind the other: RDB, RS1, RShelf. -/
import Derived.Test.YtmhgbocejjnoaaaGreatDoorPC2
import Derived.Test.YtmhgbocejjnoaaaGreatDoorPC1
import Derived.Shelf.Strings.Builder1
import Derived.Shelf.Strings.Trim
import Derived.Shelf.Small.Utf8
import Derived.Shelf.Small.Strs
import Derived.Shelf.Strings.BuilderF
import Derived.Shelf.Strings.BuilderK
import Derived.Shelf.Strings.BuilderRune
import Derived.Shelf.Utf8.AppendRune
import Derived.Shelf.Utf8.AppendRunePlain
import Derived.Shelf.Strconv.Itoa0
import Derived.Shelf.Strconv.Itoa1
import Derived.Shelf.LaysM
import Derived.Shelf.Strconv.Itoa2
import Derived.Shelf.Strconv.Itoa3
import Derived.Shelf.Strconv.Clone
import Derived.Shelf.Strconv.SyntaxError
import Derived.Shelf.LaysC
import Derived.Shelf.Strconv.ToError
import Derived.Shelf.Strconv.Lower
import Derived.Shelf.Strconv.RangeError
import Derived.Shelf.Strconv.ToErrorRange
import Derived.Shelf.Strings.Search1
import Derived.Shelf.Unicode.Decode
import Derived.Shelf.Strings.Runes
import Derived.Shelf.Strings.AsciiSet
import Derived.Shelf.Unicode.DecodeSlow
import Derived.Shelf.Unicode.DecodeAny
import Derived.Shelf.Unicode.DecodeLast
import Derived.Test.YtmhgbocejjnoaaaGreatDoorProg
/- Walks: code's props. -/
namespace Go.Proofs.YtmhgbocejjnoaaaGreatDoor
open Go.RowKit Go.Redl
set_option linter.unusedVariables false

/-- What reading answers: a thing and the place behind it; or a place and an error. -/
inductive Rd (α : Type) where
  | ok (x : α) (e : Nat)
  | bad (at_ : Nat) (e : Int)

/-- A key, a value: where they end. -/
def keyAt (s : List UInt8) (a : Nat) : List UInt8 := (s.drop a).takeWhile lowB
def valAt (s : List UInt8) (a : Nat) : List UInt8 := (s.drop a).takeWhile valcB
/-- Properties, from the byte ahead of the first one on. -/
def rdP : Nat → List UInt8 → Nat → List PropD → List UInt8 → Rd (List PropD)
  | 0, _, a, _, _ => .bad a 11
  | f + 1, s, a, out, last =>
    if keyAt s (a + 1) = [] ∨ standsB s (a + 1 + (keyAt s (a + 1)).length) 58 = false then .bad (a + 1 + (keyAt s (a + 1)).length) 11
    else if out.length = 16 then .bad (a + 1) 2
    else if 16 < (keyAt s (a + 1)).length ∨ 32 < (valAt s (a + 1 + (keyAt s (a + 1)).length + 1)).length then .bad (a + 1) 3
    else if leB (keyAt s (a + 1)) last = true then .bad (a + 1) 1
    else if standsB s (a + 1 + (keyAt s (a + 1)).length + 1 + (valAt s (a + 1 + (keyAt s (a + 1)).length + 1)).length) 125 = true then .ok (out ++ [(keyAt s (a + 1), valAt s (a + 1 + (keyAt s (a + 1)).length + 1))]) (a + 1 + (keyAt s (a + 1)).length + 1 + (valAt s (a + 1 + (keyAt s (a + 1)).length + 1)).length + 1)
    else if standsB s (a + 1 + (keyAt s (a + 1)).length + 1 + (valAt s (a + 1 + (keyAt s (a + 1)).length + 1)).length) 44 = false then .bad (a + 1 + (keyAt s (a + 1)).length + 1 + (valAt s (a + 1 + (keyAt s (a + 1)).length + 1)).length) 11
    else rdP f s (a + 1 + (keyAt s (a + 1)).length + 1 + (valAt s (a + 1 + (keyAt s (a + 1)).length + 1)).length) (out ++ [(keyAt s (a + 1), valAt s (a + 1 + (keyAt s (a + 1)).length + 1))]) (keyAt s (a + 1))
/-- One step, its parts named. -/
theorem rdP_step (f : Nat) (s : List UInt8) (a : Nat) (out : List PropD) (last key val : List UInt8) (hk : keyAt s (a + 1) = key) (hv : valAt s (a + 1 + key.length + 1) = val) :
    rdP (f + 1) s a out last = if key = [] ∨ standsB s (a + 1 + key.length) 58 = false then .bad (a + 1 + key.length) 11
    else if out.length = 16 then .bad (a + 1) 2
    else if 16 < key.length ∨ 32 < val.length then .bad (a + 1) 3
    else if leB key last = true then .bad (a + 1) 1
    else if standsB s (a + 1 + key.length + 1 + val.length) 125 = true then .ok (out ++ [(key, val)]) (a + 1 + key.length + 1 + val.length + 1)
    else if standsB s (a + 1 + key.length + 1 + val.length) 44 = false then .bad (a + 1 + key.length + 1 + val.length) 11
    else rdP f s (a + 1 + key.length + 1 + val.length) (out ++ [(key, val)]) key := by
  subst hk; subst hv; rw [rdP]
theorem stands_lt {s : List UInt8} {a : Nat} {c : UInt8} (h : standsB s a c = true) : a < s.length := by
  rcases Nat.lt_or_ge a s.length with h1 | h1
  · exact h1
  · unfold standsB at h; rw [List.getElem?_eq_none h1] at h; simp at h
theorem takeWhile_le (p : UInt8 → Bool) (l : List UInt8) : (l.takeWhile p).length ≤ l.length := by
  have := congrArg List.length (List.takeWhile_append_dropWhile (p := p) (l := l))
  simp only [List.length_append] at this; omega
theorem keyAt_len (s : List UInt8) (a : Nat) (h : a ≤ s.length) : a + (keyAt s a).length ≤ s.length := by
  have := takeWhile_le lowB (s.drop a)
  unfold keyAt; simp only [List.length_drop] at this; omega
theorem valAt_len (s : List UInt8) (a : Nat) (h : a ≤ s.length) : a + (valAt s a).length ≤ s.length := by
  have := takeWhile_le valcB (s.drop a)
  unfold valAt; simp only [List.length_drop] at this; omega
theorem cut_run (s : List UInt8) (a : Nat) (l : List UInt8) (h : ∃ r, s.drop a = l ++ r) : (⟨s.toArray⟩ : ByteArray).extract a (a + l.length) = ⟨l.toArray⟩ := by
  obtain ⟨r, h⟩ := h
  rw [ByteArray.extract_mk, h]
  have : a + l.length - a = l.length := by omega
  rw [this, List.take_left]
theorem takeWhile_pre (p : UInt8 → Bool) (l : List UInt8) : ∃ r, l = l.takeWhile p ++ r := ⟨l.dropWhile p, (List.takeWhile_append_dropWhile).symm⟩

/-- What props answers. -/
def PropsP (W : World) (R : Rd (List PropD)) (e : Ending) (w' : World) : Prop :=
  match R with
  | .ok ps n => ∃ v, e = .returned (.tuple #[v, .int .i64 n, .agg #[.int .i64 0, .int .i64 0]]) ∧ w'.ownsRow W.heap.size 41 2 v ps.length (propCells ps) ∧ Below W.heap.size W w'
  | .bad a er => e = .returned (.tuple #[.slice none 0 0, .int .i64 0, .agg #[.int .i64 a, .int .i64 er]]) ∧ Below W.heap.size W w'

theorem stands_z (s : List UInt8) (k : Nat) (z : Int) (hz : z = k) (c : UInt8) (n : Int) (hc : (c.toNat : Int) = n) (b : Bool) (hb : standsB s k c = b) (W : World) (hn : s.length ≤ 1000000000) :
    Calls Tryz.prog 32 #[.string ⟨s.toArray⟩, .int .i64 z, .int .u8 n] W fun e w' => e = .returned (.bool b) ∧ W = w' := by
  subst hz; subst hb; exact stands_c s k c n hc W hn
theorem run_z (s : List UInt8) (a : Nat) (z : Int) (hz : z = a) (more : Bool) (m : Nat) (hm : runN (if more then valcB else lowB) s a = m) (W : World) (hn : s.length ≤ 1000000000) (ha : a ≤ s.length) :
    Calls Tryz.prog 50 #[.string ⟨s.toArray⟩, .int .i64 z, .bool more] W fun e w' => e = .returned (.int .i64 m) ∧ W = w' := by
  subst hz; subst hm; exact run_c s a more W hn ha

theorem box2f {w w1 : World} {c0 c1 : Value} {T : TypeId} (hb : Below (w.heap.size + 1) (w.alloc (.cells #[c0, c1] T)) w1) :
    w1.cell? ⟨w.heap.size, 0, none⟩ = some c0 ∧ w1.cell? ⟨w.heap.size, 1, none⟩ = some c1 ∧ w1.frozen? ⟨w.heap.size, 0, none⟩ = false ∧ w1.frozen? ⟨w.heap.size, 1, none⟩ = false := by
  have h : w1.heap[w.heap.size]? = some (.cells #[c0, c1] T (0, 0)) := by
    rw [hb.block w.heap.size (by omega)]
    exact heap_alloc_new w _
  refine ⟨?_, ?_, ?_, ?_⟩
  · rw [cell_of_row _ _ _ _ _ _ h]; rfl
  · rw [cell_of_row _ _ _ _ _ _ h]; rfl
  · simp [World.frozen?, h]
  · simp [World.frozen?, h]
theorem str_props (ps : List PropD) (p : PropD) : propCells ps ++ [.string ⟨p.1.toArray⟩, .string ⟨p.2.toArray⟩] = propCells (ps ++ [p]) := by simp [propCells]
/-- A literal of two cells, just made. -/
theorem row_two (w : World) (c0 c1 : Value) (E : TypeId) (B : Nat) (h0 : c0.oneCell' = true) (h1 : c1.oneCell' = true) (hB : w.heap.size < B := by omega) : RowA (w.alloc (.cells #[c0, c1] E)) B 2 (some ⟨w.heap.size, 0, none⟩) 1 1 [c0, c1] := by
  refine ⟨by simp, Nat.le_refl _, by unfold maxLen; omega, by simp [h0, h1], (fun h => by cases h), fun _ => ⟨w.heap.size, 0, rfl, hB, fun j u hj => ?_⟩⟩
  have hg : (w.alloc (.cells #[c0, c1] E)).heap[w.heap.size]? = some (.cells #[c0, c1] E (0, 0)) := heap_alloc_new w _
  rw [cell_of_row _ w.heap.size (0 + j) #[c0, c1] E (0, 0) hg]
  simpa using hj

/-- What is owned stays so behind a store into another block. -/
theorem own_set {w : World} {base e sz n b off : Nat} {v u : Value} {cs : List Value} (h : w.ownsRow base e sz v n cs) (hb : b < base) : (w.setCell ⟨b, off, none⟩ u).ownsRow base e sz v n cs := by
  refine h.kept (row := some b) ⟨rfl, rfl, rfl, by simp [World.setCell], fun i hi hne => Below.heap_setCell w ⟨b, off, none⟩ u i (fun e => hne (by rw [e]))⟩ ?_
  cases hv : v.ownBlock with
  | none => simp
  | some k =>
    have := (h.lt k hv).1
    simp
    try omega

theorem info_prop : (Tryz.prog.info? 41).map (fun i => (i.zero, i.size, i.bytes)) = some (some (.agg #[.string ⟨#[]⟩, .string ⟨#[]⟩]), 2, 32) := by kernel_rfl

set_option maxRecDepth 100000 in
set_option maxHeartbeats 4000000 in
theorem props_c (s : List UInt8) (a0 : Nat) (W : World) (hn : s.length ≤ 1000000) (ha : a0 < s.length) :
    Calls Tryz.prog 33 #[.string ⟨s.toArray⟩, .int .i64 a0] W (PropsP W (rdP (s.length + 1) s a0 [] [])) := by
  obtain ⟨R, hR⟩ : ∃ R, R = rdP (s.length + 1) s a0 [] [] := ⟨_, rfl⟩
  rw [← hR]
  have HR := Lib.hid hR
  have Hcut := Lib.hid (cut_run s)
  have hsz : (⟨s.toArray⟩ : ByteArray).size = s.length := rfl
  have HS := fun (k : Nat) (z : Int) (hz : z = k) (c : UInt8) (n : Int) (hc : (c.toNat : Int) = n) (b : Bool) (hb : standsB s k c = b) (W : World) => stands_z s k z hz c n hc b hb W (by omega)
  have HRun := fun (a : Nat) (z : Int) (hz : z = a) (more : Bool) (m : Nat) (hm : runN (if more then valcB else lowB) s a = m) (W : World) (ha : a ≤ s.length) => run_z s a z hz more m hm W (by omega) ha
  generalize (⟨s.toArray⟩ : ByteArray) = S at Hcut hsz HS HRun ⊢
  have HS := Lib.hid HS; have HRun := Lib.hid HRun
  clear hR
  go_enter Tryz.func33, Tryz.ntmps33
  go_wp2_with fail
  go_loopw [1, 7, 8] (fun i o l wr => ∃ (a f : Nat) (out : List PropD) (last : List UInt8), a < s.length ∧ s.length < f + a ∧ i = .int .i64 a ∧ l = .string ⟨last.toArray⟩ ∧ out.length ≤ a ∧ out.length ≤ 16 ∧ rdP f s a out last = R ∧ wr.ownsRow (W.heap.size + 1) 41 2 o out.length (propCells out) ∧ Below (W.heap.size + 1) (W.alloc (Obj.cells #[.int .i64 0, .int .i64 0] 43)) wr) (fun i _ _ _ => s.length - (intOf i).toNat)
  case atStart => exact ⟨a0, s.length + 1, [], [], ha, by omega, rfl, rfl, by simp, by simp, HR.out.symm, World.ownsRow_nil _ _ _ _, Below.refl _ _⟩
  case round =>
    obtain ⟨a, f, out, last, hal, hf, rfl, rfl, hoa, ho16, hr, hown, hbel⟩ := hrel
    obtain ⟨f, rfl⟩ : ∃ f', f = f' + 1 := ⟨f - 1, by omega⟩
    obtain ⟨oa, oc, rfl, horow⟩ := row_of_own hown (propCells_one _)
    have hoc := horow.le
    clear horow
    obtain ⟨key, hkey⟩ : ∃ key, keyAt s (a + 1) = key := ⟨_, rfl⟩
    obtain ⟨val, hval⟩ : ∃ val, valAt s (a + 1 + key.length + 1) = val := ⟨_, rfl⟩
    have hstep := rdP_step f s a out last key val hkey hval
    rw [hr] at hstep
    have Hstep := Lib.hid hstep
    have hkl := keyAt_len s (a + 1) (by omega)
    rw [hkey] at hkl
    have hkc := Hcut.out (a + 1) key (by rw [← hkey]; exact takeWhile_pre _ _)
    have HR1 := Lib.hid (HRun.out (a + 1) ((a : Int) + 1) (by omega) false key.length (by rw [← hkey]; rfl) wr (by omega))
    have Hown := Lib.hid hown; have Hb := Lib.hid hbel
    have Hval := Lib.hid hval
    clear hstep hr hown hbel hkey hval
    have HB := Lib.hid hkc
    cases key with
    | nil =>
      have HRb : Hid (R = .bad (a + 1) 11) := by
        show R = _
        rw [Hstep.out, if_pos (.inl rfl)]; rfl
      clear hkc
      go_wp2_with fail
      refine HR1.out.mono ?_
      rintro e w1 ⟨rfl, rfl⟩
      clear HR1
      have HWr := fun W => Lib.hid (wrong_c ((a : Int) + 1) W)
      go_wp2_with fail
      refine (HWr _).out.mono ?_
      rintro e w2 ⟨rfl, hbel⟩
      have Hb3 := Lib.hid (below_then Hb.out hbel (by simp))
      clear hbel HWr
      obtain ⟨y0, y1, f0, f1⟩ := box2f Hb3.out
      go_wp2_with fail
      refine bodyPost_ret (v := .tuple #[.slice none 0 0, .int .i64 0, .agg #[.int .i64 ((a : Int) + 1), .int .i64 11]]) (by simp [results, Tryz.results33, go_sem, y0, y1]) rfl ?_
      rw [HRb.out]
      exact ⟨rfl, ((below_unbox Hb3.out).setCell (p := ⟨W.heap.size, 0, none⟩) (Nat.le_refl _) _).setCell (p := ⟨W.heap.size, 1, none⟩) (Nat.le_refl _) _⟩
    | cons kc kr =>
      obtain ⟨key, hkey⟩ : ∃ key, key = kc :: kr := ⟨_, rfl⟩
      have hkne : key ≠ [] := by rw [hkey]; simp
      rw [← hkey] at hkc hkl HR1 Hval Hstep
      have hk1 : 1 ≤ key.length := by rw [hkey]; simp
      clear HB hkey
      have hKe : ((⟨key.toArray⟩ : ByteArray).toList.isEmpty) = false := by rw [ByteArray.toList_mk]; cases key with | nil => exact absurd rfl hkne | cons _ _ => rfl
      have hKs : (⟨key.toArray⟩ : ByteArray).size = key.length := rfl
      have hKl : (⟨key.toArray⟩ : ByteArray).toList = key := ByteArray.toList_mk _
      obtain ⟨K, hK⟩ : ∃ K, K = (⟨key.toArray⟩ : ByteArray) := ⟨_, rfl⟩
      rw [← hK] at hKe hKs hkc hKl
      have HK := Lib.hid hK; have HKl := Lib.hid hKl
      clear hK hKl
      cases h58 : standsB s (a + 1 + key.length) 58 with
      | false =>
        have HRb : Hid (R = .bad (a + 1 + key.length) 11) := by
          show R = _
          rw [Hstep.out, if_pos (.inr h58)]
        have HS1 := Lib.hid (HS.out (a + 1 + key.length) ((a : Int) + 1 + key.length) (by omega) 58 58 rfl false h58 wr)
        clear h58
        go_wp2_with fail
        refine HR1.out.mono ?_
        rintro e w1 ⟨rfl, rfl⟩
        clear HR1
        go_wp2_with fail
        refine HS1.out.mono ?_
        rintro e w1 ⟨rfl, rfl⟩
        clear HS1
        have HWr := fun W => Lib.hid (wrong_c ((a : Int) + 1 + key.length) W)
        go_wp2_with fail
        refine (HWr _).out.mono ?_
        rintro e w2 ⟨rfl, hbel⟩
        have Hb3 := Lib.hid (below_then Hb.out hbel (by simp))
        clear hbel HWr
        obtain ⟨y0, y1, f0, f1⟩ := box2f Hb3.out
        go_wp2_with fail
        refine bodyPost_ret (v := .tuple #[.slice none 0 0, .int .i64 0, .agg #[.int .i64 ((a : Int) + 1 + key.length), .int .i64 11]]) (by simp [results, Tryz.results33, go_sem, y0, y1]) rfl ?_
        rw [HRb.out]
        exact ⟨rfl, ((below_unbox Hb3.out).setCell (p := ⟨W.heap.size, 0, none⟩) (Nat.le_refl _) _).setCell (p := ⟨W.heap.size, 1, none⟩) (Nat.le_refl _) _⟩
      | true =>
        have ha2 := stands_lt h58
        have HS1 := Lib.hid (HS.out (a + 1 + key.length) ((a : Int) + 1 + key.length) (by omega) 58 58 rfl true h58 wr)
        have hvl := valAt_len s (a + 1 + key.length + 1) (by omega)
        rw [Hval.out] at hvl
        have hvc := Hcut.out (a + 1 + key.length + 1) val (by rw [← Hval.out]; exact takeWhile_pre _ _)
        have HR2 := Lib.hid (HRun.out (a + 1 + key.length + 1) ((a : Int) + 1 + key.length + 1) (by omega) true val.length (by rw [← Hval.out]; rfl) wr (by omega))
        have hVs : (⟨val.toArray⟩ : ByteArray).size = val.length := rfl
        obtain ⟨V, hV⟩ : ∃ V, V = (⟨val.toArray⟩ : ByteArray) := ⟨_, rfl⟩
        rw [← hV] at hVs hvc
        have HV := Lib.hid hV
        have Hs2 : Hid (R = if out.length = 16 then .bad (a + 1) 2
            else if 16 < key.length ∨ 32 < val.length then .bad (a + 1) 3
            else if leB key last = true then .bad (a + 1) 1
            else if standsB s (a + 1 + key.length + 1 + val.length) 125 = true then .ok (out ++ [(key, val)]) (a + 1 + key.length + 1 + val.length + 1)
            else if standsB s (a + 1 + key.length + 1 + val.length) 44 = false then .bad (a + 1 + key.length + 1 + val.length) 11
            else rdP f s (a + 1 + key.length + 1 + val.length) (out ++ [(key, val)]) key) := by
          show R = _
          rw [Hstep.out, if_neg (by simp [hkne, h58])]
        clear h58 hV Hstep Hval
        by_cases h16 : out.length = 16
        · have HRb : Hid (R = .bad (a + 1) 2) := by
            show R = _
            rw [Hs2.out, if_pos h16]
          have h16b : ((out.length : Int) == 16) = true := by simp only [beq_iff_eq]; omega
          clear h16 ho16
          go_wp2_with fail
          refine HR1.out.mono ?_
          rintro e w1 ⟨rfl, rfl⟩
          clear HR1
          go_wp2_with fail
          refine HS1.out.mono ?_
          rintro e w1 ⟨rfl, rfl⟩
          clear HS1
          go_wp2_with fail
          refine HR2.out.mono ?_
          rintro e w1 ⟨rfl, rfl⟩
          clear HR2
          obtain ⟨y0, y1, f0, f1⟩ := box2f Hb.out
          go_wp2_with fail
          refine bodyPost_ret (v := .tuple #[.slice none 0 0, .int .i64 0, .agg #[.int .i64 ((a : Int) + 1), .int .i64 2]]) (by simp [results, Tryz.results33, go_sem, y0, y1]) rfl ?_
          rw [HRb.out]
          exact ⟨rfl, ((below_unbox Hb.out).setCell (p := ⟨W.heap.size, 0, none⟩) (Nat.le_refl _) _).setCell (p := ⟨W.heap.size, 1, none⟩) (Nat.le_refl _) _⟩
        · have h16b : ((out.length : Int) == 16) = false := by simp only [beq_eq_false_iff_ne, ne_eq]; omega
          have ho15 : out.length ≤ 15 := by omega
          by_cases hlong : 16 < key.length ∨ 32 < val.length
          · have HRb : Hid (R = .bad (a + 1) 3) := by
              show R = _
              rw [Hs2.out, if_neg h16, if_pos hlong]
            by_cases hl1 : 16 < key.length
            · clear hlong h16
              go_wp2_with fail
              refine HR1.out.mono ?_
              rintro e w1 ⟨rfl, rfl⟩
              clear HR1
              go_wp2_with fail
              refine HS1.out.mono ?_
              rintro e w1 ⟨rfl, rfl⟩
              clear HS1
              go_wp2_with fail
              refine HR2.out.mono ?_
              rintro e w1 ⟨rfl, rfl⟩
              clear HR2
              obtain ⟨y0, y1, f0, f1⟩ := box2f Hb.out
              go_wp2_with fail
              refine bodyPost_ret (v := .tuple #[.slice none 0 0, .int .i64 0, .agg #[.int .i64 ((a : Int) + 1), .int .i64 3]]) (by simp [results, Tryz.results33, go_sem, y0, y1]) rfl ?_
              rw [HRb.out]
              exact ⟨rfl, ((below_unbox Hb.out).setCell (p := ⟨W.heap.size, 0, none⟩) (Nat.le_refl _) _).setCell (p := ⟨W.heap.size, 1, none⟩) (Nat.le_refl _) _⟩
            · have hl2 : 32 < val.length := by omega
              have hl1' : key.length ≤ 16 := by omega
              clear hlong h16 hl1
              go_wp2_with fail
              refine HR1.out.mono ?_
              rintro e w1 ⟨rfl, rfl⟩
              clear HR1
              go_wp2_with fail
              refine HS1.out.mono ?_
              rintro e w1 ⟨rfl, rfl⟩
              clear HS1
              go_wp2_with fail
              refine HR2.out.mono ?_
              rintro e w1 ⟨rfl, rfl⟩
              clear HR2
              obtain ⟨y0, y1, f0, f1⟩ := box2f Hb.out
              go_wp2_with fail
              refine bodyPost_ret (v := .tuple #[.slice none 0 0, .int .i64 0, .agg #[.int .i64 ((a : Int) + 1), .int .i64 3]]) (by simp [results, Tryz.results33, go_sem, y0, y1]) rfl ?_
              rw [HRb.out]
              exact ⟨rfl, ((below_unbox Hb.out).setCell (p := ⟨W.heap.size, 0, none⟩) (Nat.le_refl _) _).setCell (p := ⟨W.heap.size, 1, none⟩) (Nat.le_refl _) _⟩
          · have hl1 : key.length ≤ 16 := by omega
            have hl2 : val.length ≤ 32 := by omega
            have Hs3 : Hid (R = if leB key last = true then .bad (a + 1) 1
                else if standsB s (a + 1 + key.length + 1 + val.length) 125 = true then .ok (out ++ [(key, val)]) (a + 1 + key.length + 1 + val.length + 1)
                else if standsB s (a + 1 + key.length + 1 + val.length) 44 = false then .bad (a + 1 + key.length + 1 + val.length) 11
                else rdP f s (a + 1 + key.length + 1 + val.length) (out ++ [(key, val)]) key) := by
              show R = _
              rw [Hs2.out, if_neg h16, if_neg hlong]
            have Hle : Hid (leB key last = (Op.bytesLess K.toList last || K.toList == last)) := by
              show leB key last = _
              rw [HKl.out]; rfl
            clear Hs2 hlong h16
            cases hx : Op.bytesLess K.toList last with
            | true =>
              have HRb : Hid (R = .bad (a + 1) 1) := by
                show R = _
                rw [Hs3.out, if_pos (by rw [Hle.out, hx]; rfl)]
              go_wp2_with fail
              refine HR1.out.mono ?_
              rintro e w1 ⟨rfl, rfl⟩
              clear HR1
              go_wp2_with fail
              refine HS1.out.mono ?_
              rintro e w1 ⟨rfl, rfl⟩
              clear HS1
              go_wp2_with fail
              refine HR2.out.mono ?_
              rintro e w1 ⟨rfl, rfl⟩
              clear HR2
              obtain ⟨y0, y1, f0, f1⟩ := box2f Hb.out
              go_wp2_with fail
              refine bodyPost_ret (v := .tuple #[.slice none 0 0, .int .i64 0, .agg #[.int .i64 ((a : Int) + 1), .int .i64 1]]) (by simp [results, Tryz.results33, go_sem, y0, y1]) rfl ?_
              rw [HRb.out]
              exact ⟨rfl, ((below_unbox Hb.out).setCell (p := ⟨W.heap.size, 0, none⟩) (Nat.le_refl _) _).setCell (p := ⟨W.heap.size, 1, none⟩) (Nat.le_refl _) _⟩
            | false =>
              cases hy : (K.toList == last) with
              | true =>
                have HRb : Hid (R = .bad (a + 1) 1) := by
                  show R = _
                  rw [Hs3.out, if_pos (by rw [Hle.out, hx, hy]; rfl)]
                go_wp2_with fail
                refine HR1.out.mono ?_
                rintro e w1 ⟨rfl, rfl⟩
                clear HR1
                go_wp2_with fail
                refine HS1.out.mono ?_
                rintro e w1 ⟨rfl, rfl⟩
                clear HS1
                go_wp2_with fail
                refine HR2.out.mono ?_
                rintro e w1 ⟨rfl, rfl⟩
                clear HR2
                obtain ⟨y0, y1, f0, f1⟩ := box2f Hb.out
                go_wp2_with fail
                refine bodyPost_ret (v := .tuple #[.slice none 0 0, .int .i64 0, .agg #[.int .i64 ((a : Int) + 1), .int .i64 1]]) (by simp [results, Tryz.results33, go_sem, y0, y1]) rfl ?_
                rw [HRb.out]
                exact ⟨rfl, ((below_unbox Hb.out).setCell (p := ⟨W.heap.size, 0, none⟩) (Nat.le_refl _) _).setCell (p := ⟨W.heap.size, 1, none⟩) (Nat.le_refl _) _⟩
              | false =>
                have Hs4 : Hid (R = if standsB s (a + 1 + key.length + 1 + val.length) 125 = true then .ok (out ++ [(key, val)]) (a + 1 + key.length + 1 + val.length + 1)
                    else if standsB s (a + 1 + key.length + 1 + val.length) 44 = false then .bad (a + 1 + key.length + 1 + val.length) 11
                    else rdP f s (a + 1 + key.length + 1 + val.length) (out ++ [(key, val)]) key) := by
                  show R = _
                  rw [Hs3.out, if_neg (by rw [Hle.out, hx, hy]; simp)]
                clear Hs3 Hle
                cases h125 : standsB s (a + 1 + key.length + 1 + val.length) 125 with
                | true =>
                  have HRb : Hid (R = .ok (out ++ [(key, val)]) (a + 1 + key.length + 1 + val.length + 1)) := by
                    show R = _
                    rw [Hs4.out, if_pos h125]
                  have HS2 := fun W => Lib.hid (HS.out (a + 1 + key.length + 1 + val.length) ((a : Int) + 1 + key.length + 1 + val.length) (by omega) 125 125 rfl true h125 W)
                  clear h125
                  go_wp2_with fail
                  refine HR1.out.mono ?_
                  rintro e w1 ⟨rfl, rfl⟩
                  clear HR1
                  go_wp2_with fail
                  refine HS1.out.mono ?_
                  rintro e w1 ⟨rfl, rfl⟩
                  clear HS1
                  go_wp2_with fail
                  refine HR2.out.mono ?_
                  rintro e w1 ⟨rfl, rfl⟩
                  clear HR2
                  go_wp2_with (at_builtin; refine wpList_app rfl _ _ 23 rfl (W.heap.size + 1) 41 (.agg #[.string ⟨#[]⟩, .string ⟨#[]⟩]) 2 32 Tryz.underlying23 info_prop rfl (by decide) _ _ _ rfl (Hown.out.alloc _) (some ⟨wr.heap.size, 0, none⟩) 1 1 (wr.heap.size + 1) [.string K, .string V] rfl ?hr ?h63 ?hb ?hbase ?_)
                  case hr => exact row_two _ _ _ _ _ rfl rfl
                  case h63 => unfold maxLen; omega
                  case hb => omega
                  case hbase => have := Hb.out.size; simp at this ⊢; omega
                  intro v' w3 hown' hgrow
                  have hbel := ((Hb.out.alloc (by have := Hb.out.size; simpa using this) (Obj.cells #[.string K, .string V] 41)).grown hgrow (by have := Hb.out.size; simp at this ⊢; omega) (fun k hk => (Hown.out.lt k hk).1))
                  have hown2 : w3.ownsRow (W.heap.size + 1) 41 2 v' (out ++ [(key, val)]).length (propCells (out ++ [(key, val)])) := by
                    rw [← str_props, List.length_append]
                    have := hown'
                    rw [HK.out, HV.out] at this
                    exact this
                  obtain ⟨va, vc, rfl, -⟩ := row_of_own hown2 (propCells_one _)
                  have Hown2 := Lib.hid hown2; have Hb2 := Lib.hid hbel
                  clear hown' hbel hgrow hown2
                  go_wp2_with fail
                  refine (HS2 _).out.mono ?_
                  rintro e w1 ⟨rfl, rfl⟩
                  clear HS2
                  obtain ⟨y0, y1, f0, f1⟩ := box2f Hb2.out
                  go_wp2_with fail
                  refine bodyPost_ret (v := .tuple #[.slice va (out.length + 1) vc, .int .i64 ((a : Int) + 1 + key.length + 1 + val.length + 1), .agg #[.int .i64 0, .int .i64 0]]) (by simp [results, Tryz.results33, go_sem, y0, y1]) rfl ?_
                  rw [HRb.out]
                  refine ⟨_, rfl, ?_, ((below_unbox Hb2.out).setCell (p := ⟨W.heap.size, 0, none⟩) (Nat.le_refl _) _).setCell (p := ⟨W.heap.size, 1, none⟩) (Nat.le_refl _) _⟩
                  have := own_mono (own_set (off := 1) (u := .int .i64 0) (own_set (b := W.heap.size) (off := 0) (u := .int .i64 0) Hown2.out (by omega)) (b := W.heap.size) (by omega)) (Nat.le_succ _)
                  simpa using this
                | false =>
                  have HS2 := fun W => Lib.hid (HS.out (a + 1 + key.length + 1 + val.length) ((a : Int) + 1 + key.length + 1 + val.length) (by omega) 125 125 rfl false h125 W)
                  cases h44 : standsB s (a + 1 + key.length + 1 + val.length) 44 with
                  | false =>
                    have HRb : Hid (R = .bad (a + 1 + key.length + 1 + val.length) 11) := by
                      show R = _
                      rw [Hs4.out, if_neg (by rw [h125]; simp), if_pos h44]
                    have HS3 := fun W => Lib.hid (HS.out (a + 1 + key.length + 1 + val.length) ((a : Int) + 1 + key.length + 1 + val.length) (by omega) 44 44 rfl false h44 W)
                    clear h125 h44
                    go_wp2_with fail
                    refine HR1.out.mono ?_
                    rintro e w1 ⟨rfl, rfl⟩
                    clear HR1
                    go_wp2_with fail
                    refine HS1.out.mono ?_
                    rintro e w1 ⟨rfl, rfl⟩
                    clear HS1
                    go_wp2_with fail
                    refine HR2.out.mono ?_
                    rintro e w1 ⟨rfl, rfl⟩
                    clear HR2
                    go_wp2_with (at_builtin; refine wpList_app rfl _ _ 23 rfl (W.heap.size + 1) 41 (.agg #[.string ⟨#[]⟩, .string ⟨#[]⟩]) 2 32 Tryz.underlying23 info_prop rfl (by decide) _ _ _ rfl (Hown.out.alloc _) (some ⟨wr.heap.size, 0, none⟩) 1 1 (wr.heap.size + 1) [.string K, .string V] rfl ?hr ?h63 ?hb ?hbase ?_)
                    case hr => exact row_two _ _ _ _ _ rfl rfl
                    case h63 => unfold maxLen; omega
                    case hb => omega
                    case hbase => have := Hb.out.size; simp at this ⊢; omega
                    intro v' w3 hown' hgrow
                    have hbel := ((Hb.out.alloc (by have := Hb.out.size; simpa using this) (Obj.cells #[.string K, .string V] 41)).grown hgrow (by have := Hb.out.size; simp at this ⊢; omega) (fun k hk => (Hown.out.lt k hk).1))
                    have hown2 : w3.ownsRow (W.heap.size + 1) 41 2 v' (out ++ [(key, val)]).length (propCells (out ++ [(key, val)])) := by
                      rw [← str_props, List.length_append]
                      have := hown'
                      rw [HK.out, HV.out] at this
                      exact this
                    obtain ⟨va, vc, rfl, -⟩ := row_of_own hown2 (propCells_one _)
                    have Hown2 := Lib.hid hown2; have Hb2 := Lib.hid hbel
                    clear hown' hbel hgrow hown2
                    go_wp2_with fail
                    refine (HS2 _).out.mono ?_
                    rintro e w1 ⟨rfl, rfl⟩
                    clear HS2
                    go_wp2_with fail
                    refine (HS3 _).out.mono ?_
                    rintro e w1 ⟨rfl, rfl⟩
                    clear HS3
                    have HWr := fun W => Lib.hid (wrong_c ((a : Int) + 1 + key.length + 1 + val.length) W)
                    go_wp2_with fail
                    refine (HWr _).out.mono ?_
                    rintro e w2 ⟨rfl, hbel⟩
                    have Hb3 := Lib.hid (below_then Hb2.out hbel (by simp))
                    clear hbel HWr
                    obtain ⟨y0, y1, f0, f1⟩ := box2f Hb3.out
                    go_wp2_with fail
                    refine bodyPost_ret (v := .tuple #[.slice none 0 0, .int .i64 0, .agg #[.int .i64 ((a : Int) + 1 + key.length + 1 + val.length), .int .i64 11]]) (by simp [results, Tryz.results33, go_sem, y0, y1]) rfl ?_
                    rw [HRb.out]
                    exact ⟨rfl, ((below_unbox Hb3.out).setCell (p := ⟨W.heap.size, 0, none⟩) (Nat.le_refl _) _).setCell (p := ⟨W.heap.size, 1, none⟩) (Nat.le_refl _) _⟩
                  | true =>
                    have ha4 := stands_lt h44
                    have HRn : Hid (rdP f s (a + 1 + key.length + 1 + val.length) (out ++ [(key, val)]) key = R) := by
                      show _ = R
                      rw [Hs4.out, if_neg (by rw [h125]; simp), if_neg (by rw [h44]; simp)]
                    have HS3 := fun W => Lib.hid (HS.out (a + 1 + key.length + 1 + val.length) ((a : Int) + 1 + key.length + 1 + val.length) (by omega) 44 44 rfl true h44 W)
                    clear h125 h44
                    go_wp2_with fail
                    refine HR1.out.mono ?_
                    rintro e w1 ⟨rfl, rfl⟩
                    clear HR1
                    go_wp2_with fail
                    refine HS1.out.mono ?_
                    rintro e w1 ⟨rfl, rfl⟩
                    clear HS1
                    go_wp2_with fail
                    refine HR2.out.mono ?_
                    rintro e w1 ⟨rfl, rfl⟩
                    clear HR2
                    go_wp2_with (at_builtin; refine wpList_app rfl _ _ 23 rfl (W.heap.size + 1) 41 (.agg #[.string ⟨#[]⟩, .string ⟨#[]⟩]) 2 32 Tryz.underlying23 info_prop rfl (by decide) _ _ _ rfl (Hown.out.alloc _) (some ⟨wr.heap.size, 0, none⟩) 1 1 (wr.heap.size + 1) [.string K, .string V] rfl ?hr ?h63 ?hb ?hbase ?_)
                    case hr => exact row_two _ _ _ _ _ rfl rfl
                    case h63 => unfold maxLen; omega
                    case hb => omega
                    case hbase => have := Hb.out.size; simp at this ⊢; omega
                    intro v' w3 hown' hgrow
                    have hbel := ((Hb.out.alloc (by have := Hb.out.size; simpa using this) (Obj.cells #[.string K, .string V] 41)).grown hgrow (by have := Hb.out.size; simp at this ⊢; omega) (fun k hk => (Hown.out.lt k hk).1))
                    have hown2 : w3.ownsRow (W.heap.size + 1) 41 2 v' (out ++ [(key, val)]).length (propCells (out ++ [(key, val)])) := by
                      rw [← str_props, List.length_append]
                      have := hown'
                      rw [HK.out, HV.out] at this
                      exact this
                    obtain ⟨va, vc, rfl, -⟩ := row_of_own hown2 (propCells_one _)
                    have Hown2 := Lib.hid hown2; have Hb2 := Lib.hid hbel
                    clear hown' hbel hgrow hown2
                    go_wp2_with fail
                    refine (HS2 _).out.mono ?_
                    rintro e w1 ⟨rfl, rfl⟩
                    clear HS2
                    go_wp2_with fail
                    refine (HS3 _).out.mono ?_
                    rintro e w1 ⟨rfl, rfl⟩
                    clear HS3
                    go_wp2_with fail
                    go_roundw
                    case rel => exact ⟨a + 1 + key.length + 1 + val.length, f, out ++ [(key, val)], key, by omega, by omega, by go_num, by rw [HK.out], by simp; omega, by simp; omega, HRn.out, by have := Hown2.out; simpa using this, Hb2.out⟩
                    case measure => simp [intOf]; omega

end Go.Proofs.YtmhgbocejjnoaaaGreatDoor
/- Plain words and laws: reading a quoted text. No walk. -/
namespace Go.Redl
open Go.RowKit
set_option linter.unusedVariables false

/-- A digit's value, as ParseUint takes it; none: it is no digit. -/
def digv (c : UInt8) : Option Nat :=
  if 48 ≤ c.toNat ∧ c.toNat ≤ 57 then some (c.toNat - 48)
  else if 97 ≤ (c ||| 32).toNat ∧ (c ||| 32).toNat ≤ 122 then some ((c ||| 32).toNat - 87) else none
/-- What ParseUint makes of digits at base 16 and 32 bits. -/
def parseP : List UInt8 → Nat → Option Nat
  | [], acc => some acc
  | c :: s, acc => match digv c with
    | none => none
    | some d => if 16 ≤ d then none else if 4294967295 < acc * 16 + d then none else parseP s (acc * 16 + d)

theorem digv_dig (n : Nat) (h : n < 16) : digv (dig n) = some n := by
  have : n = 0 ∨ n = 1 ∨ n = 2 ∨ n = 3 ∨ n = 4 ∨ n = 5 ∨ n = 6 ∨ n = 7 ∨ n = 8 ∨ n = 9 ∨ n = 10 ∨ n = 11 ∨ n = 12 ∨ n = 13 ∨ n = 14 ∨ n = 15 := by omega
  rcases this with rfl | rfl | rfl | rfl | rfl | rfl | rfl | rfl | rfl | rfl | rfl | rfl | rfl | rfl | rfl | rfl <;> decide
theorem dig_not59 (n : Nat) (h : n < 16) : dig n ≠ 59 := by
  have : n = 0 ∨ n = 1 ∨ n = 2 ∨ n = 3 ∨ n = 4 ∨ n = 5 ∨ n = 6 ∨ n = 7 ∨ n = 8 ∨ n = 9 ∨ n = 10 ∨ n = 11 ∨ n = 12 ∨ n = 13 ∨ n = 14 ∨ n = 15 := by omega
  rcases this with rfl | rfl | rfl | rfl | rfl | rfl | rfl | rfl | rfl | rfl | rfl | rfl | rfl | rfl | rfl | rfl <;> decide

theorem parseP_snoc : ∀ (xs : List UInt8) (c : UInt8) (acc m d : Nat), parseP xs acc = some m → digv c = some d → d < 16 → m * 16 + d ≤ 4294967295 → parseP (xs ++ [c]) acc = some (m * 16 + d)
  | [], c, acc, m, d, h, hc, hd, hm => by
    simp only [parseP, Option.some.injEq] at h
    subst h
    simp only [List.nil_append, parseP, hc]
    rw [if_neg (by omega), if_neg (by omega)]
  | x :: xs, c, acc, m, d, h, hc, hd, hm => by
    simp only [List.cons_append, parseP] at h ⊢
    cases hx : digv x with
    | none => rw [hx] at h; cases h
    | some e =>
      rw [hx] at h
      simp only at h ⊢
      split at h
      · cases h
      · rename_i h1
        split at h
        · cases h
        · rename_i h2
          rw [if_neg h1, if_neg h2]
          exact parseP_snoc xs c _ m d h hc hd hm
theorem parseP_hexF : ∀ (f n : Nat), n < 16 ^ f → n ≤ 4294967295 → parseP (hexF f n) 0 = some n
  | 0, n, h, _ => by
    have : n = 0 := by simpa using h
    subst this; rfl
  | f + 1, n, h, hb => by
    unfold hexF
    split
    · rename_i hn
      simp only [parseP, digv_dig n hn]
      rw [if_neg (by omega), if_neg (by omega)]
      simp
    · have h1 : n / 16 < 16 ^ f := by
        rw [Nat.pow_succ] at h
        exact Nat.div_lt_of_lt_mul (by rw [Nat.mul_comm]; exact h)
      have := parseP_snoc _ (dig (n % 16)) 0 (n / 16) (n % 16) (parseP_hexF f (n / 16) h1 (by omega)) (digv_dig _ (by omega)) (by omega) (by omega)
      rw [this]
      congr 1; omega
theorem parseP_hexL (n : Nat) (h : n ≤ 4294967295) : parseP (hexL n) 0 = some n := by
  have : (16 : Nat) ^ 20 = 1208925819614629174706176 := by decide
  exact parseP_hexF 20 n (by rw [this]; omega) h
theorem hexF_not59 : ∀ (f n : Nat), ∀ c ∈ hexF f n, c ≠ 59
  | 0, n, c, h => by simp [hexF] at h
  | f + 1, n, c, h => by
    unfold hexF at h
    split at h
    · rename_i hn
      simp at h; subst h; exact dig_not59 n hn
    · simp only [List.mem_append, List.mem_singleton] at h
      rcases h with h | h
      · exact hexF_not59 f _ c h
      · subst h; exact dig_not59 _ (by omega)
theorem hexL_not59 (n : Nat) : ∀ c ∈ hexL n, c ≠ 59 := hexF_not59 20 n
theorem hexL_inj {n m : Nat} (hn : n ≤ 4294967295) (hm : m ≤ 4294967295) (h : hexL n = hexL m) : n = m := by
  have h1 := parseP_hexL n hn
  rw [h, parseP_hexL m hm] at h1
  exact (Option.some.inj h1).symm

/-- The rune that is escaped at the head of a text. -/
def escN (t : List UInt8) : Option Nat :=
  match parseP (t.tail.takeWhile fun c => c != 59) 0 with
  | some n => if validB n && !plainB n && (escL n).isPrefixOf t then some n else none
  | none => none
theorem takeWhile_hex (n : Nat) (rest : List UInt8) : (hexL n ++ 59 :: rest).takeWhile (fun c => c != 59) = hexL n := by
  rw [List.takeWhile_append_of_pos (by intro c hc; simpa using hexL_not59 n c hc)]
  simp
theorem escN_some {t : List UInt8} {n : Nat} : escN t = some n ↔ validB n = true ∧ plainB n = false ∧ escL n <+: t := by
  constructor
  · intro h
    unfold escN at h
    split at h
    · rename_i m hm
      split at h
      · rename_i hc
        cases h
        simp only [Bool.and_eq_true, Bool.not_eq_true', List.isPrefixOf_iff_prefix] at hc
        exact ⟨hc.1.1, hc.1.2, hc.2⟩
      · cases h
    · cases h
  · rintro ⟨h1, h2, h3⟩
    obtain ⟨rest, rfl⟩ := h3
    have hb := valid_bound h1
    unfold escN
    have : ((escL n ++ rest).tail.takeWhile fun c => c != 59) = hexL n := by
      simp only [escL, List.cons_append, List.tail_cons, List.append_assoc]
      exact takeWhile_hex n rest
    rw [this, parseP_hexL n (by omega)]
    simp only
    rw [if_pos]
    simp [h1, h2, List.isPrefixOf_iff_prefix]
/-- The rune that stands first, and how many bytes it has; 0: it is none. -/
def firstS (t : List UInt8) : Int × Nat :=
  match t with
  | [] => (0, 0)
  | c :: _ => if plainB c.toNat then (c.toNat, 1) else match escN t with
    | some n => (n, (escL n).length)
    | none => (0, 0)
/-- Reading on: what is left, what was read, where. -/
def uq : Nat → List UInt8 → List Int → Nat → List Int × Int × Int
  | 0, _, _, at_ => ([], at_, 11)
  | f + 1, t, out, at_ => match t with
    | [] => ([], at_, 11)
    | c :: rest => if c = 34 then (if rest = [] then (out, 0, 0) else ([], at_ + 1, 11))
      else if (firstS t).2 = 0 then ([], at_, 11) else uq f (t.drop (firstS t).2) (out ++ [(firstS t).1]) (at_ + (firstS t).2)
/-- What Unquote answers. -/
def unqL (s : List UInt8) : List Int × Int × Int :=
  match s with
  | [] => ([], 0, 11)
  | c :: rest => if c = 34 then uq (rest.length + 1) rest [] 1 else ([], 0, 11)

end Go.Redl
/- Contracts of the library at this program, laid by the kit (its shelf), in plain words. -/
namespace Go.Proofs
open Go.Shelf
def Tryz.lays137_ren : Go.Shelf.Ren := ⟨fun | 137 => 51 | 217 => 66 | 266 => 75 | n => n, fun | 9 => 9 | 5 => 5 | 3 => 3 | n => n, fun | n => n⟩
theorem Tryz.lays137 : Go.Proofs.Lays.n137 Tryz.prog Tryz.lays137_ren := {
  mixed := by kernel_rfl
  f137 := Tryz.func51.trans (congrArg some (by kernel_rfl))
  f217 := Tryz.func66.trans (congrArg some (by kernel_rfl))
  f266 := Tryz.func75.trans (congrArg some (by kernel_rfl))
  t3 := Tryz.underlying3
  a3 := Tryz.isAgg3
  z3 := Tryz.sizeOf3
  v3 := Tryz.zeroValue3
  t5 := Tryz.underlying5
  a5 := Tryz.isAgg5
  z5 := Tryz.sizeOf5
  v5 := Tryz.zeroValue5
  t9 := Tryz.underlying9
  a9 := Tryz.isAgg9
  z9 := Tryz.sizeOf9
  v9 := Tryz.zeroValue9 }
open Go.RowKit in
theorem Tryz.strings_IndexByte (s : ByteArray) (c : Int) (w : World) :
    Calls Tryz.prog 51 #[.string s, .int .u8 c] w fun e w' => e = .returned (.int .i64 (Lib.indexByte s.data.toList c.toNat.toUInt8)) ∧ w' = w := Any.strings_IndexByte Tryz.lays137 s c w
def Tryz.laysC245_ren : Go.Shelf.Ren := ⟨fun | 245 => 87 | 279 => 98 | 280 => 99 | 281 => 100 | 282 => 101 | 316 => 110 | 171 => 112 | 205 => 111 | 243 => 117 | 246 => 78 | 283 => 88 | 284 => 89 | 285 => 90 | 286 => 91 | 129 => 103 | 317 => 102 | 318 => 104 | 319 => 105 | 320 => 106 | 337 => 113 | 338 => 114 | n => n, fun | 9 => 9 | 3 => 3 | 75 => 76 | 167 => 123 | 4 => 4 | 168 => 125 | 210 => 137 | 37 => 56 | 0 => 0 | 127 => 81 | 145 => 147 | 143 => 145 | 2 => 2 | 171 => 117 | 53 => 103 | 5 => 5 | 173 => 120 | 212 => 130 | 51 => 106 | 20 => 20 | 213 => 131 | 46 => 115 | 232 => 148 | 233 => 149 | 80 => 60 | n => n, fun | 15 => 2 | 16 => 3 | 17 => 1 | 18 => 6 | 19 => 7 | n => n⟩
theorem Tryz.laysC245 : Go.Proofs.LaysC.n245 Tryz.prog Tryz.laysC245_ren := {
  mixed := by kernel_rfl
  f129 := Tryz.func103.trans (congrArg some (by kernel_rfl))
  f171 := Tryz.func112.trans (congrArg some (by kernel_rfl))
  f205 := Tryz.func111.trans (congrArg some (by kernel_rfl))
  f243 := Tryz.func117.trans (congrArg some (by kernel_rfl))
  f245 := Tryz.func87.trans (congrArg some (by kernel_rfl))
  f246 := Tryz.func78.trans (congrArg some (by kernel_rfl))
  f279 := Tryz.func98.trans (congrArg some (by kernel_rfl))
  f280 := Tryz.func99.trans (congrArg some (by kernel_rfl))
  f281 := Tryz.func100.trans (congrArg some (by kernel_rfl))
  f282 := Tryz.func101.trans (congrArg some (by kernel_rfl))
  f283 := Tryz.func88.trans (congrArg some (by kernel_rfl))
  f284 := Tryz.func89.trans (congrArg some (by kernel_rfl))
  f285 := Tryz.func90.trans (congrArg some (by kernel_rfl))
  f286 := Tryz.func91.trans (congrArg some (by kernel_rfl))
  f316 := Tryz.func110.trans (congrArg some (by kernel_rfl))
  f317 := Tryz.func102.trans (congrArg some (by kernel_rfl))
  f318 := Tryz.func104.trans (congrArg some (by kernel_rfl))
  f319 := Tryz.func105.trans (congrArg some (by kernel_rfl))
  f320 := Tryz.func106.trans (congrArg some (by kernel_rfl))
  f337 := Tryz.func113.trans (congrArg some (by kernel_rfl))
  f338 := Tryz.func114.trans (congrArg some (by kernel_rfl))
  t0 := Tryz.underlying0
  a0 := Tryz.isAgg0
  z0 := Tryz.sizeOf0
  v0 := Tryz.zeroValue0
  t2 := Tryz.underlying2
  a2 := Tryz.isAgg2
  z2 := Tryz.sizeOf2
  v2 := Tryz.zeroValue2
  t3 := Tryz.underlying3
  a3 := Tryz.isAgg3
  z3 := Tryz.sizeOf3
  v3 := Tryz.zeroValue3
  t4 := Tryz.underlying4
  a4 := Tryz.isAgg4
  z4 := Tryz.sizeOf4
  v4 := Tryz.zeroValue4
  t5 := Tryz.underlying5
  a5 := Tryz.isAgg5
  z5 := Tryz.sizeOf5
  v5 := Tryz.zeroValue5
  t9 := Tryz.underlying9
  a9 := Tryz.isAgg9
  z9 := Tryz.sizeOf9
  v9 := Tryz.zeroValue9
  t20 := Tryz.underlying20
  a20 := Tryz.isAgg20
  z20 := Tryz.sizeOf20
  v20 := Tryz.zeroValue20
  t37 := Tryz.underlying56
  a37 := Tryz.isAgg56
  z37 := Tryz.sizeOf56
  v37 := Tryz.zeroValue56
  t46 := Tryz.underlying115
  a46 := Tryz.isAgg115
  z46 := Tryz.sizeOf115
  v46 := Tryz.zeroValue115
  t51 := Tryz.underlying106
  a51 := Tryz.isAgg106
  z51 := Tryz.sizeOf106
  v51 := Tryz.zeroValue106
  t53 := Tryz.underlying103
  a53 := Tryz.isAgg103
  z53 := Tryz.sizeOf103
  v53 := Tryz.zeroValue103
  t75 := Tryz.underlying76
  a75 := Tryz.isAgg76
  z75 := Tryz.sizeOf76
  v75 := Tryz.zeroValue76
  t127 := Tryz.underlying81
  a127 := Tryz.isAgg81
  z127 := Tryz.sizeOf81
  v127 := Tryz.zeroValue81
  t143 := Tryz.underlying145
  a143 := Tryz.isAgg145
  z143 := Tryz.sizeOf145
  v143 := Tryz.zeroValue145
  t145 := Tryz.underlying147
  a145 := Tryz.isAgg147
  z145 := Tryz.sizeOf147
  v145 := Tryz.zeroValue147
  t167 := Tryz.underlying123
  a167 := Tryz.isAgg123
  z167 := Tryz.sizeOf123
  v167 := Tryz.zeroValue123
  t168 := Tryz.underlying125
  a168 := Tryz.isAgg125
  z168 := Tryz.sizeOf125
  v168 := Tryz.zeroValue125
  t171 := Tryz.underlying117
  a171 := Tryz.isAgg117
  z171 := Tryz.sizeOf117
  v171 := Tryz.zeroValue117
  t173 := Tryz.underlying120
  a173 := Tryz.isAgg120
  z173 := Tryz.sizeOf120
  v173 := Tryz.zeroValue120
  t210 := Tryz.underlying137
  a210 := Tryz.isAgg137
  z210 := Tryz.sizeOf137
  v210 := Tryz.zeroValue137
  t212 := Tryz.underlying130
  a212 := Tryz.isAgg130
  z212 := Tryz.sizeOf130
  v212 := Tryz.zeroValue130
  t213 := Tryz.underlying131
  a213 := Tryz.isAgg131
  z213 := Tryz.sizeOf131
  t232 := Tryz.underlying148
  a232 := Tryz.isAgg148
  z232 := Tryz.sizeOf148
  v232 := Tryz.zeroValue148
  t233 := Tryz.underlying149
  a233 := Tryz.isAgg149
  z233 := Tryz.sizeOf149
  v233 := Tryz.zeroValue149
  g15 := by kernel_rfl
  g16 := by kernel_rfl
  g17 := by kernel_rfl
  g18 := by kernel_rfl
  g19 := by kernel_rfl
  t80 := Tryz.underlying60
  a80 := Tryz.isAgg60
  z80 := Tryz.sizeOf60
  v80 := Tryz.zeroValue60
  i0 := by kernel_rfl
  i2 := by kernel_rfl
  i3 := by kernel_rfl
  i4 := by kernel_rfl
  i5 := by kernel_rfl
  i9 := by kernel_rfl
  i20 := by kernel_rfl
  i37 := by kernel_rfl
  i46 := by kernel_rfl
  i51 := by kernel_rfl
  i53 := by kernel_rfl
  i75 := by kernel_rfl
  i80 := by kernel_rfl
  i127 := by kernel_rfl
  i143 := by kernel_rfl
  i145 := by kernel_rfl
  i167 := by kernel_rfl
  i168 := by kernel_rfl
  i171 := by kernel_rfl
  i173 := by kernel_rfl
  i210 := by kernel_rfl
  i212 := by kernel_rfl
  i232 := by kernel_rfl
  i233 := by kernel_rfl
  m15 := by kernel_rfl
  m16 := by kernel_rfl
  m17 := by kernel_rfl
  m18 := by kernel_rfl
  m19 := by kernel_rfl
  c0 := by kernel_rfl
  c2 := by kernel_rfl
  c3 := by kernel_rfl
  c4 := by kernel_rfl
  c5 := by kernel_rfl
  c9 := by kernel_rfl
  c20 := by kernel_rfl
  c37 := by kernel_rfl
  c46 := by kernel_rfl
  c51 := by kernel_rfl
  c53 := by kernel_rfl
  c75 := by kernel_rfl
  c80 := by kernel_rfl
  c127 := by kernel_rfl
  c143 := by kernel_rfl
  c145 := by kernel_rfl
  c167 := by kernel_rfl
  c168 := by kernel_rfl
  c171 := by kernel_rfl
  c173 := by kernel_rfl
  c210 := by kernel_rfl
  c212 := by kernel_rfl
  c213 := by kernel_rfl
  c232 := by kernel_rfl
  c233 := by kernel_rfl }
open Go.RowKit in
theorem Tryz.strconv_toError_syntax (fn s : ByteArray) (base bits : Int) (ev : Value) (w : World) (hlim : s.size ≤ 281474976710656) (hv : w.cell? ⟨2, 0, none⟩ = some ev) (hev : ev = .nilIface ∨ ∃ te pe, ev = .iface te pe) :
    Calls Tryz.prog 87 #[.string fn, .string s, .int .i64 base, .int .i64 bits, .iface 123 (.int .i64 2)] w fun e w' => ∃ N, e = .returned (.iface 125 (.pointer (some ⟨N, 0, none⟩))) ∧ w.heap.size ≤ N ∧ w'.heap[N]? = some (.cells #[.string fn, .string s, ev] 137 (0, 0)) ∧ Below w.heap.size w w' := Any.strconv_toError_syntax Tryz.laysC245 fn s base bits ev w hlim hv hev
def Tryz.lays321_ren : Go.Shelf.Ren := ⟨fun | 321 => 96 | n => n, fun | 5 => 5 | n => n, fun | n => n⟩
theorem Tryz.lays321 : Go.Proofs.Lays.n321 Tryz.prog Tryz.lays321_ren := {
  mixed := by kernel_rfl
  f321 := Tryz.func96.trans (congrArg some (by kernel_rfl))
  t5 := Tryz.underlying5
  a5 := Tryz.isAgg5
  z5 := Tryz.sizeOf5
  v5 := Tryz.zeroValue5 }
open Go.RowKit in
theorem Tryz.internal_strconv_lower (c : Int) (w : World) :
    Calls Tryz.prog 96 #[.int .u8 c] w fun e w' => e = .returned (.int .u8 (bits .or .u8 c 32)) ∧ w' = w := Any.internal_strconv_lower Tryz.lays321 c w
open Go.RowKit in
theorem Tryz.strconv_toError_range (fn s : ByteArray) (base bits : Int) (ev : Value) (w : World) (hlim : s.size ≤ 281474976710656) (hv : w.cell? ⟨3, 0, none⟩ = some ev) (hev : ev = .nilIface ∨ ∃ te pe, ev = .iface te pe) :
    Calls Tryz.prog 87 #[.string fn, .string s, .int .i64 base, .int .i64 bits, .iface 123 (.int .i64 1)] w fun e w' => ∃ N, e = .returned (.iface 125 (.pointer (some ⟨N, 0, none⟩))) ∧ w.heap.size ≤ N ∧ w'.heap[N]? = some (.cells #[.string fn, .string s, ev] 137 (0, 0)) ∧ Below w.heap.size w w' := Any.strconv_toError_range Tryz.laysC245 fn s base bits ev w hlim hv hev
end Go.Proofs
