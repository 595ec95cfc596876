/- Parts of the proof, one behind the other: RDB, RS1, RShelf, RPU, RS2, RPV, RS3, RQC, RT1. -/
import Derived.Test.YtmhgbocejjnoaaaGreatDoorPK3
import Derived.Test.YtmhgbocejjnoaaaGreatDoorPK1
import Derived.Test.YtmhgbocejjnoaaaGreatDoorPK2
import Derived.Shelf.Strings.Builder1
import Derived.Shelf.Strings.Trim
import Derived.Shelf.Small.Utf8
import Derived.Shelf.Small.Strs
import Derived.Shelf.Strings.BuilderF
import Derived.Shelf.Strings.BuilderK
import Derived.Shelf.Strings.BuilderRune
import Derived.Shelf.Utf8.AppendRune
import Derived.Shelf.Utf8.AppendRunePlain
import Derived.Shelf.Strconv.Itoa0
import Derived.Shelf.Strconv.Itoa1
import Derived.Shelf.LaysM
import Derived.Shelf.Strconv.Itoa2
import Derived.Shelf.Strconv.Itoa3
import Derived.Shelf.Strconv.Clone
import Derived.Shelf.Strconv.SyntaxError
import Derived.Shelf.LaysC
import Derived.Shelf.Strconv.ToError
import Derived.Shelf.Strconv.Lower
import Derived.Shelf.Strconv.RangeError
import Derived.Shelf.Strconv.ToErrorRange
import Derived.Shelf.Strings.Search1
import Derived.Shelf.Unicode.Decode
import Derived.Shelf.Strings.Runes
import Derived.Shelf.Strings.AsciiSet
import Derived.Shelf.Unicode.DecodeSlow
import Derived.Shelf.Unicode.DecodeAny
import Derived.Shelf.Unicode.DecodeLast
import Derived.Test.YtmhgbocejjnoaaaGreatDoorProg
import Derived.Lib.ConvBytes
import Derived.Deep.RegionWith
import Derived.Lib.IndexLaws
import Derived.Deep.QuietTactic
import Derived.BigQuiet
/- Walks: code's props. -/
namespace Go.Proofs.YtmhgbocejjnoaaaGreatDoor
open Go.RowKit Go.Redl
set_option linter.unusedVariables false

/-- What reading answers: a thing and the place behind it; or a place and an error. -/
inductive Rd (α : Type) where
  | ok (x : α) (e : Nat)
  | bad (at_ : Nat) (e : Int)

/-- A key, a value: where they end. -/
def keyAt (s : List UInt8) (a : Nat) : List UInt8 := (s.drop a).takeWhile lowB
def valAt (s : List UInt8) (a : Nat) : List UInt8 := (s.drop a).takeWhile valcB
/-- Properties, from the byte ahead of the first one on. -/
def rdP : Nat → List UInt8 → Nat → List PropD → List UInt8 → Rd (List PropD)
  | 0, _, a, _, _ => .bad a 11
  | f + 1, s, a, out, last =>
    if keyAt s (a + 1) = [] ∨ standsB s (a + 1 + (keyAt s (a + 1)).length) 58 = false then .bad (a + 1 + (keyAt s (a + 1)).length) 11
    else if out.length = 16 then .bad (a + 1) 2
    else if 16 < (keyAt s (a + 1)).length ∨ 32 < (valAt s (a + 1 + (keyAt s (a + 1)).length + 1)).length then .bad (a + 1) 3
    else if leB (keyAt s (a + 1)) last = true then .bad (a + 1) 1
    else if standsB s (a + 1 + (keyAt s (a + 1)).length + 1 + (valAt s (a + 1 + (keyAt s (a + 1)).length + 1)).length) 125 = true then .ok (out ++ [(keyAt s (a + 1), valAt s (a + 1 + (keyAt s (a + 1)).length + 1))]) (a + 1 + (keyAt s (a + 1)).length + 1 + (valAt s (a + 1 + (keyAt s (a + 1)).length + 1)).length + 1)
    else if standsB s (a + 1 + (keyAt s (a + 1)).length + 1 + (valAt s (a + 1 + (keyAt s (a + 1)).length + 1)).length) 44 = false then .bad (a + 1 + (keyAt s (a + 1)).length + 1 + (valAt s (a + 1 + (keyAt s (a + 1)).length + 1)).length) 11
    else rdP f s (a + 1 + (keyAt s (a + 1)).length + 1 + (valAt s (a + 1 + (keyAt s (a + 1)).length + 1)).length) (out ++ [(keyAt s (a + 1), valAt s (a + 1 + (keyAt s (a + 1)).length + 1))]) (keyAt s (a + 1))
/-- One step, its parts named. -/
theorem rdP_step (f : Nat) (s : List UInt8) (a : Nat) (out : List PropD) (last key val : List UInt8) (hk : keyAt s (a + 1) = key) (hv : valAt s (a + 1 + key.length + 1) = val) :
    rdP (f + 1) s a out last = if key = [] ∨ standsB s (a + 1 + key.length) 58 = false then .bad (a + 1 + key.length) 11
    else if out.length = 16 then .bad (a + 1) 2
    else if 16 < key.length ∨ 32 < val.length then .bad (a + 1) 3
    else if leB key last = true then .bad (a + 1) 1
    else if standsB s (a + 1 + key.length + 1 + val.length) 125 = true then .ok (out ++ [(key, val)]) (a + 1 + key.length + 1 + val.length + 1)
    else if standsB s (a + 1 + key.length + 1 + val.length) 44 = false then .bad (a + 1 + key.length + 1 + val.length) 11
    else rdP f s (a + 1 + key.length + 1 + val.length) (out ++ [(key, val)]) key := by
  subst hk; subst hv; rw [rdP]
theorem stands_lt {s : List UInt8} {a : Nat} {c : UInt8} (h : standsB s a c = true) : a < s.length := by
  rcases Nat.lt_or_ge a s.length with h1 | h1
  · exact h1
  · unfold standsB at h; rw [List.getElem?_eq_none h1] at h; simp at h
theorem takeWhile_le (p : UInt8 → Bool) (l : List UInt8) : (l.takeWhile p).length ≤ l.length := by
  have := congrArg List.length (List.takeWhile_append_dropWhile (p := p) (l := l))
  simp only [List.length_append] at this; omega
theorem keyAt_len (s : List UInt8) (a : Nat) (h : a ≤ s.length) : a + (keyAt s a).length ≤ s.length := by
  have := takeWhile_le lowB (s.drop a)
  unfold keyAt; simp only [List.length_drop] at this; omega
theorem valAt_len (s : List UInt8) (a : Nat) (h : a ≤ s.length) : a + (valAt s a).length ≤ s.length := by
  have := takeWhile_le valcB (s.drop a)
  unfold valAt; simp only [List.length_drop] at this; omega
theorem cut_run (s : List UInt8) (a : Nat) (l : List UInt8) (h : ∃ r, s.drop a = l ++ r) : (⟨s.toArray⟩ : ByteArray).extract a (a + l.length) = ⟨l.toArray⟩ := by
  obtain ⟨r, h⟩ := h
  rw [ByteArray.extract_mk, h]
  have : a + l.length - a = l.length := by omega
  rw [this, List.take_left]
theorem takeWhile_pre (p : UInt8 → Bool) (l : List UInt8) : ∃ r, l = l.takeWhile p ++ r := ⟨l.dropWhile p, (List.takeWhile_append_dropWhile).symm⟩

/-- What props answers. -/
def PropsP (W : World) (R : Rd (List PropD)) (e : Ending) (w' : World) : Prop :=
  match R with
  | .ok ps n => ∃ v, e = .returned (.tuple #[v, .int .i64 n, .agg #[.int .i64 0, .int .i64 0]]) ∧ w'.ownsRow W.heap.size 41 2 v ps.length (propCells ps) ∧ Below W.heap.size W w'
  | .bad a er => e = .returned (.tuple #[.slice none 0 0, .int .i64 0, .agg #[.int .i64 a, .int .i64 er]]) ∧ Below W.heap.size W w'

theorem stands_z (s : List UInt8) (k : Nat) (z : Int) (hz : z = k) (c : UInt8) (n : Int) (hc : (c.toNat : Int) = n) (b : Bool) (hb : standsB s k c = b) (W : World) (hn : s.length ≤ 1000000000) :
    Calls Tryz.prog 32 #[.string ⟨s.toArray⟩, .int .i64 z, .int .u8 n] W fun e w' => e = .returned (.bool b) ∧ W = w' := by
  subst hz; subst hb; exact stands_c s k c n hc W hn
theorem run_z (s : List UInt8) (a : Nat) (z : Int) (hz : z = a) (more : Bool) (m : Nat) (hm : runN (if more then valcB else lowB) s a = m) (W : World) (hn : s.length ≤ 1000000000) (ha : a ≤ s.length) :
    Calls Tryz.prog 50 #[.string ⟨s.toArray⟩, .int .i64 z, .bool more] W fun e w' => e = .returned (.int .i64 m) ∧ W = w' := by
  subst hz; subst hm; exact run_c s a more W hn ha

theorem box2f {w w1 : World} {c0 c1 : Value} {T : TypeId} (hb : Below (w.heap.size + 1) (w.alloc (.cells #[c0, c1] T)) w1) :
    w1.cell? ⟨w.heap.size, 0, none⟩ = some c0 ∧ w1.cell? ⟨w.heap.size, 1, none⟩ = some c1 ∧ w1.frozen? ⟨w.heap.size, 0, none⟩ = false ∧ w1.frozen? ⟨w.heap.size, 1, none⟩ = false := by
  have h : w1.heap[w.heap.size]? = some (.cells #[c0, c1] T (0, 0)) := by
    rw [hb.block w.heap.size (by omega)]
    exact heap_alloc_new w _
  refine ⟨?_, ?_, ?_, ?_⟩
  · rw [cell_of_row _ _ _ _ _ _ h]; rfl
  · rw [cell_of_row _ _ _ _ _ _ h]; rfl
  · simp [World.frozen?, h]
  · simp [World.frozen?, h]
theorem str_props (ps : List PropD) (p : PropD) : propCells ps ++ [.string ⟨p.1.toArray⟩, .string ⟨p.2.toArray⟩] = propCells (ps ++ [p]) := by simp [propCells]
/-- A literal of two cells, just made. -/
theorem row_two (w : World) (c0 c1 : Value) (E : TypeId) (B : Nat) (h0 : c0.oneCell' = true) (h1 : c1.oneCell' = true) (hB : w.heap.size < B := by omega) : RowA (w.alloc (.cells #[c0, c1] E)) B 2 (some ⟨w.heap.size, 0, none⟩) 1 1 [c0, c1] := by
  refine ⟨by simp, Nat.le_refl _, by unfold maxLen; omega, by simp [h0, h1], (fun h => by cases h), fun _ => ⟨w.heap.size, 0, rfl, hB, fun j u hj => ?_⟩⟩
  have hg : (w.alloc (.cells #[c0, c1] E)).heap[w.heap.size]? = some (.cells #[c0, c1] E (0, 0)) := heap_alloc_new w _
  rw [cell_of_row _ w.heap.size (0 + j) #[c0, c1] E (0, 0) hg]
  simpa using hj

/-- What is owned stays so behind a store into another block. -/
theorem own_set {w : World} {base e sz n b off : Nat} {v u : Value} {cs : List Value} (h : w.ownsRow base e sz v n cs) (hb : b < base) : (w.setCell ⟨b, off, none⟩ u).ownsRow base e sz v n cs := by
  refine h.kept (row := some b) ⟨rfl, rfl, rfl, by simp [World.setCell], fun i hi hne => Below.heap_setCell w ⟨b, off, none⟩ u i (fun e => hne (by rw [e]))⟩ ?_
  cases hv : v.ownBlock with
  | none => simp
  | some k =>
    have := (h.lt k hv).1
    simp
    try omega

theorem info_prop : (Tryz.prog.info? 41).map (fun i => (i.zero, i.size, i.bytes)) = some (some (.agg #[.string ⟨#[]⟩, .string ⟨#[]⟩]), 2, 32) := by kernel_rfl

set_option maxRecDepth 100000 in
set_option maxHeartbeats 4000000 in
theorem props_c (s : List UInt8) (a0 : Nat) (W : World) (hn : s.length ≤ 1000000) (ha : a0 < s.length) :
    Calls Tryz.prog 33 #[.string ⟨s.toArray⟩, .int .i64 a0] W (PropsP W (rdP (s.length + 1) s a0 [] [])) := by
  obtain ⟨R, hR⟩ : ∃ R, R = rdP (s.length + 1) s a0 [] [] := ⟨_, rfl⟩
  rw [← hR]
  have HR := Lib.hid hR
  have Hcut := Lib.hid (cut_run s)
  have hsz : (⟨s.toArray⟩ : ByteArray).size = s.length := rfl
  have HS := fun (k : Nat) (z : Int) (hz : z = k) (c : UInt8) (n : Int) (hc : (c.toNat : Int) = n) (b : Bool) (hb : standsB s k c = b) (W : World) => stands_z s k z hz c n hc b hb W (by omega)
  have HRun := fun (a : Nat) (z : Int) (hz : z = a) (more : Bool) (m : Nat) (hm : runN (if more then valcB else lowB) s a = m) (W : World) (ha : a ≤ s.length) => run_z s a z hz more m hm W (by omega) ha
  generalize (⟨s.toArray⟩ : ByteArray) = S at Hcut hsz HS HRun ⊢
  have HS := Lib.hid HS; have HRun := Lib.hid HRun
  clear hR
  go_enter Tryz.func33, Tryz.ntmps33
  go_wp2_with fail
  go_loopw [1, 7, 8] (fun i o l wr => ∃ (a f : Nat) (out : List PropD) (last : List UInt8), a < s.length ∧ s.length < f + a ∧ i = .int .i64 a ∧ l = .string ⟨last.toArray⟩ ∧ out.length ≤ a ∧ out.length ≤ 16 ∧ rdP f s a out last = R ∧ wr.ownsRow (W.heap.size + 1) 41 2 o out.length (propCells out) ∧ Below (W.heap.size + 1) (W.alloc (Obj.cells #[.int .i64 0, .int .i64 0] 43)) wr) (fun i _ _ _ => s.length - (intOf i).toNat)
  case atStart => exact ⟨a0, s.length + 1, [], [], ha, by omega, rfl, rfl, by simp, by simp, HR.out.symm, World.ownsRow_nil _ _ _ _, Below.refl _ _⟩
  case round =>
    obtain ⟨a, f, out, last, hal, hf, rfl, rfl, hoa, ho16, hr, hown, hbel⟩ := hrel
    obtain ⟨f, rfl⟩ : ∃ f', f = f' + 1 := ⟨f - 1, by omega⟩
    obtain ⟨oa, oc, rfl, horow⟩ := row_of_own hown (propCells_one _)
    have hoc := horow.le
    clear horow
    obtain ⟨key, hkey⟩ : ∃ key, keyAt s (a + 1) = key := ⟨_, rfl⟩
    obtain ⟨val, hval⟩ : ∃ val, valAt s (a + 1 + key.length + 1) = val := ⟨_, rfl⟩
    have hstep := rdP_step f s a out last key val hkey hval
    rw [hr] at hstep
    have Hstep := Lib.hid hstep
    have hkl := keyAt_len s (a + 1) (by omega)
    rw [hkey] at hkl
    have hkc := Hcut.out (a + 1) key (by rw [← hkey]; exact takeWhile_pre _ _)
    have HR1 := Lib.hid (HRun.out (a + 1) ((a : Int) + 1) (by omega) false key.length (by rw [← hkey]; rfl) wr (by omega))
    have Hown := Lib.hid hown; have Hb := Lib.hid hbel
    have Hval := Lib.hid hval
    clear hstep hr hown hbel hkey hval
    have HB := Lib.hid hkc
    cases key with
    | nil =>
      have HRb : Hid (R = .bad (a + 1) 11) := by
        show R = _
        rw [Hstep.out, if_pos (.inl rfl)]; rfl
      clear hkc
      go_wp2_with fail
      refine HR1.out.mono ?_
      rintro e w1 ⟨rfl, rfl⟩
      clear HR1
      have HWr := fun W => Lib.hid (wrong_c ((a : Int) + 1) W)
      go_wp2_with fail
      refine (HWr _).out.mono ?_
      rintro e w2 ⟨rfl, hbel⟩
      have Hb3 := Lib.hid (below_then Hb.out hbel (by simp))
      clear hbel HWr
      obtain ⟨y0, y1, f0, f1⟩ := box2f Hb3.out
      go_wp2_with fail
      refine bodyPost_ret (v := .tuple #[.slice none 0 0, .int .i64 0, .agg #[.int .i64 ((a : Int) + 1), .int .i64 11]]) (by simp [results, Tryz.results33, go_sem, y0, y1]) rfl ?_
      rw [HRb.out]
      exact ⟨rfl, ((below_unbox Hb3.out).setCell (p := ⟨W.heap.size, 0, none⟩) (Nat.le_refl _) _).setCell (p := ⟨W.heap.size, 1, none⟩) (Nat.le_refl _) _⟩
    | cons kc kr =>
      obtain ⟨key, hkey⟩ : ∃ key, key = kc :: kr := ⟨_, rfl⟩
      have hkne : key ≠ [] := by rw [hkey]; simp
      rw [← hkey] at hkc hkl HR1 Hval Hstep
      have hk1 : 1 ≤ key.length := by rw [hkey]; simp
      clear HB hkey
      have hKe : ((⟨key.toArray⟩ : ByteArray).toList.isEmpty) = false := by rw [ByteArray.toList_mk]; cases key with | nil => exact absurd rfl hkne | cons _ _ => rfl
      have hKs : (⟨key.toArray⟩ : ByteArray).size = key.length := rfl
      have hKl : (⟨key.toArray⟩ : ByteArray).toList = key := ByteArray.toList_mk _
      obtain ⟨K, hK⟩ : ∃ K, K = (⟨key.toArray⟩ : ByteArray) := ⟨_, rfl⟩
      rw [← hK] at hKe hKs hkc hKl
      have HK := Lib.hid hK; have HKl := Lib.hid hKl
      clear hK hKl
      cases h58 : standsB s (a + 1 + key.length) 58 with
      | false =>
        have HRb : Hid (R = .bad (a + 1 + key.length) 11) := by
          show R = _
          rw [Hstep.out, if_pos (.inr h58)]
        have HS1 := Lib.hid (HS.out (a + 1 + key.length) ((a : Int) + 1 + key.length) (by omega) 58 58 rfl false h58 wr)
        clear h58
        go_wp2_with fail
        refine HR1.out.mono ?_
        rintro e w1 ⟨rfl, rfl⟩
        clear HR1
        go_wp2_with fail
        refine HS1.out.mono ?_
        rintro e w1 ⟨rfl, rfl⟩
        clear HS1
        have HWr := fun W => Lib.hid (wrong_c ((a : Int) + 1 + key.length) W)
        go_wp2_with fail
        refine (HWr _).out.mono ?_
        rintro e w2 ⟨rfl, hbel⟩
        have Hb3 := Lib.hid (below_then Hb.out hbel (by simp))
        clear hbel HWr
        obtain ⟨y0, y1, f0, f1⟩ := box2f Hb3.out
        go_wp2_with fail
        refine bodyPost_ret (v := .tuple #[.slice none 0 0, .int .i64 0, .agg #[.int .i64 ((a : Int) + 1 + key.length), .int .i64 11]]) (by simp [results, Tryz.results33, go_sem, y0, y1]) rfl ?_
        rw [HRb.out]
        exact ⟨rfl, ((below_unbox Hb3.out).setCell (p := ⟨W.heap.size, 0, none⟩) (Nat.le_refl _) _).setCell (p := ⟨W.heap.size, 1, none⟩) (Nat.le_refl _) _⟩
      | true =>
        have ha2 := stands_lt h58
        have HS1 := Lib.hid (HS.out (a + 1 + key.length) ((a : Int) + 1 + key.length) (by omega) 58 58 rfl true h58 wr)
        have hvl := valAt_len s (a + 1 + key.length + 1) (by omega)
        rw [Hval.out] at hvl
        have hvc := Hcut.out (a + 1 + key.length + 1) val (by rw [← Hval.out]; exact takeWhile_pre _ _)
        have HR2 := Lib.hid (HRun.out (a + 1 + key.length + 1) ((a : Int) + 1 + key.length + 1) (by omega) true val.length (by rw [← Hval.out]; rfl) wr (by omega))
        have hVs : (⟨val.toArray⟩ : ByteArray).size = val.length := rfl
        obtain ⟨V, hV⟩ : ∃ V, V = (⟨val.toArray⟩ : ByteArray) := ⟨_, rfl⟩
        rw [← hV] at hVs hvc
        have HV := Lib.hid hV
        have Hs2 : Hid (R = if out.length = 16 then .bad (a + 1) 2
            else if 16 < key.length ∨ 32 < val.length then .bad (a + 1) 3
            else if leB key last = true then .bad (a + 1) 1
            else if standsB s (a + 1 + key.length + 1 + val.length) 125 = true then .ok (out ++ [(key, val)]) (a + 1 + key.length + 1 + val.length + 1)
            else if standsB s (a + 1 + key.length + 1 + val.length) 44 = false then .bad (a + 1 + key.length + 1 + val.length) 11
            else rdP f s (a + 1 + key.length + 1 + val.length) (out ++ [(key, val)]) key) := by
          show R = _
          rw [Hstep.out, if_neg (by simp [hkne, h58])]
        clear h58 hV Hstep Hval
        by_cases h16 : out.length = 16
        · have HRb : Hid (R = .bad (a + 1) 2) := by
            show R = _
            rw [Hs2.out, if_pos h16]
          have h16b : ((out.length : Int) == 16) = true := by simp only [beq_iff_eq]; omega
          clear h16 ho16
          go_wp2_with fail
          refine HR1.out.mono ?_
          rintro e w1 ⟨rfl, rfl⟩
          clear HR1
          go_wp2_with fail
          refine HS1.out.mono ?_
          rintro e w1 ⟨rfl, rfl⟩
          clear HS1
          go_wp2_with fail
          refine HR2.out.mono ?_
          rintro e w1 ⟨rfl, rfl⟩
          clear HR2
          obtain ⟨y0, y1, f0, f1⟩ := box2f Hb.out
          go_wp2_with fail
          refine bodyPost_ret (v := .tuple #[.slice none 0 0, .int .i64 0, .agg #[.int .i64 ((a : Int) + 1), .int .i64 2]]) (by simp [results, Tryz.results33, go_sem, y0, y1]) rfl ?_
          rw [HRb.out]
          exact ⟨rfl, ((below_unbox Hb.out).setCell (p := ⟨W.heap.size, 0, none⟩) (Nat.le_refl _) _).setCell (p := ⟨W.heap.size, 1, none⟩) (Nat.le_refl _) _⟩
        · have h16b : ((out.length : Int) == 16) = false := by simp only [beq_eq_false_iff_ne, ne_eq]; omega
          have ho15 : out.length ≤ 15 := by omega
          by_cases hlong : 16 < key.length ∨ 32 < val.length
          · have HRb : Hid (R = .bad (a + 1) 3) := by
              show R = _
              rw [Hs2.out, if_neg h16, if_pos hlong]
            by_cases hl1 : 16 < key.length
            · clear hlong h16
              go_wp2_with fail
              refine HR1.out.mono ?_
              rintro e w1 ⟨rfl, rfl⟩
              clear HR1
              go_wp2_with fail
              refine HS1.out.mono ?_
              rintro e w1 ⟨rfl, rfl⟩
              clear HS1
              go_wp2_with fail
              refine HR2.out.mono ?_
              rintro e w1 ⟨rfl, rfl⟩
              clear HR2
              obtain ⟨y0, y1, f0, f1⟩ := box2f Hb.out
              go_wp2_with fail
              refine bodyPost_ret (v := .tuple #[.slice none 0 0, .int .i64 0, .agg #[.int .i64 ((a : Int) + 1), .int .i64 3]]) (by simp [results, Tryz.results33, go_sem, y0, y1]) rfl ?_
              rw [HRb.out]
              exact ⟨rfl, ((below_unbox Hb.out).setCell (p := ⟨W.heap.size, 0, none⟩) (Nat.le_refl _) _).setCell (p := ⟨W.heap.size, 1, none⟩) (Nat.le_refl _) _⟩
            · have hl2 : 32 < val.length := by omega
              have hl1' : key.length ≤ 16 := by omega
              clear hlong h16 hl1
              go_wp2_with fail
              refine HR1.out.mono ?_
              rintro e w1 ⟨rfl, rfl⟩
              clear HR1
              go_wp2_with fail
              refine HS1.out.mono ?_
              rintro e w1 ⟨rfl, rfl⟩
              clear HS1
              go_wp2_with fail
              refine HR2.out.mono ?_
              rintro e w1 ⟨rfl, rfl⟩
              clear HR2
              obtain ⟨y0, y1, f0, f1⟩ := box2f Hb.out
              go_wp2_with fail
              refine bodyPost_ret (v := .tuple #[.slice none 0 0, .int .i64 0, .agg #[.int .i64 ((a : Int) + 1), .int .i64 3]]) (by simp [results, Tryz.results33, go_sem, y0, y1]) rfl ?_
              rw [HRb.out]
              exact ⟨rfl, ((below_unbox Hb.out).setCell (p := ⟨W.heap.size, 0, none⟩) (Nat.le_refl _) _).setCell (p := ⟨W.heap.size, 1, none⟩) (Nat.le_refl _) _⟩
          · have hl1 : key.length ≤ 16 := by omega
            have hl2 : val.length ≤ 32 := by omega
            have Hs3 : Hid (R = if leB key last = true then .bad (a + 1) 1
                else if standsB s (a + 1 + key.length + 1 + val.length) 125 = true then .ok (out ++ [(key, val)]) (a + 1 + key.length + 1 + val.length + 1)
                else if standsB s (a + 1 + key.length + 1 + val.length) 44 = false then .bad (a + 1 + key.length + 1 + val.length) 11
                else rdP f s (a + 1 + key.length + 1 + val.length) (out ++ [(key, val)]) key) := by
              show R = _
              rw [Hs2.out, if_neg h16, if_neg hlong]
            have Hle : Hid (leB key last = (Op.bytesLess K.toList last || K.toList == last)) := by
              show leB key last = _
              rw [HKl.out]; rfl
            clear Hs2 hlong h16
            cases hx : Op.bytesLess K.toList last with
            | true =>
              have HRb : Hid (R = .bad (a + 1) 1) := by
                show R = _
                rw [Hs3.out, if_pos (by rw [Hle.out, hx]; rfl)]
              go_wp2_with fail
              refine HR1.out.mono ?_
              rintro e w1 ⟨rfl, rfl⟩
              clear HR1
              go_wp2_with fail
              refine HS1.out.mono ?_
              rintro e w1 ⟨rfl, rfl⟩
              clear HS1
              go_wp2_with fail
              refine HR2.out.mono ?_
              rintro e w1 ⟨rfl, rfl⟩
              clear HR2
              obtain ⟨y0, y1, f0, f1⟩ := box2f Hb.out
              go_wp2_with fail
              refine bodyPost_ret (v := .tuple #[.slice none 0 0, .int .i64 0, .agg #[.int .i64 ((a : Int) + 1), .int .i64 1]]) (by simp [results, Tryz.results33, go_sem, y0, y1]) rfl ?_
              rw [HRb.out]
              exact ⟨rfl, ((below_unbox Hb.out).setCell (p := ⟨W.heap.size, 0, none⟩) (Nat.le_refl _) _).setCell (p := ⟨W.heap.size, 1, none⟩) (Nat.le_refl _) _⟩
            | false =>
              cases hy : (K.toList == last) with
              | true =>
                have HRb : Hid (R = .bad (a + 1) 1) := by
                  show R = _
                  rw [Hs3.out, if_pos (by rw [Hle.out, hx, hy]; rfl)]
                go_wp2_with fail
                refine HR1.out.mono ?_
                rintro e w1 ⟨rfl, rfl⟩
                clear HR1
                go_wp2_with fail
                refine HS1.out.mono ?_
                rintro e w1 ⟨rfl, rfl⟩
                clear HS1
                go_wp2_with fail
                refine HR2.out.mono ?_
                rintro e w1 ⟨rfl, rfl⟩
                clear HR2
                obtain ⟨y0, y1, f0, f1⟩ := box2f Hb.out
                go_wp2_with fail
                refine bodyPost_ret (v := .tuple #[.slice none 0 0, .int .i64 0, .agg #[.int .i64 ((a : Int) + 1), .int .i64 1]]) (by simp [results, Tryz.results33, go_sem, y0, y1]) rfl ?_
                rw [HRb.out]
                exact ⟨rfl, ((below_unbox Hb.out).setCell (p := ⟨W.heap.size, 0, none⟩) (Nat.le_refl _) _).setCell (p := ⟨W.heap.size, 1, none⟩) (Nat.le_refl _) _⟩
              | false =>
                have Hs4 : Hid (R = if standsB s (a + 1 + key.length + 1 + val.length) 125 = true then .ok (out ++ [(key, val)]) (a + 1 + key.length + 1 + val.length + 1)
                    else if standsB s (a + 1 + key.length + 1 + val.length) 44 = false then .bad (a + 1 + key.length + 1 + val.length) 11
                    else rdP f s (a + 1 + key.length + 1 + val.length) (out ++ [(key, val)]) key) := by
                  show R = _
                  rw [Hs3.out, if_neg (by rw [Hle.out, hx, hy]; simp)]
                clear Hs3 Hle
                cases h125 : standsB s (a + 1 + key.length + 1 + val.length) 125 with
                | true =>
                  have HRb : Hid (R = .ok (out ++ [(key, val)]) (a + 1 + key.length + 1 + val.length + 1)) := by
                    show R = _
                    rw [Hs4.out, if_pos h125]
                  have HS2 := fun W => Lib.hid (HS.out (a + 1 + key.length + 1 + val.length) ((a : Int) + 1 + key.length + 1 + val.length) (by omega) 125 125 rfl true h125 W)
                  clear h125
                  go_wp2_with fail
                  refine HR1.out.mono ?_
                  rintro e w1 ⟨rfl, rfl⟩
                  clear HR1
                  go_wp2_with fail
                  refine HS1.out.mono ?_
                  rintro e w1 ⟨rfl, rfl⟩
                  clear HS1
                  go_wp2_with fail
                  refine HR2.out.mono ?_
                  rintro e w1 ⟨rfl, rfl⟩
                  clear HR2
                  go_wp2_with (at_builtin; refine wpList_app rfl _ _ 23 rfl (W.heap.size + 1) 41 (.agg #[.string ⟨#[]⟩, .string ⟨#[]⟩]) 2 32 Tryz.underlying23 info_prop rfl (by decide) _ _ _ rfl (Hown.out.alloc _) (some ⟨wr.heap.size, 0, none⟩) 1 1 (wr.heap.size + 1) [.string K, .string V] rfl ?hr ?h63 ?hb ?hbase ?_)
                  case hr => exact row_two _ _ _ _ _ rfl rfl
                  case h63 => unfold maxLen; omega
                  case hb => omega
                  case hbase => have := Hb.out.size; simp at this ⊢; omega
                  intro v' w3 hown' hgrow
                  have hbel := ((Hb.out.alloc (by have := Hb.out.size; simpa using this) (Obj.cells #[.string K, .string V] 41)).grown hgrow (by have := Hb.out.size; simp at this ⊢; omega) (fun k hk => (Hown.out.lt k hk).1))
                  have hown2 : w3.ownsRow (W.heap.size + 1) 41 2 v' (out ++ [(key, val)]).length (propCells (out ++ [(key, val)])) := by
                    rw [← str_props, List.length_append]
                    have := hown'
                    rw [HK.out, HV.out] at this
                    exact this
                  obtain ⟨va, vc, rfl, -⟩ := row_of_own hown2 (propCells_one _)
                  have Hown2 := Lib.hid hown2; have Hb2 := Lib.hid hbel
                  clear hown' hbel hgrow hown2
                  go_wp2_with fail
                  refine (HS2 _).out.mono ?_
                  rintro e w1 ⟨rfl, rfl⟩
                  clear HS2
                  obtain ⟨y0, y1, f0, f1⟩ := box2f Hb2.out
                  go_wp2_with fail
                  refine bodyPost_ret (v := .tuple #[.slice va (out.length + 1) vc, .int .i64 ((a : Int) + 1 + key.length + 1 + val.length + 1), .agg #[.int .i64 0, .int .i64 0]]) (by simp [results, Tryz.results33, go_sem, y0, y1]) rfl ?_
                  rw [HRb.out]
                  refine ⟨_, rfl, ?_, ((below_unbox Hb2.out).setCell (p := ⟨W.heap.size, 0, none⟩) (Nat.le_refl _) _).setCell (p := ⟨W.heap.size, 1, none⟩) (Nat.le_refl _) _⟩
                  have := own_mono (own_set (off := 1) (u := .int .i64 0) (own_set (b := W.heap.size) (off := 0) (u := .int .i64 0) Hown2.out (by omega)) (b := W.heap.size) (by omega)) (Nat.le_succ _)
                  simpa using this
                | false =>
                  have HS2 := fun W => Lib.hid (HS.out (a + 1 + key.length + 1 + val.length) ((a : Int) + 1 + key.length + 1 + val.length) (by omega) 125 125 rfl false h125 W)
                  cases h44 : standsB s (a + 1 + key.length + 1 + val.length) 44 with
                  | false =>
                    have HRb : Hid (R = .bad (a + 1 + key.length + 1 + val.length) 11) := by
                      show R = _
                      rw [Hs4.out, if_neg (by rw [h125]; simp), if_pos h44]
                    have HS3 := fun W => Lib.hid (HS.out (a + 1 + key.length + 1 + val.length) ((a : Int) + 1 + key.length + 1 + val.length) (by omega) 44 44 rfl false h44 W)
                    clear h125 h44
                    go_wp2_with fail
                    refine HR1.out.mono ?_
                    rintro e w1 ⟨rfl, rfl⟩
                    clear HR1
                    go_wp2_with fail
                    refine HS1.out.mono ?_
                    rintro e w1 ⟨rfl, rfl⟩
                    clear HS1
                    go_wp2_with fail
                    refine HR2.out.mono ?_
                    rintro e w1 ⟨rfl, rfl⟩
                    clear HR2
                    go_wp2_with (at_builtin; refine wpList_app rfl _ _ 23 rfl (W.heap.size + 1) 41 (.agg #[.string ⟨#[]⟩, .string ⟨#[]⟩]) 2 32 Tryz.underlying23 info_prop rfl (by decide) _ _ _ rfl (Hown.out.alloc _) (some ⟨wr.heap.size, 0, none⟩) 1 1 (wr.heap.size + 1) [.string K, .string V] rfl ?hr ?h63 ?hb ?hbase ?_)
                    case hr => exact row_two _ _ _ _ _ rfl rfl
                    case h63 => unfold maxLen; omega
                    case hb => omega
                    case hbase => have := Hb.out.size; simp at this ⊢; omega
                    intro v' w3 hown' hgrow
                    have hbel := ((Hb.out.alloc (by have := Hb.out.size; simpa using this) (Obj.cells #[.string K, .string V] 41)).grown hgrow (by have := Hb.out.size; simp at this ⊢; omega) (fun k hk => (Hown.out.lt k hk).1))
                    have hown2 : w3.ownsRow (W.heap.size + 1) 41 2 v' (out ++ [(key, val)]).length (propCells (out ++ [(key, val)])) := by
                      rw [← str_props, List.length_append]
                      have := hown'
                      rw [HK.out, HV.out] at this
                      exact this
                    obtain ⟨va, vc, rfl, -⟩ := row_of_own hown2 (propCells_one _)
                    have Hown2 := Lib.hid hown2; have Hb2 := Lib.hid hbel
                    clear hown' hbel hgrow hown2
                    go_wp2_with fail
                    refine (HS2 _).out.mono ?_
                    rintro e w1 ⟨rfl, rfl⟩
                    clear HS2
                    go_wp2_with fail
                    refine (HS3 _).out.mono ?_
                    rintro e w1 ⟨rfl, rfl⟩
                    clear HS3
                    have HWr := fun W => Lib.hid (wrong_c ((a : Int) + 1 + key.length + 1 + val.length) W)
                    go_wp2_with fail
                    refine (HWr _).out.mono ?_
                    rintro e w2 ⟨rfl, hbel⟩
                    have Hb3 := Lib.hid (below_then Hb2.out hbel (by simp))
                    clear hbel HWr
                    obtain ⟨y0, y1, f0, f1⟩ := box2f Hb3.out
                    go_wp2_with fail
                    refine bodyPost_ret (v := .tuple #[.slice none 0 0, .int .i64 0, .agg #[.int .i64 ((a : Int) + 1 + key.length + 1 + val.length), .int .i64 11]]) (by simp [results, Tryz.results33, go_sem, y0, y1]) rfl ?_
                    rw [HRb.out]
                    exact ⟨rfl, ((below_unbox Hb3.out).setCell (p := ⟨W.heap.size, 0, none⟩) (Nat.le_refl _) _).setCell (p := ⟨W.heap.size, 1, none⟩) (Nat.le_refl _) _⟩
                  | true =>
                    have ha4 := stands_lt h44
                    have HRn : Hid (rdP f s (a + 1 + key.length + 1 + val.length) (out ++ [(key, val)]) key = R) := by
                      show _ = R
                      rw [Hs4.out, if_neg (by rw [h125]; simp), if_neg (by rw [h44]; simp)]
                    have HS3 := fun W => Lib.hid (HS.out (a + 1 + key.length + 1 + val.length) ((a : Int) + 1 + key.length + 1 + val.length) (by omega) 44 44 rfl true h44 W)
                    clear h125 h44
                    go_wp2_with fail
                    refine HR1.out.mono ?_
                    rintro e w1 ⟨rfl, rfl⟩
                    clear HR1
                    go_wp2_with fail
                    refine HS1.out.mono ?_
                    rintro e w1 ⟨rfl, rfl⟩
                    clear HS1
                    go_wp2_with fail
                    refine HR2.out.mono ?_
                    rintro e w1 ⟨rfl, rfl⟩
                    clear HR2
                    go_wp2_with (at_builtin; refine wpList_app rfl _ _ 23 rfl (W.heap.size + 1) 41 (.agg #[.string ⟨#[]⟩, .string ⟨#[]⟩]) 2 32 Tryz.underlying23 info_prop rfl (by decide) _ _ _ rfl (Hown.out.alloc _) (some ⟨wr.heap.size, 0, none⟩) 1 1 (wr.heap.size + 1) [.string K, .string V] rfl ?hr ?h63 ?hb ?hbase ?_)
                    case hr => exact row_two _ _ _ _ _ rfl rfl
                    case h63 => unfold maxLen; omega
                    case hb => omega
                    case hbase => have := Hb.out.size; simp at this ⊢; omega
                    intro v' w3 hown' hgrow
                    have hbel := ((Hb.out.alloc (by have := Hb.out.size; simpa using this) (Obj.cells #[.string K, .string V] 41)).grown hgrow (by have := Hb.out.size; simp at this ⊢; omega) (fun k hk => (Hown.out.lt k hk).1))
                    have hown2 : w3.ownsRow (W.heap.size + 1) 41 2 v' (out ++ [(key, val)]).length (propCells (out ++ [(key, val)])) := by
                      rw [← str_props, List.length_append]
                      have := hown'
                      rw [HK.out, HV.out] at this
                      exact this
                    obtain ⟨va, vc, rfl, -⟩ := row_of_own hown2 (propCells_one _)
                    have Hown2 := Lib.hid hown2; have Hb2 := Lib.hid hbel
                    clear hown' hbel hgrow hown2
                    go_wp2_with fail
                    refine (HS2 _).out.mono ?_
                    rintro e w1 ⟨rfl, rfl⟩
                    clear HS2
                    go_wp2_with fail
                    refine (HS3 _).out.mono ?_
                    rintro e w1 ⟨rfl, rfl⟩
                    clear HS3
                    go_wp2_with fail
                    go_roundw
                    case rel => exact ⟨a + 1 + key.length + 1 + val.length, f, out ++ [(key, val)], key, by omega, by omega, by go_num, by rw [HK.out], by simp; omega, by simp; omega, HRn.out, by have := Hown2.out; simpa using this, Hb2.out⟩
                    case measure => simp [intOf]; omega

end Go.Proofs.YtmhgbocejjnoaaaGreatDoor
/- Plain words and laws: reading a quoted text. No walk. -/
namespace Go.Redl
open Go.RowKit
set_option linter.unusedVariables false

/-- A digit's value, as ParseUint takes it; none: it is no digit. -/
def digv (c : UInt8) : Option Nat :=
  if 48 ≤ c.toNat ∧ c.toNat ≤ 57 then some (c.toNat - 48)
  else if 97 ≤ (c ||| 32).toNat ∧ (c ||| 32).toNat ≤ 122 then some ((c ||| 32).toNat - 87) else none
/-- What ParseUint makes of digits at base 16 and 32 bits. -/
def parseP : List UInt8 → Nat → Option Nat
  | [], acc => some acc
  | c :: s, acc => match digv c with
    | none => none
    | some d => if 16 ≤ d then none else if 4294967295 < acc * 16 + d then none else parseP s (acc * 16 + d)

theorem digv_dig (n : Nat) (h : n < 16) : digv (dig n) = some n := by
  have : n = 0 ∨ n = 1 ∨ n = 2 ∨ n = 3 ∨ n = 4 ∨ n = 5 ∨ n = 6 ∨ n = 7 ∨ n = 8 ∨ n = 9 ∨ n = 10 ∨ n = 11 ∨ n = 12 ∨ n = 13 ∨ n = 14 ∨ n = 15 := by omega
  rcases this with rfl | rfl | rfl | rfl | rfl | rfl | rfl | rfl | rfl | rfl | rfl | rfl | rfl | rfl | rfl | rfl <;> decide
theorem dig_not59 (n : Nat) (h : n < 16) : dig n ≠ 59 := by
  have : n = 0 ∨ n = 1 ∨ n = 2 ∨ n = 3 ∨ n = 4 ∨ n = 5 ∨ n = 6 ∨ n = 7 ∨ n = 8 ∨ n = 9 ∨ n = 10 ∨ n = 11 ∨ n = 12 ∨ n = 13 ∨ n = 14 ∨ n = 15 := by omega
  rcases this with rfl | rfl | rfl | rfl | rfl | rfl | rfl | rfl | rfl | rfl | rfl | rfl | rfl | rfl | rfl | rfl <;> decide

theorem parseP_snoc : ∀ (xs : List UInt8) (c : UInt8) (acc m d : Nat), parseP xs acc = some m → digv c = some d → d < 16 → m * 16 + d ≤ 4294967295 → parseP (xs ++ [c]) acc = some (m * 16 + d)
  | [], c, acc, m, d, h, hc, hd, hm => by
    simp only [parseP, Option.some.injEq] at h
    subst h
    simp only [List.nil_append, parseP, hc]
    rw [if_neg (by omega), if_neg (by omega)]
  | x :: xs, c, acc, m, d, h, hc, hd, hm => by
    simp only [List.cons_append, parseP] at h ⊢
    cases hx : digv x with
    | none => rw [hx] at h; cases h
    | some e =>
      rw [hx] at h
      simp only at h ⊢
      split at h
      · cases h
      · rename_i h1
        split at h
        · cases h
        · rename_i h2
          rw [if_neg h1, if_neg h2]
          exact parseP_snoc xs c _ m d h hc hd hm
theorem parseP_hexF : ∀ (f n : Nat), n < 16 ^ f → n ≤ 4294967295 → parseP (hexF f n) 0 = some n
  | 0, n, h, _ => by
    have : n = 0 := by simpa using h
    subst this; rfl
  | f + 1, n, h, hb => by
    unfold hexF
    split
    · rename_i hn
      simp only [parseP, digv_dig n hn]
      rw [if_neg (by omega), if_neg (by omega)]
      simp
    · have h1 : n / 16 < 16 ^ f := by
        rw [Nat.pow_succ] at h
        exact Nat.div_lt_of_lt_mul (by rw [Nat.mul_comm]; exact h)
      have := parseP_snoc _ (dig (n % 16)) 0 (n / 16) (n % 16) (parseP_hexF f (n / 16) h1 (by omega)) (digv_dig _ (by omega)) (by omega) (by omega)
      rw [this]
      congr 1; omega
theorem parseP_hexL (n : Nat) (h : n ≤ 4294967295) : parseP (hexL n) 0 = some n := by
  have : (16 : Nat) ^ 20 = 1208925819614629174706176 := by decide
  exact parseP_hexF 20 n (by rw [this]; omega) h
theorem hexF_not59 : ∀ (f n : Nat), ∀ c ∈ hexF f n, c ≠ 59
  | 0, n, c, h => by simp [hexF] at h
  | f + 1, n, c, h => by
    unfold hexF at h
    split at h
    · rename_i hn
      simp at h; subst h; exact dig_not59 n hn
    · simp only [List.mem_append, List.mem_singleton] at h
      rcases h with h | h
      · exact hexF_not59 f _ c h
      · subst h; exact dig_not59 _ (by omega)
theorem hexL_not59 (n : Nat) : ∀ c ∈ hexL n, c ≠ 59 := hexF_not59 20 n
theorem hexL_inj {n m : Nat} (hn : n ≤ 4294967295) (hm : m ≤ 4294967295) (h : hexL n = hexL m) : n = m := by
  have h1 := parseP_hexL n hn
  rw [h, parseP_hexL m hm] at h1
  exact (Option.some.inj h1).symm

/-- The rune that is escaped at the head of a text. -/
def escN (t : List UInt8) : Option Nat :=
  match parseP (t.tail.takeWhile fun c => c != 59) 0 with
  | some n => if validB n && !plainB n && (escL n).isPrefixOf t then some n else none
  | none => none
theorem takeWhile_hex (n : Nat) (rest : List UInt8) : (hexL n ++ 59 :: rest).takeWhile (fun c => c != 59) = hexL n := by
  rw [List.takeWhile_append_of_pos (by intro c hc; simpa using hexL_not59 n c hc)]
  simp
theorem escN_some {t : List UInt8} {n : Nat} : escN t = some n ↔ validB n = true ∧ plainB n = false ∧ escL n <+: t := by
  constructor
  · intro h
    unfold escN at h
    split at h
    · rename_i m hm
      split at h
      · rename_i hc
        cases h
        simp only [Bool.and_eq_true, Bool.not_eq_true', List.isPrefixOf_iff_prefix] at hc
        exact ⟨hc.1.1, hc.1.2, hc.2⟩
      · cases h
    · cases h
  · rintro ⟨h1, h2, h3⟩
    obtain ⟨rest, rfl⟩ := h3
    have hb := valid_bound h1
    unfold escN
    have : ((escL n ++ rest).tail.takeWhile fun c => c != 59) = hexL n := by
      simp only [escL, List.cons_append, List.tail_cons, List.append_assoc]
      exact takeWhile_hex n rest
    rw [this, parseP_hexL n (by omega)]
    simp only
    rw [if_pos]
    simp [h1, h2, List.isPrefixOf_iff_prefix]
/-- The rune that stands first, and how many bytes it has; 0: it is none. -/
def firstS (t : List UInt8) : Int × Nat :=
  match t with
  | [] => (0, 0)
  | c :: _ => if plainB c.toNat then (c.toNat, 1) else match escN t with
    | some n => (n, (escL n).length)
    | none => (0, 0)
/-- Reading on: what is left, what was read, where. -/
def uq : Nat → List UInt8 → List Int → Nat → List Int × Int × Int
  | 0, _, _, at_ => ([], at_, 11)
  | f + 1, t, out, at_ => match t with
    | [] => ([], at_, 11)
    | c :: rest => if c = 34 then (if rest = [] then (out, 0, 0) else ([], at_ + 1, 11))
      else if (firstS t).2 = 0 then ([], at_, 11) else uq f (t.drop (firstS t).2) (out ++ [(firstS t).1]) (at_ + (firstS t).2)
/-- What Unquote answers. -/
def unqL (s : List UInt8) : List Int × Int × Int :=
  match s with
  | [] => ([], 0, 11)
  | c :: rest => if c = 34 then uq (rest.length + 1) rest [] 1 else ([], 0, 11)

end Go.Redl
/- Contracts of the library at this program, laid by the kit (its shelf), in plain words. -/
namespace Go.Proofs
open Go.Shelf
def Tryz.lays137_ren : Go.Shelf.Ren := ⟨fun | 137 => 51 | 217 => 66 | 266 => 75 | n => n, fun | 9 => 9 | 5 => 5 | 3 => 3 | n => n, fun | n => n⟩
theorem Tryz.lays137 : Go.Proofs.Lays.n137 Tryz.prog Tryz.lays137_ren := {
  mixed := by kernel_rfl
  f137 := Tryz.func51.trans (congrArg some (by kernel_rfl))
  f217 := Tryz.func66.trans (congrArg some (by kernel_rfl))
  f266 := Tryz.func75.trans (congrArg some (by kernel_rfl))
  t3 := Tryz.underlying3
  a3 := Tryz.isAgg3
  z3 := Tryz.sizeOf3
  v3 := Tryz.zeroValue3
  t5 := Tryz.underlying5
  a5 := Tryz.isAgg5
  z5 := Tryz.sizeOf5
  v5 := Tryz.zeroValue5
  t9 := Tryz.underlying9
  a9 := Tryz.isAgg9
  z9 := Tryz.sizeOf9
  v9 := Tryz.zeroValue9 }
open Go.RowKit in
theorem Tryz.strings_IndexByte (s : ByteArray) (c : Int) (w : World) :
    Calls Tryz.prog 51 #[.string s, .int .u8 c] w fun e w' => e = .returned (.int .i64 (Lib.indexByte s.data.toList c.toNat.toUInt8)) ∧ w' = w := Any.strings_IndexByte Tryz.lays137 s c w
def Tryz.laysC245_ren : Go.Shelf.Ren := ⟨fun | 245 => 87 | 279 => 98 | 280 => 99 | 281 => 100 | 282 => 101 | 316 => 110 | 171 => 112 | 205 => 111 | 243 => 117 | 246 => 78 | 283 => 88 | 284 => 89 | 285 => 90 | 286 => 91 | 129 => 103 | 317 => 102 | 318 => 104 | 319 => 105 | 320 => 106 | 337 => 113 | 338 => 114 | n => n, fun | 9 => 9 | 3 => 3 | 75 => 76 | 167 => 123 | 4 => 4 | 168 => 125 | 210 => 137 | 37 => 56 | 0 => 0 | 127 => 81 | 145 => 147 | 143 => 145 | 2 => 2 | 171 => 117 | 53 => 103 | 5 => 5 | 173 => 120 | 212 => 130 | 51 => 106 | 20 => 20 | 213 => 131 | 46 => 115 | 232 => 148 | 233 => 149 | 80 => 60 | n => n, fun | 15 => 2 | 16 => 3 | 17 => 1 | 18 => 6 | 19 => 7 | n => n⟩
theorem Tryz.laysC245 : Go.Proofs.LaysC.n245 Tryz.prog Tryz.laysC245_ren := {
  mixed := by kernel_rfl
  f129 := Tryz.func103.trans (congrArg some (by kernel_rfl))
  f171 := Tryz.func112.trans (congrArg some (by kernel_rfl))
  f205 := Tryz.func111.trans (congrArg some (by kernel_rfl))
  f243 := Tryz.func117.trans (congrArg some (by kernel_rfl))
  f245 := Tryz.func87.trans (congrArg some (by kernel_rfl))
  f246 := Tryz.func78.trans (congrArg some (by kernel_rfl))
  f279 := Tryz.func98.trans (congrArg some (by kernel_rfl))
  f280 := Tryz.func99.trans (congrArg some (by kernel_rfl))
  f281 := Tryz.func100.trans (congrArg some (by kernel_rfl))
  f282 := Tryz.func101.trans (congrArg some (by kernel_rfl))
  f283 := Tryz.func88.trans (congrArg some (by kernel_rfl))
  f284 := Tryz.func89.trans (congrArg some (by kernel_rfl))
  f285 := Tryz.func90.trans (congrArg some (by kernel_rfl))
  f286 := Tryz.func91.trans (congrArg some (by kernel_rfl))
  f316 := Tryz.func110.trans (congrArg some (by kernel_rfl))
  f317 := Tryz.func102.trans (congrArg some (by kernel_rfl))
  f318 := Tryz.func104.trans (congrArg some (by kernel_rfl))
  f319 := Tryz.func105.trans (congrArg some (by kernel_rfl))
  f320 := Tryz.func106.trans (congrArg some (by kernel_rfl))
  f337 := Tryz.func113.trans (congrArg some (by kernel_rfl))
  f338 := Tryz.func114.trans (congrArg some (by kernel_rfl))
  t0 := Tryz.underlying0
  a0 := Tryz.isAgg0
  z0 := Tryz.sizeOf0
  v0 := Tryz.zeroValue0
  t2 := Tryz.underlying2
  a2 := Tryz.isAgg2
  z2 := Tryz.sizeOf2
  v2 := Tryz.zeroValue2
  t3 := Tryz.underlying3
  a3 := Tryz.isAgg3
  z3 := Tryz.sizeOf3
  v3 := Tryz.zeroValue3
  t4 := Tryz.underlying4
  a4 := Tryz.isAgg4
  z4 := Tryz.sizeOf4
  v4 := Tryz.zeroValue4
  t5 := Tryz.underlying5
  a5 := Tryz.isAgg5
  z5 := Tryz.sizeOf5
  v5 := Tryz.zeroValue5
  t9 := Tryz.underlying9
  a9 := Tryz.isAgg9
  z9 := Tryz.sizeOf9
  v9 := Tryz.zeroValue9
  t20 := Tryz.underlying20
  a20 := Tryz.isAgg20
  z20 := Tryz.sizeOf20
  v20 := Tryz.zeroValue20
  t37 := Tryz.underlying56
  a37 := Tryz.isAgg56
  z37 := Tryz.sizeOf56
  v37 := Tryz.zeroValue56
  t46 := Tryz.underlying115
  a46 := Tryz.isAgg115
  z46 := Tryz.sizeOf115
  v46 := Tryz.zeroValue115
  t51 := Tryz.underlying106
  a51 := Tryz.isAgg106
  z51 := Tryz.sizeOf106
  v51 := Tryz.zeroValue106
  t53 := Tryz.underlying103
  a53 := Tryz.isAgg103
  z53 := Tryz.sizeOf103
  v53 := Tryz.zeroValue103
  t75 := Tryz.underlying76
  a75 := Tryz.isAgg76
  z75 := Tryz.sizeOf76
  v75 := Tryz.zeroValue76
  t127 := Tryz.underlying81
  a127 := Tryz.isAgg81
  z127 := Tryz.sizeOf81
  v127 := Tryz.zeroValue81
  t143 := Tryz.underlying145
  a143 := Tryz.isAgg145
  z143 := Tryz.sizeOf145
  v143 := Tryz.zeroValue145
  t145 := Tryz.underlying147
  a145 := Tryz.isAgg147
  z145 := Tryz.sizeOf147
  v145 := Tryz.zeroValue147
  t167 := Tryz.underlying123
  a167 := Tryz.isAgg123
  z167 := Tryz.sizeOf123
  v167 := Tryz.zeroValue123
  t168 := Tryz.underlying125
  a168 := Tryz.isAgg125
  z168 := Tryz.sizeOf125
  v168 := Tryz.zeroValue125
  t171 := Tryz.underlying117
  a171 := Tryz.isAgg117
  z171 := Tryz.sizeOf117
  v171 := Tryz.zeroValue117
  t173 := Tryz.underlying120
  a173 := Tryz.isAgg120
  z173 := Tryz.sizeOf120
  v173 := Tryz.zeroValue120
  t210 := Tryz.underlying137
  a210 := Tryz.isAgg137
  z210 := Tryz.sizeOf137
  v210 := Tryz.zeroValue137
  t212 := Tryz.underlying130
  a212 := Tryz.isAgg130
  z212 := Tryz.sizeOf130
  v212 := Tryz.zeroValue130
  t213 := Tryz.underlying131
  a213 := Tryz.isAgg131
  z213 := Tryz.sizeOf131
  t232 := Tryz.underlying148
  a232 := Tryz.isAgg148
  z232 := Tryz.sizeOf148
  v232 := Tryz.zeroValue148
  t233 := Tryz.underlying149
  a233 := Tryz.isAgg149
  z233 := Tryz.sizeOf149
  v233 := Tryz.zeroValue149
  g15 := by kernel_rfl
  g16 := by kernel_rfl
  g17 := by kernel_rfl
  g18 := by kernel_rfl
  g19 := by kernel_rfl
  t80 := Tryz.underlying60
  a80 := Tryz.isAgg60
  z80 := Tryz.sizeOf60
  v80 := Tryz.zeroValue60
  i0 := by kernel_rfl
  i2 := by kernel_rfl
  i3 := by kernel_rfl
  i4 := by kernel_rfl
  i5 := by kernel_rfl
  i9 := by kernel_rfl
  i20 := by kernel_rfl
  i37 := by kernel_rfl
  i46 := by kernel_rfl
  i51 := by kernel_rfl
  i53 := by kernel_rfl
  i75 := by kernel_rfl
  i80 := by kernel_rfl
  i127 := by kernel_rfl
  i143 := by kernel_rfl
  i145 := by kernel_rfl
  i167 := by kernel_rfl
  i168 := by kernel_rfl
  i171 := by kernel_rfl
  i173 := by kernel_rfl
  i210 := by kernel_rfl
  i212 := by kernel_rfl
  i232 := by kernel_rfl
  i233 := by kernel_rfl
  m15 := by kernel_rfl
  m16 := by kernel_rfl
  m17 := by kernel_rfl
  m18 := by kernel_rfl
  m19 := by kernel_rfl
  c0 := by kernel_rfl
  c2 := by kernel_rfl
  c3 := by kernel_rfl
  c4 := by kernel_rfl
  c5 := by kernel_rfl
  c9 := by kernel_rfl
  c20 := by kernel_rfl
  c37 := by kernel_rfl
  c46 := by kernel_rfl
  c51 := by kernel_rfl
  c53 := by kernel_rfl
  c75 := by kernel_rfl
  c80 := by kernel_rfl
  c127 := by kernel_rfl
  c143 := by kernel_rfl
  c145 := by kernel_rfl
  c167 := by kernel_rfl
  c168 := by kernel_rfl
  c171 := by kernel_rfl
  c173 := by kernel_rfl
  c210 := by kernel_rfl
  c212 := by kernel_rfl
  c213 := by kernel_rfl
  c232 := by kernel_rfl
  c233 := by kernel_rfl }
open Go.RowKit in
theorem Tryz.strconv_toError_syntax (fn s : ByteArray) (base bits : Int) (ev : Value) (w : World) (hlim : s.size ≤ 281474976710656) (hv : w.cell? ⟨2, 0, none⟩ = some ev) (hev : ev = .nilIface ∨ ∃ te pe, ev = .iface te pe) :
    Calls Tryz.prog 87 #[.string fn, .string s, .int .i64 base, .int .i64 bits, .iface 123 (.int .i64 2)] w fun e w' => ∃ N, e = .returned (.iface 125 (.pointer (some ⟨N, 0, none⟩))) ∧ w.heap.size ≤ N ∧ w'.heap[N]? = some (.cells #[.string fn, .string s, ev] 137 (0, 0)) ∧ Below w.heap.size w w' := Any.strconv_toError_syntax Tryz.laysC245 fn s base bits ev w hlim hv hev
def Tryz.lays321_ren : Go.Shelf.Ren := ⟨fun | 321 => 96 | n => n, fun | 5 => 5 | n => n, fun | n => n⟩
theorem Tryz.lays321 : Go.Proofs.Lays.n321 Tryz.prog Tryz.lays321_ren := {
  mixed := by kernel_rfl
  f321 := Tryz.func96.trans (congrArg some (by kernel_rfl))
  t5 := Tryz.underlying5
  a5 := Tryz.isAgg5
  z5 := Tryz.sizeOf5
  v5 := Tryz.zeroValue5 }
open Go.RowKit in
theorem Tryz.internal_strconv_lower (c : Int) (w : World) :
    Calls Tryz.prog 96 #[.int .u8 c] w fun e w' => e = .returned (.int .u8 (bits .or .u8 c 32)) ∧ w' = w := Any.internal_strconv_lower Tryz.lays321 c w
open Go.RowKit in
theorem Tryz.strconv_toError_range (fn s : ByteArray) (base bits : Int) (ev : Value) (w : World) (hlim : s.size ≤ 281474976710656) (hv : w.cell? ⟨3, 0, none⟩ = some ev) (hev : ev = .nilIface ∨ ∃ te pe, ev = .iface te pe) :
    Calls Tryz.prog 87 #[.string fn, .string s, .int .i64 base, .int .i64 bits, .iface 123 (.int .i64 1)] w fun e w' => ∃ N, e = .returned (.iface 125 (.pointer (some ⟨N, 0, none⟩))) ∧ w.heap.size ≤ N ∧ w'.heap[N]? = some (.cells #[.string fn, .string s, ev] 137 (0, 0)) ∧ Below w.heap.size w w' := Any.strconv_toError_range Tryz.laysC245 fn s base bits ev w hlim hv hev
end Go.Proofs
/- Walks: strconv.ParseUint at base 16 and 32 bits. -/
namespace Go.Proofs.YtmhgbocejjnoaaaGreatDoor
open Go.RowKit Go.Redl
set_option linter.unusedVariables false

set_option maxRecDepth 100000 in
set_option maxHeartbeats 1000000 in
theorem iparse_empty (w : World) :
    Calls Tryz.prog 86 #[.string ⟨#[]⟩, .int .i64 16, .int .i64 32] w fun e w' => e = .returned (.tuple #[.int .u64 0, .iface 123 (.int .i64 2)]) ∧ w = w' := by
  go_enter Tryz.func86, Tryz.ntmps86
  go_wp2_with fail
  go_ret2
  exact ⟨rfl, rfl⟩

theorem conv_bytes (s : List UInt8) (w : World) : ∃ cap wb, (convert 9 56 (.string ⟨s.toArray⟩)).run Tryz.prog w = .ok (.slice (some ⟨w.heap.size, 0, none⟩) s.length cap) wb ∧ Below w.heap.size w wb ∧
    ∀ j, j < s.length → wb.cell? ⟨w.heap.size, j, none⟩ = some (.int .u8 (s.getD j 0).toNat) := by
  refine ⟨_, _, Lib.run_convert_string_bytes w 9 56 5 ⟨s.toArray⟩ Tryz.underlying9 Tryz.underlying56 Tryz.underlying5, ?_, fun j hj => ?_⟩
  · exact ⟨rfl, rfl, rfl, by rw [Lib.bytesWorld_size]; omega, fun k hk => Lib.bytesWorld_at_old w _ _ k hk⟩
  · have := Lib.bytesWorld_cell w 5 ⟨s.toArray⟩ j hj
    simpa using this

theorem lower_c (c : UInt8) (w : World) : Calls Tryz.prog 96 #[.int .u8 (c.toNat : Int)] w fun e w' => e = .returned (.int .u8 ((c ||| 32).toNat : Int)) ∧ w = w' := by
  refine (Tryz.internal_strconv_lower c.toNat w).mono ?_
  rintro e w' ⟨rfl, rfl⟩
  refine ⟨?_, rfl⟩
  have h := u8_or_nat c.toNat 32 (UInt8.toNat_lt c) (by omega)
  rw [show ((32 : Nat) : Int) = 32 from rfl] at h
  rw [h]
  rfl

/-- What the inner ParseUint answers. -/
def ParsedI (w : World) (p : Option Nat) (x : Ending) (w' : World) : Prop :=
  Below w.heap.size w w' ∧ ((∃ m, p = some m ∧ x = .returned (.tuple #[.int .u64 m, .nilIface])) ∨ (p = none ∧ ∃ (m : Nat) (k : Int), (k = 1 ∨ k = 2) ∧ x = .returned (.tuple #[.int .u64 m, .iface 123 (.int .i64 k)])))
/-- Where the reading stands. -/
def PInv (s : List UInt8) (k acc : Nat) : Prop := acc ≤ 4294967295 ∧ parseP s 0 = parseP (s.drop k) acc
theorem pinv_start (s : List UInt8) : PInv s 0 0 := ⟨by omega, by simp⟩
theorem pinv_step {s : List UInt8} {k acc d : Nat} (h : PInv s k acc) (hk : k < s.length) (hd : digv s[k] = some d) (hlt : d < 16) (hb : acc * 16 + d ≤ 4294967295) : PInv s (k + 1) (acc * 16 + d) := by
  refine ⟨hb, ?_⟩
  rw [h.2, List.drop_eq_getElem_cons hk, parseP, hd]
  simp only
  rw [if_neg (by omega), if_neg (by omega)]
theorem pinv_bad {s : List UInt8} {k acc : Nat} (h : PInv s k acc) (hk : k < s.length) (hd : digv s[k] = none) : parseP s 0 = none := by
  rw [h.2, List.drop_eq_getElem_cons hk, parseP, hd]
theorem pinv_big {s : List UInt8} {k acc d : Nat} (h : PInv s k acc) (hk : k < s.length) (hd : digv s[k] = some d) (hb : 16 ≤ d ∨ 4294967295 < acc * 16 + d) : parseP s 0 = none := by
  rw [h.2, List.drop_eq_getElem_cons hk, parseP, hd]
  simp only
  split
  · rfl
  · rw [if_pos (by omega)]
theorem pinv_end {s : List UInt8} {acc : Nat} (h : PInv s s.length acc) : parseP s 0 = some acc := by
  rw [h.2, List.drop_of_length_le (Nat.le_refl _)]; rfl
theorem int_eq {k : IntKind} {a b : Int} (h : a = b) : Value.int k a = .int k b := by rw [h]

set_option maxRecDepth 100000 in
set_option maxHeartbeats 4000000 in
theorem iparse_c (s : List UInt8) (w : World) (h0 : s ≠ []) (hn : s.length ≤ 1000000) :
    Calls Tryz.prog 86 #[.string ⟨s.toArray⟩, .int .i64 16, .int .i64 32] w (ParsedI w (parseP s 0)) := by
  have he : s.isEmpty = false := by cases s <;> simp_all
  obtain ⟨cap, wb, hcv, hbel, hcell⟩ := conv_bytes s w
  have Hb := Lib.hid hbel; have Hc := Lib.hid hcell; have HP := Lib.hid (pinv_start s)
  obtain ⟨p, hp⟩ : ∃ p, parseP s 0 = p := ⟨_, rfl⟩
  rw [hp]
  have Hp := Lib.hid hp
  clear hbel hcell h0 hp
  go_enter Tryz.func86, Tryz.ntmps86
  go_wp2_with fail
  clear hcv he
  obtain ⟨cut, hcut, hcut2⟩ : ∃ cut : Int, cut = 1152921504606846976 ∧ 4294967296 ≤ cut := ⟨_, rfl, by omega⟩
  rw [← hcut]
  clear hcut
  go_loop [12, 13, 101] (fun u x i => u = .bool false ∧ ∃ k acc : Nat, k ≤ s.length ∧ i = .int .i64 k ∧ x = .int .u64 acc ∧ PInv s k acc) (fun _ _ i => s.length - (intOf i).toNat)
  case atStart => exact ⟨rfl, 0, 0, Nat.zero_le _, rfl, rfl, HP.out⟩
  case round =>
    obtain ⟨rfl, k, acc, hk, rfl, rfl, hi⟩ := hrel
    clear HP
    have hacc := hi.1
    have HI := Lib.hid hi
    clear hi
    by_cases hlt : k < s.length
    · have hcell := Hc.out k hlt
      rw [getD_of_lt hlt] at hcell
      obtain ⟨c, hc⟩ : ∃ c, s[k] = c := ⟨_, rfl⟩
      rw [hc] at hcell
      have HC := Lib.hid hc
      clear hc
      have hc256 := UInt8.toNat_lt c
      have hl256 := UInt8.toNat_lt (c ||| 32)
      by_cases hdig : 48 ≤ c.toNat ∧ c.toNat ≤ 57
      · obtain ⟨d1, d2⟩ := hdig
        have hd : digv c = some (c.toNat - 48) := by unfold digv; rw [if_pos ⟨d1, d2⟩]
        have HD := Lib.hid hd
        clear hd hl256
        obtain ⟨n, hn'⟩ : ∃ n, c.toNat = n := ⟨_, rfl⟩
        rw [hn'] at hcell d1 d2 HD hc256
        clear hn'
        have e95 : ((n : Int) == 95) = false := by simp; omega
        by_cases hbig : 4294967295 < acc * 16 + (n - 48)
        · have hb' : (4294967295 : Int) < (acc : Int) * 16 + ((n : Int) - 48) := by omega
          clear hbig
          go_wp2_with fail
          go_ret2
          refine ⟨Hb.out, .inr ⟨?_, 4294967295, 1, .inl rfl, rfl⟩⟩
          rw [← Hp.out]; exact pinv_big HI.out hlt (by rw [HC.out]; exact HD.out) (by omega)
        · have hb' : (acc : Int) * 16 + ((n : Int) - 48) ≤ 4294967295 := by omega
          clear hbig
          go_wp2_with fail
          go_round
          case rel => exact ⟨rfl, k + 1, acc * 16 + (n - 48), by omega, by go_num, int_eq (by omega), pinv_step HI.out hlt (by rw [HC.out]; exact HD.out) (by omega) (by omega)⟩
          case measure => simp [intOf]; omega
      · by_cases hlo : 97 ≤ (c ||| 32).toNat ∧ (c ||| 32).toNat ≤ 122
        · obtain ⟨l1, l2⟩ := hlo
          have hd : digv c = some ((c ||| 32).toNat - 87) := by unfold digv; rw [if_neg hdig, if_pos ⟨l1, l2⟩]
          have HD := Lib.hid hd
          have hne : c.toNat ≠ 95 := by
            intro h95
            have : c = 95 := by apply UInt8.toNat_inj.1; exact h95
            subst this
            revert l2; decide
          have HL := Lib.hid (lower_c c wb)
          clear hd
          obtain ⟨l, hl'⟩ : ∃ l, (c ||| 32).toNat = l := ⟨_, rfl⟩
          obtain ⟨n, hn'⟩ : ∃ n, c.toNat = n := ⟨_, rfl⟩
          rw [hl'] at l1 l2 HD HL hl256
          rw [hn'] at hcell hdig hc256 hne HL
          clear hn' hl'
          have e95 : ((n : Int) == 95) = false := by simp; omega
          rcases Nat.lt_or_ge n 48 with hn48 | hn48
          · clear hdig hne
            by_cases hbig : 16 ≤ l - 87
            · have hb' : (26 : Int) + 77 ≤ l := by omega
              clear hbig
              go_wp2_with fail
              refine HL.out.mono ?_
              rintro e w' ⟨rfl, rfl⟩
              go_wp2_with fail
              refine HL.out.mono ?_
              rintro e w' ⟨rfl, rfl⟩
              go_wp2_with fail
              refine HL.out.mono ?_
              rintro e w' ⟨rfl, rfl⟩
              go_wp2_with fail
              go_ret2
              refine ⟨Hb.out, .inr ⟨?_, 0, 2, .inr rfl, rfl⟩⟩
              rw [← Hp.out]; exact pinv_big HI.out hlt (by rw [HC.out]; exact HD.out) (by omega)
            · have hb' : (l : Int) ≤ 102 := by omega
              by_cases hbig2 : 4294967295 < acc * 16 + (l - 87)
              · have hb2 : (4294967295 : Int) < (acc : Int) * 16 + ((l : Int) - 97 + 10) := by omega
                clear hbig2 hbig
                go_wp2_with fail
                refine HL.out.mono ?_
                rintro e w' ⟨rfl, rfl⟩
                go_wp2_with fail
                refine HL.out.mono ?_
                rintro e w' ⟨rfl, rfl⟩
                go_wp2_with fail
                refine HL.out.mono ?_
                rintro e w' ⟨rfl, rfl⟩
                go_wp2_with fail
                go_ret2
                refine ⟨Hb.out, .inr ⟨?_, 4294967295, 1, .inl rfl, rfl⟩⟩
                rw [← Hp.out]; exact pinv_big HI.out hlt (by rw [HC.out]; exact HD.out) (by omega)
              · have hb2 : (acc : Int) * 16 + ((l : Int) - 97 + 10) ≤ 4294967295 := by omega
                clear hbig2 hbig
                go_wp2_with fail
                refine HL.out.mono ?_
                rintro e w' ⟨rfl, rfl⟩
                go_wp2_with fail
                refine HL.out.mono ?_
                rintro e w' ⟨rfl, rfl⟩
                go_wp2_with fail
                refine HL.out.mono ?_
                rintro e w' ⟨rfl, rfl⟩
                go_wp2_with fail
                go_round
                case rel => exact ⟨rfl, k + 1, acc * 16 + (l - 87), by omega, by go_num, int_eq (by omega), pinv_step HI.out hlt (by rw [HC.out]; exact HD.out) (by omega) (by omega)⟩
                case measure => simp [intOf]; omega
          · have hn57 : 57 < n := by omega
            clear hdig hne hn48
            by_cases hbig : 16 ≤ l - 87
            · have hb' : (26 : Int) + 77 ≤ l := by omega
              clear hbig
              go_wp2_with fail
              refine HL.out.mono ?_
              rintro e w' ⟨rfl, rfl⟩
              go_wp2_with fail
              refine HL.out.mono ?_
              rintro e w' ⟨rfl, rfl⟩
              go_wp2_with fail
              refine HL.out.mono ?_
              rintro e w' ⟨rfl, rfl⟩
              go_wp2_with fail
              go_ret2
              refine ⟨Hb.out, .inr ⟨?_, 0, 2, .inr rfl, rfl⟩⟩
              rw [← Hp.out]; exact pinv_big HI.out hlt (by rw [HC.out]; exact HD.out) (by omega)
            · have hb' : (l : Int) ≤ 102 := by omega
              by_cases hbig2 : 4294967295 < acc * 16 + (l - 87)
              · have hb2 : (4294967295 : Int) < (acc : Int) * 16 + ((l : Int) - 97 + 10) := by omega
                clear hbig2 hbig
                go_wp2_with fail
                refine HL.out.mono ?_
                rintro e w' ⟨rfl, rfl⟩
                go_wp2_with fail
                refine HL.out.mono ?_
                rintro e w' ⟨rfl, rfl⟩
                go_wp2_with fail
                refine HL.out.mono ?_
                rintro e w' ⟨rfl, rfl⟩
                go_wp2_with fail
                go_ret2
                refine ⟨Hb.out, .inr ⟨?_, 4294967295, 1, .inl rfl, rfl⟩⟩
                rw [← Hp.out]; exact pinv_big HI.out hlt (by rw [HC.out]; exact HD.out) (by omega)
              · have hb2 : (acc : Int) * 16 + ((l : Int) - 97 + 10) ≤ 4294967295 := by omega
                clear hbig2 hbig
                go_wp2_with fail
                refine HL.out.mono ?_
                rintro e w' ⟨rfl, rfl⟩
                go_wp2_with fail
                refine HL.out.mono ?_
                rintro e w' ⟨rfl, rfl⟩
                go_wp2_with fail
                refine HL.out.mono ?_
                rintro e w' ⟨rfl, rfl⟩
                go_wp2_with fail
                go_round
                case rel => exact ⟨rfl, k + 1, acc * 16 + (l - 87), by omega, by go_num, int_eq (by omega), pinv_step HI.out hlt (by rw [HC.out]; exact HD.out) (by omega) (by omega)⟩
                case measure => simp [intOf]; omega
        · have hd : digv c = none := by unfold digv; rw [if_neg hdig, if_neg hlo]
          have HD := Lib.hid hd
          have HL := Lib.hid (lower_c c wb)
          clear hd
          obtain ⟨l, hl'⟩ : ∃ l, (c ||| 32).toNat = l := ⟨_, rfl⟩
          obtain ⟨n, hn'⟩ : ∃ n, c.toNat = n := ⟨_, rfl⟩
          rw [hl'] at hlo HL hl256
          rw [hn'] at hcell hdig hc256 HL
          clear hn' hl'
          have hfin : ParsedI w p (.returned (.tuple #[.int .u64 (0 : Nat), .iface 123 (.int .i64 2)])) wb := ⟨Hb.out, .inr ⟨by rw [← Hp.out]; exact pinv_bad HI.out hlt (by rw [HC.out]; exact HD.out), 0, 2, .inr rfl, rfl⟩⟩
          have Hfin := Lib.hid hfin
          clear hfin
          rcases (show n < 48 ∨ (57 < n ∧ n ≠ 95) ∨ n = 95 by omega) with hn | hn | hn
          · have e95 : ((n : Int) == 95) = false := by simp; omega
            rcases (show l < 97 ∨ 122 < l by omega) with hl | hl
            · clear hlo hdig
              go_wp2_with fail
              refine HL.out.mono ?_
              rintro e w' ⟨rfl, rfl⟩
              go_wp2_with fail
              go_ret2
              exact Hfin.out
            · clear hlo hdig
              have hl' : ((97 : Int) ≤ l) := by omega
              go_wp2_with fail
              refine HL.out.mono ?_
              rintro e w' ⟨rfl, rfl⟩
              go_wp2_with fail
              refine HL.out.mono ?_
              rintro e w' ⟨rfl, rfl⟩
              go_wp2_with fail
              go_ret2
              exact Hfin.out
          · obtain ⟨hn1, hn2⟩ := hn
            have e95 : ((n : Int) == 95) = false := by simp; omega
            clear hn2
            rcases (show l < 97 ∨ 122 < l by omega) with hl | hl
            · clear hlo hdig
              go_wp2_with fail
              refine HL.out.mono ?_
              rintro e w' ⟨rfl, rfl⟩
              go_wp2_with fail
              go_ret2
              exact Hfin.out
            · clear hlo hdig
              have hl' : ((97 : Int) ≤ l) := by omega
              go_wp2_with fail
              refine HL.out.mono ?_
              rintro e w' ⟨rfl, rfl⟩
              go_wp2_with fail
              refine HL.out.mono ?_
              rintro e w' ⟨rfl, rfl⟩
              go_wp2_with fail
              go_ret2
              exact Hfin.out
          · subst hn
            rcases (show l < 97 ∨ 122 < l by omega) with hl | hl
            · clear hlo hdig
              go_wp2_with fail
              refine HL.out.mono ?_
              rintro e w' ⟨rfl, rfl⟩
              go_wp2_with fail
              go_ret2
              exact Hfin.out
            · clear hlo hdig
              have hl' : ((97 : Int) ≤ l) := by omega
              go_wp2_with fail
              refine HL.out.mono ?_
              rintro e w' ⟨rfl, rfl⟩
              go_wp2_with fail
              refine HL.out.mono ?_
              rintro e w' ⟨rfl, rfl⟩
              go_wp2_with fail
              go_ret2
              exact Hfin.out
    · have : k = s.length := by omega
      subst this
      have hpe := pinv_end HI.out
      rw [Hp.out] at hpe
      have Hpe := Lib.hid hpe
      clear hpe
      go_wp2_with fail
      go_ret2
      exact ⟨Hb.out, .inl ⟨acc, Hpe.out, rfl⟩⟩

end Go.Proofs.YtmhgbocejjnoaaaGreatDoor
/- Plain laws: what is quoted is read again, and the other way round. No walk. -/
namespace Go.Redl
open Go.RowKit
set_option linter.unusedVariables false

theorem qb_pos (c : Int) : 1 ≤ (qb c).length := by unfold qb; split <;> simp [escL]
theorem qb_head {c : Int} (hv : validB c = true) : ∃ x r, qb c = x :: r ∧ x ≠ 34 := by
  unfold qb
  split
  · rename_i hp
    refine ⟨_, [], rfl, fun h => ?_⟩
    have h1 := congrArg UInt8.toNat h
    unfold plainB at hp
    simp at hp
    rw [UInt8.toNat_ofNat'] at h1
    have : (34 : UInt8).toNat = 34 := rfl
    rw [this] at h1
    omega
  · exact ⟨92, _, rfl, by decide⟩
theorem firstS_qb {c : Int} (hv : validB c = true) (t : List UInt8) : firstS (qb c ++ t) = (c, (qb c).length) := by
  cases hp : plainB c with
  | true =>
    have hq : qb c = [UInt8.ofNat c.toNat] := by unfold qb; rw [if_pos hp]
    obtain ⟨h0, h1⟩ := plain_bound hp
    have hc : (((UInt8.ofNat c.toNat).toNat : Nat) : Int) = c := by rw [UInt8.toNat_ofNat', Nat.mod_eq_of_lt (by omega)]; omega
    rw [hq]
    simp only [List.cons_append, List.nil_append, firstS, hc, hp, if_true, List.length_cons, List.length_nil]
  | false =>
    obtain ⟨h0, h1⟩ := valid_bound hv
    obtain ⟨n, rfl⟩ := Int.eq_ofNat_of_zero_le h0
    have hq : qb (n : Int) = escL n := by unfold qb; rw [if_neg (by simp [hp])]; simp
    rw [hq]
    have he : escN (escL n ++ t) = some n := escN_some.2 ⟨hv, hp, List.prefix_append _ _⟩
    have hp92 : plainB ((92 : UInt8).toNat : Int) = false := by decide
    unfold firstS
    simp only [escL, List.cons_append, List.append_assoc] at he ⊢
    rw [hp92]
    simp only [Bool.false_eq_true, if_false, he]
theorem firstS_ok {t : List UInt8} (h : (firstS t).2 ≠ 0) : validB (firstS t).1 = true ∧ t = qb (firstS t).1 ++ t.drop (firstS t).2 ∧ (firstS t).2 = (qb (firstS t).1).length := by
  cases t with
  | nil => exact absurd rfl h
  | cons x r =>
    cases hp : plainB x.toNat with
    | true =>
      have hf : firstS (x :: r) = ((x.toNat : Int), 1) := by simp [firstS, hp]
      rw [hf]
      obtain ⟨h0, h1⟩ := plain_bound hp
      have hq : qb (x.toNat : Int) = [x] := by unfold qb; rw [if_pos hp]; simp
      refine ⟨?_, by rw [hq]; simp, by rw [hq]; rfl⟩
      unfold validB; simp; omega
    | false =>
      cases he : escN (x :: r) with
      | none =>
        have hf : firstS (x :: r) = (0, 0) := by simp [firstS, hp, he]
        rw [hf] at h; exact absurd rfl h
      | some n =>
        have hf : firstS (x :: r) = ((n : Int), (escL n).length) := by simp [firstS, hp, he]
        obtain ⟨h1, h2, rest, h3⟩ := escN_some.1 he
        have hq : qb (n : Int) = escL n := by unfold qb; rw [if_neg (by simp [h2])]; simp
        rw [hf]
        refine ⟨h1, ?_, by rw [hq]⟩
        rw [hq]
        simp only
        rw [← h3]
        simp

theorem uq_body : ∀ (zs : List Int) (f : Nat) (t : List UInt8) (out : List Int) (at_ : Nat), (∀ c ∈ zs, validB c = true) → uq (f + zs.length) (bodyL zs ++ t) out at_ = uq f t (out ++ zs) (at_ + (bodyL zs).length)
  | [], f, t, out, at_, h => by simp [bodyL]
  | c :: zs, f, t, out, at_, h => by
    have hv := h c (by simp)
    have hb : bodyL (c :: zs) ++ t = qb c ++ (bodyL zs ++ t) := by simp [bodyL]
    obtain ⟨x, r, hq, hx⟩ := qb_head hv
    rw [hb]
    have h1 := firstS_qb hv (bodyL zs ++ t)
    have hpos := qb_pos c
    rw [show f + (c :: zs).length = (f + zs.length) + 1 by simp; omega]
    have hstep : uq ((f + zs.length) + 1) (qb c ++ (bodyL zs ++ t)) out at_ = uq (f + zs.length) ((qb c ++ (bodyL zs ++ t)).drop (qb c).length) (out ++ [c]) (at_ + (qb c).length) := by
      conv => lhs; rw [hq]
      simp only [List.cons_append, uq]
      rw [if_neg hx]
      rw [hq] at h1
      simp only [List.cons_append] at h1
      rw [h1]
      simp only
      rw [← hq, if_neg (by omega)]
      rw [hq]; rfl
    rw [hstep, List.drop_left, uq_body zs f t _ _ (fun d hd => h d (by simp [hd]))]
    have : (bodyL (c :: zs)).length = (qb c).length + (bodyL zs).length := by simp [bodyL]
    rw [this]
    simp [Nat.add_assoc]
theorem body_long : ∀ zs : List Int, zs.length ≤ (bodyL zs).length
  | [] => by simp
  | c :: zs => by
    have h1 := body_long zs
    have h2 := qb_pos c
    simp only [bodyL, List.flatMap_cons, List.length_append, List.length_cons] at *
    omega
/-- Behind a body: fuel there is. -/
theorem unq_body {zs : List Int} (hv : ∀ c ∈ zs, validB c = true) (t : List UInt8) : ∃ f, t.length ≤ f ∧ unqL (34 :: (bodyL zs ++ t)) = uq (f + 1) t zs (1 + (bodyL zs).length) := by
  have hl := body_long zs
  refine ⟨(bodyL zs).length - zs.length + t.length, by omega, ?_⟩
  have hf : (bodyL zs ++ t).length + 1 = ((bodyL zs).length - zs.length + t.length + 1) + zs.length := by simp; omega
  show uq ((bodyL zs ++ t).length + 1) (bodyL zs ++ t) [] 1 = _
  rw [hf, uq_body zs _ t [] 1 hv]
  simp
theorem unq_quote {zs : List Int} (hv : ∀ c ∈ zs, validB c = true) : unqL (quoteL zs) = (zs, 0, 0) := by
  obtain ⟨f, hf, h⟩ := unq_body hv [34]
  rw [show quoteL zs = 34 :: (bodyL zs ++ [34]) from rfl, h]
  simp [uq]
theorem unq_more {zs : List Int} (hv : ∀ c ∈ zs, validB c = true) (b : UInt8) : unqL (quoteL zs ++ [b]) = ([], ((quoteL zs).length : Int), 11) := by
  obtain ⟨f, hf, h⟩ := unq_body hv [34, b]
  have : quoteL zs ++ [b] = 34 :: (bodyL zs ++ [34, b]) := by simp [quoteL]
  rw [this, h]
  simp [uq, quoteL]
  omega
theorem unq_less {zs : List Int} (hv : ∀ c ∈ zs, validB c = true) : unqL (34 :: bodyL zs) = ([], (1 + (bodyL zs).length : Int), 11) := by
  obtain ⟨f, hf, h⟩ := unq_body hv []
  rw [List.append_nil] at h
  rw [h]
  simp [uq]
theorem uq_cases : ∀ (f : Nat) (t : List UInt8) (out : List Int) (at_ : Nat), t.length ≤ f →
    (∃ zs, (∀ c ∈ zs, validB c = true) ∧ t = bodyL zs ++ [34] ∧ uq (f + 1) t out at_ = (out ++ zs, 0, 0)) ∨ ∃ p : Nat, p ≤ at_ + t.length ∧ uq (f + 1) t out at_ = ([], (p : Int), 11)
  | f, [], out, at_, h => .inr ⟨at_, by simp, by simp [uq]⟩
  | 0, x :: r, out, at_, h => by simp at h
  | f + 1, x :: r, out, at_, h => by
    by_cases hx : x = 34
    · subst hx
      by_cases hr : r = []
      · subst hr
        exact .inl ⟨[], by simp, by simp [bodyL], by simp [uq]⟩
      · refine .inr ⟨at_ + 1, ?_, by simp [uq, hr]⟩
        have : 0 < r.length := List.length_pos_iff.2 hr
        simp only [List.length_cons]; omega
    · by_cases h0 : (firstS (x :: r)).2 = 0
      · refine .inr ⟨at_, by simp, ?_⟩
        simp only [uq]
        rw [if_neg hx, if_pos h0]
      · obtain ⟨h1, h2, h3⟩ := firstS_ok h0
        generalize hc : firstS (x :: r) = q at *
        obtain ⟨c, l⟩ := q
        simp only at h0 h1 h2 h3
        have hl : ((x :: r).drop l).length ≤ f := by
          have := congrArg List.length h2
          simp at this h ⊢
          omega
        have hs : uq (f + 1 + 1) (x :: r) out at_ = uq (f + 1) ((x :: r).drop l) (out ++ [c]) (at_ + l) := by
          rw [uq]
          rw [if_neg hx, hc]
          simp only
          rw [if_neg h0]
        rcases uq_cases f ((x :: r).drop l) (out ++ [c]) (at_ + l) hl with ⟨zs, z1, z2, z3⟩ | ⟨p, p1, p2⟩
        · refine .inl ⟨c :: zs, ?_, ?_, ?_⟩
          · intro d hd
            rcases List.mem_cons.1 hd with rfl | hd
            · exact h1
            · exact z1 d hd
          · rw [h2, z2]; simp [bodyL]
          · rw [hs, z3]; simp
        · refine .inr ⟨p, ?_, by rw [hs, p2]⟩
          have := congrArg List.length h2
          simp at this p1 ⊢
          omega
/-- Whatever is read: it is what some text is quoted as, or none. -/
theorem unq_cases (s : List UInt8) : (∃ zs, (∀ c ∈ zs, validB c = true) ∧ s = quoteL zs ∧ unqL s = (zs, 0, 0)) ∨ ∃ p : Nat, p ≤ s.length ∧ unqL s = ([], (p : Int), 11) := by
  cases s with
  | nil => exact .inr ⟨0, by simp, rfl⟩
  | cons x r =>
    by_cases hx : x = 34
    · subst hx
      have hu : unqL (34 :: r) = uq (r.length + 1) r [] 1 := rfl
      rcases uq_cases r.length r [] 1 (Nat.le_refl _) with ⟨zs, z1, z2, z3⟩ | ⟨p, p1, p2⟩
      · exact .inl ⟨zs, z1, by rw [z2]; rfl, by rw [hu, z3]; simp⟩
      · exact .inr ⟨p, by simp; omega, by rw [hu, p2]⟩
    · exact .inr ⟨0, by simp, by unfold unqL; simp only; rw [if_neg hx]; rfl⟩
theorem unq_ahead {zs : List Int} (b : UInt8) : unqL (b :: quoteL zs) = if b = 34 then ([], 2, 11) else ([], 0, 11) := by
  unfold unqL
  simp only
  split
  · simp [quoteL, uq]
  · rfl

end Go.Redl
/- Walks: strconv.ParseUint as it is called, glyph.first. -/
namespace Go.Proofs.YtmhgbocejjnoaaaGreatDoor
open Go.RowKit Go.Redl
set_option linter.unusedVariables false

/-- The library's two errors are there. -/
def ErrsAt (w : World) : Prop := (∃ te pe, w.cell? ⟨2, 0, none⟩ = some (.iface te pe)) ∧ (∃ te pe, w.cell? ⟨3, 0, none⟩ = some (.iface te pe)) ∧ 2 < w.heap.size ∧ 3 < w.heap.size
theorem ErrsAt.keep {w w' : World} (h : ErrsAt w) (hb : Below w.heap.size w w') : ErrsAt w' := by
  obtain ⟨⟨te, pe, h1⟩, ⟨te', pe', h2⟩, h3, h4⟩ := h
  exact ⟨⟨te, pe, by rw [hb.cell (p := ⟨_, 0, none⟩) h3]; exact h1⟩, ⟨te', pe', by rw [hb.cell (p := ⟨_, 0, none⟩) h4]; exact h2⟩, Nat.lt_of_lt_of_le h3 hb.size, Nat.lt_of_lt_of_le h4 hb.size⟩

/-- What ParseUint answers. -/
def ParsedP (w : World) (p : Option Nat) (x : Ending) (w' : World) : Prop :=
  Below w.heap.size w w' ∧ ((∃ m, p = some m ∧ x = .returned (.tuple #[.int .u64 m, .nilIface])) ∨ (p = none ∧ ∃ (m : Nat) (t : TypeId) (v : Value), x = .returned (.tuple #[.int .u64 m, .iface t v])))

set_option maxRecDepth 100000 in
set_option maxHeartbeats 1000000 in
theorem parse_c (s : List UInt8) (w : World) (hn : s.length ≤ 1000000) (he : ErrsAt w) :
    Calls Tryz.prog 76 #[.string ⟨s.toArray⟩, .int .i64 16, .int .i64 32] w (ParsedP w (if s = [] then none else parseP s 0)) := by
  have HI : Calls Tryz.prog 86 #[.string ⟨s.toArray⟩, .int .i64 16, .int .i64 32] w (ParsedI w (if s = [] then none else parseP s 0)) := by
    by_cases h0 : s = []
    · subst h0
      rw [if_pos rfl]
      refine (iparse_empty w).mono ?_
      rintro e w' ⟨rfl, rfl⟩
      exact ⟨Below.refl _ _, .inr ⟨rfl, 0, 2, .inr rfl, rfl⟩⟩
    · rw [if_neg h0]
      exact iparse_c s w h0 hn
  obtain ⟨p, hp⟩ : ∃ p, (if s = [] then none else parseP s 0) = p := ⟨_, rfl⟩
  rw [hp] at HI ⊢
  clear hp
  have HX := Lib.hid HI
  have He := Lib.hid he
  clear HI he
  go_enter Tryz.func76, Tryz.ntmps76
  go_wp2_with fail
  refine HX.out.mono ?_
  rintro e w1 ⟨hb, h⟩
  have Hb := Lib.hid hb
  clear hb
  rcases h with ⟨m, hp, rfl⟩ | ⟨hp, m, k, hk, rfl⟩
  · have Hp := Lib.hid hp
    clear hp
    go_wp2_with fail
    go_ret2
    exact ⟨Hb.out, .inl ⟨m, Hp.out, rfl⟩⟩
  · have Hp := Lib.hid hp
    clear hp
    obtain ⟨⟨te, pe, h1⟩, ⟨te', pe', h2⟩, h3, h4⟩ := He.out.keep Hb.out
    rcases hk with rfl | rfl
    · have HT := fun fn => Lib.hid (Tryz.strconv_toError_range fn ⟨s.toArray⟩ 16 32 _ w1 (by show s.length ≤ _; omega) h2 (.inr ⟨te', pe', rfl⟩))
      clear h1 h2 h3 h4
      go_wp2_with fail
      refine (HT _).out.mono ?_
      rintro e w2 ⟨N, rfl, -, -, hb2⟩
      have Hb2 := Lib.hid (Hb.out.trans (hb2.mono Hb.out.size))
      clear hb2
      go_wp2_with fail
      go_ret2
      exact ⟨Hb2.out, .inr ⟨Hp.out, m, _, _, rfl⟩⟩
    · have HT := fun fn => Lib.hid (Tryz.strconv_toError_syntax fn ⟨s.toArray⟩ 16 32 _ w1 (by show s.length ≤ _; omega) h1 (.inr ⟨te, pe, rfl⟩))
      clear h1 h2 h3 h4
      go_wp2_with fail
      refine (HT _).out.mono ?_
      rintro e w2 ⟨N, rfl, -, -, hb2⟩
      have Hb2 := Lib.hid (Hb.out.trans (hb2.mono Hb.out.size))
      clear hb2
      go_wp2_with fail
      go_ret2
      exact ⟨Hb2.out, .inr ⟨Hp.out, m, _, _, rfl⟩⟩

end Go.Proofs.YtmhgbocejjnoaaaGreatDoor
/- Plain laws: what stands first in a text, case by case. No walk. -/
namespace Go.Redl
open Go.RowKit
set_option linter.unusedVariables false

theorem escN_slash {x : UInt8} {r : List UInt8} (h : x ≠ 92) : escN (x :: r) = none := by
  cases he : escN (x :: r) with
  | none => rfl
  | some n =>
    obtain ⟨-, -, rest, h3⟩ := escN_some.1 he
    simp only [escL, List.cons_append, List.cons.injEq] at h3
    exact absurd h3.1.symm h
theorem escN_no59 {t : List UInt8} (h : ∀ c ∈ t, c ≠ 59) : escN t = none := by
  cases he : escN t with
  | none => rfl
  | some n =>
    obtain ⟨-, -, rest, h3⟩ := escN_some.1 he
    have : (59 : UInt8) ∈ t := by rw [← h3]; simp [escL]
    exact absurd rfl (h _ this)
theorem hex_pre {xs ds r1 r2 : List UInt8} (hx : ∀ c ∈ xs, c ≠ 59) (hd : ∀ c ∈ ds, c ≠ 59) (h : xs ++ 59 :: r1 = ds ++ 59 :: r2) : xs = ds := by
  have h1 : (xs ++ 59 :: r1).takeWhile (fun c => c != 59) = xs := by
    rw [List.takeWhile_append_of_pos (by intro c hc; simpa using hx c hc)]; simp
  have h2 : (ds ++ 59 :: r2).takeWhile (fun c => c != 59) = ds := by
    rw [List.takeWhile_append_of_pos (by intro c hc; simpa using hd c hc)]; simp
  rw [← h1, h, h2]
theorem escN_at {ds rest : List UInt8} (hd : ∀ c ∈ ds, c ≠ 59) {n : Nat} (h : escN (92 :: (ds ++ 59 :: rest)) = some n) : validB n = true ∧ plainB n = false ∧ hexL n = ds ∧ parseP ds 0 = some n ∧ ds ≠ [] := by
  obtain ⟨h1, h2, r, h3⟩ := escN_some.1 h
  have hb := valid_bound h1
  simp only [escL, List.cons_append, List.append_assoc, List.cons.injEq, true_and, List.nil_append] at h3
  have := hex_pre (hexL_not59 n) hd h3
  refine ⟨h1, h2, this, ?_, ?_⟩
  · rw [← this]; exact parseP_hexL n (by omega)
  · rintro rfl
    have hp := parseP_hexL n (by omega)
    rw [this] at hp
    simp only [parseP, Option.some.injEq] at hp
    subst hp
    exact absurd this (by decide)
theorem escN_yes {ds rest : List UInt8} {n : Nat} (hv : validB n = true) (hp : plainB n = false) (h : escL n = 92 :: (ds ++ [59])) : escN (92 :: (ds ++ 59 :: rest)) = some n :=
  escN_some.2 ⟨hv, hp, ⟨rest, by rw [h]; simp⟩⟩
theorem firstS_plain {x : UInt8} {r : List UInt8} (h : plainB x.toNat = true) : firstS (x :: r) = ((x.toNat : Int), 1) := by simp [firstS, h]
theorem firstS_none {x : UInt8} {r : List UInt8} (h : plainB x.toNat = false) (he : escN (x :: r) = none) : firstS (x :: r) = (0, 0) := by simp [firstS, h, he]
theorem firstS_some {x : UInt8} {r : List UInt8} {n : Nat} (h : plainB x.toNat = false) (he : escN (x :: r) = some n) : firstS (x :: r) = ((n : Int), (escL n).length) := by simp [firstS, h, he]
/-- Where the first semicolon stands. -/
theorem semi_cases (t : List UInt8) : (Lib.indexByte t 59 = -1 ∧ ∀ c ∈ t, c ≠ 59) ∨ ∃ ds rest, t = ds ++ 59 :: rest ∧ (∀ c ∈ ds, c ≠ 59) ∧ Lib.indexByte t 59 = ds.length := by
  by_cases h : Lib.indexByte t 59 = -1
  · refine .inl ⟨h, fun c hc h59 => ?_⟩
    obtain ⟨k, hk⟩ := List.getElem?_of_mem hc
    exact Lib.indexByte_none h k (by rw [hk, h59])
  · obtain ⟨o, ho⟩ : ∃ o : Nat, Lib.indexByte t 59 = o := by
      have := Lib.indexByte_ge t 59
      exact ⟨(Lib.indexByte t 59).toNat, by omega⟩
    obtain ⟨h1, h2⟩ := Lib.indexByte_some ho
    have hlt : o < t.length := by
      rcases Nat.lt_or_ge o t.length with h | h
      · exact h
      · rw [List.getElem?_eq_none h] at h1; cases h1
    have h3 : t[o] = 59 := by rw [List.getElem?_eq_getElem hlt] at h1; exact Option.some.inj h1
    refine .inr ⟨t.take o, t.drop (o + 1), ?_, ?_, ?_⟩
    · conv => lhs; rw [← List.take_append_drop o t, List.drop_eq_getElem_cons hlt, h3]
    · intro c hc h59
      obtain ⟨k, hk⟩ := List.getElem?_of_mem hc
      have hk2 : k < o := by
        rcases Nat.lt_or_ge k (t.take o).length with h | h
        · simp at h; omega
        · rw [List.getElem?_eq_none h] at hk; cases hk
      rw [List.getElem?_take_of_lt hk2] at hk
      exact h2 k hk2 (by rw [hk, h59])
    · rw [ho, List.length_take, Nat.min_eq_left (Nat.le_of_lt hlt)]

end Go.Redl
/- A region that draws its order, walked once, in a class of worlds: its callees may make memory. -/
namespace Go.Redl
open Go Go.RowKit
set_option linter.unusedVariables false

/-- ONE WALK FOR EVERY ORDER, in the class of the worlds that S lets in, written as W i. -/
theorem wp_region_class {P : Program} {id : Nat} {Q : Exit → Act → World → Prop} {a : Act} {w : World} {l : List Oper} (S : World → Prop) (hm : P.follows .mixedOrders = true) (hB : Region.lexB .any l.toArray = true) (hS : S w.drew)
    (h : ∀ (ι : Type) [Inhabited ι] (W : ι → World), (∀ i, S (W i)) → (∀ w', S w' → ∃ i, w' = W i) →
      wpQuiet P l.toArray (fun w' => ∃ i, w' = W i) (fun a' => ∀ w', (∃ i, w' = W i) → Q .normal a' w') l a) : (Code.region id l.toArray true).wp P Q a w := by
  have : Inhabited {w' // S w'} := ⟨⟨w.drew, hS⟩⟩
  exact wp_region_quiet (C := fun w' => ∃ i : {w' // S w'}, w' = i.1) hm hB ⟨⟨w.drew, hS⟩, rfl⟩ (by simpa using h {w' // S w'} (fun i => i.1) (fun i => i.2) (fun w' hw => ⟨⟨w', hw⟩, rfl⟩))

end Go.Redl
/- Walks: glyph.first. -/
namespace Go.Proofs.YtmhgbocejjnoaaaGreatDoor
open Go.RowKit Go.Redl Go.BigFrame
set_option linter.unusedVariables false

/-- What stands first. -/
def FirstP (B : Nat) (w : World) (c : Int) (l : Nat) (e : Ending) (w' : World) : Prop := e = .returned (.tuple #[.int .i32 c, .int .i64 l]) ∧ Below B w w'

theorem u8_i32 (x : UInt8) : IntKind.i32.wrap (x.toNat : Int) = x.toNat := IntWalk.i32_in _ (by have := x.toNat_lt; omega)

set_option maxRecDepth 100000 in
set_option maxHeartbeats 1000000 in
theorem first_plain (x : UInt8) (r : List UInt8) (w : World) (hp : plainB x.toNat = true) :
    Calls Tryz.prog 67 #[.string ⟨(x :: r).toArray⟩] w (FirstP w.heap.size w x.toNat 1) := by
  have hg : ∀ h, (⟨(x :: r).toArray⟩ : ByteArray)[0]'h = x := fun _ => rfl
  have hsz : (⟨(x :: r).toArray⟩ : ByteArray).size = r.length + 1 := rfl
  generalize (⟨(x :: r).toArray⟩ : ByteArray) = s at hg hsz ⊢
  have hw : wrap32 (x.toNat : Int) = x.toNat := IntWalk.wrap32_in _ (by have := x.toNat_lt; omega)
  have hp' := hp
  clear hp
  have hx := x.toNat_lt
  go_enter Tryz.func67, Tryz.ntmps67
  go_wp2_with fail
  refine (plain_c _ _).mono ?_
  rintro e w1 ⟨rfl, rfl⟩
  rw [hp']
  go_wp2_with fail
  go_ret2
  exact ⟨rfl, Below.refl _ _⟩

set_option maxRecDepth 100000 in
set_option maxHeartbeats 1000000 in
theorem first_other (x : UInt8) (r : List UInt8) (w : World) (hp : plainB x.toNat = false) (hx : x ≠ 92) :
    Calls Tryz.prog 67 #[.string ⟨(x :: r).toArray⟩] w (FirstP w.heap.size w 0 0) := by
  have hg : ∀ h, (⟨(x :: r).toArray⟩ : ByteArray)[0]'h = x := fun _ => rfl
  have hsz : (⟨(x :: r).toArray⟩ : ByteArray).size = r.length + 1 := rfl
  generalize (⟨(x :: r).toArray⟩ : ByteArray) = s at hg hsz ⊢
  have hw : wrap32 (x.toNat : Int) = x.toNat := IntWalk.wrap32_in _ (by have := x.toNat_lt; omega)
  have hp' := hp
  clear hp
  have h92 : ((x.toNat : Int) != 92) = true := by
    have : x.toNat ≠ 92 := fun h => hx (UInt8.toNat_inj.1 h)
    simp only [bne_iff_ne, ne_eq]; omega
  clear hx
  have hx := x.toNat_lt
  go_enter Tryz.func67, Tryz.ntmps67
  go_wp2_with fail
  refine (plain_c _ _).mono ?_
  rintro e w1 ⟨rfl, rfl⟩
  rw [hp']
  go_wp2_with fail
  refine (Tryz.strings_IndexByte _ 59 _).mono ?_
  rintro e w1 ⟨rfl, rfl⟩
  go_wp2_with fail
  go_ret2
  exact ⟨rfl, Below.refl _ _⟩

set_option maxRecDepth 100000 in
set_option maxHeartbeats 1000000 in
theorem first_open (r : List UInt8) (w : World) (hn : Lib.indexByte (92 :: r) 59 = -1) :
    Calls Tryz.prog 67 #[.string ⟨((92 : UInt8) :: r).toArray⟩] w (FirstP w.heap.size w 0 0) := by
  have hg : ∀ h, (⟨((92 : UInt8) :: r).toArray⟩ : ByteArray)[0]'h = 92 := fun _ => rfl
  have hsz : (⟨((92 : UInt8) :: r).toArray⟩ : ByteArray).size = r.length + 1 := rfl
  have h92 : ((92 : UInt8).toNat : Int) = 92 := rfl
  have hp' : plainB 92 = false := by decide
  have hi : Lib.indexByte (⟨((92 : UInt8) :: r).toArray⟩ : ByteArray).data.toList (59 : Int).toNat.toUInt8 = -1 := hn
  clear hn
  generalize (⟨((92 : UInt8) :: r).toArray⟩ : ByteArray) = s at hg hsz hi ⊢
  go_enter Tryz.func67, Tryz.ntmps67
  go_wp2_with fail
  refine (plain_c _ _).mono ?_
  rintro e w1 ⟨rfl, rfl⟩
  rw [hp']
  go_wp2_with fail
  refine (Tryz.strings_IndexByte _ 59 _).mono ?_
  rintro e w1 ⟨rfl, rfl⟩
  rw [hi]
  go_wp2_with fail
  go_ret2
  exact ⟨rfl, Below.refl _ _⟩

theorem Drawn.trans_below {B : Nat} {w w1 w2 : World} (h : Below B w w1) (hd : Drawn w1 w2) : Below B w w2 := by
  obtain ⟨q, rfl⟩ := hd
  exact below_drewN h q

/-- What comes of a number that was read. -/
def firstM (n : Nat) (ds : List UInt8) : Int × Nat := if validB n && !plainB n && decide (escL n = 92 :: (ds ++ [59])) then ((n : Int), ds.length + 2) else (0, 0)
theorem firstM_no {n : Nat} {ds : List UInt8} (h : validB n = false ∨ plainB n = true ∨ escL n ≠ 92 :: (ds ++ [59])) : firstM n ds = (0, 0) := by
  unfold firstM
  rw [if_neg]
  rcases h with h | h | h <;> simp [h]
theorem firstM_yes {n : Nat} {ds : List UInt8} (h1 : validB n = true) (h2 : plainB n = false) (h3 : escL n = 92 :: (ds ++ [59])) : firstM n ds = ((n : Int), ds.length + 2) := by
  unfold firstM
  rw [if_pos (by simp [h1, h2, h3])]
attribute [irreducible] firstM

/-- The text's cuts. -/
theorem esc_cut (ds rest : List UInt8) : (⟨(92 :: (ds ++ 59 :: rest)).toArray⟩ : ByteArray).extract 1 (ds.length + 1) = ⟨ds.toArray⟩ ∧ (⟨(92 :: (ds ++ 59 :: rest)).toArray⟩ : ByteArray).extract 0 (ds.length + 2) = ⟨(92 :: (ds ++ [59])).toArray⟩ := by
  constructor
  · rw [ByteArray.extract_mk]; simp
  · rw [ByteArray.extract_mk]
    simp only [List.drop_zero, Nat.sub_zero, List.take_succ_cons]
    rw [show ds.length + 1 = (ds ++ [59]).length by simp, show ds ++ 59 :: rest = (ds ++ [59]) ++ rest by simp, List.take_left]

set_option maxRecDepth 100000 in
set_option maxHeartbeats 1000000 in
theorem first_bad (ds rest : List UInt8) (w : World) (hn : ds.length ≤ 1000000) (he : ErrsAt w) (hd : ∀ c ∈ ds, c ≠ 59) (hi : Lib.indexByte (92 :: (ds ++ 59 :: rest)) 59 = (ds.length + 1 : Nat)) (hp : (if ds = [] then none else parseP ds 0) = none) :
    Calls Tryz.prog 67 #[.string ⟨((92 : UInt8) :: (ds ++ 59 :: rest)).toArray⟩] w (FirstP w.heap.size w 0 0) := by
  have hg : ∀ h, (⟨((92 : UInt8) :: (ds ++ 59 :: rest)).toArray⟩ : ByteArray)[0]'h = 92 := fun _ => rfl
  have hsz : (⟨((92 : UInt8) :: (ds ++ 59 :: rest)).toArray⟩ : ByteArray).size = ds.length + 2 + rest.length := by
    show (92 :: (ds ++ 59 :: rest)).length = _
    simp; omega
  have h92 : ((92 : UInt8).toNat : Int) = 92 := rfl
  have hp' : plainB 92 = false := by decide
  have hi' : Lib.indexByte (⟨((92 : UInt8) :: (ds ++ 59 :: rest)).toArray⟩ : ByteArray).data.toList (59 : Int).toNat.toUInt8 = (ds.length + 1 : Nat) := hi
  clear hi
  have hc := (esc_cut ds rest).1
  generalize (⟨((92 : UInt8) :: (ds ++ 59 :: rest)).toArray⟩ : ByteArray) = s at hg hsz hi' hc ⊢
  have HX := Lib.hid (parse_c ds w hn he)
  rw [hp] at HX
  clear hp he hd
  go_enter Tryz.func67, Tryz.ntmps67
  go_wp2_with fail
  refine (plain_c _ _).mono ?_
  rintro e w1 ⟨rfl, rfl⟩
  rw [hp']
  go_wp2_with fail
  refine (Tryz.strings_IndexByte _ 59 _).mono ?_
  rintro e w1 ⟨rfl, rfl⟩
  rw [hi']
  go_wp2_with fail
  refine HX.out.mono ?_
  rintro e w2 ⟨hb, h⟩
  have Hb := Lib.hid hb
  clear hb
  rcases h with ⟨m, hp, rfl⟩ | ⟨-, m, t, v, rfl⟩
  · cases hp
  clear hc hi' hg
  go_wp2_with fail
  go_quiet (fail)
  go_wp2_with fail
  first | go_ret2 | go_ret3
  exact ⟨rfl, Drawn.trans_below Hb.out (by first | exact drawn_one _ _ | exact drawn_two _ _ _)⟩

set_option maxRecDepth 100000 in
set_option maxHeartbeats 1000000 in
theorem first_parsed (ds rest : List UInt8) (w : World) (hn : ds.length ≤ 1000000) (he : ErrsAt w) (hd : ∀ c ∈ ds, c ≠ 59) (hi : Lib.indexByte (92 :: (ds ++ 59 :: rest)) 59 = (ds.length + 1 : Nat)) (n : Nat) (hp : (if ds = [] then none else parseP ds 0) = some n) (ht : TabAt w) (hgt : 7 < w.heap.size) :
    Calls Tryz.prog 67 #[.string ⟨((92 : UInt8) :: (ds ++ 59 :: rest)).toArray⟩] w (FirstP w.heap.size w (firstM n ds).1 (firstM n ds).2) := by
  have hg : ∀ h, (⟨((92 : UInt8) :: (ds ++ 59 :: rest)).toArray⟩ : ByteArray)[0]'h = 92 := fun _ => rfl
  have hsz : (⟨((92 : UInt8) :: (ds ++ 59 :: rest)).toArray⟩ : ByteArray).size = ds.length + 2 + rest.length := by
    show (92 :: (ds ++ 59 :: rest)).length = _
    simp; omega
  have h92 : ((92 : UInt8).toNat : Int) = 92 := rfl
  have hp' : plainB 92 = false := by decide
  have hi' : Lib.indexByte (⟨((92 : UInt8) :: (ds ++ 59 :: rest)).toArray⟩ : ByteArray).data.toList (59 : Int).toNat.toUInt8 = (ds.length + 1 : Nat) := hi
  clear hi
  have hc := (esc_cut ds rest).1
  have hc2 := (esc_cut ds rest).2
  generalize (⟨((92 : UInt8) :: (ds ++ 59 :: rest)).toArray⟩ : ByteArray) = s at hg hsz hi' hc hc2 ⊢
  have HX := Lib.hid (parse_c ds w hn he)
  rw [hp] at HX
  have Hc2 := Lib.hid hc2
  have Ht := Lib.hid ht
  have Hgt := Lib.hid hgt
  clear hp he hd hc2 ht hgt
  generalize hq : firstM n ds = q
  obtain ⟨c, l⟩ := q
  show Calls Tryz.prog 67 #[.string s] w (FirstP w.heap.size w c l)
  have Hq := Lib.hid hq
  clear hq
  go_enter Tryz.func67, Tryz.ntmps67
  go_wp2_with fail
  refine (plain_c _ _).mono ?_
  rintro e w1 ⟨rfl, rfl⟩
  rw [hp']
  go_wp2_with fail
  refine (Tryz.strings_IndexByte _ 59 _).mono ?_
  rintro e w1 ⟨rfl, rfl⟩
  rw [hi']
  go_wp2_with fail
  refine HX.out.mono ?_
  rintro e w2 ⟨hb, h⟩
  have Hb := Lib.hid hb
  clear hb
  rcases h with ⟨m, hp, rfl⟩ | ⟨hp, -⟩
  case inr => cases hp
  cases hp
  clear hi' hg
  go_wp2_with fail
  clear hc hp' h92
  by_cases h1 : (1114111 : Int) < n
  · have hq : (c, l) = (0, 0) := by
      rw [← Hq.out]; exact firstM_no (.inl (by unfold validB; simp; omega))
    go_quiet (fail)
    go_wp2_with fail
    first | go_ret2 | go_ret3
    cases hq
    exact ⟨rfl, Drawn.trans_below Hb.out (by first | exact drawn_one _ _ | exact drawn_two _ _ _)⟩
  · have hw : IntKind.i32.wrap (n : Int) = n := IntWalk.i32_in _ (by omega)
    have hw32 : wrap32 (n : Int) = n := IntWalk.wrap32_in _ (by omega)
    cases h2 : validB n with
    | false =>
      have Hz : Hid ((c, l) = (0, 0)) := by
        show (c, l) = (0, 0)
        rw [← Hq.out]; exact firstM_no (.inl h2)
      have HV : ∀ q, Hid (Calls Tryz.prog 65 #[.int .i32 n] (w2.drewN q) fun e w' => e = .returned (.bool false) ∧ ∃ m, w' = w2.drewN m) := fun q =>
        Lib.hid (Calls.quiet_of_same ((valid_c n _).mono fun e w' h => ⟨by rw [h.1, h2], h.2.symm⟩))
      clear h2
      go_quiet (first | (go_at_call 65; exact (HV _).out))
      go_wp2_with fail
      first | go_ret2 | go_ret3
      cases Hz.out
      exact ⟨rfl, Drawn.trans_below Hb.out (by first | exact drawn_one _ _ | exact drawn_two _ _ _)⟩
    | true =>
      have HV : ∀ q, Hid (Calls Tryz.prog 65 #[.int .i32 n] (w2.drewN q) fun e w' => e = .returned (.bool true) ∧ ∃ m, w' = w2.drewN m) := fun q =>
        Lib.hid (Calls.quiet_of_same ((valid_c n _).mono fun e w' h => ⟨by rw [h.1, h2], h.2.symm⟩))
      cases h3 : plainB n with
      | true =>
        have Hz : Hid ((c, l) = (0, 0)) := by
          show (c, l) = (0, 0)
          rw [← Hq.out]; exact firstM_no (.inr (.inl h3))
        have HP : ∀ q, Hid (Calls Tryz.prog 57 #[.int .i32 n] (w2.drewN q) fun e w' => e = .returned (.bool true) ∧ ∃ m, w' = w2.drewN m) := fun q =>
          Lib.hid (Calls.quiet_of_same ((plain_c n _).mono fun e w' h => ⟨by rw [h.1, h3], h.2.symm⟩))
        clear h2 h3
        go_quiet (first | (go_at_call 65; exact (HV _).out) | (go_at_call 57; exact (HP _).out))
        go_wp2_with fail
        first | go_ret2 | go_ret3
        cases Hz.out
        exact ⟨rfl, Drawn.trans_below Hb.out (by first | exact drawn_one _ _ | exact drawn_two _ _ _)⟩
      | false =>
        have H2 := Lib.hid h2
        have H3 := Lib.hid h3
        have hws : wrap64 ((ds.length : Int) + 1 + 1) = ds.length + 2 := by rw [IntWalk.wrap64_in _ (by omega)]; omega
        have hww : IntKind.i64.wrap ((ds.length : Int) + 1 + 1) = ds.length + 2 := by rw [IntWalk.i64_in _ (by omega)]; omega
        obtain ⟨t2, ht2⟩ : ∃ t, t = (⟨(92 :: (ds ++ [59])).toArray⟩ : ByteArray) := ⟨_, rfl⟩
        obtain ⟨t1, ht1⟩ : ∃ t, t = (⟨(escL n).toArray⟩ : ByteArray) := ⟨_, rfl⟩
        have hc2 := Hc2.out
        rw [← ht2] at hc2
        have Hq2 : Hid ((c, l) = if (t1.toList == t2.toList) = true then ((n : Int), ds.length + 2) else (0, 0)) := by
          show (c, l) = _
          rw [← Hq.out, ht1, ht2, ByteArray.toList_mk, ByteArray.toList_mk]
          by_cases h4 : escL n = 92 :: (ds ++ [59])
          · rw [firstM_yes h2 h3 h4, if_pos (by rw [h4]; exact beq_self_eq_true _)]
          · rw [firstM_no (.inr (.inr h4)), if_neg (fun h => h4 (eq_of_beq h))]
        refine wp_region_class (fun w' => Below w1.heap.size w1 w') (by kernel_rfl) (by kernel_rfl) (below_drewN Hb.out 1) ?_
        intro ι inst W hin hall
        have Hin := Lib.hid hin
        have HV : ∀ i, Hid (Calls Tryz.prog 65 #[.int .i32 n] (W i) fun e w' => e = .returned (.bool true) ∧ ∃ j, w' = W j) := fun i =>
          Lib.hid ((valid_c n _).mono fun e w' h => ⟨by rw [h.1, h2], i, h.2.symm⟩)
        have HP : ∀ i, Hid (Calls Tryz.prog 57 #[.int .i32 n] (W i) fun e w' => e = .returned (.bool false) ∧ ∃ j, w' = W j) := fun i =>
          Lib.hid ((plain_c n _).mono fun e w' h => ⟨by rw [h.1, h3], i, h.2.symm⟩)
        have HE : ∀ i, Hid (Calls Tryz.prog 59 #[.int .i32 n] (W i) fun e w' => e = .returned (.string t1) ∧ ∃ j, w' = W j) := fun i =>
          Lib.hid ((escaped_c n _ (by omega) (TabAt.keep Ht.out (hin i) Hgt.out) (Nat.lt_of_lt_of_le Hgt.out (hin i).size)).mono fun e w' h => ⟨by rw [h.1, ht1], hall w' ((hin i).trans (h.2.mono (hin i).size))⟩)
        clear h2 h3 Hc2 ht1 ht2 HX hin hall Hq
        repeat (go_big_quiet_step (first | (go_at_call 65; exact (HV _).out) | (go_at_call 57; exact (HP _).out) | (go_at_call 59; exact (HE _).out)))
        refine wpQuiet_nil ?_
        intro _ hw'
        obtain ⟨nq, hw''⟩ := hw'
        subst hw''
        have Hw3 := Lib.hid (Hin.out nq)
        clear HV HP HE Hin
        generalize W nq = w3 at Hw3 ⊢
        clear nq W inst ι hc2 hww
        generalize (t1.toList == t2.toList) = b at Hq2 ⊢
        clear HV
        cases b <;> simp only [Bool.not_false, Bool.not_true]
        · have Hz : Hid ((c, l) = ((0 : Int), 0)) := Hq2
          clear Hq2 hws
          go_wp2_with fail
          first | go_ret2 | go_ret3
          cases Hz.out
          exact ⟨rfl, Hw3.out⟩
        · have Hz : Hid ((c, l) = ((n : Int), ds.length + 2)) := Hq2
          clear Hq2 hws
          go_wp2_with fail
          first | go_ret2 | go_ret3
          cases Hz.out
          have h2 : (ds.length : Int) + 1 + 1 = ((ds.length + 2 : Nat) : Int) := by omega
          exact ⟨congrArg (fun k => Ending.returned (Value.tuple #[Value.int .i32 n, Value.int .i64 k])) h2, Hw3.out⟩

/-- glyph.first. -/
theorem first_c (t : List UInt8) (w : World) (h0 : t ≠ []) (hn : t.length ≤ 1000000) (he : ErrsAt w) (ht : TabAt w) (hg : 7 < w.heap.size) :
    Calls Tryz.prog 67 #[.string ⟨t.toArray⟩] w (FirstP w.heap.size w (firstS t).1 (firstS t).2) := by
  obtain ⟨x, r, rfl⟩ := List.exists_cons_of_ne_nil h0
  cases hp : plainB x.toNat with
  | true => rw [firstS_plain hp]; exact first_plain x r w hp
  | false =>
    by_cases hx : x = 92
    · subst hx
      rcases semi_cases (92 :: r) with ⟨h1, h2⟩ | ⟨ds', rest, h1, h2, h3⟩
      · rw [firstS_none hp (escN_no59 h2)]; exact first_open r w h1
      · cases ds' with
        | nil => simp at h1
        | cons y ds =>
          simp only [List.cons_append, List.cons.injEq] at h1
          obtain ⟨rfl, rfl⟩ := h1
          have hd : ∀ c ∈ ds, c ≠ 59 := fun c hc => h2 c (by simp [hc])
          have hl : ds.length ≤ 1000000 := by simp at hn; omega
          cases hq : (if ds = [] then none else parseP ds 0) with
          | none =>
            have hnone : escN (92 :: (ds ++ 59 :: rest)) = none := by
              cases he : escN (92 :: (ds ++ 59 :: rest)) with
              | none => rfl
              | some n =>
                obtain ⟨-, -, -, h4, h5⟩ := escN_at hd he
                rw [if_neg h5, h4] at hq; cases hq
            rw [firstS_none hp hnone]
            exact first_bad ds rest w hl he hd h3 hq
          | some n =>
            have hM : firstM n ds = firstS (92 :: (ds ++ 59 :: rest)) := by
              have h5 : ds ≠ [] := by rintro rfl; simp at hq
              rw [if_neg h5] at hq
              by_cases hall : validB n = true ∧ plainB n = false ∧ escL n = 92 :: (ds ++ [59])
              · obtain ⟨a1, a2, a3⟩ := hall
                rw [firstM_yes a1 a2 a3, firstS_some hp (escN_yes a1 a2 a3), a3]
                simp
              · have h6 : validB n = false ∨ plainB n = true ∨ escL n ≠ 92 :: (ds ++ [59]) := by
                  cases hv : validB n <;> cases hpl : plainB n <;> simp_all
                rw [firstM_no h6, firstS_none hp]
                cases he : escN (92 :: (ds ++ 59 :: rest)) with
                | none => rfl
                | some m =>
                  obtain ⟨b1, b2, b3, b4, -⟩ := escN_at hd he
                  rw [hq] at b4
                  cases b4
                  exact absurd ⟨b1, b2, by simp [escL, b3]⟩ hall
            rw [← hM]
            exact first_parsed ds rest w hl he hd h3 n hq ht hg
    · rw [firstS_none hp (escN_slash hx)]; exact first_other x r w hp hx

end Go.Proofs.YtmhgbocejjnoaaaGreatDoor
