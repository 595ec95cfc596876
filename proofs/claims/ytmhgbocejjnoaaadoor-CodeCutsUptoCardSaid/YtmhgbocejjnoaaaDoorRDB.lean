/- Walks: code's props. -/
import Derived.Test.YtmhgbocejjnoaaaDoorRDA
import Derived.Test.YtmhgbocejjnoaaaDoorRR3
import Derived.Test.YtmhgbocejjnoaaaDoorRW2
namespace Go.Proofs.YtmhgbocejjnoaaaDoor
open Go.RowKit Go.Redl
set_option linter.unusedVariables false

/-- What reading answers: a thing and the place behind it; or a place and an error. -/
inductive Rd (α : Type) where
  | ok (x : α) (e : Nat)
  | bad (at_ : Nat) (e : Int)

/-- A key, a value: where they end. -/
def keyAt (s : List UInt8) (a : Nat) : List UInt8 := (s.drop a).takeWhile lowB
def valAt (s : List UInt8) (a : Nat) : List UInt8 := (s.drop a).takeWhile valcB
/-- Properties, from the byte ahead of the first one on. -/
def rdP : Nat → List UInt8 → Nat → List PropD → List UInt8 → Rd (List PropD)
  | 0, _, a, _, _ => .bad a 11
  | f + 1, s, a, out, last =>
    if keyAt s (a + 1) = [] ∨ standsB s (a + 1 + (keyAt s (a + 1)).length) 58 = false then .bad (a + 1 + (keyAt s (a + 1)).length) 11
    else if out.length = 16 then .bad (a + 1) 2
    else if 16 < (keyAt s (a + 1)).length ∨ 32 < (valAt s (a + 1 + (keyAt s (a + 1)).length + 1)).length then .bad (a + 1) 3
    else if leB (keyAt s (a + 1)) last = true then .bad (a + 1) 1
    else if standsB s (a + 1 + (keyAt s (a + 1)).length + 1 + (valAt s (a + 1 + (keyAt s (a + 1)).length + 1)).length) 125 = true then .ok (out ++ [(keyAt s (a + 1), valAt s (a + 1 + (keyAt s (a + 1)).length + 1))]) (a + 1 + (keyAt s (a + 1)).length + 1 + (valAt s (a + 1 + (keyAt s (a + 1)).length + 1)).length + 1)
    else if standsB s (a + 1 + (keyAt s (a + 1)).length + 1 + (valAt s (a + 1 + (keyAt s (a + 1)).length + 1)).length) 44 = false then .bad (a + 1 + (keyAt s (a + 1)).length + 1 + (valAt s (a + 1 + (keyAt s (a + 1)).length + 1)).length) 11
    else rdP f s (a + 1 + (keyAt s (a + 1)).length + 1 + (valAt s (a + 1 + (keyAt s (a + 1)).length + 1)).length) (out ++ [(keyAt s (a + 1), valAt s (a + 1 + (keyAt s (a + 1)).length + 1))]) (keyAt s (a + 1))
/-- One step, its parts named. -/
theorem rdP_step (f : Nat) (s : List UInt8) (a : Nat) (out : List PropD) (last key val : List UInt8) (hk : keyAt s (a + 1) = key) (hv : valAt s (a + 1 + key.length + 1) = val) :
    rdP (f + 1) s a out last = if key = [] ∨ standsB s (a + 1 + key.length) 58 = false then .bad (a + 1 + key.length) 11
    else if out.length = 16 then .bad (a + 1) 2
    else if 16 < key.length ∨ 32 < val.length then .bad (a + 1) 3
    else if leB key last = true then .bad (a + 1) 1
    else if standsB s (a + 1 + key.length + 1 + val.length) 125 = true then .ok (out ++ [(key, val)]) (a + 1 + key.length + 1 + val.length + 1)
    else if standsB s (a + 1 + key.length + 1 + val.length) 44 = false then .bad (a + 1 + key.length + 1 + val.length) 11
    else rdP f s (a + 1 + key.length + 1 + val.length) (out ++ [(key, val)]) key := by
  subst hk; subst hv; rw [rdP]
theorem stands_lt {s : List UInt8} {a : Nat} {c : UInt8} (h : standsB s a c = true) : a < s.length := by
  rcases Nat.lt_or_ge a s.length with h1 | h1
  · exact h1
  · unfold standsB at h; rw [List.getElem?_eq_none h1] at h; simp at h
theorem takeWhile_le (p : UInt8 → Bool) (l : List UInt8) : (l.takeWhile p).length ≤ l.length := by
  have := congrArg List.length (List.takeWhile_append_dropWhile (p := p) (l := l))
  simp only [List.length_append] at this; omega
theorem keyAt_len (s : List UInt8) (a : Nat) (h : a ≤ s.length) : a + (keyAt s a).length ≤ s.length := by
  have := takeWhile_le lowB (s.drop a)
  unfold keyAt; simp only [List.length_drop] at this; omega
theorem valAt_len (s : List UInt8) (a : Nat) (h : a ≤ s.length) : a + (valAt s a).length ≤ s.length := by
  have := takeWhile_le valcB (s.drop a)
  unfold valAt; simp only [List.length_drop] at this; omega
theorem cut_run (s : List UInt8) (a : Nat) (l : List UInt8) (h : ∃ r, s.drop a = l ++ r) : (⟨s.toArray⟩ : ByteArray).extract a (a + l.length) = ⟨l.toArray⟩ := by
  obtain ⟨r, h⟩ := h
  rw [ByteArray.extract_mk, h]
  have : a + l.length - a = l.length := by omega
  rw [this, List.take_left]
theorem takeWhile_pre (p : UInt8 → Bool) (l : List UInt8) : ∃ r, l = l.takeWhile p ++ r := ⟨l.dropWhile p, (List.takeWhile_append_dropWhile).symm⟩

/-- What props answers. -/
def PropsP (W : World) (R : Rd (List PropD)) (e : Ending) (w' : World) : Prop :=
  match R with
  | .ok ps n => ∃ v, e = .returned (.tuple #[v, .int .i64 n, .agg #[.int .i64 0, .int .i64 0]]) ∧ w'.ownsRow W.heap.size 47 2 v ps.length (propCells ps) ∧ Below W.heap.size W w'
  | .bad a er => e = .returned (.tuple #[.slice none 0 0, .int .i64 0, .agg #[.int .i64 a, .int .i64 er]]) ∧ Below W.heap.size W w'

theorem stands_z (s : List UInt8) (k : Nat) (z : Int) (hz : z = k) (c : UInt8) (n : Int) (hc : (c.toNat : Int) = n) (b : Bool) (hb : standsB s k c = b) (W : World) (hn : s.length ≤ 1000000000) :
    Calls Tryd.prog 55 #[.string ⟨s.toArray⟩, .int .i64 z, .int .u8 n] W fun e w' => e = .returned (.bool b) ∧ W = w' := by
  subst hz; subst hb; exact stands_c s k c n hc W hn
theorem run_z (s : List UInt8) (a : Nat) (z : Int) (hz : z = a) (more : Bool) (m : Nat) (hm : runN (if more then valcB else lowB) s a = m) (W : World) (hn : s.length ≤ 1000000000) (ha : a ≤ s.length) :
    Calls Tryd.prog 71 #[.string ⟨s.toArray⟩, .int .i64 z, .bool more] W fun e w' => e = .returned (.int .i64 m) ∧ W = w' := by
  subst hz; subst hm; exact run_c s a more W hn ha

theorem box2f {w w1 : World} {c0 c1 : Value} {T : TypeId} (hb : Below (w.heap.size + 1) (w.alloc (.cells #[c0, c1] T)) w1) :
    w1.cell? ⟨w.heap.size, 0, none⟩ = some c0 ∧ w1.cell? ⟨w.heap.size, 1, none⟩ = some c1 ∧ w1.frozen? ⟨w.heap.size, 0, none⟩ = false ∧ w1.frozen? ⟨w.heap.size, 1, none⟩ = false := by
  have h : w1.heap[w.heap.size]? = some (.cells #[c0, c1] T (0, 0)) := by
    rw [hb.block w.heap.size (by omega)]
    exact heap_alloc_new w _
  refine ⟨?_, ?_, ?_, ?_⟩
  · rw [cell_of_row _ _ _ _ _ _ h]; rfl
  · rw [cell_of_row _ _ _ _ _ _ h]; rfl
  · simp [World.frozen?, h]
  · simp [World.frozen?, h]
theorem str_props (ps : List PropD) (p : PropD) : propCells ps ++ [.string ⟨p.1.toArray⟩, .string ⟨p.2.toArray⟩] = propCells (ps ++ [p]) := by simp [propCells]
/-- A literal of two cells, just made. -/
theorem row_two (w : World) (c0 c1 : Value) (E : TypeId) (B : Nat) (h0 : c0.oneCell' = true) (h1 : c1.oneCell' = true) (hB : w.heap.size < B := by omega) : RowA (w.alloc (.cells #[c0, c1] E)) B 2 (some ⟨w.heap.size, 0, none⟩) 1 1 [c0, c1] := by
  refine ⟨by simp, Nat.le_refl _, by unfold maxLen; omega, by simp [h0, h1], (fun h => by cases h), fun _ => ⟨w.heap.size, 0, rfl, hB, fun j u hj => ?_⟩⟩
  have hg : (w.alloc (.cells #[c0, c1] E)).heap[w.heap.size]? = some (.cells #[c0, c1] E (0, 0)) := heap_alloc_new w _
  rw [cell_of_row _ w.heap.size (0 + j) #[c0, c1] E (0, 0) hg]
  simpa using hj

/-- What is owned stays so behind a store into another block. -/
theorem own_set {w : World} {base e sz n b off : Nat} {v u : Value} {cs : List Value} (h : w.ownsRow base e sz v n cs) (hb : b < base) : (w.setCell ⟨b, off, none⟩ u).ownsRow base e sz v n cs := by
  refine h.kept (row := some b) ⟨rfl, rfl, rfl, by simp [World.setCell], fun i hi hne => Below.heap_setCell w ⟨b, off, none⟩ u i (fun e => hne (by rw [e]))⟩ ?_
  cases hv : v.ownBlock with
  | none => simp
  | some k =>
    have := (h.lt k hv).1
    simp
    try omega

theorem info_prop : (Tryd.prog.info? 47).map (fun i => (i.zero, i.size, i.bytes)) = some (some (.agg #[.string ⟨#[]⟩, .string ⟨#[]⟩]), 2, 32) := by kernel_rfl

set_option maxRecDepth 100000 in
set_option maxHeartbeats 4000000 in
theorem props_c (s : List UInt8) (a0 : Nat) (W : World) (hn : s.length ≤ 1000000) (ha : a0 < s.length) :
    Calls Tryd.prog 56 #[.string ⟨s.toArray⟩, .int .i64 a0] W (PropsP W (rdP (s.length + 1) s a0 [] [])) := by
  obtain ⟨R, hR⟩ : ∃ R, R = rdP (s.length + 1) s a0 [] [] := ⟨_, rfl⟩
  rw [← hR]
  have HR := Lib.hid hR
  have Hcut := Lib.hid (cut_run s)
  have hsz : (⟨s.toArray⟩ : ByteArray).size = s.length := rfl
  have HS := fun (k : Nat) (z : Int) (hz : z = k) (c : UInt8) (n : Int) (hc : (c.toNat : Int) = n) (b : Bool) (hb : standsB s k c = b) (W : World) => stands_z s k z hz c n hc b hb W (by omega)
  have HRun := fun (a : Nat) (z : Int) (hz : z = a) (more : Bool) (m : Nat) (hm : runN (if more then valcB else lowB) s a = m) (W : World) (ha : a ≤ s.length) => run_z s a z hz more m hm W (by omega) ha
  generalize (⟨s.toArray⟩ : ByteArray) = S at Hcut hsz HS HRun ⊢
  have HS := Lib.hid HS; have HRun := Lib.hid HRun
  clear hR
  go_enter Tryd.func56, Tryd.ntmps56
  go_wp2_with fail
  go_loopw [1, 7, 8] (fun i o l wr => ∃ (a f : Nat) (out : List PropD) (last : List UInt8), a < s.length ∧ s.length < f + a ∧ i = .int .i64 a ∧ l = .string ⟨last.toArray⟩ ∧ out.length ≤ a ∧ out.length ≤ 16 ∧ rdP f s a out last = R ∧ wr.ownsRow (W.heap.size + 1) 47 2 o out.length (propCells out) ∧ Below (W.heap.size + 1) (W.alloc (Obj.cells #[.int .i64 0, .int .i64 0] 71)) wr) (fun i _ _ _ => s.length - (intOf i).toNat)
  case atStart => exact ⟨a0, s.length + 1, [], [], ha, by omega, rfl, rfl, by simp, by simp, HR.out.symm, World.ownsRow_nil _ _ _ _, Below.refl _ _⟩
  case round =>
    obtain ⟨a, f, out, last, hal, hf, rfl, rfl, hoa, ho16, hr, hown, hbel⟩ := hrel
    obtain ⟨f, rfl⟩ : ∃ f', f = f' + 1 := ⟨f - 1, by omega⟩
    obtain ⟨oa, oc, rfl, horow⟩ := row_of_own hown (propCells_one _)
    have hoc := horow.le
    clear horow
    obtain ⟨key, hkey⟩ : ∃ key, keyAt s (a + 1) = key := ⟨_, rfl⟩
    obtain ⟨val, hval⟩ : ∃ val, valAt s (a + 1 + key.length + 1) = val := ⟨_, rfl⟩
    have hstep := rdP_step f s a out last key val hkey hval
    rw [hr] at hstep
    have Hstep := Lib.hid hstep
    have hkl := keyAt_len s (a + 1) (by omega)
    rw [hkey] at hkl
    have hkc := Hcut.out (a + 1) key (by rw [← hkey]; exact takeWhile_pre _ _)
    have HR1 := Lib.hid (HRun.out (a + 1) ((a : Int) + 1) (by omega) false key.length (by rw [← hkey]; rfl) wr (by omega))
    have Hown := Lib.hid hown; have Hb := Lib.hid hbel
    have Hval := Lib.hid hval
    clear hstep hr hown hbel hkey hval
    have HB := Lib.hid hkc
    cases key with
    | nil =>
      have HRb : Hid (R = .bad (a + 1) 11) := by
        show R = _
        rw [Hstep.out, if_pos (.inl rfl)]; rfl
      clear hkc
      go_wp2_with fail
      refine HR1.out.mono ?_
      rintro e w1 ⟨rfl, rfl⟩
      clear HR1
      have HWr := fun W => Lib.hid (wrong_c ((a : Int) + 1) W)
      go_wp2_with fail
      refine (HWr _).out.mono ?_
      rintro e w2 ⟨rfl, hbel⟩
      have Hb3 := Lib.hid (below_then Hb.out hbel (by simp))
      clear hbel HWr
      obtain ⟨y0, y1, f0, f1⟩ := box2f Hb3.out
      go_wp2_with fail
      refine bodyPost_ret (v := .tuple #[.slice none 0 0, .int .i64 0, .agg #[.int .i64 ((a : Int) + 1), .int .i64 11]]) (by simp [results, Tryd.results56, go_sem, y0, y1]) rfl ?_
      rw [HRb.out]
      exact ⟨rfl, ((below_unbox Hb3.out).setCell (p := ⟨W.heap.size, 0, none⟩) (Nat.le_refl _) _).setCell (p := ⟨W.heap.size, 1, none⟩) (Nat.le_refl _) _⟩
    | cons kc kr =>
      obtain ⟨key, hkey⟩ : ∃ key, key = kc :: kr := ⟨_, rfl⟩
      have hkne : key ≠ [] := by rw [hkey]; simp
      rw [← hkey] at hkc hkl HR1 Hval Hstep
      have hk1 : 1 ≤ key.length := by rw [hkey]; simp
      clear HB hkey
      have hKe : ((⟨key.toArray⟩ : ByteArray).toList.isEmpty) = false := by rw [ByteArray.toList_mk]; cases key with | nil => exact absurd rfl hkne | cons _ _ => rfl
      have hKs : (⟨key.toArray⟩ : ByteArray).size = key.length := rfl
      have hKl : (⟨key.toArray⟩ : ByteArray).toList = key := ByteArray.toList_mk _
      obtain ⟨K, hK⟩ : ∃ K, K = (⟨key.toArray⟩ : ByteArray) := ⟨_, rfl⟩
      rw [← hK] at hKe hKs hkc hKl
      have HK := Lib.hid hK; have HKl := Lib.hid hKl
      clear hK hKl
      cases h58 : standsB s (a + 1 + key.length) 58 with
      | false =>
        have HRb : Hid (R = .bad (a + 1 + key.length) 11) := by
          show R = _
          rw [Hstep.out, if_pos (.inr h58)]
        have HS1 := Lib.hid (HS.out (a + 1 + key.length) ((a : Int) + 1 + key.length) (by omega) 58 58 rfl false h58 wr)
        clear h58
        go_wp2_with fail
        refine HR1.out.mono ?_
        rintro e w1 ⟨rfl, rfl⟩
        clear HR1
        go_wp2_with fail
        refine HS1.out.mono ?_
        rintro e w1 ⟨rfl, rfl⟩
        clear HS1
        have HWr := fun W => Lib.hid (wrong_c ((a : Int) + 1 + key.length) W)
        go_wp2_with fail
        refine (HWr _).out.mono ?_
        rintro e w2 ⟨rfl, hbel⟩
        have Hb3 := Lib.hid (below_then Hb.out hbel (by simp))
        clear hbel HWr
        obtain ⟨y0, y1, f0, f1⟩ := box2f Hb3.out
        go_wp2_with fail
        refine bodyPost_ret (v := .tuple #[.slice none 0 0, .int .i64 0, .agg #[.int .i64 ((a : Int) + 1 + key.length), .int .i64 11]]) (by simp [results, Tryd.results56, go_sem, y0, y1]) rfl ?_
        rw [HRb.out]
        exact ⟨rfl, ((below_unbox Hb3.out).setCell (p := ⟨W.heap.size, 0, none⟩) (Nat.le_refl _) _).setCell (p := ⟨W.heap.size, 1, none⟩) (Nat.le_refl _) _⟩
      | true =>
        have ha2 := stands_lt h58
        have HS1 := Lib.hid (HS.out (a + 1 + key.length) ((a : Int) + 1 + key.length) (by omega) 58 58 rfl true h58 wr)
        have hvl := valAt_len s (a + 1 + key.length + 1) (by omega)
        rw [Hval.out] at hvl
        have hvc := Hcut.out (a + 1 + key.length + 1) val (by rw [← Hval.out]; exact takeWhile_pre _ _)
        have HR2 := Lib.hid (HRun.out (a + 1 + key.length + 1) ((a : Int) + 1 + key.length + 1) (by omega) true val.length (by rw [← Hval.out]; rfl) wr (by omega))
        have hVs : (⟨val.toArray⟩ : ByteArray).size = val.length := rfl
        obtain ⟨V, hV⟩ : ∃ V, V = (⟨val.toArray⟩ : ByteArray) := ⟨_, rfl⟩
        rw [← hV] at hVs hvc
        have HV := Lib.hid hV
        have Hs2 : Hid (R = if out.length = 16 then .bad (a + 1) 2
            else if 16 < key.length ∨ 32 < val.length then .bad (a + 1) 3
            else if leB key last = true then .bad (a + 1) 1
            else if standsB s (a + 1 + key.length + 1 + val.length) 125 = true then .ok (out ++ [(key, val)]) (a + 1 + key.length + 1 + val.length + 1)
            else if standsB s (a + 1 + key.length + 1 + val.length) 44 = false then .bad (a + 1 + key.length + 1 + val.length) 11
            else rdP f s (a + 1 + key.length + 1 + val.length) (out ++ [(key, val)]) key) := by
          show R = _
          rw [Hstep.out, if_neg (by simp [hkne, h58])]
        clear h58 hV Hstep Hval
        by_cases h16 : out.length = 16
        · have HRb : Hid (R = .bad (a + 1) 2) := by
            show R = _
            rw [Hs2.out, if_pos h16]
          have h16b : ((out.length : Int) == 16) = true := by simp only [beq_iff_eq]; omega
          clear h16 ho16
          go_wp2_with fail
          refine HR1.out.mono ?_
          rintro e w1 ⟨rfl, rfl⟩
          clear HR1
          go_wp2_with fail
          refine HS1.out.mono ?_
          rintro e w1 ⟨rfl, rfl⟩
          clear HS1
          go_wp2_with fail
          refine HR2.out.mono ?_
          rintro e w1 ⟨rfl, rfl⟩
          clear HR2
          obtain ⟨y0, y1, f0, f1⟩ := box2f Hb.out
          go_wp2_with fail
          refine bodyPost_ret (v := .tuple #[.slice none 0 0, .int .i64 0, .agg #[.int .i64 ((a : Int) + 1), .int .i64 2]]) (by simp [results, Tryd.results56, go_sem, y0, y1]) rfl ?_
          rw [HRb.out]
          exact ⟨rfl, ((below_unbox Hb.out).setCell (p := ⟨W.heap.size, 0, none⟩) (Nat.le_refl _) _).setCell (p := ⟨W.heap.size, 1, none⟩) (Nat.le_refl _) _⟩
        · have h16b : ((out.length : Int) == 16) = false := by simp only [beq_eq_false_iff_ne, ne_eq]; omega
          have ho15 : out.length ≤ 15 := by omega
          by_cases hlong : 16 < key.length ∨ 32 < val.length
          · have HRb : Hid (R = .bad (a + 1) 3) := by
              show R = _
              rw [Hs2.out, if_neg h16, if_pos hlong]
            by_cases hl1 : 16 < key.length
            · clear hlong h16
              go_wp2_with fail
              refine HR1.out.mono ?_
              rintro e w1 ⟨rfl, rfl⟩
              clear HR1
              go_wp2_with fail
              refine HS1.out.mono ?_
              rintro e w1 ⟨rfl, rfl⟩
              clear HS1
              go_wp2_with fail
              refine HR2.out.mono ?_
              rintro e w1 ⟨rfl, rfl⟩
              clear HR2
              obtain ⟨y0, y1, f0, f1⟩ := box2f Hb.out
              go_wp2_with fail
              refine bodyPost_ret (v := .tuple #[.slice none 0 0, .int .i64 0, .agg #[.int .i64 ((a : Int) + 1), .int .i64 3]]) (by simp [results, Tryd.results56, go_sem, y0, y1]) rfl ?_
              rw [HRb.out]
              exact ⟨rfl, ((below_unbox Hb.out).setCell (p := ⟨W.heap.size, 0, none⟩) (Nat.le_refl _) _).setCell (p := ⟨W.heap.size, 1, none⟩) (Nat.le_refl _) _⟩
            · have hl2 : 32 < val.length := by omega
              have hl1' : key.length ≤ 16 := by omega
              clear hlong h16 hl1
              go_wp2_with fail
              refine HR1.out.mono ?_
              rintro e w1 ⟨rfl, rfl⟩
              clear HR1
              go_wp2_with fail
              refine HS1.out.mono ?_
              rintro e w1 ⟨rfl, rfl⟩
              clear HS1
              go_wp2_with fail
              refine HR2.out.mono ?_
              rintro e w1 ⟨rfl, rfl⟩
              clear HR2
              obtain ⟨y0, y1, f0, f1⟩ := box2f Hb.out
              go_wp2_with fail
              refine bodyPost_ret (v := .tuple #[.slice none 0 0, .int .i64 0, .agg #[.int .i64 ((a : Int) + 1), .int .i64 3]]) (by simp [results, Tryd.results56, go_sem, y0, y1]) rfl ?_
              rw [HRb.out]
              exact ⟨rfl, ((below_unbox Hb.out).setCell (p := ⟨W.heap.size, 0, none⟩) (Nat.le_refl _) _).setCell (p := ⟨W.heap.size, 1, none⟩) (Nat.le_refl _) _⟩
          · have hl1 : key.length ≤ 16 := by omega
            have hl2 : val.length ≤ 32 := by omega
            have Hs3 : Hid (R = if leB key last = true then .bad (a + 1) 1
                else if standsB s (a + 1 + key.length + 1 + val.length) 125 = true then .ok (out ++ [(key, val)]) (a + 1 + key.length + 1 + val.length + 1)
                else if standsB s (a + 1 + key.length + 1 + val.length) 44 = false then .bad (a + 1 + key.length + 1 + val.length) 11
                else rdP f s (a + 1 + key.length + 1 + val.length) (out ++ [(key, val)]) key) := by
              show R = _
              rw [Hs2.out, if_neg h16, if_neg hlong]
            have Hle : Hid (leB key last = (Op.bytesLess K.toList last || K.toList == last)) := by
              show leB key last = _
              rw [HKl.out]; rfl
            clear Hs2 hlong h16
            cases hx : Op.bytesLess K.toList last with
            | true =>
              have HRb : Hid (R = .bad (a + 1) 1) := by
                show R = _
                rw [Hs3.out, if_pos (by rw [Hle.out, hx]; rfl)]
              go_wp2_with fail
              refine HR1.out.mono ?_
              rintro e w1 ⟨rfl, rfl⟩
              clear HR1
              go_wp2_with fail
              refine HS1.out.mono ?_
              rintro e w1 ⟨rfl, rfl⟩
              clear HS1
              go_wp2_with fail
              refine HR2.out.mono ?_
              rintro e w1 ⟨rfl, rfl⟩
              clear HR2
              obtain ⟨y0, y1, f0, f1⟩ := box2f Hb.out
              go_wp2_with fail
              refine bodyPost_ret (v := .tuple #[.slice none 0 0, .int .i64 0, .agg #[.int .i64 ((a : Int) + 1), .int .i64 1]]) (by simp [results, Tryd.results56, go_sem, y0, y1]) rfl ?_
              rw [HRb.out]
              exact ⟨rfl, ((below_unbox Hb.out).setCell (p := ⟨W.heap.size, 0, none⟩) (Nat.le_refl _) _).setCell (p := ⟨W.heap.size, 1, none⟩) (Nat.le_refl _) _⟩
            | false =>
              cases hy : (K.toList == last) with
              | true =>
                have HRb : Hid (R = .bad (a + 1) 1) := by
                  show R = _
                  rw [Hs3.out, if_pos (by rw [Hle.out, hx, hy]; rfl)]
                go_wp2_with fail
                refine HR1.out.mono ?_
                rintro e w1 ⟨rfl, rfl⟩
                clear HR1
                go_wp2_with fail
                refine HS1.out.mono ?_
                rintro e w1 ⟨rfl, rfl⟩
                clear HS1
                go_wp2_with fail
                refine HR2.out.mono ?_
                rintro e w1 ⟨rfl, rfl⟩
                clear HR2
                obtain ⟨y0, y1, f0, f1⟩ := box2f Hb.out
                go_wp2_with fail
                refine bodyPost_ret (v := .tuple #[.slice none 0 0, .int .i64 0, .agg #[.int .i64 ((a : Int) + 1), .int .i64 1]]) (by simp [results, Tryd.results56, go_sem, y0, y1]) rfl ?_
                rw [HRb.out]
                exact ⟨rfl, ((below_unbox Hb.out).setCell (p := ⟨W.heap.size, 0, none⟩) (Nat.le_refl _) _).setCell (p := ⟨W.heap.size, 1, none⟩) (Nat.le_refl _) _⟩
              | false =>
                have Hs4 : Hid (R = if standsB s (a + 1 + key.length + 1 + val.length) 125 = true then .ok (out ++ [(key, val)]) (a + 1 + key.length + 1 + val.length + 1)
                    else if standsB s (a + 1 + key.length + 1 + val.length) 44 = false then .bad (a + 1 + key.length + 1 + val.length) 11
                    else rdP f s (a + 1 + key.length + 1 + val.length) (out ++ [(key, val)]) key) := by
                  show R = _
                  rw [Hs3.out, if_neg (by rw [Hle.out, hx, hy]; simp)]
                clear Hs3 Hle
                cases h125 : standsB s (a + 1 + key.length + 1 + val.length) 125 with
                | true =>
                  have HRb : Hid (R = .ok (out ++ [(key, val)]) (a + 1 + key.length + 1 + val.length + 1)) := by
                    show R = _
                    rw [Hs4.out, if_pos h125]
                  have HS2 := fun W => Lib.hid (HS.out (a + 1 + key.length + 1 + val.length) ((a : Int) + 1 + key.length + 1 + val.length) (by omega) 125 125 rfl true h125 W)
                  clear h125
                  go_wp2_with fail
                  refine HR1.out.mono ?_
                  rintro e w1 ⟨rfl, rfl⟩
                  clear HR1
                  go_wp2_with fail
                  refine HS1.out.mono ?_
                  rintro e w1 ⟨rfl, rfl⟩
                  clear HS1
                  go_wp2_with fail
                  refine HR2.out.mono ?_
                  rintro e w1 ⟨rfl, rfl⟩
                  clear HR2
                  go_wp2_with (at_builtin; refine wpList_app rfl _ _ 22 rfl (W.heap.size + 1) 47 (.agg #[.string ⟨#[]⟩, .string ⟨#[]⟩]) 2 32 Tryd.underlying22 info_prop rfl (by decide) _ _ _ rfl (Hown.out.alloc _) (some ⟨wr.heap.size, 0, none⟩) 1 1 (wr.heap.size + 1) [.string K, .string V] rfl ?hr ?h63 ?hb ?hbase ?_)
                  case hr => exact row_two _ _ _ _ _ rfl rfl
                  case h63 => unfold maxLen; omega
                  case hb => omega
                  case hbase => have := Hb.out.size; simp at this ⊢; omega
                  intro v' w3 hown' hgrow
                  have hbel := ((Hb.out.alloc (by have := Hb.out.size; simpa using this) (Obj.cells #[.string K, .string V] 47)).grown hgrow (by have := Hb.out.size; simp at this ⊢; omega) (fun k hk => (Hown.out.lt k hk).1))
                  have hown2 : w3.ownsRow (W.heap.size + 1) 47 2 v' (out ++ [(key, val)]).length (propCells (out ++ [(key, val)])) := by
                    rw [← str_props, List.length_append]
                    have := hown'
                    rw [HK.out, HV.out] at this
                    exact this
                  obtain ⟨va, vc, rfl, -⟩ := row_of_own hown2 (propCells_one _)
                  have Hown2 := Lib.hid hown2; have Hb2 := Lib.hid hbel
                  clear hown' hbel hgrow hown2
                  go_wp2_with fail
                  refine (HS2 _).out.mono ?_
                  rintro e w1 ⟨rfl, rfl⟩
                  clear HS2
                  obtain ⟨y0, y1, f0, f1⟩ := box2f Hb2.out
                  go_wp2_with fail
                  refine bodyPost_ret (v := .tuple #[.slice va (out.length + 1) vc, .int .i64 ((a : Int) + 1 + key.length + 1 + val.length + 1), .agg #[.int .i64 0, .int .i64 0]]) (by simp [results, Tryd.results56, go_sem, y0, y1]) rfl ?_
                  rw [HRb.out]
                  refine ⟨_, rfl, ?_, ((below_unbox Hb2.out).setCell (p := ⟨W.heap.size, 0, none⟩) (Nat.le_refl _) _).setCell (p := ⟨W.heap.size, 1, none⟩) (Nat.le_refl _) _⟩
                  have := own_mono (own_set (off := 1) (u := .int .i64 0) (own_set (b := W.heap.size) (off := 0) (u := .int .i64 0) Hown2.out (by omega)) (b := W.heap.size) (by omega)) (Nat.le_succ _)
                  simpa using this
                | false =>
                  have HS2 := fun W => Lib.hid (HS.out (a + 1 + key.length + 1 + val.length) ((a : Int) + 1 + key.length + 1 + val.length) (by omega) 125 125 rfl false h125 W)
                  cases h44 : standsB s (a + 1 + key.length + 1 + val.length) 44 with
                  | false =>
                    have HRb : Hid (R = .bad (a + 1 + key.length + 1 + val.length) 11) := by
                      show R = _
                      rw [Hs4.out, if_neg (by rw [h125]; simp), if_pos h44]
                    have HS3 := fun W => Lib.hid (HS.out (a + 1 + key.length + 1 + val.length) ((a : Int) + 1 + key.length + 1 + val.length) (by omega) 44 44 rfl false h44 W)
                    clear h125 h44
                    go_wp2_with fail
                    refine HR1.out.mono ?_
                    rintro e w1 ⟨rfl, rfl⟩
                    clear HR1
                    go_wp2_with fail
                    refine HS1.out.mono ?_
                    rintro e w1 ⟨rfl, rfl⟩
                    clear HS1
                    go_wp2_with fail
                    refine HR2.out.mono ?_
                    rintro e w1 ⟨rfl, rfl⟩
                    clear HR2
                    go_wp2_with (at_builtin; refine wpList_app rfl _ _ 22 rfl (W.heap.size + 1) 47 (.agg #[.string ⟨#[]⟩, .string ⟨#[]⟩]) 2 32 Tryd.underlying22 info_prop rfl (by decide) _ _ _ rfl (Hown.out.alloc _) (some ⟨wr.heap.size, 0, none⟩) 1 1 (wr.heap.size + 1) [.string K, .string V] rfl ?hr ?h63 ?hb ?hbase ?_)
                    case hr => exact row_two _ _ _ _ _ rfl rfl
                    case h63 => unfold maxLen; omega
                    case hb => omega
                    case hbase => have := Hb.out.size; simp at this ⊢; omega
                    intro v' w3 hown' hgrow
                    have hbel := ((Hb.out.alloc (by have := Hb.out.size; simpa using this) (Obj.cells #[.string K, .string V] 47)).grown hgrow (by have := Hb.out.size; simp at this ⊢; omega) (fun k hk => (Hown.out.lt k hk).1))
                    have hown2 : w3.ownsRow (W.heap.size + 1) 47 2 v' (out ++ [(key, val)]).length (propCells (out ++ [(key, val)])) := by
                      rw [← str_props, List.length_append]
                      have := hown'
                      rw [HK.out, HV.out] at this
                      exact this
                    obtain ⟨va, vc, rfl, -⟩ := row_of_own hown2 (propCells_one _)
                    have Hown2 := Lib.hid hown2; have Hb2 := Lib.hid hbel
                    clear hown' hbel hgrow hown2
                    go_wp2_with fail
                    refine (HS2 _).out.mono ?_
                    rintro e w1 ⟨rfl, rfl⟩
                    clear HS2
                    go_wp2_with fail
                    refine (HS3 _).out.mono ?_
                    rintro e w1 ⟨rfl, rfl⟩
                    clear HS3
                    have HWr := fun W => Lib.hid (wrong_c ((a : Int) + 1 + key.length + 1 + val.length) W)
                    go_wp2_with fail
                    refine (HWr _).out.mono ?_
                    rintro e w2 ⟨rfl, hbel⟩
                    have Hb3 := Lib.hid (below_then Hb2.out hbel (by simp))
                    clear hbel HWr
                    obtain ⟨y0, y1, f0, f1⟩ := box2f Hb3.out
                    go_wp2_with fail
                    refine bodyPost_ret (v := .tuple #[.slice none 0 0, .int .i64 0, .agg #[.int .i64 ((a : Int) + 1 + key.length + 1 + val.length), .int .i64 11]]) (by simp [results, Tryd.results56, go_sem, y0, y1]) rfl ?_
                    rw [HRb.out]
                    exact ⟨rfl, ((below_unbox Hb3.out).setCell (p := ⟨W.heap.size, 0, none⟩) (Nat.le_refl _) _).setCell (p := ⟨W.heap.size, 1, none⟩) (Nat.le_refl _) _⟩
                  | true =>
                    have ha4 := stands_lt h44
                    have HRn : Hid (rdP f s (a + 1 + key.length + 1 + val.length) (out ++ [(key, val)]) key = R) := by
                      show _ = R
                      rw [Hs4.out, if_neg (by rw [h125]; simp), if_neg (by rw [h44]; simp)]
                    have HS3 := fun W => Lib.hid (HS.out (a + 1 + key.length + 1 + val.length) ((a : Int) + 1 + key.length + 1 + val.length) (by omega) 44 44 rfl true h44 W)
                    clear h125 h44
                    go_wp2_with fail
                    refine HR1.out.mono ?_
                    rintro e w1 ⟨rfl, rfl⟩
                    clear HR1
                    go_wp2_with fail
                    refine HS1.out.mono ?_
                    rintro e w1 ⟨rfl, rfl⟩
                    clear HS1
                    go_wp2_with fail
                    refine HR2.out.mono ?_
                    rintro e w1 ⟨rfl, rfl⟩
                    clear HR2
                    go_wp2_with (at_builtin; refine wpList_app rfl _ _ 22 rfl (W.heap.size + 1) 47 (.agg #[.string ⟨#[]⟩, .string ⟨#[]⟩]) 2 32 Tryd.underlying22 info_prop rfl (by decide) _ _ _ rfl (Hown.out.alloc _) (some ⟨wr.heap.size, 0, none⟩) 1 1 (wr.heap.size + 1) [.string K, .string V] rfl ?hr ?h63 ?hb ?hbase ?_)
                    case hr => exact row_two _ _ _ _ _ rfl rfl
                    case h63 => unfold maxLen; omega
                    case hb => omega
                    case hbase => have := Hb.out.size; simp at this ⊢; omega
                    intro v' w3 hown' hgrow
                    have hbel := ((Hb.out.alloc (by have := Hb.out.size; simpa using this) (Obj.cells #[.string K, .string V] 47)).grown hgrow (by have := Hb.out.size; simp at this ⊢; omega) (fun k hk => (Hown.out.lt k hk).1))
                    have hown2 : w3.ownsRow (W.heap.size + 1) 47 2 v' (out ++ [(key, val)]).length (propCells (out ++ [(key, val)])) := by
                      rw [← str_props, List.length_append]
                      have := hown'
                      rw [HK.out, HV.out] at this
                      exact this
                    obtain ⟨va, vc, rfl, -⟩ := row_of_own hown2 (propCells_one _)
                    have Hown2 := Lib.hid hown2; have Hb2 := Lib.hid hbel
                    clear hown' hbel hgrow hown2
                    go_wp2_with fail
                    refine (HS2 _).out.mono ?_
                    rintro e w1 ⟨rfl, rfl⟩
                    clear HS2
                    go_wp2_with fail
                    refine (HS3 _).out.mono ?_
                    rintro e w1 ⟨rfl, rfl⟩
                    clear HS3
                    go_wp2_with fail
                    go_roundw
                    case rel => exact ⟨a + 1 + key.length + 1 + val.length, f, out ++ [(key, val)], key, by omega, by omega, by go_num, by rw [HK.out], by simp; omega, by simp; omega, HRn.out, by have := Hown2.out; simpa using this, Hb2.out⟩
                    case measure => simp [intOf]; omega

end Go.Proofs.YtmhgbocejjnoaaaDoor
