/- Walks: code's leaf. -/
import Derived.Test.YtmhgbocejjnoaaaDoorRDB
import Derived.Test.YtmhgbocejjnoaaaDoorRT2
namespace Go.Proofs.YtmhgbocejjnoaaaDoor
open Go.RowKit Go.Redl
set_option linter.unusedVariables false

/-- Where a quoted text ends. -/
def leafEnd (s : List UInt8) (a : Nat) : Nat := if 0 ≤ Lib.indexByte (s.drop (a + 1)) 34 then a + (Lib.indexByte (s.drop (a + 1)) 34).toNat + 2 else s.length
/-- A quoted text. -/
def rdL (s : List UInt8) (a : Nat) : Rd (List Int) :=
  if (unqL ((s.take (leafEnd s a)).drop a)).2.2 = 0 then .ok (unqL ((s.take (leafEnd s a)).drop a)).1 (leafEnd s a) else .bad (a + (unqL ((s.take (leafEnd s a)).drop a)).2.1.toNat) (unqL ((s.take (leafEnd s a)).drop a)).2.2
theorem rdL_eq {s : List UInt8} {a e : Nat} {zs : List Int} {p er : Int} (he : leafEnd s a = e) (hu : unqL ((s.take e).drop a) = (zs, p, er)) : rdL s a = if er = 0 then .ok zs e else .bad (a + p.toNat) er := by
  unfold rdL; rw [he, hu]
def LeafR (W : World) (R : Rd (List Int)) (e : Ending) (w' : World) : Prop :=
  match R with
  | .ok zs n => ∃ v, e = .returned (.tuple #[v, .int .i64 n, .agg #[.int .i64 0, .int .i64 0]]) ∧ w'.ownsRow W.heap.size 21 1 v zs.length (zs.map (Value.int .i32)) ∧ Below W.heap.size W w'
  | .bad a er => e = .returned (.tuple #[.slice none 0 0, .int .i64 0, .agg #[.int .i64 a, .int .i64 er]]) ∧ Below W.heap.size W w'
theorem cut_mid (s : List UInt8) (a b : Nat) (h : a ≤ b) (hb : b ≤ s.length) : (⟨s.toArray⟩ : ByteArray).extract a b = ⟨((s.take b).drop a).toArray⟩ := by
  rw [ByteArray.extract_mk, List.drop_take]
theorem leafEnd_le (s : List UInt8) (a : Nat) (ha : a < s.length) : a + 1 ≤ leafEnd s a ∧ leafEnd s a ≤ s.length := by
  unfold leafEnd
  split
  · rename_i h
    obtain ⟨o, ho⟩ : ∃ o : Nat, Lib.indexByte (s.drop (a + 1)) 34 = o := ⟨(Lib.indexByte (s.drop (a + 1)) 34).toNat, by omega⟩
    obtain ⟨h1, -⟩ := Lib.indexByte_some ho
    have hlt : o < (s.drop (a + 1)).length := by
      rcases Nat.lt_or_ge o (s.drop (a + 1)).length with h | h
      · exact h
      · rw [List.getElem?_eq_none h] at h1; cases h1
    simp only [List.length_drop] at hlt
    rw [ho]; simp; omega
  · omega

set_option maxRecDepth 100000 in
set_option maxHeartbeats 2000000 in
theorem leaf_q (s : List UInt8) (a : Nat) (W : World) (hn : s.length ≤ 1000000) (ha : a < s.length) (hE : ErrsAt W) (hT : TabAt W) (hg : 3 < W.heap.size) :
    Calls Tryd.prog 57 #[.string ⟨s.toArray⟩, .int .i64 a] W (LeafR W (rdL s a)) := by
  obtain ⟨hl1, hl2⟩ := leafEnd_le s a ha
  have hsz : (⟨s.toArray⟩ : ByteArray).size = s.length := rfl
  have hex1 := drop_str s (a + 1) (by omega)
  have hex2 := cut_mid s a (leafEnd s a) (by omega) hl2
  have hIx : (⟨(s.drop (a + 1)).toArray⟩ : ByteArray).data.toList = s.drop (a + 1) := by simp
  have HI := fun W => Lib.hid (Tryd.strings_IndexByte ⟨(s.drop (a + 1)).toArray⟩ 34 W)
  rw [hIx] at HI
  have HU := fun W' (hb : Below W.heap.size W W') => Lib.hid (unquote_c ((s.take (leafEnd s a)).drop a) W' (by simp; omega) (hE.keep hb) (hT.keep hb hg) (Nat.lt_of_lt_of_le hg hb.size))
  have Hcase := Lib.hid (unq_cases ((s.take (leafEnd s a)).drop a))
  obtain ⟨e, he⟩ : ∃ e, leafEnd s a = e := ⟨_, rfl⟩
  have Heq := fun zs p er => Lib.hid (rdL_eq (zs := zs) (p := p) (er := er) he)
  have Hle : Hid (leafEnd s a = if 0 ≤ Lib.indexByte (s.drop (a + 1)) 34 then a + (Lib.indexByte (s.drop (a + 1)) 34).toNat + 2 else s.length) := rfl
  rw [he] at hl1 hl2 hex2 HU Hcase Hle
  rw [hsz] at hex1
  obtain ⟨X, hX⟩ : ∃ X, X = (⟨(s.drop (a + 1)).toArray⟩ : ByteArray) := ⟨_, rfl⟩
  obtain ⟨Y, hY⟩ : ∃ Y, Y = (⟨((s.take e).drop a).toArray⟩ : ByteArray) := ⟨_, rfl⟩
  rw [← hX] at HI hex1
  rw [← hY] at HU hex2
  obtain ⟨i, hi⟩ : ∃ i, Lib.indexByte (s.drop (a + 1)) 34 = i := ⟨_, rfl⟩
  have e34 : ((34 : Int).toNat.toUInt8) = 34 := rfl
  rw [e34, hi] at HI
  rw [hi] at Hle
  obtain ⟨S, hS⟩ : ∃ S, S = (⟨s.toArray⟩ : ByteArray) := ⟨_, rfl⟩
  rw [← hS] at hsz hex1 hex2 ⊢
  have HU := Lib.hid HU
  obtain ⟨zs, p, er, hu, hcase⟩ : ∃ zs p er, unqL ((s.take e).drop a) = (zs, p, er) ∧ (er = 0 ∧ p = 0 ∨ er = 11 ∧ zs = [] ∧ ∃ q : Nat, p = q ∧ q ≤ s.length) := by
    rcases Hcase.out with ⟨zs, -, -, h⟩ | ⟨q, hq, h⟩
    · exact ⟨_, _, _, h, .inl ⟨rfl, rfl⟩⟩
    · refine ⟨_, _, _, h, .inr ⟨rfl, rfl, q, rfl, ?_⟩⟩
      have : ((s.take e).drop a).length ≤ s.length := by simp; omega
      omega
  have HR := Lib.hid ((Heq zs p er).out hu)
  obtain ⟨R, hR⟩ : ∃ R, R = rdL s a := ⟨_, rfl⟩
  rw [← hR] at HR ⊢
  have Hu := Lib.hid hu
  clear hIx Hcase Heq he hX hY hi e34 hS hE hT hu hR
  have hend : 0 ≤ i ∧ (e : Int) = a + i + 2 ∨ i < 0 ∧ e = s.length := by
    have := Hle.out
    split at this
    · left; omega
    · right; omega
  clear Hle
  rcases hend with ⟨h0, h1⟩ | ⟨h0, h1⟩
  · obtain ⟨j, rfl⟩ := Int.eq_ofNat_of_zero_le h0
    obtain rfl : e = a + j + 2 := by omega
    clear h0 h1
    have HU1 := HU.out (W.alloc (Obj.cells #[.int .i64 0, .int .i64 0] 71)) ((Below.refl _ _).alloc (Nat.le_refl _) _)
    rw [Hu.out] at HU1
    rcases hcase with ⟨rfl, rfl⟩ | ⟨rfl, rfl, q, rfl, hq⟩
    · have HRb : Hid (R = .ok zs (a + j + 2)) := by show R = _; rw [HR.out, if_pos rfl]
      go_enter Tryd.func57, Tryd.ntmps57
      go_wp2_with fail
      refine (HI _).out.mono ?_
      rintro e' w1 ⟨rfl, rfl⟩
      clear HI
      go_wp2_with fail
      refine HU1.out.mono ?_
      rintro e' w2 ⟨v, rfl, hown, hbel⟩
      have hb2 := below_box hbel
      obtain ⟨va, vc, rfl, -⟩ := row_of_own hown (ints_one .i32 zs)
      have Ho := Lib.hid hown
      obtain ⟨y0, y1, f0, f1⟩ := box2f hb2
      have Hb2 := Lib.hid hb2
      clear hown hbel hb2 HU1
      go_wp2_with fail
      refine bodyPost_ret (v := .tuple #[.slice va zs.length vc, .int .i64 ((a : Int) + j + 2), .agg #[.int .i64 0, .int .i64 0]]) (by simp [results, Tryd.results57, go_sem, y0, y1]) rfl ?_
      rw [HRb.out]
      refine ⟨_, rfl, ?_, ((below_unbox Hb2.out).setCell (p := ⟨W.heap.size, 0, none⟩) (Nat.le_refl _) _).setCell (p := ⟨W.heap.size, 1, none⟩) (Nat.le_refl _) _⟩
      have hh := Ho.out
      have hsz1 : (W.alloc (Obj.cells #[.int .i64 0, .int .i64 0] 71)).heap.size = W.heap.size + 1 := by simp
      rw [hsz1] at hh
      exact own_mono (own_set (off := 1) (u := .int .i64 0) (own_set (b := W.heap.size) (off := 0) (u := .int .i64 0) hh (by omega)) (b := W.heap.size) (by omega)) (Nat.le_succ _)
    · have HRb : Hid (R = .bad (a + q) 11) := by show R = _; rw [HR.out, if_neg (by decide)]; simp
      go_enter Tryd.func57, Tryd.ntmps57
      go_wp2_with fail
      refine (HI _).out.mono ?_
      rintro e' w1 ⟨rfl, rfl⟩
      clear HI
      go_wp2_with fail
      refine HU1.out.mono ?_
      rintro e' w2 ⟨v, rfl, -, hbel⟩
      have hb2 := below_box hbel
      obtain ⟨y0, y1, f0, f1⟩ := box2f hb2
      have Hb2 := Lib.hid hb2
      clear hbel hb2 HU1
      go_wp2_with fail
      refine bodyPost_ret (v := .tuple #[.slice none 0 0, .int .i64 0, .agg #[.int .i64 ((a : Int) + q), .int .i64 11]]) (by simp [results, Tryd.results57, go_sem, y0, y1]) rfl ?_
      rw [HRb.out]
      exact ⟨rfl, ((below_unbox Hb2.out).setCell (p := ⟨W.heap.size, 0, none⟩) (Nat.le_refl _) _).setCell (p := ⟨W.heap.size, 1, none⟩) (Nat.le_refl _) _⟩
  · subst h1
    have HU1 := HU.out (W.alloc (Obj.cells #[.int .i64 0, .int .i64 0] 71)) ((Below.refl _ _).alloc (Nat.le_refl _) _)
    rw [Hu.out] at HU1
    rcases hcase with ⟨rfl, rfl⟩ | ⟨rfl, rfl, q, rfl, hq⟩
    · have HRb : Hid (R = .ok zs s.length) := by show R = _; rw [HR.out, if_pos rfl]
      go_enter Tryd.func57, Tryd.ntmps57
      go_wp2_with fail
      refine (HI _).out.mono ?_
      rintro e' w1 ⟨rfl, rfl⟩
      clear HI
      go_wp2_with fail
      refine HU1.out.mono ?_
      rintro e' w2 ⟨v, rfl, hown, hbel⟩
      have hb2 := below_box hbel
      obtain ⟨va, vc, rfl, -⟩ := row_of_own hown (ints_one .i32 zs)
      have Ho := Lib.hid hown
      obtain ⟨y0, y1, f0, f1⟩ := box2f hb2
      have Hb2 := Lib.hid hb2
      clear hown hbel hb2 HU1
      go_wp2_with fail
      refine bodyPost_ret (v := .tuple #[.slice va zs.length vc, .int .i64 (s.length : Int), .agg #[.int .i64 0, .int .i64 0]]) (by simp [results, Tryd.results57, go_sem, y0, y1]) rfl ?_
      rw [HRb.out]
      refine ⟨_, rfl, ?_, ((below_unbox Hb2.out).setCell (p := ⟨W.heap.size, 0, none⟩) (Nat.le_refl _) _).setCell (p := ⟨W.heap.size, 1, none⟩) (Nat.le_refl _) _⟩
      have hh := Ho.out
      have hsz1 : (W.alloc (Obj.cells #[.int .i64 0, .int .i64 0] 71)).heap.size = W.heap.size + 1 := by simp
      rw [hsz1] at hh
      exact own_mono (own_set (off := 1) (u := .int .i64 0) (own_set (b := W.heap.size) (off := 0) (u := .int .i64 0) hh (by omega)) (b := W.heap.size) (by omega)) (Nat.le_succ _)
    · have HRb : Hid (R = .bad (a + q) 11) := by show R = _; rw [HR.out, if_neg (by decide)]; simp
      go_enter Tryd.func57, Tryd.ntmps57
      go_wp2_with fail
      refine (HI _).out.mono ?_
      rintro e' w1 ⟨rfl, rfl⟩
      clear HI
      go_wp2_with fail
      refine HU1.out.mono ?_
      rintro e' w2 ⟨v, rfl, -, hbel⟩
      have hb2 := below_box hbel
      obtain ⟨y0, y1, f0, f1⟩ := box2f hb2
      have Hb2 := Lib.hid hb2
      clear hbel hb2 HU1
      go_wp2_with fail
      refine bodyPost_ret (v := .tuple #[.slice none 0 0, .int .i64 0, .agg #[.int .i64 ((a : Int) + q), .int .i64 11]]) (by simp [results, Tryd.results57, go_sem, y0, y1]) rfl ?_
      rw [HRb.out]
      exact ⟨rfl, ((below_unbox Hb2.out).setCell (p := ⟨W.heap.size, 0, none⟩) (Nat.le_refl _) _).setCell (p := ⟨W.heap.size, 1, none⟩) (Nat.le_refl _) _⟩

end Go.Proofs.YtmhgbocejjnoaaaDoor
