/- Walks: slices.SortFunc at rows of paths. -/
import Derived.Test.YtiinmgccjlmoaaaRSort
import Derived.Test.YtiinmgccjlmoaaaRKE
import Derived.Test.YtiinmgccjlmoaaaRKC
namespace Go.Proofs.Ytiinmgccjlmoaaa
open Go.RowKit Go.Redl Go.Sort Go.Shelf
set_option linter.unusedVariables false

section
variable {α : Type} [Inhabited α]
theorem sortWorld_by (enc : α → Value) (w : World) (blk off m : Nat) (dk : Array α) (os : Array Obj) : w.grownBy (sortWorld enc w blk off m dk os) (some blk) := by
  refine ⟨rfl, rfl, rfl, ?_, fun k hk hne => ?_⟩
  · simp [sortWorld, grow, putRow, mapBlock, Sort.ahead]
  · have hne' : ¬ blk = k := fun e => hne (by rw [e])
    show ((w.heap.modify blk _) ++ os)[k]? = w.heap[k]?
    rw [Array.getElem?_append_left (by simpa using hk), Array.getElem?_modify, if_neg hne']
theorem sortWorld_at (enc : α → Value) (w : World) (b m : Nat) (dk : Array α) (os : Array Obj) (l : List Value) (tl : List Value) (T : TypeId) (h : At w b (l ++ tl) T) (hl : dk.size = l.length) :
    At (sortWorld enc w b 0 m dk os) b (dk.toList.map enc ++ tl) T := by
  have hb := h.lt
  unfold At at h ⊢
  show ((w.heap.modify b _) ++ os)[b]? = _
  rw [Array.getElem?_append_left (by simpa using hb), Array.getElem?_modify, if_pos rfl, h]
  simp only [Option.map_some, onCells]
  congr 2
  apply Array.ext_getElem?
  intro k
  unfold putCells
  rw [Array.getElem?_mapIdx]
  simp only [List.getElem?_toArray, Nat.zero_le, true_and, Nat.zero_add, Nat.sub_zero]
  by_cases hk : k < dk.size
  · rw [List.getElem?_append_left (by omega), List.getElem?_append_left (by simpa using hk), List.getElem?_map, List.getElem?_eq_getElem (show k < l.length by omega)]
    simp [hk]
  · rw [List.getElem?_append_right (by omega), List.getElem?_append_right (by simpa using hk)]
    have hk' : ¬ k < l.length := by omega
    simp [hk', hl]
end

/-- In order. -/
abbrev SortL (l : List (List Int)) : Prop := l.Pairwise fun p q => ¬ cmpL q p < 0
def SortP (W : World) (M L : Nat) (v : Value) (xs : List PX) (e : Ending) (w' : World) : Prop :=
  e = .returned (.tuple #[]) ∧ ∃ ys : List PX, ys.Perm xs ∧ SortL (pxs ys) ∧ RowX w' M L v ys ∧ W.grownBy w' v.ownBlock

theorem cmpL_swo {α : Type} (f : α → List Int) : SWO (ltOf fun x y : α => cmpL (f x) (f y)) where
  irrefl x := by simp [ltOf, cmpL_self]
  trans x y z h1 h2 := by
    unfold ltOf at *
    simp only [decide_eq_true_eq] at *
    exact cmpL_trans h1 h2
  ntrans x y z h1 h2 := by
    unfold ltOf at *
    simp only [decide_eq_false_iff_not] at *
    intro h3
    rcases cmpL_three (f y) (f x) with h | h | h
    · rcases cmpL_three (f z) (f y) with h' | h' | h'
      · have := cmpL_trans h3 h'
        exact h1 this
      · rw [h'] at h3; exact h1 h3
      · exact h2 h'
    · rw [h] at h2; exact h2 h3
    · exact h1 h

theorem sortx_ent : ∀ args w, (callFunc 75 args).run Try.prog w = .ok (.enter 75 args) w := by intro args w; kernel_rfl
theorem insort_ent : ∀ args w, (callFunc 127 args).run Try.prog w = .ok (.enter 127 args) w := by intro args w; kernel_rfl
theorem pdq_ent : ∀ args w, (callFunc 110 args).run Try.prog w = .ok (.enter 110 args) w := by intro args w; kernel_rfl
/-- No element: nothing is done. -/
theorem insort0_c (fv : Value) (W : World) : Calls Try.prog 127 #[.slice none 0 0, .int .i64 0, .int .i64 0, fv] W fun e w' => e = .returned (.tuple #[]) ∧ w' = W := by
  go_enter Try.func127, Try.ntmps127
  go_wp2_with fail
  go_loopg [8, 9] 1 (fun g i _ wr => i = .int .i64 1 ∧ wr = W)
  case atStart => exact ⟨rfl, rfl⟩
  case round =>
    obtain ⟨rfl, rfl⟩ := hrel
    go_wp2_with fail
    go_end0
    exact ⟨rfl, rfl⟩
set_option maxRecDepth 100000 in
theorem pdq0_c (lim : Int) (fv : Value) (W : World) : Calls Try.prog 110 #[.slice none 0 0, .int .i64 0, .int .i64 0, .int .i64 lim, fv] W fun e w' => e = .returned (.tuple #[]) ∧ w' = W := by
  have HI := Lib.hid (insort0_c fv W)
  go_enter Try.func110, Try.ntmps110
  go_wp2_with fail
  go_loopg [1, 2, 3, 10, 11, 12] 1 (fun g a b l _ _ _ wr => a = .int .i64 0 ∧ b = .int .i64 0 ∧ l = .int .i64 lim ∧ wr = W)
  case atStart => exact ⟨rfl, rfl, rfl, rfl⟩
  case round =>
    obtain ⟨rfl, rfl, rfl, rfl⟩ := hrel
    go_wp2_with fail
    refine HI.out.mono ?_
    rintro e w1 ⟨rfl, rfl⟩
    go_wp2_with fail
    exact bodyPost_ret (v := .tuple #[]) (by simp [results, Try.results110]) rfl ⟨rfl, rfl⟩
set_option maxRecDepth 100000 in
theorem sort0_c (fv : Value) (W : World) : Calls Try.prog 75 #[.slice none 0 0, fv] W fun e w' => e = .returned (.tuple #[]) ∧ w' = W := by
  have hl : Calls Try.prog 111 #[.int .u64 0] W fun e w' => e = .returned (.int .i64 (Lib.bitLen 0 : Nat)) ∧ w' = W :=
    Any.bits_Len (SlLaysF0.n15.bits (P := Try.prog) (ρ := Try.sortL_ren) { Try.sortL with }) 0 W (by omega) (by omega)
  have HL := Lib.hid hl
  have HP := Lib.hid (fun lim => pdq0_c lim fv W)
  clear hl
  go_enter Try.func75, Try.ntmps75
  go_wp2_with fail
  refine HL.out.mono ?_
  rintro e w1 ⟨rfl, rfl⟩
  go_wp2_with fail
  refine (HP.out _).mono ?_
  rintro e w1 ⟨rfl, rfl⟩
  go_wp2_with fail
  go_end0
  exact ⟨rfl, rfl⟩

set_option maxRecDepth 100000 in
set_option maxHeartbeats 1000000 in
theorem sortx_c (M L : Nat) (v : Value) (xs : List PX) (W : World) (hx : RowX W M L v xs) (hn : xs.length ≤ 100000000) :
    Calls Try.prog 75 #[v, .func (.func 76) #[] #[]] W (SortP W M L v xs) := by
  rcases hx.open with ⟨rfl, rfl⟩ | ⟨b, cap, tl, rfl, hMb, hA, hcl, hcm⟩
  · exact (sort0_c _ W).mono fun e w' hh => ⟨hh.1, [], List.Perm.refl _, List.Pairwise.nil, by rw [hh.2]; exact RowX.nil _ _ _, by rw [hh.2]; exact World.grownBy.refl _ _⟩
  · have hq0 : ∀ x ∈ xs, PxQ W (fun k => L ≤ k ∧ k ≠ b) x := fun x hx' => rowq_imp (hx.all x hx') fun k hk => ⟨hk.1, fun e => hk.2 (by rw [e]; rfl)⟩
    let α := {x : PX // PxQ W (fun k => L ≤ k ∧ k ≠ b) x}
    have instI : Inhabited α := ⟨⟨([], none, 0), RowQ.empty _ _ _⟩⟩
    let enc : α → Value := fun x => pxV x.1
    let d : Array α := (xs.attachWith _ hq0).toArray
    have hdl : d.toList.map (·.1) = xs := List.attachWith_map_subtype_val hq0
    have hds : d.size = xs.length := List.length_attachWith (H := hq0)
    have hde : d.toList.map enc = xs.map pxV := by
      rw [← hdl, List.map_map]
      congr 1
    have hH : Holds enc W b 0 d := by
      intro j hj
      have hj' : j < xs.length := by omega
      refine ⟨?_, Lib.frozen_of_heap hA _⟩
      rw [Nat.zero_add, px_cell hA j hj', getElem!_pos d j hj]
      have h1 : (d.toList.map (·.1))[j]'(by simpa using hj) = xs[j] := by simp only [hdl]
      rw [List.getElem_map] at h1
      show some (pxV xs[j]) = some (pxV (d[j]).1)
      rw [← h1]; simp
    have hcmp : CmpLays1 Try.prog 76 #[] enc (fun x y => cmpL x.1.1 y.1.1) b 0 d.size W := by
      intro m os dk hs x y
      have hg := sortWorld_by enc W b 0 m dk os
      have hxq := PxQ.grown x.2 hg
      have hyq := PxQ.grown y.2 hg
      obtain ⟨⟨x0, xa, xc⟩, hx2⟩ := x
      obtain ⟨⟨y0, ya, yc⟩, hy2⟩ := y
      have h := tcmp_c x0 y0 xa ya xc yc _ (sortWorld enc W b 0 m dk os) hxq.row hyq.row
      refine h.mono fun e w' hh => ⟨hh.1, 0, #[], ?_⟩
      rw [hh.2, grow_empty]; rfl
    have hS := Any.slices_SortFunc Try.sortL enc (fun _ => rfl) (fun x y => cmpL x.1.1 y.1.1) (cmpL_swo fun x : α => x.1.1) 76 #[] b 0 cap d W tcmp_ent hcmp hH hA.lt (by omega)
    rw [hds] at hS
    refine Calls.mono (f := 75) hS fun e w' hh => ?_
    obtain ⟨rfl, d', n, os, ⟨hps, -, hpp⟩, hs, rfl⟩ := hh
    have hperm : d'.toList.Perm d.toList := by
      have e1 : (d'.extract 0 xs.length).toList = d'.toList := by
        rw [Array.extract_eq_self_of_le (by omega)]
      have e2 : (d.extract 0 xs.length).toList = d.toList := by
        rw [Array.extract_eq_self_of_le (by omega)]
      rw [e1, e2] at hpp
      exact hpp
    have hg := sortWorld_by enc W b 0 n d' os
    have hpm : (d'.toList.map (·.1)).Perm xs := by have := hperm.map (fun x : α => x.1); rwa [hdl] at this
    have hlen : (d'.toList.map (·.1)).length = xs.length := hpm.length_eq
    refine ⟨rfl, d'.toList.map (·.1), hpm, ?_, ?_, hg⟩
    · show SortL ((d'.toList.map (·.1)).map (·.1))
      rw [List.map_map, SortL, List.pairwise_map, List.pairwise_iff_getElem]
      intro i j hi hj hij
      have h := hs i j (Nat.zero_le _) hij (by simpa [hps, hds] using hj)
      unfold ltOf at h
      simp only [decide_eq_false_iff_not] at h
      rw [getElem!_pos d' i (by simpa using hi), getElem!_pos d' j (by simpa using hj)] at h
      simpa using h
    · rw [← hlen]
      have h := sortWorld_at enc W b n d' os (xs.map pxV) tl 36 hA (by simp [hps, hds])
      have h2 : At (sortWorld enc W b 0 n d' os) b ((d'.toList.map (·.1)).map pxV ++ tl) 36 := by rw [List.map_map]; exact h
      exact RowX.shut hMb h2 (by omega) hcm fun x hx' => (hq0 x (hpm.subset hx')).grown hg

end Go.Proofs.Ytiinmgccjlmoaaa
