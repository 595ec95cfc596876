/- Walks: glyph.Unquote. -/
import Derived.Test.YtmhgbocejjnoaaaDoorRT1
namespace Go.Proofs.YtmhgbocejjnoaaaDoor
open Go.RowKit Go.Redl Go.BigFrame
set_option linter.unusedVariables false

/-- What Unquote answers. -/
def UnqP (w : World) (U : List Int × Int × Int) (e : Ending) (w' : World) : Prop :=
  ∃ v, e = .returned (.tuple #[v, .int .i64 U.2.1, .int .i64 U.2.2]) ∧ w'.ownsRow w.heap.size 21 1 v U.1.length (U.1.map (Value.int .i32)) ∧ Below w.heap.size w w'
theorem UnqP.none {w w' : World} {U : List Int × Int × Int} {p : Int} {e : Ending} (hU : U = ([], p, 11)) (he : e = .returned (.tuple #[.slice none 0 0, .int .i64 p, .int .i64 11])) (hb : Below w.heap.size w w') : UnqP w U e w' := by
  subst hU; subst he
  exact ⟨_, rfl, World.ownsRow_nil _ _ _ _, hb⟩

/-- The loop's relation. -/
def UqR (w : World) (s : List UInt8) (o i : Value) (wr : World) : Prop :=
  ∃ (k f : Nat) (zs : List Int), 1 ≤ k ∧ k ≤ s.length ∧ i = .int .i64 k ∧ zs.length ≤ k ∧ s.length < f + k ∧ uq f (s.drop k) zs k = unqL s ∧ wr.ownsRow w.heap.size 21 1 o zs.length (zs.map (Value.int .i32)) ∧ Below w.heap.size w wr

theorem drop_str (s : List UInt8) (k : Nat) (hk : k ≤ s.length) : (⟨s.toArray⟩ : ByteArray).extract k (⟨s.toArray⟩ : ByteArray).size = ⟨(s.drop k).toArray⟩ := by
  rw [ByteArray.extract_mk, List.take_of_length_le]
  show (s.drop k).length ≤ s.length - k
  simp

theorem uq_nil (f : Nat) (zs : List Int) (k : Nat) : uq f [] zs k = ([], (k : Int), 11) := by cases f <;> simp [uq]
theorem uq_close (f : Nat) (zs : List Int) (k : Nat) : uq (f + 1) [34] zs k = (zs, 0, 0) := by simp [uq]
theorem uq_far (f : Nat) {r : List UInt8} (hr : r ≠ []) (zs : List Int) (k : Nat) : uq (f + 1) (34 :: r) zs k = ([], (k : Int) + 1, 11) := by simp [uq, hr]
theorem uq_bad (f : Nat) {x : UInt8} {r : List UInt8} (hx : x ≠ 34) (h : (firstS (x :: r)).2 = 0) (zs : List Int) (k : Nat) : uq (f + 1) (x :: r) zs k = ([], (k : Int), 11) := by
  simp only [uq]; rw [if_neg hx, if_pos h]
theorem uq_on (f : Nat) {x : UInt8} {r : List UInt8} (hx : x ≠ 34) (h : (firstS (x :: r)).2 ≠ 0) (zs : List Int) (k : Nat) : uq (f + 1) (x :: r) zs k = uq f ((x :: r).drop (firstS (x :: r)).2) (zs ++ [(firstS (x :: r)).1]) (k + (firstS (x :: r)).2) := by
  conv => lhs; rw [uq]
  rw [if_neg hx, if_neg h]
theorem firstS_long {t : List UInt8} (h : (firstS t).2 ≠ 0) : (firstS t).2 ≤ t.length := by
  obtain ⟨-, h2, h3⟩ := firstS_ok h
  rw [h3]
  conv => rhs; rw [h2]
  simp

set_option maxRecDepth 100000 in
set_option maxHeartbeats 2000000 in
theorem unquote_c (s : List UInt8) (w : World) (hn : s.length ≤ 1000000) (he : ErrsAt w) (ht : TabAt w) (hg : 3 < w.heap.size) :
    Calls Tryd.prog 73 #[.string ⟨s.toArray⟩] w (UnqP w (unqL s)) := by
  have He := Lib.hid he; have Ht := Lib.hid ht; have Hg := Lib.hid hg
  clear he ht hg
  cases s with
  | nil =>
    go_enter Tryd.func73, Tryd.ntmps73
    go_wp2_with fail
    go_ret3
    exact UnqP.none (p := 0) rfl rfl (Below.refl _ _)
  | cons y r =>
    have hg0 : ∀ h, (⟨(y :: r).toArray⟩ : ByteArray)[0]'h = y := fun _ => rfl
    have hsz : (⟨(y :: r).toArray⟩ : ByteArray).size = r.length + 1 := rfl
    have Hall : Hid (∀ (k : Nat) (x : UInt8), (y :: r)[k]? = some x → ∀ h, (⟨(y :: r).toArray⟩ : ByteArray)[k]'h = x) := by
      show ∀ (k : Nat) (x : UInt8), (y :: r)[k]? = some x → ∀ h, (⟨(y :: r).toArray⟩ : ByteArray)[k]'h = x
      intro k x hx h
      exact Option.some.inj ((List.getElem?_eq_getElem (l := y :: r) h).symm.trans hx)
    have Hdrop : ∀ k, Hid (k ≤ (y :: r).length → (⟨(y :: r).toArray⟩ : ByteArray).extract k (⟨(y :: r).toArray⟩ : ByteArray).size = ⟨((y :: r).drop k).toArray⟩) := fun k => Lib.hid (drop_str _ k)
    have hne : ((⟨(y :: r).toArray⟩ : ByteArray).toList.isEmpty) = false := by rw [ByteArray.toList_mk]; rfl
    obtain ⟨S, hS⟩ : ∃ S, S = (⟨(y :: r).toArray⟩ : ByteArray) := ⟨_, rfl⟩
    rw [← hS] at hg0 hsz Hall hne ⊢
    simp only [← hS] at Hdrop
    clear hS
    by_cases hy : y = 34
    · subst hy
      have h34 : ((34 : UInt8).toNat : Int) = 34 := rfl
      go_enter Tryd.func73, Tryd.ntmps73
      go_wp2_with fail
      go_loopw [5, 6] (fun o i wr => UqR w (34 :: r) o i wr) (fun _ i _ => (34 :: r).length - (intOf i).toNat)
      case atStart => exact ⟨1, r.length + 1, [], Nat.le_refl _, by simp, rfl, by simp, by simp, rfl, World.ownsRow_nil _ _ _ _, Below.refl _ _⟩
      case round =>
        obtain ⟨k, f, zs, hk1, hk, rfl, hz, hf, hu, hown, hbel⟩ := hrel
        have hlen : (34 :: r).length = r.length + 1 := rfl
        rw [hlen] at hk hf hn
        have Hu := Lib.hid hu; have Ho := Lib.hid hown; have Hb := Lib.hid hbel
        clear hu hown hbel
        cases hd : (34 :: r).drop k with
        | nil =>
          have hke : k = r.length + 1 := by
            have := List.drop_eq_nil_iff.1 hd
            rw [hlen] at this; omega
          subst hke
          have Hd := Lib.hid hd
          clear hd hg0 hne
          go_wp2_with fail
          go_ret3
          refine UnqP.none (p := (r.length : Int) + 1) ?_ rfl Hb.out
          rw [← Hu.out, Hd.out, uq_nil]; rfl
        | cons x t =>
          have hkl : k < r.length + 1 := by
            have := congrArg List.length hd
            simp at this; omega
          obtain ⟨f, rfl⟩ : ∃ f', f = f' + 1 := ⟨f - 1, by omega⟩
          have hx : (34 :: r)[k]? = some x := by rw [← List.head?_drop, hd]; rfl
          have hgk := Hall.out k x hx
          have htl : t.length = r.length - k := by
            have := congrArg List.length hd
            simp at this; omega
          have Hd := Lib.hid hd
          clear hd hx hg0 hne
          by_cases hx : x = 34
          · subst hx
            by_cases ht : t = []
            · have hke : k = r.length := by rw [ht] at htl; simp at htl; omega
              subst hke
              go_wp2_with fail
              go_ret3
              have hU : unqL (34 :: r) = (zs, 0, 0) := by rw [← Hu.out, Hd.out, ht, uq_close]
              rw [hU]
              exact ⟨_, rfl, Ho.out, Hb.out⟩
            · have hke : k < r.length := by have := List.length_pos_iff.2 ht; omega
              go_wp2_with fail
              go_ret3
              refine UnqP.none (p := (k : Int) + 1) ?_ rfl Hb.out
              rw [← Hu.out, Hd.out, uq_far _ ht]
          · have hxb : ((x.toNat : Int) == 34) = false := by
              have : x.toNat ≠ 34 := fun h => hx (UInt8.toNat_inj.1 h)
              simp only [beq_eq_false_iff_ne, ne_eq]; omega
            have hex := (Hdrop k).out (by rw [hlen]; omega)
            rw [Hd.out, hsz] at hex
            have HF := Lib.hid (first_c (x :: t) wr (by simp) (by simp; omega) (He.out.keep Hb.out) (TabAt.keep Ht.out Hb.out Hg.out) (Nat.lt_of_lt_of_le Hg.out Hb.out.size))
            obtain ⟨c, hc⟩ : ∃ c, (firstS (x :: t)).1 = c := ⟨_, rfl⟩
            obtain ⟨l, hl⟩ : ∃ l, (firstS (x :: t)).2 = l := ⟨_, rfl⟩
            rw [hc, hl] at HF
            have Hc := Lib.hid hc; have Hl := Lib.hid hl; have Hx := Lib.hid hx
            clear hc hl hx
            go_wp2_with fail
            refine HF.out.mono ?_
            rintro e w1 ⟨rfl, hb⟩
            have Hb1 := Lib.hid (Hb.out.trans (hb.mono Hb.out.size))
            have Ho1 := Lib.hid (own_keep Ho.out hb)
            clear hb HF hex hgk
            by_cases hl0 : l = 0
            · subst hl0
              go_wp2_with fail
              go_ret3
              refine UnqP.none (p := k) ?_ rfl Hb1.out
              rw [← Hu.out, Hd.out, uq_bad _ Hx.out Hl.out]
            · have Hl2 := Lib.hid (firstS_long (t := x :: t) (by rw [Hl.out]; exact hl0))
              have hlb : l ≤ r.length + 1 - k := by
                have h1 := Hl2.out
                rw [Hl.out] at h1
                simp only [List.length_cons] at h1; omega
              have hl1 : ((l : Int) == 0) = false := by simp only [beq_eq_false_iff_ne, ne_eq]; omega
              go_wp2_with (at_builtin; refine wpList_app rfl _ _ 23 rfl w.heap.size 21 (.int .i32 0) 1 4 Tryd.underlying23 info_int32 rfl (by decide) _ _ _ rfl (Ho1.out.alloc _) (some ⟨w1.heap.size, 0, none⟩) 1 1 (w1.heap.size + 1) [.int .i32 c] rfl ?hr ?h63 ?hb ?hbase ?_)
              case hr => exact row_one _ _ _ _ rfl
              case h63 => unfold maxLen; omega
              case hb => omega
              case hbase => have := Hb1.out.size; simp; omega
              intro v' w2 hown' hgrow
              have hbel := ((Hb1.out.alloc (by have := Hb1.out.size; omega) _).grown hgrow (by have := Hb1.out.size; simp; omega) (fun k hk => (Ho1.out.lt k hk).1))
              have Ho2 := Lib.hid hown'; have Hb2 := Lib.hid hbel
              clear hown' hbel hgrow
              go_wp2_with fail
              go_roundw
              case rel =>
                refine ⟨k + l, f, zs ++ [c], by omega, by rw [hlen]; omega, by go_num, by simp; omega, by rw [hlen]; omega, ?_, ?_, Hb2.out⟩
                · have h1 := Hu.out
                  rw [Hd.out, uq_on f Hx.out (by rw [Hl.out]; exact hl0), Hc.out, Hl.out, ← Hd.out, List.drop_drop] at h1
                  exact h1
                · have := Ho2.out
                  simpa using this
              case measure => simp [intOf]; omega
    · have hyb : ((y.toNat : Int) != 34) = true := by
        have : y.toNat ≠ 34 := fun h => hy (UInt8.toNat_inj.1 h)
        simp only [bne_iff_ne, ne_eq]; omega
      have Hy := Lib.hid hy
      clear hy
      go_enter Tryd.func73, Tryd.ntmps73
      go_wp2_with fail
      go_ret3
      refine UnqP.none (p := 0) ?_ rfl (Below.refl _ _)
      unfold unqL
      simp only
      rw [if_neg Hy.out]

end Go.Proofs.YtmhgbocejjnoaaaDoor
