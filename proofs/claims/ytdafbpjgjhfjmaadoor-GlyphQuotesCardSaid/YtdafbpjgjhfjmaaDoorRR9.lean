/- Walks: the reference's Unquote. -/
import Derived.Test.YtdafbpjgjhfjmaaDoorRR8
import Derived.Test.YtdafbpjgjhfjmaaDoorRT2
namespace Go.Proofs.YtdafbpjgjhfjmaaDoor
open Go.RowKit Go.Redl Go.BigFrame
set_option linter.unusedVariables false

set_option maxRecDepth 100000 in
set_option maxHeartbeats 2000000 in
theorem runquote_c (s : List UInt8) (w : World) (hn : s.length ≤ 1000000) :
    Calls Tryd.prog 24 #[.string ⟨s.toArray⟩] w (UnqP w (unqL s)) := by
  cases s with
  | nil =>
    go_enter Tryd.func24, Tryd.ntmps24
    go_wp2_with fail
    go_ret3
    exact UnqP.none (p := 0) rfl rfl (Below.refl _ _)
  | cons y r =>
    have hg0 : ∀ h, (⟨(y :: r).toArray⟩ : ByteArray)[0]'h = y := fun _ => rfl
    have hsz : (⟨(y :: r).toArray⟩ : ByteArray).size = r.length + 1 := rfl
    have Hall : Hid (∀ (k : Nat) (x : UInt8), (y :: r)[k]? = some x → ∀ h, (⟨(y :: r).toArray⟩ : ByteArray)[k]'h = x) := by
      show ∀ (k : Nat) (x : UInt8), (y :: r)[k]? = some x → ∀ h, (⟨(y :: r).toArray⟩ : ByteArray)[k]'h = x
      intro k x hx h
      exact Option.some.inj ((List.getElem?_eq_getElem (l := y :: r) h).symm.trans hx)
    have Hdrop : ∀ k, Hid (k ≤ (y :: r).length → (⟨(y :: r).toArray⟩ : ByteArray).extract k (⟨(y :: r).toArray⟩ : ByteArray).size = ⟨((y :: r).drop k).toArray⟩) := fun k => Lib.hid (drop_str _ k)
    have hne : ((⟨(y :: r).toArray⟩ : ByteArray).toList.isEmpty) = false := by rw [ByteArray.toList_mk]; rfl
    obtain ⟨S, hS⟩ : ∃ S, S = (⟨(y :: r).toArray⟩ : ByteArray) := ⟨_, rfl⟩
    rw [← hS] at hg0 hsz Hall hne ⊢
    simp only [← hS] at Hdrop
    clear hS
    by_cases hy : y = 34
    · subst hy
      have h34 : ((34 : UInt8).toNat : Int) = 34 := rfl
      have hl0 : (((r.length : Int) + 1) == 0) = false := by simp only [beq_eq_false_iff_ne, ne_eq]; omega
      go_enter Tryd.func24, Tryd.ntmps24
      go_wp2_with fail
      go_loopw [5, 6] (fun o i wr => UqR w (34 :: r) o i wr) (fun _ i _ => (34 :: r).length - (intOf i).toNat)
      case atStart => exact ⟨1, r.length + 1, [], Nat.le_refl _, by simp, rfl, by simp, by simp, rfl, World.ownsRow_nil _ _ _ _, Below.refl _ _⟩
      case round =>
        obtain ⟨k, f, zs, hk1, hk, rfl, hz, hf, hu, hown, hbel⟩ := hrel
        have hlen : (34 :: r).length = r.length + 1 := rfl
        rw [hlen] at hk hf hn
        have Hu := Lib.hid hu; have Ho := Lib.hid hown; have Hb := Lib.hid hbel
        clear hu hown hbel
        cases hd : (34 :: r).drop k with
        | nil =>
          have hke : k = r.length + 1 := by
            have := List.drop_eq_nil_iff.1 hd
            rw [hlen] at this; omega
          subst hke
          have Hd := Lib.hid hd
          clear hd hg0 hne
          go_wp2_with fail
          go_ret3
          refine UnqP.none (p := (r.length : Int) + 1) ?_ rfl Hb.out
          rw [← Hu.out, Hd.out, uq_nil]; rfl
        | cons x t =>
          have hkl : k < r.length + 1 := by
            have := congrArg List.length hd
            simp at this; omega
          obtain ⟨f, rfl⟩ : ∃ f', f = f' + 1 := ⟨f - 1, by omega⟩
          have hx : (34 :: r)[k]? = some x := by rw [← List.head?_drop, hd]; rfl
          have hgk := Hall.out k x hx
          have htl : t.length = r.length - k := by
            have := congrArg List.length hd
            simp at this; omega
          have Hd := Lib.hid hd
          clear hd hx hg0 hne
          by_cases hx : x = 34
          · subst hx
            by_cases ht : t = []
            · have hke : k = r.length := by rw [ht] at htl; simp at htl; omega
              subst hke
              go_wp2_with fail
              go_ret3
              have hU : unqL (34 :: r) = (zs, 0, 0) := by rw [← Hu.out, Hd.out, ht, uq_close]
              rw [hU]
              exact ⟨_, rfl, Ho.out, Hb.out⟩
            · have hke : k < r.length := by have := List.length_pos_iff.2 ht; omega
              go_wp2_with fail
              go_ret3
              refine UnqP.none (p := (k : Int) + 1) ?_ rfl Hb.out
              rw [← Hu.out, Hd.out, uq_far _ ht]
          · have hxb : ((x.toNat : Int) == 34) = false := by
              have : x.toNat ≠ 34 := fun h => hx (UInt8.toNat_inj.1 h)
              simp only [beq_eq_false_iff_ne, ne_eq]; omega
            have hw32 : wrap32 (x.toNat : Int) = x.toNat := IntWalk.wrap32_in _ (by have := x.toNat_lt; omega)
            have hw32' : IntKind.i32.wrap (x.toNat : Int) = x.toNat := IntWalk.i32_in _ (by have := x.toNat_lt; omega)
            have hx8 := x.toNat_lt
            have Hx := Lib.hid hx
            clear hx
            by_cases h92 : x = 92
            · subst h92
              have hex := (Hdrop (k + 1)).out (by rw [hlen]; omega)
              have hdt : (34 :: r).drop (k + 1) = t := by
                have := congrArg List.tail Hd.out
                rwa [List.tail_drop] at this
              rw [hdt, hsz] at hex
              have H92 : Hid (plainB 92 = false) := by show plainB 92 = false; decide
              have hx92 : (((92 : UInt8).toNat : Nat) : Int) = 92 := rfl
              have HE := Lib.hid (escape_c t wr (by omega))
              cases he : escN (92 :: t) with
              | none =>
                have Hf : Hid (firstS (92 :: t) = (0, 0)) := firstS_none H92.out he
                rw [escR_none he] at HE
                clear he hdt hw32 hw32' hxb
                go_wp2_with fail
                refine HE.out.mono ?_
                rintro e w1 ⟨rfl, hd⟩
                have Hb1 := Lib.hid (Drawn.trans_below Hb.out hd)
                clear hd HE
                go_wp2_with fail
                go_ret3
                refine UnqP.none (p := k) ?_ rfl Hb1.out
                rw [← Hu.out, Hd.out, uq_bad _ Hx.out (by rw [Hf.out])]
              | some n =>
                have Hf0 := firstS_some (x := 92) (r := t) H92.out he
                have hl2 : (escL n).length = (hexL n).length + 2 := by simp [escL]
                rw [hl2] at Hf0
                have Hf : Hid (firstS (92 :: t) = ((n : Int), (hexL n).length + 2)) := Hf0
                rw [escR_some he] at HE
                have hxl := hexL_len n
                have Hl2 := Lib.hid (firstS_long (t := 92 :: t) (by rw [Hf0]; simp))
                have hlb : (hexL n).length + 2 ≤ r.length + 1 - k := by
                  have h1 := Hl2.out
                  rw [Hf.out] at h1
                  simp only [List.length_cons] at h1; omega
                obtain ⟨m, hm⟩ : ∃ m, m = (hexL n).length := ⟨_, rfl⟩
                rw [← hm] at Hf HE hlb hxl
                clear he hdt hw32 hw32' hxb Hf0 hl2 Hl2 hm
                go_wp2_with fail
                refine HE.out.mono ?_
                rintro e w1 ⟨rfl, hd⟩
                have Hb1 := Lib.hid (Drawn.trans_below Hb.out hd)
                have Ho1 := Lib.hid (own_keep Ho.out (hd.below _))
                clear hd HE hex hgk hx92
                simp only
                go_wp2_with (at_builtin; refine wpList_app rfl _ _ 22 rfl w.heap.size 21 (.int .i32 0) 1 4 Tryd.underlying22 info_int32 rfl (by decide) _ _ _ rfl (Ho1.out.alloc _) (some ⟨w1.heap.size, 0, none⟩) 1 1 (w1.heap.size + 1) [.int .i32 n] rfl ?hr1 ?h631 ?hb1 ?hbase1 ?_)
                case hr1 => exact row_one _ _ _ _ rfl
                case h631 => unfold maxLen; omega
                case hb1 => omega
                case hbase1 => have := Hb1.out.size; simp; omega
                intro v' w2 hown' hgrow
                have hbel := ((Hb1.out.alloc (by have := Hb1.out.size; omega) _).grown hgrow (by have := Hb1.out.size; simp; omega) (fun k hk => (Ho1.out.lt k hk).1))
                have Ho2 := Lib.hid hown'; have Hb2 := Lib.hid hbel
                clear hown' hbel hgrow
                go_wp2_with fail
                go_roundw
                case rel =>
                  refine ⟨k + (m + 2), f, zs ++ [((n : Nat) : Int)], by omega, by rw [hlen]; omega, by go_num, by simp; omega, by rw [hlen]; omega, ?_, ?_, Hb2.out⟩
                  · have h1 := Hu.out
                    rw [Hd.out, uq_on f Hx.out (by rw [Hf.out]; simp), Hf.out, ← Hd.out, List.drop_drop] at h1
                    exact h1
                  · have := Ho2.out
                    simpa using this
                case measure => simp [intOf]; omega
            · have h92b : ((x.toNat : Int) == 92) = false := by
                have : x.toNat ≠ 92 := fun h => h92 (UInt8.toNat_inj.1 h)
                simp only [beq_eq_false_iff_ne, ne_eq]; omega
              have H92 := Lib.hid h92
              clear h92
              have HP := rplain_c (x.toNat : Int) wr
              cases hp : plainB x.toNat with
              | false =>
                rw [hp] at HP
                have Hf : Hid (firstS (x :: t) = (0, 0)) := firstS_none hp (escN_slash H92.out)
                have HP1 := Lib.hid HP
                clear HP hp
                go_wp2_with fail
                refine HP1.out.mono ?_
                rintro e w1 ⟨rfl, rfl⟩
                clear HP1
                go_wp2_with fail
                go_ret3
                refine UnqP.none (p := k) ?_ rfl Hb.out
                rw [← Hu.out, Hd.out, uq_bad _ Hx.out (by rw [Hf.out])]
              | true =>
                rw [hp] at HP
                have Hf : Hid (firstS (x :: t) = ((x.toNat : Int), 1)) := firstS_plain hp
                have HP1 := Lib.hid HP
                have Hb1 := Hb; have Ho1 := Ho
                clear HP hp
                go_wp2_with fail
                refine HP1.out.mono ?_
                rintro e w1 ⟨rfl, rfl⟩
                clear HP1
                go_wp2_with (at_builtin; refine wpList_app rfl _ _ 22 rfl w.heap.size 21 (.int .i32 0) 1 4 Tryd.underlying22 info_int32 rfl (by decide) _ _ _ rfl (Ho1.out.alloc _) (some ⟨wr.heap.size, 0, none⟩) 1 1 (wr.heap.size + 1) [.int .i32 x.toNat] rfl ?hr2 ?h632 ?hb2 ?hbase2 ?_)
                case hr2 => exact row_one _ _ _ _ rfl
                case h632 => unfold maxLen; omega
                case hb2 => omega
                case hbase2 => have := Hb1.out.size; simp; omega
                intro v' w2 hown' hgrow
                have hbel := ((Hb1.out.alloc (by have := Hb1.out.size; omega) _).grown hgrow (by have := Hb1.out.size; simp; omega) (fun k hk => (Ho1.out.lt k hk).1))
                have Ho2 := Lib.hid hown'; have Hb2 := Lib.hid hbel
                clear hown' hbel hgrow
                go_wp2_with fail
                go_roundw
                case rel =>
                  refine ⟨k + 1, f, zs ++ [((x.toNat : Nat) : Int)], by omega, by rw [hlen]; omega, by go_num, by simp; omega, by rw [hlen]; omega, ?_, ?_, Hb2.out⟩
                  · have h1 := Hu.out
                    rw [Hd.out, uq_on f Hx.out (by rw [Hf.out]; simp), Hf.out, ← Hd.out, List.drop_drop] at h1
                    exact h1
                  · have := Ho2.out
                    simpa using this
                case measure => simp [intOf]; omega
    · have hyb : ((y.toNat : Int) != 34) = true := by
        have : y.toNat ≠ 34 := fun h => hy (UInt8.toNat_inj.1 h)
        simp only [bne_iff_ne, ne_eq]; omega
      have Hy := Lib.hid hy
      clear hy
      go_enter Tryd.func24, Tryd.ntmps24
      go_wp2_with fail
      go_ret3
      refine UnqP.none (p := 0) ?_ rfl (Below.refl _ _)
      unfold unqL
      simp only
      rw [if_neg Hy.out]

end Go.Proofs.YtdafbpjgjhfjmaaDoor
