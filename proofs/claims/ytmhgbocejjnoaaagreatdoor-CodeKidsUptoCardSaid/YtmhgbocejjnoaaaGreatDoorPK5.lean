/- Parts of the proof, one behind the other: RT2, RDC, RDD, RDE, RDF. -/
import Derived.Test.YtmhgbocejjnoaaaGreatDoorPK4
import Derived.Test.YtmhgbocejjnoaaaGreatDoorPK1
import Derived.Deep.DeepCutAuto
/- Walks: glyph.Unquote. -/
namespace Go.Proofs.YtmhgbocejjnoaaaGreatDoor
open Go.RowKit Go.Redl Go.BigFrame
set_option linter.unusedVariables false

/-- What Unquote answers. -/
def UnqP (w : World) (U : List Int × Int × Int) (e : Ending) (w' : World) : Prop :=
  ∃ v, e = .returned (.tuple #[v, .int .i64 U.2.1, .int .i64 U.2.2]) ∧ w'.ownsRow w.heap.size 21 1 v U.1.length (U.1.map (Value.int .i32)) ∧ Below w.heap.size w w'
theorem UnqP.none {w w' : World} {U : List Int × Int × Int} {p : Int} {e : Ending} (hU : U = ([], p, 11)) (he : e = .returned (.tuple #[.slice none 0 0, .int .i64 p, .int .i64 11])) (hb : Below w.heap.size w w') : UnqP w U e w' := by
  subst hU; subst he
  exact ⟨_, rfl, World.ownsRow_nil _ _ _ _, hb⟩

/-- The loop's relation. -/
def UqR (w : World) (s : List UInt8) (o i : Value) (wr : World) : Prop :=
  ∃ (k f : Nat) (zs : List Int), 1 ≤ k ∧ k ≤ s.length ∧ i = .int .i64 k ∧ zs.length ≤ k ∧ s.length < f + k ∧ uq f (s.drop k) zs k = unqL s ∧ wr.ownsRow w.heap.size 21 1 o zs.length (zs.map (Value.int .i32)) ∧ Below w.heap.size w wr

theorem drop_str (s : List UInt8) (k : Nat) (hk : k ≤ s.length) : (⟨s.toArray⟩ : ByteArray).extract k (⟨s.toArray⟩ : ByteArray).size = ⟨(s.drop k).toArray⟩ := by
  rw [ByteArray.extract_mk, List.take_of_length_le]
  show (s.drop k).length ≤ s.length - k
  simp

theorem uq_nil (f : Nat) (zs : List Int) (k : Nat) : uq f [] zs k = ([], (k : Int), 11) := by cases f <;> simp [uq]
theorem uq_close (f : Nat) (zs : List Int) (k : Nat) : uq (f + 1) [34] zs k = (zs, 0, 0) := by simp [uq]
theorem uq_far (f : Nat) {r : List UInt8} (hr : r ≠ []) (zs : List Int) (k : Nat) : uq (f + 1) (34 :: r) zs k = ([], (k : Int) + 1, 11) := by simp [uq, hr]
theorem uq_bad (f : Nat) {x : UInt8} {r : List UInt8} (hx : x ≠ 34) (h : (firstS (x :: r)).2 = 0) (zs : List Int) (k : Nat) : uq (f + 1) (x :: r) zs k = ([], (k : Int), 11) := by
  simp only [uq]; rw [if_neg hx, if_pos h]
theorem uq_on (f : Nat) {x : UInt8} {r : List UInt8} (hx : x ≠ 34) (h : (firstS (x :: r)).2 ≠ 0) (zs : List Int) (k : Nat) : uq (f + 1) (x :: r) zs k = uq f ((x :: r).drop (firstS (x :: r)).2) (zs ++ [(firstS (x :: r)).1]) (k + (firstS (x :: r)).2) := by
  conv => lhs; rw [uq]
  rw [if_neg hx, if_neg h]
theorem firstS_long {t : List UInt8} (h : (firstS t).2 ≠ 0) : (firstS t).2 ≤ t.length := by
  obtain ⟨-, h2, h3⟩ := firstS_ok h
  rw [h3]
  conv => rhs; rw [h2]
  simp

set_option maxRecDepth 100000 in
set_option maxHeartbeats 2000000 in
theorem unquote_c (s : List UInt8) (w : World) (hn : s.length ≤ 1000000) (he : ErrsAt w) (ht : TabAt w) (hg : 7 < w.heap.size) :
    Calls Tryz.prog 52 #[.string ⟨s.toArray⟩] w (UnqP w (unqL s)) := by
  have He := Lib.hid he; have Ht := Lib.hid ht; have Hg := Lib.hid hg
  clear he ht hg
  cases s with
  | nil =>
    go_enter Tryz.func52, Tryz.ntmps52
    go_wp2_with fail
    go_ret3
    exact UnqP.none (p := 0) rfl rfl (Below.refl _ _)
  | cons y r =>
    have hg0 : ∀ h, (⟨(y :: r).toArray⟩ : ByteArray)[0]'h = y := fun _ => rfl
    have hsz : (⟨(y :: r).toArray⟩ : ByteArray).size = r.length + 1 := rfl
    have Hall : Hid (∀ (k : Nat) (x : UInt8), (y :: r)[k]? = some x → ∀ h, (⟨(y :: r).toArray⟩ : ByteArray)[k]'h = x) := by
      show ∀ (k : Nat) (x : UInt8), (y :: r)[k]? = some x → ∀ h, (⟨(y :: r).toArray⟩ : ByteArray)[k]'h = x
      intro k x hx h
      exact Option.some.inj ((List.getElem?_eq_getElem (l := y :: r) h).symm.trans hx)
    have Hdrop : ∀ k, Hid (k ≤ (y :: r).length → (⟨(y :: r).toArray⟩ : ByteArray).extract k (⟨(y :: r).toArray⟩ : ByteArray).size = ⟨((y :: r).drop k).toArray⟩) := fun k => Lib.hid (drop_str _ k)
    have hne : ((⟨(y :: r).toArray⟩ : ByteArray).toList.isEmpty) = false := by rw [ByteArray.toList_mk]; rfl
    obtain ⟨S, hS⟩ : ∃ S, S = (⟨(y :: r).toArray⟩ : ByteArray) := ⟨_, rfl⟩
    rw [← hS] at hg0 hsz Hall hne ⊢
    simp only [← hS] at Hdrop
    clear hS
    by_cases hy : y = 34
    · subst hy
      have h34 : ((34 : UInt8).toNat : Int) = 34 := rfl
      go_enter Tryz.func52, Tryz.ntmps52
      go_wp2_with fail
      go_loopw [5, 6] (fun o i wr => UqR w (34 :: r) o i wr) (fun _ i _ => (34 :: r).length - (intOf i).toNat)
      case atStart => exact ⟨1, r.length + 1, [], Nat.le_refl _, by simp, rfl, by simp, by simp, rfl, World.ownsRow_nil _ _ _ _, Below.refl _ _⟩
      case round =>
        obtain ⟨k, f, zs, hk1, hk, rfl, hz, hf, hu, hown, hbel⟩ := hrel
        have hlen : (34 :: r).length = r.length + 1 := rfl
        rw [hlen] at hk hf hn
        have Hu := Lib.hid hu; have Ho := Lib.hid hown; have Hb := Lib.hid hbel
        clear hu hown hbel
        cases hd : (34 :: r).drop k with
        | nil =>
          have hke : k = r.length + 1 := by
            have := List.drop_eq_nil_iff.1 hd
            rw [hlen] at this; omega
          subst hke
          have Hd := Lib.hid hd
          clear hd hg0 hne
          go_wp2_with fail
          go_ret3
          refine UnqP.none (p := (r.length : Int) + 1) ?_ rfl Hb.out
          rw [← Hu.out, Hd.out, uq_nil]; rfl
        | cons x t =>
          have hkl : k < r.length + 1 := by
            have := congrArg List.length hd
            simp at this; omega
          obtain ⟨f, rfl⟩ : ∃ f', f = f' + 1 := ⟨f - 1, by omega⟩
          have hx : (34 :: r)[k]? = some x := by rw [← List.head?_drop, hd]; rfl
          have hgk := Hall.out k x hx
          have htl : t.length = r.length - k := by
            have := congrArg List.length hd
            simp at this; omega
          have Hd := Lib.hid hd
          clear hd hx hg0 hne
          by_cases hx : x = 34
          · subst hx
            by_cases ht : t = []
            · have hke : k = r.length := by rw [ht] at htl; simp at htl; omega
              subst hke
              go_wp2_with fail
              go_ret3
              have hU : unqL (34 :: r) = (zs, 0, 0) := by rw [← Hu.out, Hd.out, ht, uq_close]
              rw [hU]
              exact ⟨_, rfl, Ho.out, Hb.out⟩
            · have hke : k < r.length := by have := List.length_pos_iff.2 ht; omega
              go_wp2_with fail
              go_ret3
              refine UnqP.none (p := (k : Int) + 1) ?_ rfl Hb.out
              rw [← Hu.out, Hd.out, uq_far _ ht]
          · have hxb : ((x.toNat : Int) == 34) = false := by
              have : x.toNat ≠ 34 := fun h => hx (UInt8.toNat_inj.1 h)
              simp only [beq_eq_false_iff_ne, ne_eq]; omega
            have hex := (Hdrop k).out (by rw [hlen]; omega)
            rw [Hd.out, hsz] at hex
            have HF := Lib.hid (first_c (x :: t) wr (by simp) (by simp; omega) (He.out.keep Hb.out) (TabAt.keep Ht.out Hb.out Hg.out) (Nat.lt_of_lt_of_le Hg.out Hb.out.size))
            obtain ⟨c, hc⟩ : ∃ c, (firstS (x :: t)).1 = c := ⟨_, rfl⟩
            obtain ⟨l, hl⟩ : ∃ l, (firstS (x :: t)).2 = l := ⟨_, rfl⟩
            rw [hc, hl] at HF
            have Hc := Lib.hid hc; have Hl := Lib.hid hl; have Hx := Lib.hid hx
            clear hc hl hx
            go_wp2_with fail
            refine HF.out.mono ?_
            rintro e w1 ⟨rfl, hb⟩
            have Hb1 := Lib.hid (Hb.out.trans (hb.mono Hb.out.size))
            have Ho1 := Lib.hid (own_keep Ho.out hb)
            clear hb HF hex hgk
            by_cases hl0 : l = 0
            · subst hl0
              go_wp2_with fail
              go_ret3
              refine UnqP.none (p := k) ?_ rfl Hb1.out
              rw [← Hu.out, Hd.out, uq_bad _ Hx.out Hl.out]
            · have Hl2 := Lib.hid (firstS_long (t := x :: t) (by rw [Hl.out]; exact hl0))
              have hlb : l ≤ r.length + 1 - k := by
                have h1 := Hl2.out
                rw [Hl.out] at h1
                simp only [List.length_cons] at h1; omega
              have hl1 : ((l : Int) == 0) = false := by simp only [beq_eq_false_iff_ne, ne_eq]; omega
              go_wp2_with (at_builtin; refine wpList_app rfl _ _ 24 rfl w.heap.size 21 (.int .i32 0) 1 4 Tryz.underlying24 info_int32 rfl (by decide) _ _ _ rfl (Ho1.out.alloc _) (some ⟨w1.heap.size, 0, none⟩) 1 1 (w1.heap.size + 1) [.int .i32 c] rfl ?hr ?h63 ?hb ?hbase ?_)
              case hr => exact row_one _ _ _ _ rfl
              case h63 => unfold maxLen; omega
              case hb => omega
              case hbase => have := Hb1.out.size; simp; omega
              intro v' w2 hown' hgrow
              have hbel := ((Hb1.out.alloc (by have := Hb1.out.size; omega) _).grown hgrow (by have := Hb1.out.size; simp; omega) (fun k hk => (Ho1.out.lt k hk).1))
              have Ho2 := Lib.hid hown'; have Hb2 := Lib.hid hbel
              clear hown' hbel hgrow
              go_wp2_with fail
              go_roundw
              case rel =>
                refine ⟨k + l, f, zs ++ [c], by omega, by rw [hlen]; omega, by go_num, by simp; omega, by rw [hlen]; omega, ?_, ?_, Hb2.out⟩
                · have h1 := Hu.out
                  rw [Hd.out, uq_on f Hx.out (by rw [Hl.out]; exact hl0), Hc.out, Hl.out, ← Hd.out, List.drop_drop] at h1
                  exact h1
                · have := Ho2.out
                  simpa using this
              case measure => simp [intOf]; omega
    · have hyb : ((y.toNat : Int) != 34) = true := by
        have : y.toNat ≠ 34 := fun h => hy (UInt8.toNat_inj.1 h)
        simp only [bne_iff_ne, ne_eq]; omega
      have Hy := Lib.hid hy
      clear hy
      go_enter Tryz.func52, Tryz.ntmps52
      go_wp2_with fail
      go_ret3
      refine UnqP.none (p := 0) ?_ rfl (Below.refl _ _)
      unfold unqL
      simp only
      rw [if_neg Hy.out]

end Go.Proofs.YtmhgbocejjnoaaaGreatDoor
/- Walks: code's leaf. -/
namespace Go.Proofs.YtmhgbocejjnoaaaGreatDoor
open Go.RowKit Go.Redl
set_option linter.unusedVariables false

/-- Where a quoted text ends. -/
def leafEnd (s : List UInt8) (a : Nat) : Nat := if 0 ≤ Lib.indexByte (s.drop (a + 1)) 34 then a + (Lib.indexByte (s.drop (a + 1)) 34).toNat + 2 else s.length
/-- A quoted text. -/
def rdL (s : List UInt8) (a : Nat) : Rd (List Int) :=
  if (unqL ((s.take (leafEnd s a)).drop a)).2.2 = 0 then .ok (unqL ((s.take (leafEnd s a)).drop a)).1 (leafEnd s a) else .bad (a + (unqL ((s.take (leafEnd s a)).drop a)).2.1.toNat) (unqL ((s.take (leafEnd s a)).drop a)).2.2
theorem rdL_eq {s : List UInt8} {a e : Nat} {zs : List Int} {p er : Int} (he : leafEnd s a = e) (hu : unqL ((s.take e).drop a) = (zs, p, er)) : rdL s a = if er = 0 then .ok zs e else .bad (a + p.toNat) er := by
  unfold rdL; rw [he, hu]
def LeafR (W : World) (R : Rd (List Int)) (e : Ending) (w' : World) : Prop :=
  match R with
  | .ok zs n => ∃ v, e = .returned (.tuple #[v, .int .i64 n, .agg #[.int .i64 0, .int .i64 0]]) ∧ w'.ownsRow W.heap.size 21 1 v zs.length (zs.map (Value.int .i32)) ∧ Below W.heap.size W w'
  | .bad a er => e = .returned (.tuple #[.slice none 0 0, .int .i64 0, .agg #[.int .i64 a, .int .i64 er]]) ∧ Below W.heap.size W w'
theorem cut_mid (s : List UInt8) (a b : Nat) (h : a ≤ b) (hb : b ≤ s.length) : (⟨s.toArray⟩ : ByteArray).extract a b = ⟨((s.take b).drop a).toArray⟩ := by
  rw [ByteArray.extract_mk, List.drop_take]
theorem leafEnd_le (s : List UInt8) (a : Nat) (ha : a < s.length) : a + 1 ≤ leafEnd s a ∧ leafEnd s a ≤ s.length := by
  unfold leafEnd
  split
  · rename_i h
    obtain ⟨o, ho⟩ : ∃ o : Nat, Lib.indexByte (s.drop (a + 1)) 34 = o := ⟨(Lib.indexByte (s.drop (a + 1)) 34).toNat, by omega⟩
    obtain ⟨h1, -⟩ := Lib.indexByte_some ho
    have hlt : o < (s.drop (a + 1)).length := by
      rcases Nat.lt_or_ge o (s.drop (a + 1)).length with h | h
      · exact h
      · rw [List.getElem?_eq_none h] at h1; cases h1
    simp only [List.length_drop] at hlt
    rw [ho]; simp; omega
  · omega

set_option maxRecDepth 100000 in
set_option maxHeartbeats 2000000 in
theorem leaf_q (s : List UInt8) (a : Nat) (W : World) (hn : s.length ≤ 1000000) (ha : a < s.length) (hE : ErrsAt W) (hT : TabAt W) (hg : 7 < W.heap.size) :
    Calls Tryz.prog 34 #[.string ⟨s.toArray⟩, .int .i64 a] W (LeafR W (rdL s a)) := by
  obtain ⟨hl1, hl2⟩ := leafEnd_le s a ha
  have hsz : (⟨s.toArray⟩ : ByteArray).size = s.length := rfl
  have hex1 := drop_str s (a + 1) (by omega)
  have hex2 := cut_mid s a (leafEnd s a) (by omega) hl2
  have hIx : (⟨(s.drop (a + 1)).toArray⟩ : ByteArray).data.toList = s.drop (a + 1) := by simp
  have HI := fun W => Lib.hid (Tryz.strings_IndexByte ⟨(s.drop (a + 1)).toArray⟩ 34 W)
  rw [hIx] at HI
  have HU := fun W' (hb : Below W.heap.size W W') => Lib.hid (unquote_c ((s.take (leafEnd s a)).drop a) W' (by simp; omega) (hE.keep hb) (hT.keep hb hg) (Nat.lt_of_lt_of_le hg hb.size))
  have Hcase := Lib.hid (unq_cases ((s.take (leafEnd s a)).drop a))
  obtain ⟨e, he⟩ : ∃ e, leafEnd s a = e := ⟨_, rfl⟩
  have Heq := fun zs p er => Lib.hid (rdL_eq (zs := zs) (p := p) (er := er) he)
  have Hle : Hid (leafEnd s a = if 0 ≤ Lib.indexByte (s.drop (a + 1)) 34 then a + (Lib.indexByte (s.drop (a + 1)) 34).toNat + 2 else s.length) := rfl
  rw [he] at hl1 hl2 hex2 HU Hcase Hle
  rw [hsz] at hex1
  obtain ⟨X, hX⟩ : ∃ X, X = (⟨(s.drop (a + 1)).toArray⟩ : ByteArray) := ⟨_, rfl⟩
  obtain ⟨Y, hY⟩ : ∃ Y, Y = (⟨((s.take e).drop a).toArray⟩ : ByteArray) := ⟨_, rfl⟩
  rw [← hX] at HI hex1
  rw [← hY] at HU hex2
  obtain ⟨i, hi⟩ : ∃ i, Lib.indexByte (s.drop (a + 1)) 34 = i := ⟨_, rfl⟩
  have e34 : ((34 : Int).toNat.toUInt8) = 34 := rfl
  rw [e34, hi] at HI
  rw [hi] at Hle
  obtain ⟨S, hS⟩ : ∃ S, S = (⟨s.toArray⟩ : ByteArray) := ⟨_, rfl⟩
  rw [← hS] at hsz hex1 hex2 ⊢
  have HU := Lib.hid HU
  obtain ⟨zs, p, er, hu, hcase⟩ : ∃ zs p er, unqL ((s.take e).drop a) = (zs, p, er) ∧ (er = 0 ∧ p = 0 ∨ er = 11 ∧ zs = [] ∧ ∃ q : Nat, p = q ∧ q ≤ s.length) := by
    rcases Hcase.out with ⟨zs, -, -, h⟩ | ⟨q, hq, h⟩
    · exact ⟨_, _, _, h, .inl ⟨rfl, rfl⟩⟩
    · refine ⟨_, _, _, h, .inr ⟨rfl, rfl, q, rfl, ?_⟩⟩
      have : ((s.take e).drop a).length ≤ s.length := by simp; omega
      omega
  have HR := Lib.hid ((Heq zs p er).out hu)
  obtain ⟨R, hR⟩ : ∃ R, R = rdL s a := ⟨_, rfl⟩
  rw [← hR] at HR ⊢
  have Hu := Lib.hid hu
  clear hIx Hcase Heq he hX hY hi e34 hS hE hT hu hR
  have hend : 0 ≤ i ∧ (e : Int) = a + i + 2 ∨ i < 0 ∧ e = s.length := by
    have := Hle.out
    split at this
    · left; omega
    · right; omega
  clear Hle
  rcases hend with ⟨h0, h1⟩ | ⟨h0, h1⟩
  · obtain ⟨j, rfl⟩ := Int.eq_ofNat_of_zero_le h0
    obtain rfl : e = a + j + 2 := by omega
    clear h0 h1
    have HU1 := HU.out (W.alloc (Obj.cells #[.int .i64 0, .int .i64 0] 43)) ((Below.refl _ _).alloc (Nat.le_refl _) _)
    rw [Hu.out] at HU1
    rcases hcase with ⟨rfl, rfl⟩ | ⟨rfl, rfl, q, rfl, hq⟩
    · have HRb : Hid (R = .ok zs (a + j + 2)) := by show R = _; rw [HR.out, if_pos rfl]
      go_enter Tryz.func34, Tryz.ntmps34
      go_wp2_with fail
      refine (HI _).out.mono ?_
      rintro e' w1 ⟨rfl, rfl⟩
      clear HI
      go_wp2_with fail
      refine HU1.out.mono ?_
      rintro e' w2 ⟨v, rfl, hown, hbel⟩
      have hb2 := below_box hbel
      obtain ⟨va, vc, rfl, -⟩ := row_of_own hown (ints_one .i32 zs)
      have Ho := Lib.hid hown
      obtain ⟨y0, y1, f0, f1⟩ := box2f hb2
      have Hb2 := Lib.hid hb2
      clear hown hbel hb2 HU1
      go_wp2_with fail
      refine bodyPost_ret (v := .tuple #[.slice va zs.length vc, .int .i64 ((a : Int) + j + 2), .agg #[.int .i64 0, .int .i64 0]]) (by simp [results, Tryz.results34, go_sem, y0, y1]) rfl ?_
      rw [HRb.out]
      refine ⟨_, rfl, ?_, ((below_unbox Hb2.out).setCell (p := ⟨W.heap.size, 0, none⟩) (Nat.le_refl _) _).setCell (p := ⟨W.heap.size, 1, none⟩) (Nat.le_refl _) _⟩
      have hh := Ho.out
      have hsz1 : (W.alloc (Obj.cells #[.int .i64 0, .int .i64 0] 43)).heap.size = W.heap.size + 1 := by simp
      rw [hsz1] at hh
      exact own_mono (own_set (off := 1) (u := .int .i64 0) (own_set (b := W.heap.size) (off := 0) (u := .int .i64 0) hh (by omega)) (b := W.heap.size) (by omega)) (Nat.le_succ _)
    · have HRb : Hid (R = .bad (a + q) 11) := by show R = _; rw [HR.out, if_neg (by decide)]; simp
      go_enter Tryz.func34, Tryz.ntmps34
      go_wp2_with fail
      refine (HI _).out.mono ?_
      rintro e' w1 ⟨rfl, rfl⟩
      clear HI
      go_wp2_with fail
      refine HU1.out.mono ?_
      rintro e' w2 ⟨v, rfl, -, hbel⟩
      have hb2 := below_box hbel
      obtain ⟨y0, y1, f0, f1⟩ := box2f hb2
      have Hb2 := Lib.hid hb2
      clear hbel hb2 HU1
      go_wp2_with fail
      refine bodyPost_ret (v := .tuple #[.slice none 0 0, .int .i64 0, .agg #[.int .i64 ((a : Int) + q), .int .i64 11]]) (by simp [results, Tryz.results34, go_sem, y0, y1]) rfl ?_
      rw [HRb.out]
      exact ⟨rfl, ((below_unbox Hb2.out).setCell (p := ⟨W.heap.size, 0, none⟩) (Nat.le_refl _) _).setCell (p := ⟨W.heap.size, 1, none⟩) (Nat.le_refl _) _⟩
  · subst h1
    have HU1 := HU.out (W.alloc (Obj.cells #[.int .i64 0, .int .i64 0] 43)) ((Below.refl _ _).alloc (Nat.le_refl _) _)
    rw [Hu.out] at HU1
    rcases hcase with ⟨rfl, rfl⟩ | ⟨rfl, rfl, q, rfl, hq⟩
    · have HRb : Hid (R = .ok zs s.length) := by show R = _; rw [HR.out, if_pos rfl]
      go_enter Tryz.func34, Tryz.ntmps34
      go_wp2_with fail
      refine (HI _).out.mono ?_
      rintro e' w1 ⟨rfl, rfl⟩
      clear HI
      go_wp2_with fail
      refine HU1.out.mono ?_
      rintro e' w2 ⟨v, rfl, hown, hbel⟩
      have hb2 := below_box hbel
      obtain ⟨va, vc, rfl, -⟩ := row_of_own hown (ints_one .i32 zs)
      have Ho := Lib.hid hown
      obtain ⟨y0, y1, f0, f1⟩ := box2f hb2
      have Hb2 := Lib.hid hb2
      clear hown hbel hb2 HU1
      go_wp2_with fail
      refine bodyPost_ret (v := .tuple #[.slice va zs.length vc, .int .i64 (s.length : Int), .agg #[.int .i64 0, .int .i64 0]]) (by simp [results, Tryz.results34, go_sem, y0, y1]) rfl ?_
      rw [HRb.out]
      refine ⟨_, rfl, ?_, ((below_unbox Hb2.out).setCell (p := ⟨W.heap.size, 0, none⟩) (Nat.le_refl _) _).setCell (p := ⟨W.heap.size, 1, none⟩) (Nat.le_refl _) _⟩
      have hh := Ho.out
      have hsz1 : (W.alloc (Obj.cells #[.int .i64 0, .int .i64 0] 43)).heap.size = W.heap.size + 1 := by simp
      rw [hsz1] at hh
      exact own_mono (own_set (off := 1) (u := .int .i64 0) (own_set (b := W.heap.size) (off := 0) (u := .int .i64 0) hh (by omega)) (b := W.heap.size) (by omega)) (Nat.le_succ _)
    · have HRb : Hid (R = .bad (a + q) 11) := by show R = _; rw [HR.out, if_neg (by decide)]; simp
      go_enter Tryz.func34, Tryz.ntmps34
      go_wp2_with fail
      refine (HI _).out.mono ?_
      rintro e' w1 ⟨rfl, rfl⟩
      clear HI
      go_wp2_with fail
      refine HU1.out.mono ?_
      rintro e' w2 ⟨v, rfl, -, hbel⟩
      have hb2 := below_box hbel
      obtain ⟨y0, y1, f0, f1⟩ := box2f hb2
      have Hb2 := Lib.hid hb2
      clear hbel hb2 HU1
      go_wp2_with fail
      refine bodyPost_ret (v := .tuple #[.slice none 0 0, .int .i64 0, .agg #[.int .i64 ((a : Int) + q), .int .i64 11]]) (by simp [results, Tryz.results34, go_sem, y0, y1]) rfl ?_
      rw [HRb.out]
      exact ⟨rfl, ((below_unbox Hb2.out).setCell (p := ⟨W.heap.size, 0, none⟩) (Nat.le_refl _) _).setCell (p := ⟨W.heap.size, 1, none⟩) (Nat.le_refl _) _⟩

end Go.Proofs.YtmhgbocejjnoaaaGreatDoor
/- What reading a tree answers: plain functions and their laws. -/
namespace Go.Proofs.YtmhgbocejjnoaaaGreatDoor
open Go.RowKit Go.Redl
set_option linter.unusedVariables false

/-- A node's properties. -/
def rdH (s : List UInt8) (a : Nat) : Rd (List PropD) := if standsB s a 123 = true then rdP (s.length + 1) s a [] [] else .ok [] a
mutual
/-- A node; its kids. -/
def rdN : Nat → List UInt8 → Nat → Rd NodeD
  | 0, _, a => .bad a 11
  | f + 1, s, a =>
    match rdH s a with
    | .bad p er => .bad p er
    | .ok ps a1 =>
      if standsB s a1 34 = true then (match rdL s a1 with
        | .bad p er => .bad p er
        | .ok t e => .ok (.mk true ps t []) e)
      else if standsB s a1 91 = false then .bad a1 11
      else (match rdK f s (a1 + 1) [] with
        | .bad p er => .bad p er
        | .ok ks e => .ok (.mk false ps [] ks) e)
def rdK : Nat → List UInt8 → Nat → List NodeD → Rd (List NodeD)
  | 0, _, a, _ => .bad a 11
  | f + 1, s, a, out =>
    if standsB s a 93 = true then .ok out (a + 1)
    else (match rdN f s a with
      | .bad p er => .bad p er
      | .ok k e => rdK f s e (out ++ [k]))
end
theorem rdP_pos : ∀ (f : Nat) (s : List UInt8) (a : Nat) (out : List PropD) (last : List UInt8) (ps : List PropD) (e : Nat), a < s.length → rdP f s a out last = .ok ps e → a < e ∧ e ≤ s.length
  | 0, s, a, out, last, ps, e, ha, h => by unfold rdP at h; cases h
  | f + 1, s, a, out, last, ps, e, ha, h => by
    have hk := keyAt_len s (a + 1) (by omega)
    unfold rdP at h
    generalize keyAt s (a + 1) = key at h hk
    by_cases c1 : key = [] ∨ standsB s (a + 1 + key.length) 58 = false
    · rw [if_pos c1] at h; cases h
    rw [if_neg c1] at h
    have h58 := stands_lt (s := s) (a := a + 1 + key.length) (c := 58) (by
      cases hh : standsB s (a + 1 + key.length) 58 with
      | true => rfl
      | false => exact absurd (.inr hh) c1)
    have hv := valAt_len s (a + 1 + key.length + 1) (by omega)
    generalize valAt s (a + 1 + key.length + 1) = val at h hv
    by_cases c2 : out.length = 16
    · rw [if_pos c2] at h; cases h
    rw [if_neg c2] at h
    by_cases c3 : 16 < key.length ∨ 32 < val.length
    · rw [if_pos c3] at h; cases h
    rw [if_neg c3] at h
    by_cases c4 : leB key last = true
    · rw [if_pos c4] at h; cases h
    rw [if_neg c4] at h
    by_cases c5 : standsB s (a + 1 + key.length + 1 + val.length) 125 = true
    · rw [if_pos c5] at h
      have := stands_lt c5
      injection h with h1 h2
      omega
    rw [if_neg c5] at h
    by_cases c6 : standsB s (a + 1 + key.length + 1 + val.length) 44 = false
    · rw [if_pos c6] at h; cases h
    rw [if_neg c6] at h
    have h44 := stands_lt (s := s) (a := a + 1 + key.length + 1 + val.length) (c := 44) (by simpa using c6)
    have := rdP_pos f s _ _ _ ps e h44 h
    omega
theorem rdH_pos {s : List UInt8} {a e : Nat} {ps : List PropD} (ha : a ≤ s.length) (h : rdH s a = .ok ps e) : a ≤ e ∧ e ≤ s.length := by
  unfold rdH at h
  by_cases c : standsB s a 123 = true
  · rw [if_pos c] at h
    have := rdP_pos _ s a [] [] ps e (stands_lt c) h
    omega
  · rw [if_neg c] at h
    injection h with h1 h2
    omega
theorem rdL_pos {s : List UInt8} {a e : Nat} {t : List Int} (ha : a < s.length) (h : rdL s a = .ok t e) : a < e ∧ e ≤ s.length := by
  have := leafEnd_le s a ha
  unfold rdL at h
  split at h
  · injection h with h1 h2; omega
  · cases h
mutual
theorem rdN_pos : ∀ (f : Nat) (s : List UInt8) (a : Nat) (n : NodeD) (e : Nat), a ≤ s.length → rdN f s a = .ok n e → a < e ∧ e ≤ s.length
  | 0, s, a, n, e, ha, h => by unfold rdN at h; cases h
  | f + 1, s, a, n, e, ha, h => by
    unfold rdN at h
    cases hh : rdH s a with
    | bad p er => rw [hh] at h; cases h
    | ok ps a1 =>
      have h1 := rdH_pos ha hh
      rw [hh] at h
      simp only at h
      by_cases c1 : standsB s a1 34 = true
      · rw [if_pos c1] at h
        cases hl : rdL s a1 with
        | bad p er => rw [hl] at h; cases h
        | ok t e' =>
          have := rdL_pos (stands_lt c1) hl
          rw [hl] at h
          injection h with h1 h2; omega
      rw [if_neg c1] at h
      by_cases c2 : standsB s a1 91 = false
      · rw [if_pos c2] at h; cases h
      rw [if_neg c2] at h
      have h91 := stands_lt (s := s) (a := a1) (c := 91) (by simpa using c2)
      cases hk : rdK f s (a1 + 1) [] with
      | bad p er => rw [hk] at h; cases h
      | ok ks e' =>
        have := rdK_pos f s (a1 + 1) [] ks e' (by omega) hk
        rw [hk] at h
        injection h with h1 h2; omega
theorem rdK_pos : ∀ (f : Nat) (s : List UInt8) (a : Nat) (out ks : List NodeD) (e : Nat), a ≤ s.length → rdK f s a out = .ok ks e → a < e ∧ e ≤ s.length
  | 0, s, a, out, ks, e, ha, h => by unfold rdK at h; cases h
  | f + 1, s, a, out, ks, e, ha, h => by
    unfold rdK at h
    by_cases c1 : standsB s a 93 = true
    · rw [if_pos c1] at h
      have := stands_lt c1
      injection h with h1 h2; omega
    rw [if_neg c1] at h
    cases hn : rdN f s a with
    | bad p er => rw [hn] at h; cases h
    | ok k e' =>
      have h1 := rdN_pos f s a k e' ha hn
      rw [hn] at h
      have := rdK_pos f s e' _ ks e h1.2 h
      omega
end
theorem rdL_wf {s : List UInt8} {a e : Nat} {t : List Int} (h : rdL s a = .ok t e) : ∀ z ∈ t, validB z = true := by
  unfold rdL at h
  generalize (s.take (leafEnd s a)).drop a = q at h
  rcases unq_cases q with ⟨zs, hz, -, hu⟩ | ⟨p, -, hu⟩
  · rw [hu] at h
    simp only [if_pos] at h
    injection h with h1 h2
    subst h1; exact hz
  · rw [hu] at h
    rw [if_neg (by show ¬ ((11 : Int) = 0); decide)] at h
    cases h
theorem rdP_len : ∀ (f : Nat) (s : List UInt8) (a : Nat) (out : List PropD) (last : List UInt8) (ps : List PropD) (e : Nat), out.length ≤ 16 → rdP f s a out last = .ok ps e → ps.length ≤ 16
  | 0, s, a, out, last, ps, e, ho, h => by unfold rdP at h; cases h
  | f + 1, s, a, out, last, ps, e, ho, h => by
    unfold rdP at h
    generalize keyAt s (a + 1) = key at h
    generalize valAt s (a + 1 + key.length + 1) = val at h
    by_cases c1 : key = [] ∨ standsB s (a + 1 + key.length) 58 = false
    · rw [if_pos c1] at h; cases h
    rw [if_neg c1] at h
    by_cases c2 : out.length = 16
    · rw [if_pos c2] at h; cases h
    rw [if_neg c2] at h
    by_cases c3 : 16 < key.length ∨ 32 < val.length
    · rw [if_pos c3] at h; cases h
    rw [if_neg c3] at h
    by_cases c4 : leB key last = true
    · rw [if_pos c4] at h; cases h
    rw [if_neg c4] at h
    by_cases c5 : standsB s (a + 1 + key.length + 1 + val.length) 125 = true
    · rw [if_pos c5] at h
      injection h with h1 h2
      subst h1; simp; omega
    rw [if_neg c5] at h
    by_cases c6 : standsB s (a + 1 + key.length + 1 + val.length) 44 = false
    · rw [if_pos c6] at h; cases h
    rw [if_neg c6] at h
    exact rdP_len f s _ _ _ ps e (by simp; omega) h

end Go.Proofs.YtmhgbocejjnoaaaGreatDoor
/- Walks: code's read. -/
namespace Go.Proofs.YtmhgbocejjnoaaaGreatDoor
open Go.RowKit Go.Redl
set_option linter.unusedVariables false

/-- The boxes of read's results. -/
structure BoxAt (w : World) (N : Nat) (c0 c1 c2 c3 x y : Value) : Prop where
  node : w.heap[N]? = some (.cells #[c0, c1, c2, c3] 27 (0, 0))
  bad : w.heap[N + 1]? = some (.cells #[x, y] 43 (0, 0))
theorem BoxAt.facts {w : World} {N : Nat} {c0 c1 c2 c3 x y : Value} (h : BoxAt w N c0 c1 c2 c3 x y) :
    w.cell? ⟨N, 0, none⟩ = some c0 ∧ w.cell? ⟨N, 1, none⟩ = some c1 ∧ w.cell? ⟨N, 2, none⟩ = some c2 ∧ w.cell? ⟨N, 3, none⟩ = some c3 ∧ w.cell? ⟨N + 1, 0, none⟩ = some x ∧ w.cell? ⟨N + 1, 1, none⟩ = some y ∧
      (w.frozen? ⟨N, 0, none⟩ = false ∧ w.frozen? ⟨N, 1, none⟩ = false ∧ w.frozen? ⟨N, 2, none⟩ = false ∧ w.frozen? ⟨N, 3, none⟩ = false ∧ w.frozen? ⟨N + 1, 0, none⟩ = false ∧ w.frozen? ⟨N + 1, 1, none⟩ = false) ∧ N + 1 < w.heap.size := by
  obtain ⟨h1, h2⟩ := h
  refine ⟨?_, ?_, ?_, ?_, ?_, ?_, ⟨?_, ?_, ?_, ?_, ?_, ?_⟩, (Array.getElem?_eq_some_iff.1 h2).1⟩
  all_goals first
    | exact Lib.frozen_of_heap h1 _
    | exact Lib.frozen_of_heap h2 _
    | (rw [Lib.cell_of_heap h1]; rfl)
    | (rw [Lib.cell_of_heap h2]; rfl)
theorem BoxAt.keep {w w' : World} {N : Nat} {c0 c1 c2 c3 x y : Value} (h : BoxAt w N c0 c1 c2 c3 x y) (hb : Below (N + 2) w w') : BoxAt w' N c0 c1 c2 c3 x y :=
  ⟨by rw [hb.block N (by omega)]; exact h.node, by rw [hb.block (N + 1) (by omega)]; exact h.bad⟩
theorem BoxAt.fresh (W : World) (c0 c1 c2 c3 x y : Value) : BoxAt ((W.alloc (.cells #[c0, c1, c2, c3] 27)).alloc (.cells #[x, y] 43)) W.heap.size c0 c1 c2 c3 x y := by
  refine ⟨?_, ?_⟩
  · rw [Lib.alloc_old _ _ _ (by simp)]
    exact heap_alloc_new W _
  · have := heap_alloc_new (W.alloc (.cells #[c0, c1, c2, c3] 27)) (.cells #[x, y] 43)
    simpa using this
theorem BoxAt.set {w : World} {N : Nat} {c0 c1 c2 c3 x y : Value} (h : BoxAt w N c0 c1 c2 c3 x y) (u : Value) :
    BoxAt (w.setCell ⟨N, 0, none⟩ u) N u c1 c2 c3 x y ∧ BoxAt (w.setCell ⟨N, 1, none⟩ u) N c0 u c2 c3 x y ∧ BoxAt (w.setCell ⟨N, 2, none⟩ u) N c0 c1 u c3 x y ∧ BoxAt (w.setCell ⟨N, 3, none⟩ u) N c0 c1 c2 u x y ∧
      BoxAt (w.setCell ⟨N + 1, 0, none⟩ u) N c0 c1 c2 c3 u y ∧ BoxAt (w.setCell ⟨N + 1, 1, none⟩ u) N c0 c1 c2 c3 x u := by
  obtain ⟨h1, h2⟩ := h
  refine ⟨⟨?_, ?_⟩, ⟨?_, ?_⟩, ⟨?_, ?_⟩, ⟨?_, ?_⟩, ⟨?_, ?_⟩, ⟨?_, ?_⟩⟩
  all_goals first
    | (rw [Below.heap_setCell _ _ _ _ (by simp)]; assumption)
    | (rw [Lib.heap_setCell_same h1]; rfl)
    | (rw [Lib.heap_setCell_same h2]; rfl)

theorem BoxAt.alloc {w : World} {N : Nat} {c0 c1 c2 c3 x y : Value} (h : BoxAt w N c0 c1 c2 c3 x y) (o : Obj) : BoxAt (w.alloc o) N c0 c1 c2 c3 x y :=
  ⟨by rw [Lib.alloc_old _ _ _ (Array.getElem?_eq_some_iff.1 h.node).1]; exact h.node, by rw [Lib.alloc_old _ _ _ (Array.getElem?_eq_some_iff.1 h.bad).1]; exact h.bad⟩
theorem BoxAt.grown {w w' : World} {N : Nat} {c0 c1 c2 c3 x y : Value} {row : Option Nat} (h : BoxAt w N c0 c1 c2 c3 x y) (hg : w.grownBy w' row) (hne : ∀ k, row = some k → N + 2 ≤ k) : BoxAt w' N c0 c1 c2 c3 x y :=
  ⟨by rw [hg.block N (Array.getElem?_eq_some_iff.1 h.node).1 (fun e => by have := hne N e.symm; omega)]; exact h.node, by rw [hg.block (N + 1) (Array.getElem?_eq_some_iff.1 h.bad).1 (fun e => by have := hne (N + 1) e.symm; omega)]; exact h.bad⟩

/-- What read answers. -/
def ReadR (W : World) (R : Rd NodeD) (e : Ending) (w' : World) : Prop :=
  match R with
  | .ok n at_ => ∃ cs, e = .returned (.tuple #[.agg cs.toArray, .int .i64 at_, .agg #[.int .i64 0, .int .i64 0]]) ∧ NodeQ w' (fun b => W.heap.size ≤ b) n cs ∧ Below W.heap.size W w'
  | .bad a er => ∃ l a1 n1 k1 a2 n2 k2 a3 n3 k3 z, e = .returned (.tuple #[.agg #[.bool l, .slice a1 n1 k1, .slice a2 n2 k2, .slice a3 n3 k3], .int .i64 z, .agg #[.int .i64 a, .int .i64 er]]) ∧ er ≠ 0 ∧ Below W.heap.size W w'

theorem rdP_err : ∀ (f : Nat) (s : List UInt8) (a : Nat) (out : List PropD) (last : List UInt8) (p : Nat) (er : Int), rdP f s a out last = .bad p er → er = 11 ∨ er = 2 ∨ er = 3 ∨ er = 1
  | 0, s, a, out, last, p, er, h => by unfold rdP at h; injection h with h1 h2; omega
  | f + 1, s, a, out, last, p, er, h => by
    unfold rdP at h
    generalize keyAt s (a + 1) = key at h
    generalize valAt s (a + 1 + key.length + 1) = val at h
    by_cases c1 : key = [] ∨ standsB s (a + 1 + key.length) 58 = false
    · rw [if_pos c1] at h; injection h with h1 h2; omega
    rw [if_neg c1] at h
    by_cases c2 : out.length = 16
    · rw [if_pos c2] at h; injection h with h1 h2; omega
    rw [if_neg c2] at h
    by_cases c3 : 16 < key.length ∨ 32 < val.length
    · rw [if_pos c3] at h; injection h with h1 h2; omega
    rw [if_neg c3] at h
    by_cases c4 : leB key last = true
    · rw [if_pos c4] at h; injection h with h1 h2; omega
    rw [if_neg c4] at h
    by_cases c5 : standsB s (a + 1 + key.length + 1 + val.length) 125 = true
    · rw [if_pos c5] at h; cases h
    rw [if_neg c5] at h
    by_cases c6 : standsB s (a + 1 + key.length + 1 + val.length) 44 = false
    · rw [if_pos c6] at h; injection h with h1 h2; omega
    rw [if_neg c6] at h
    exact rdP_err f s _ _ _ p er h

theorem BoxAt.drew {w : World} {N : Nat} {c0 c1 c2 c3 x y : Value} (h : BoxAt w N c0 c1 c2 c3 x y) : BoxAt w.drew N c0 c1 c2 c3 x y := ⟨h.node, h.bad⟩
theorem BoxAt.s0 {w : World} {N : Nat} {c0 c1 c2 c3 x y : Value} (h : BoxAt w N c0 c1 c2 c3 x y) (u : Value) : BoxAt (w.setCell ⟨N, 0, none⟩ u) N u c1 c2 c3 x y := (h.set u).1
theorem BoxAt.s1 {w : World} {N : Nat} {c0 c1 c2 c3 x y : Value} (h : BoxAt w N c0 c1 c2 c3 x y) (u : Value) : BoxAt (w.setCell ⟨N, 1, none⟩ u) N c0 u c2 c3 x y := (h.set u).2.1
theorem BoxAt.s2 {w : World} {N : Nat} {c0 c1 c2 c3 x y : Value} (h : BoxAt w N c0 c1 c2 c3 x y) (u : Value) : BoxAt (w.setCell ⟨N, 2, none⟩ u) N c0 c1 u c3 x y := (h.set u).2.2.1
theorem BoxAt.s3 {w : World} {N : Nat} {c0 c1 c2 c3 x y : Value} (h : BoxAt w N c0 c1 c2 c3 x y) (u : Value) : BoxAt (w.setCell ⟨N, 3, none⟩ u) N c0 c1 c2 u x y := (h.set u).2.2.2.1
theorem BoxAt.t0 {w : World} {N : Nat} {c0 c1 c2 c3 x y : Value} (h : BoxAt w N c0 c1 c2 c3 x y) (u : Value) : BoxAt (w.setCell ⟨N + 1, 0, none⟩ u) N c0 c1 c2 c3 u y := (h.set u).2.2.2.2.1
theorem BoxAt.t1 {w : World} {N : Nat} {c0 c1 c2 c3 x y : Value} (h : BoxAt w N c0 c1 c2 c3 x y) (u : Value) : BoxAt (w.setCell ⟨N + 1, 1, none⟩ u) N c0 c1 c2 c3 x u := (h.set u).2.2.2.2.2
/-- The boxes written again, all cells. -/
theorem BoxAt.all {w : World} {N : Nat} {c0 c1 c2 c3 x y : Value} (h : BoxAt w N c0 c1 c2 c3 x y) (d0 d1 d2 d3 : Value) : BoxAt ((((w.setCell ⟨N, 0, none⟩ d0).setCell ⟨N, 1, none⟩ d1).setCell ⟨N, 2, none⟩ d2).setCell ⟨N, 3, none⟩ d3) N d0 d1 d2 d3 x y := (((h.s0 _).s1 _).s2 _).s3 _
theorem BoxAt.both {w : World} {N : Nat} {c0 c1 c2 c3 x y : Value} (h : BoxAt w N c0 c1 c2 c3 x y) (u v : Value) : BoxAt ((w.setCell ⟨N + 1, 0, none⟩ u).setCell ⟨N + 1, 1, none⟩ v) N c0 c1 c2 c3 u v := (h.t0 _).t1 _
theorem below_all {B : Nat} {W w : World} {N : Nat} (h : Below B W w) (hN : B ≤ N) (d0 d1 d2 d3 : Value) : Below B W ((((w.setCell ⟨N, 0, none⟩ d0).setCell ⟨N, 1, none⟩ d1).setCell ⟨N, 2, none⟩ d2).setCell ⟨N, 3, none⟩ d3) :=
  (((h.setCell (p := ⟨N, 0, none⟩) hN _).setCell (p := ⟨N, 1, none⟩) hN _).setCell (p := ⟨N, 2, none⟩) hN _).setCell (p := ⟨N, 3, none⟩) hN _
theorem below_both {B : Nat} {W w : World} {N : Nat} (h : Below B W w) (hN : B ≤ N) (d0 d1 : Value) : Below B W ((w.setCell ⟨N, 0, none⟩ d0).setCell ⟨N, 1, none⟩ d1) :=
  (h.setCell (p := ⟨N, 0, none⟩) hN _).setCell (p := ⟨N, 1, none⟩) hN _

set_option maxRecDepth 100000 in
set_option maxHeartbeats 2000000 in
theorem read_bad (s : List UInt8) (a f p : Nat) (er : Int) (W : World) (hn : s.length ≤ 1000000) (ha : a ≤ s.length) (hh : rdH s a = .bad p er) :
    Calls Tryz.prog 16 #[.string ⟨s.toArray⟩, .int .i64 a] W (ReadR W (.bad p er)) := by
  have h123 : standsB s a 123 = true := by
    cases h : standsB s a 123 with
    | true => rfl
    | false => unfold rdH at hh; rw [h] at hh; cases hh
  have hh' : rdP (s.length + 1) s a [] [] = .bad p er := by unfold rdH at hh; rw [if_pos h123] at hh; exact hh
  have her := rdP_err _ _ _ _ _ _ _ hh'
  have HS1 := fun W => Lib.hid (stands_z s a a rfl 123 123 rfl true h123 W (by omega))
  have HP := fun W => Lib.hid (props_c s a W hn (stands_lt h123))
  rw [hh'] at HP
  have her0 : ((er == 0) = false) := by simp; omega
  obtain ⟨S, hS⟩ : ∃ S, S = (⟨s.toArray⟩ : ByteArray) := ⟨_, rfl⟩
  rw [← hS] at HS1 HP ⊢
  have Her := Lib.hid her
  clear hh hh' h123 hS her
  go_enter Tryz.func16, Tryz.ntmps16
  go_wp2_with fail
  refine (HS1 _).out.mono ?_
  rintro e w1 ⟨rfl, rfl⟩
  clear HS1
  go_wp2_with fail
  refine (HP _).out.mono ?_
  rintro e w1 ⟨rfl, hbel⟩
  have hb := (BoxAt.fresh W (.bool false) (.slice none 0 0) (.slice none 0 0) (.slice none 0 0) (.int .i64 0) (.int .i64 0)).keep (by simpa using hbel)
  have hW : W.heap.size + 1 < w1.heap.size := hb.facts.2.2.2.2.2.2.2
  obtain ⟨x0, x1, x2, x3, y0, y1, ⟨f0, f1, f2, f3, g0, g1⟩, -⟩ := hb.facts
  have hbel' := (((Below.refl W.heap.size W).alloc (Nat.le_refl _) (.cells #[.bool false, .slice none 0 0, .slice none 0 0, .slice none 0 0] 27)).alloc (by simp) (.cells #[.int .i64 0, .int .i64 0] 43)).trans (hbel.mono (by simp; omega))
  have Hbel := Lib.hid hbel'; have Hb := Lib.hid hb
  clear hbel hb hbel' HP
  go_upto_region 4 with fail
  go_cut [5] (fun s5 wx => s5 = .int .i64 0 ∧ BoxAt wx W.heap.size (.bool false) (.slice none 0 0) (.slice none 0 0) (.slice none 0 0) (.int .i64 p) (.int .i64 er) ∧ Below W.heap.size W wx)
  case first =>
    go_region
    all_goals
      go_wp2_with fail
      go_meet
      case rel =>
        refine ⟨rfl, ?_, ?_⟩
        · with_reducible exact ((((Hb.out.s1 _).both _ _).all _ _ _ _).both _ _).drew
        · with_reducible exact (below_both (below_all (below_both (Hbel.out.setCell (p := ⟨_, _, none⟩) (Nat.le_refl _) _) (Nat.le_succ _) _ _) (Nat.le_refl _) _ _ _ _) (Nat.le_succ _) _ _).drew
  case rest =>
    obtain ⟨rfl, hb, hbel⟩ := hcut
    have hW : W.heap.size + 1 < wc.heap.size := hb.facts.2.2.2.2.2.2.2
    obtain ⟨x0, x1, x2, x3, y0, y1, -⟩ := hb.facts
    have Hbel := Lib.hid hbel
    clear hb hbel
    go_wp2_with fail
    refine bodyPost_ret (v := .tuple #[.agg #[.bool false, .slice none 0 0, .slice none 0 0, .slice none 0 0], .int .i64 0, .agg #[.int .i64 p, .int .i64 er]]) (by simp [results, Tryz.results16, go_sem, x0, x1, x2, x3, y0, y1]) rfl ?_
    exact ⟨_, _, _, _, _, _, _, _, _, _, _, rfl, by have := Her.out; omega, Hbel.out⟩

theorem valid_wf {zs : List Int} (h : ∀ c ∈ zs, validB c = true) : ∀ z ∈ zs, (Lit.int .i32 z).wf = true := by
  intro z hz
  have := h z hz
  unfold validB at this
  simp at this
  have h1 : IntKind.i32.min = -2147483648 := by decide
  have h2 : IntKind.i32.max = 2147483647 := by decide
  simp only [Lit.wf, Bool.and_eq_true, decide_eq_true_eq, h1, h2]
  omega
theorem rowq_set {w : World} {ok : Nat → Prop} {sz n cap N o : Nat} {a : Option Addr} {cs : List Value} {u : Value} (h : RowQ w ok sz a n cap cs) (hne : ¬ ok N) : RowQ (w.setCell ⟨N, o, none⟩ u) ok sz a n cap cs :=
  h.keep (by simp [World.setCell]) (fun b hb _ => Below.heap_setCell w _ u b (fun e => hne (by rw [← show b = N from e]; exact hb))) (fun _ hb _ => hb)
theorem nodeq_set {w : World} {ok : Nat → Prop} {N o : Nat} {n : NodeD} {cs : List Value} {u : Value} (h : NodeQ w ok n cs) (hne : ¬ ok N) : NodeQ (w.setCell ⟨N, o, none⟩ u) ok n cs :=
  NodeQ.keep (by simp [World.setCell]) (fun b hb _ => Below.heap_setCell w _ u b (fun e => hne (by rw [← show b = N from e]; exact hb))) (fun _ hb _ => hb) n cs h
theorem kidsq_set {w : World} {ok : Nat → Prop} {N o : Nat} {n : List NodeD} {cs : List Value} {u : Value} (h : KidsQ w ok n cs) (hne : ¬ ok N) : KidsQ (w.setCell ⟨N, o, none⟩ u) ok n cs :=
  KidsQ.keep (by simp [World.setCell]) (fun b hb _ => Below.heap_setCell w _ u b (fun e => hne (by rw [← show b = N from e]; exact hb))) (fun _ hb _ => hb) n cs h
theorem rowq_drew {w : World} {ok : Nat → Prop} {sz n cap : Nat} {a : Option Addr} {cs : List Value} (h : RowQ w ok sz a n cap cs) : RowQ w.drew ok sz a n cap cs := h.keep (Nat.le_refl _) (fun _ _ _ => rfl) (fun _ hb _ => hb)
theorem rowq_all {w : World} {ok : Nat → Prop} {sz n cap N : Nat} {a : Option Addr} {cs : List Value} (h : RowQ w ok sz a n cap cs) (hne : ¬ ok N) (d0 d1 d2 d3 : Value) : RowQ ((((w.setCell ⟨N, 0, none⟩ d0).setCell ⟨N, 1, none⟩ d1).setCell ⟨N, 2, none⟩ d2).setCell ⟨N, 3, none⟩ d3) ok sz a n cap cs :=
  rowq_set (rowq_set (rowq_set (rowq_set h hne) hne) hne) hne
theorem rowq_both {w : World} {ok : Nat → Prop} {sz n cap N : Nat} {a : Option Addr} {cs : List Value} (h : RowQ w ok sz a n cap cs) (hne : ¬ ok N) (d0 d1 : Value) : RowQ ((w.setCell ⟨N, 0, none⟩ d0).setCell ⟨N, 1, none⟩ d1) ok sz a n cap cs :=
  rowq_set (rowq_set h hne) hne
theorem kidsq_all {w : World} {ok : Nat → Prop} {N : Nat} {ks : List NodeD} {cs : List Value} (h : KidsQ w ok ks cs) (hne : ¬ ok N) (d0 d1 d2 d3 : Value) : KidsQ ((((w.setCell ⟨N, 0, none⟩ d0).setCell ⟨N, 1, none⟩ d1).setCell ⟨N, 2, none⟩ d2).setCell ⟨N, 3, none⟩ d3) ok ks cs :=
  kidsq_set (kidsq_set (kidsq_set (kidsq_set h hne) hne) hne) hne
theorem kidsq_both {w : World} {ok : Nat → Prop} {N : Nat} {ks : List NodeD} {cs : List Value} (h : KidsQ w ok ks cs) (hne : ¬ ok N) (d0 d1 : Value) : KidsQ ((w.setCell ⟨N, 0, none⟩ d0).setCell ⟨N, 1, none⟩ d1) ok ks cs :=
  kidsq_set (kidsq_set h hne) hne
theorem rowq_own {w : World} {base e sz n : Nat} {v : Value} {cs : List Value} (h : w.ownsRow base e sz v n cs) (h1 : ∀ u ∈ cs, u.oneCell' = true) : ∃ a cap, v = .slice a n cap ∧ RowQ w (fun b => base ≤ b) sz a n cap cs := by
  obtain ⟨a, cap, hv, hr⟩ := RowQ.of_own h h1
  exact ⟨a, cap, hv, hr.keep (Nat.le_refl _) (fun _ _ _ => rfl) (fun b hb _ => (h.lt b hb).1)⟩
theorem rowq_below {w w' : World} {M sz n cap : Nat} {a : Option Addr} {cs : List Value} (h : RowQ w (fun b => M ≤ b) sz a n cap cs) (hb : Below w.heap.size w w') : RowQ w' (fun b => M ≤ b) sz a n cap cs :=
  h.keep hb.size (fun b _ hlt => hb.block b hlt) (fun _ hb _ => hb)

theorem rdL_err {s : List UInt8} {a p : Nat} {er : Int} (h : rdL s a = .bad p er) : er ≠ 0 := by
  unfold rdL at h
  split at h
  · cases h
  · rename_i hne
    injection h with h1 h2
    rw [← h2]; exact hne

theorem rdK_step (f : Nat) (s : List UInt8) (a : Nat) (out : List NodeD) : rdK (f + 1) s a out = if standsB s a 93 = true then .ok out (a + 1) else (match rdN f s a with
      | .bad p er => .bad p er
      | .ok k e => rdK f s e (out ++ [k])) := by
  conv => lhs; unfold rdK
  all_goals rfl
def kidsR (ps : List PropD) : Rd (List NodeD) → Rd NodeD
  | .bad p er => .bad p er
  | .ok ks e => .ok (.mk false ps [] ks) e
theorem info_node : (Tryz.prog.info? 27).map (fun i => (i.zero, i.size, i.bytes)) = some (some (.agg #[.bool false, .slice none 0 0, .slice none 0 0, .slice none 0 0]), 4, 80) := by kernel_rfl

set_option maxRecDepth 100000 in
set_option maxHeartbeats 4000000 in
theorem read_ok (s : List UInt8) (a f a1 : Nat) (ps : List PropD) (W : World) (hn : s.length ≤ 1000000) (ha : a ≤ s.length) (hf : 2 * (s.length - a) + 1 ≤ f + 1) (hE : ErrsAt W) (hT : TabAt W) (hg : 7 < W.heap.size) (hh : rdH s a = .ok ps a1)
    (IH : ∀ (f' b : Nat) (W' : World), f' < f + 1 → b ≤ s.length → 2 * (s.length - b) + 1 ≤ f' → ErrsAt W' → TabAt W' → 7 < W'.heap.size → Calls Tryz.prog 16 #[.string ⟨s.toArray⟩, .int .i64 b] W' (ReadR W' (rdN f' s b))) :
    Calls Tryz.prog 16 #[.string ⟨s.toArray⟩, .int .i64 a] W (ReadR W (rdN (f + 1) s a)) := by
  have hpos := rdH_pos ha hh
  obtain ⟨R, hR⟩ : ∃ R, R = rdN (f + 1) s a := ⟨_, rfl⟩
  have Hstep : Hid (R = if standsB s a1 34 = true then (match rdL s a1 with
        | .bad p er => .bad p er
        | .ok t e => .ok (.mk true ps t []) e)
      else if standsB s a1 91 = false then .bad a1 11
      else (match rdK f s (a1 + 1) [] with
        | .bad p er => .bad p er
        | .ok ks e => .ok (.mk false ps [] ks) e)) := by
    show R = _
    rw [hR]; unfold rdN; rw [hh]; all_goals rfl
  rw [← hR]
  have HS := fun (k : Nat) (z : Int) (hz : z = k) (c : UInt8) (n : Int) (hc : (c.toNat : Int) = n) (b : Bool) (hb : standsB s k c = b) (W : World) => stands_z s k z hz c n hc b hb W (by omega)
  have HP := fun (h123 : standsB s a 123 = true) W => Lib.hid (props_c s a W hn (stands_lt h123))
  have HL := fun (h34 : standsB s a1 34 = true) W => leaf_q s a1 W hn (stands_lt h34)
  obtain ⟨S, hS⟩ : ∃ S, S = (⟨s.toArray⟩ : ByteArray) := ⟨_, rfl⟩
  rw [← hS] at HS HP HL IH ⊢
  have HS := Lib.hid HS; have HL := Lib.hid HL; have HP := Lib.hid HP; have IH := Lib.hid IH; have Hh := Lib.hid hh; have HE := Lib.hid hE; have HT := Lib.hid hT; have Hg := Lib.hid hg
  have HS1 := fun W => Lib.hid (HS.out a a rfl 123 123 rfl _ rfl W)
  obtain ⟨b, hb⟩ : ∃ b, b = standsB s a 123 := ⟨_, rfl⟩
  rw [← hb] at HS1
  have Hb := Lib.hid hb
  clear hh hS hR hE hT hg hb
  go_enter Tryz.func16, Tryz.ntmps16
  go_upto_if 12 with (go_at_call 32; refine (HS1 _).out.mono ?_; rintro e w1 ⟨rfl, rfl⟩)
  go_cut [1] (fun s1 wx => s1 = .int .i64 a1 ∧ ∃ pa pc, BoxAt wx W.heap.size (.bool false) (.slice pa ps.length pc) (.slice none 0 0) (.slice none 0 0) (.int .i64 0) (.int .i64 0) ∧ RowQ wx (fun b => W.heap.size + 2 ≤ b) 2 pa ps.length pc (propCells ps) ∧ Below W.heap.size W wx)
  case first =>
    clear HS1
    have hb0 := BoxAt.fresh W (.bool false) (.slice none 0 0) (.slice none 0 0) (.slice none 0 0) (.int .i64 0) (.int .i64 0)
    have hbel0 := (((Below.refl W.heap.size W).alloc (Nat.le_refl _) (.cells #[.bool false, .slice none 0 0, .slice none 0 0, .slice none 0 0] 27)).alloc (by simp) (.cells #[.int .i64 0, .int .i64 0] 43))
    cases b with
    | false =>
      have hps : ps = [] ∧ a1 = a := by
        have := Hh.out
        unfold rdH at this
        rw [← Hb.out] at this
        simp at this
        exact ⟨this.1.symm ▸ rfl, this.2.symm ▸ rfl⟩
      obtain ⟨rfl, rfl⟩ := hps
      have Hb0 := Lib.hid hb0; have Hbel0 := Lib.hid hbel0
      clear hb0 hbel0
      go_wp2_with fail
      go_meet
      case rel => exact ⟨rfl, none, 0, Hb0.out, RowQ.empty _ _ _, Hbel0.out⟩
    | true =>
      have hp := HP.out Hb.out.symm
      have h3 : rdP (s.length + 1) s a [] [] = .ok ps a1 := by
        have := Hh.out
        unfold rdH at this
        rw [← Hb.out, if_pos rfl] at this
        exact this
      rw [h3] at hp
      clear h3
      have Hb0 := Lib.hid hb0; have Hbel0 := Lib.hid hbel0
      clear hb0 hbel0
      go_wp2_with fail
      refine (hp _).out.mono ?_
      rintro e w1 ⟨v, rfl, hown, hbel⟩
      obtain ⟨pa, pc, rfl, hrow⟩ := rowq_own hown (propCells_one _)
      have hbx := Hb0.out.keep (by simpa using hbel)
      have hW : W.heap.size + 1 < w1.heap.size := hbx.facts.2.2.2.2.2.2.2
      obtain ⟨x0, x1, x2, x3, y0, y1, ⟨f0, f1, f2, f3, g0, g1⟩, -⟩ := hbx.facts
      have Hbel := Lib.hid (Hbel0.out.trans (hbel.mono (by simp; omega)))
      have Hbx := Lib.hid hbx; have Hrow := Lib.hid hrow
      clear hbx hrow hown hbel hp Hb0 Hbel0
      go_wp2_with fail
      go_meet
      case rel =>
        refine ⟨rfl, pa, pc, ?_, ?_, ?_⟩
        · with_reducible exact ((Hbx.out.s1 _).both _ _)
        · exact (rowq_set (rowq_set (rowq_set (by simpa using Hrow.out) (by omega)) (by omega)) (by omega))
        · with_reducible exact (below_both (Hbel.out.setCell (p := ⟨_, _, none⟩) (Nat.le_refl _) _) (Nat.le_succ _) _ _)
  case rest =>
    obtain ⟨rfl, pa, pc, hbx, hrow, hbel⟩ := hcut
    have Hbx := Lib.hid hbx; have Hrow := Lib.hid hrow; have Hbel := Lib.hid hbel
    have hW : W.heap.size + 1 < wc.heap.size := hbx.facts.2.2.2.2.2.2.2
    clear hbx hrow hbel HS1 HP Hb b
    cases h34 : standsB s a1 34 with
    | true =>
      have HS2 := fun W => Lib.hid (HS.out a1 a1 rfl 34 34 rfl true h34 W)
      have hb' : Below W.heap.size W (wc.setCell ⟨W.heap.size, 0, none⟩ (.bool true)) := Hbel.out.setCell (p := ⟨_, _, none⟩) (Nat.le_refl _) _
      have HLq := Lib.hid (HL.out h34 _ (HE.out.keep hb') (TabAt.keep HT.out hb' Hg.out) (Nat.lt_of_lt_of_le Hg.out hb'.size))
      have Hb' := Lib.hid hb'
      have Hs2 : Hid (R = (match rdL s a1 with
        | .bad p er => .bad p er
        | .ok t e => .ok (.mk true ps t []) e)) := by
        show R = _
        rw [Hstep.out, if_pos h34]
      clear h34 hb' Hstep IH HS HL
      obtain ⟨x0, x1, x2, x3, y0, y1, ⟨f0, f1, f2, f3, g0, g1⟩, -⟩ := Hbx.out.facts
      cases hl : rdL s a1 with
      | ok t e =>
        have Hwf := Lib.hid (valid_wf (rdL_wf hl))
        rw [hl] at HLq
        have HR : Hid (R = .ok (.mk true ps t []) e) := by show R = _; rw [Hs2.out, hl]
        clear hl Hs2
        go_wp2_with fail
        refine (HS2 _).out.mono ?_
        rintro e' w1 ⟨rfl, rfl⟩
        clear HS2
        go_wp2_with fail
        refine HLq.out.mono ?_
        rintro e' w2 ⟨v, rfl, hown, hbel2⟩
        clear x0 x1 x2 x3 y0 y1 f0 f1 f2 f3 g0 g1
        obtain ⟨ta, tc, rfl, hrow2⟩ := rowq_own hown (ints_one .i32 t)
        have hsz : (wc.setCell ⟨W.heap.size, 0, none⟩ (.bool true)).heap.size = wc.heap.size := by simp [World.setCell]
        have hbx2 := (Hbx.out.s0 (.bool true)).keep (hbel2.mono (by rw [hsz]; omega))
        have hW2 : W.heap.size + 1 < w2.heap.size := hbx2.facts.2.2.2.2.2.2.2
        obtain ⟨x0, x1, x2, x3, y0, y1, ⟨f0, f1, f2, f3, g0, g1⟩, -⟩ := hbx2.facts
        have Hbx2 := Lib.hid hbx2
        have Hbel2 := Lib.hid (Hb'.out.trans (hbel2.mono (by rw [hsz]; omega)))
        have Hrow1 := Lib.hid (rowq_below (rowq_set (o := 0) (u := .bool true) Hrow.out (by omega)) hbel2)
        have Hrow2 := Lib.hid (hrow2.keep (ok' := fun b => W.heap.size + 2 ≤ b) (Nat.le_refl _) (fun _ _ _ => rfl) (fun b hb _ => by rw [hsz] at hb; omega))
        clear hbx2 hrow2 hown hbel2 HLq Hrow Hbx Hb' hsz
        have hA : ¬ (W.heap.size + 2 ≤ W.heap.size) := by omega
        have hB : ¬ (W.heap.size + 2 ≤ W.heap.size + 1) := by omega
        go_upto_region 8 with fail
        go_cut [5] (fun s5 wx => s5 = .int .i64 e ∧ BoxAt wx W.heap.size (.bool true) (.slice pa ps.length pc) (.slice ta t.length tc) (.slice none 0 0) (.int .i64 0) (.int .i64 0) ∧ RowQ wx (fun b => W.heap.size + 2 ≤ b) 2 pa ps.length pc (propCells ps) ∧ RowQ wx (fun b => W.heap.size + 2 ≤ b) 1 ta t.length tc (t.map (Value.int .i32)) ∧ Below W.heap.size W wx)
        case first =>
          go_region
          all_goals
            go_wp2_with fail
            go_meet
            case rel =>
              refine ⟨rfl, ?_, ?_, ?_, ?_⟩
              · with_reducible exact ((((Hbx2.out.s2 _).both _ _).all _ _ _ _).both _ _).drew
              · with_reducible exact rowq_drew (rowq_both (rowq_all (rowq_both (rowq_set Hrow1.out hA) hB _ _) hA _ _ _ _) hB _ _)
              · with_reducible exact rowq_drew (rowq_both (rowq_all (rowq_both (rowq_set Hrow2.out hA) hB _ _) hA _ _ _ _) hB _ _)
              · with_reducible exact (below_both (below_all (below_both (Hbel2.out.setCell (p := ⟨_, _, none⟩) (Nat.le_refl _) _) (Nat.le_succ _) _ _) (Nat.le_refl _) _ _ _ _) (Nat.le_succ _) _ _).drew
        case rest =>
          obtain ⟨rfl, hbx3, hrow3, hrow4, hbel3⟩ := hcut
          clear x0 x1 x2 x3 y0 y1 f0 f1 f2 f3 g0 g1
          obtain ⟨x0, x1, x2, x3, y0, y1, -⟩ := hbx3.facts
          have Hbel3 := Lib.hid hbel3; have Hrow3 := Lib.hid hrow3; have Hrow4 := Lib.hid hrow4
          clear hbx3 hrow3 hrow4 hbel3 Hrow1 Hrow2 Hbx2 Hbel2
          go_wp2_with fail
          refine bodyPost_ret (v := .tuple #[.agg #[.bool true, .slice pa ps.length pc, .slice ta t.length tc, .slice none 0 0], .int .i64 e, .agg #[.int .i64 0, .int .i64 0]]) (by simp [results, Tryz.results16, go_sem, x0, x1, x2, x3, y0, y1]) rfl ?_
          rw [HR.out]
          refine ⟨_, rfl, ?_, Hbel3.out⟩
          unfold NodeQ
          refine ⟨pa, pc, ta, tc, none, 0, [], rfl, ?_, ?_, Hwf.out, RowQ.empty _ _ _, by unfold KidsQ; rfl⟩
          · exact Hrow3.out.keep (Nat.le_refl _) (fun _ _ _ => rfl) (fun b hb _ => by omega)
          · exact Hrow4.out.keep (Nat.le_refl _) (fun _ _ _ => rfl) (fun b hb _ => by omega)
      | bad p er =>
        have Her := Lib.hid (rdL_err hl)
        rw [hl] at HLq
        have HR : Hid (R = .bad p er) := by show R = _; rw [Hs2.out, hl]
        clear hl Hs2
        go_wp2_with fail
        refine (HS2 _).out.mono ?_
        rintro e' w1 ⟨rfl, rfl⟩
        clear HS2
        go_wp2_with fail
        refine HLq.out.mono ?_
        rintro e' w2 ⟨rfl, hbel2⟩
        clear x0 x1 x2 x3 y0 y1 f0 f1 f2 f3 g0 g1
        have hsz : (wc.setCell ⟨W.heap.size, 0, none⟩ (.bool true)).heap.size = wc.heap.size := by simp [World.setCell]
        have hbx2 := (Hbx.out.s0 (.bool true)).keep (hbel2.mono (by rw [hsz]; omega))
        have hW2 : W.heap.size + 1 < w2.heap.size := hbx2.facts.2.2.2.2.2.2.2
        obtain ⟨x0, x1, x2, x3, y0, y1, ⟨f0, f1, f2, f3, g0, g1⟩, -⟩ := hbx2.facts
        have Hbx2 := Lib.hid hbx2
        have Hbel2 := Lib.hid (Hb'.out.trans (hbel2.mono (by rw [hsz]; omega)))
        clear hbx2 hbel2 HLq Hrow Hbx Hb' hsz
        go_upto_region 8 with fail
        go_cut [5] (fun s5 wx => s5 = .int .i64 0 ∧ BoxAt wx W.heap.size (.bool true) (.slice pa ps.length pc) (.slice none 0 0) (.slice none 0 0) (.int .i64 p) (.int .i64 er) ∧ Below W.heap.size W wx)
        case first =>
          go_region
          all_goals
            go_wp2_with fail
            go_meet
            case rel =>
              refine ⟨rfl, ?_, ?_⟩
              · with_reducible exact ((((Hbx2.out.s2 _).both _ _).all _ _ _ _).both _ _).drew
              · with_reducible exact (below_both (below_all (below_both (Hbel2.out.setCell (p := ⟨_, _, none⟩) (Nat.le_refl _) _) (Nat.le_succ _) _ _) (Nat.le_refl _) _ _ _ _) (Nat.le_succ _) _ _).drew
        case rest =>
          obtain ⟨rfl, hbx3, hbel3⟩ := hcut
          clear x0 x1 x2 x3 y0 y1 f0 f1 f2 f3 g0 g1
          obtain ⟨x0, x1, x2, x3, y0, y1, -⟩ := hbx3.facts
          have Hbel3 := Lib.hid hbel3
          clear hbx3 hbel3 Hbx2 Hbel2
          go_wp2_with fail
          refine bodyPost_ret (v := .tuple #[.agg #[.bool true, .slice pa ps.length pc, .slice none 0 0, .slice none 0 0], .int .i64 0, .agg #[.int .i64 p, .int .i64 er]]) (by simp [results, Tryz.results16, go_sem, x0, x1, x2, x3, y0, y1]) rfl ?_
          rw [HR.out]
          exact ⟨_, _, _, _, _, _, _, _, _, _, _, rfl, Her.out, Hbel3.out⟩
    | false =>
      have HS2 := fun W => Lib.hid (HS.out a1 a1 rfl 34 34 rfl false h34 W)
      obtain ⟨x0, x1, x2, x3, y0, y1, ⟨f0, f1, f2, f3, g0, g1⟩, -⟩ := Hbx.out.facts
      have Hs2 : Hid (R = if standsB s a1 91 = false then .bad a1 11
          else (match rdK f s (a1 + 1) [] with
            | .bad p er => .bad p er
            | .ok ks e => .ok (.mk false ps [] ks) e)) := by
        show R = _
        rw [Hstep.out, if_neg (by rw [h34]; decide)]
      clear h34 Hstep HL
      cases h91 : standsB s a1 91 with
      | false =>
        have HS3 := fun W => Lib.hid (HS.out a1 a1 rfl 91 91 rfl false h91 W)
        have HR : Hid (R = .bad a1 11) := by show R = _; rw [Hs2.out, if_pos h91]
        have HWr := fun W => Lib.hid (wrong_c (a1 : Int) W)
        clear h91 Hs2 HS IH Hrow
        go_wp2_with fail
        refine (HS2 _).out.mono ?_
        rintro e' w1 ⟨rfl, rfl⟩
        clear HS2
        go_wp2_with fail
        refine (HS3 _).out.mono ?_
        rintro e' w1 ⟨rfl, rfl⟩
        clear HS3
        go_wp2_with fail
        refine (HWr _).out.mono ?_
        rintro e' w2 ⟨rfl, hbel2⟩
        clear HWr x0 x1 x2 x3 y0 y1 f0 f1 f2 f3 g0 g1
        have hbx2 := Hbx.out.keep (hbel2.mono (by omega))
        have hW2 : W.heap.size + 1 < w2.heap.size := hbx2.facts.2.2.2.2.2.2.2
        obtain ⟨x0, x1, x2, x3, y0, y1, ⟨f0, f1, f2, f3, g0, g1⟩, -⟩ := hbx2.facts
        have Hbel2 := Lib.hid (Hbel.out.trans (hbel2.mono (by omega)))
        clear hbx2 hbel2 Hbx
        go_wp2_with fail
        refine bodyPost_ret (v := .tuple #[.agg #[.bool false, .slice none 0 0, .slice none 0 0, .slice none 0 0], .int .i64 0, .agg #[.int .i64 a1, .int .i64 11]]) (by simp [results, Tryz.results16, go_sem, x0, x1, x2, x3, y0, y1]) rfl ?_
        rw [HR.out]
        refine ⟨_, _, _, _, _, _, _, _, _, _, _, rfl, by decide, ?_⟩
        with_reducible exact (below_both (below_all Hbel2.out (Nat.le_refl _) _ _ _ _) (Nat.le_succ _) _ _)
      | true =>
        have h91' := stands_lt h91
        have HS3 := fun W => Lib.hid (HS.out a1 a1 rfl 91 91 rfl true h91 W)
        obtain ⟨Rk, hRk⟩ : ∃ Rk, Rk = rdK f s (a1 + 1) [] := ⟨_, rfl⟩
        have HR : Hid (R = kidsR ps Rk) := by show R = _; rw [Hs2.out, if_neg (by rw [h91]; decide), hRk]; rfl
        have HRk := Lib.hid hRk
        have HW := Lib.hid hW
        have hbw := Hbel.out.size
        clear h91 Hs2 hRk
        go_wp2_with fail
        refine (HS2 _).out.mono ?_
        rintro e' w1 ⟨rfl, rfl⟩
        clear HS2
        go_wp2_with fail
        refine (HS3 _).out.mono ?_
        rintro e' w1 ⟨rfl, rfl⟩
        clear HS3
        go_wp2_with fail
        clear x0 x1 x2 x3 y0 y1 f0 f1 f2 f3 g0 g1
        go_loopw [1] (fun i wr => ∃ (q f' : Nat) (out : List NodeD) (ka : Option Addr) (kc : Nat) (css : List Value), i = .int .i64 q ∧ q ≤ s.length ∧ 2 * (s.length - q) + 2 ≤ f' ∧ f' ≤ f ∧ rdK f' s q out = Rk ∧ out.length ≤ q ∧ BoxAt wr W.heap.size (.bool false) (.slice pa ps.length pc) (.slice none 0 0) (.slice ka out.length kc) (.int .i64 0) (.int .i64 0) ∧ wr.ownsRow (W.heap.size + 2) 27 4 (.slice ka out.length kc) out.length css ∧ KidsQ wr (fun b => W.heap.size + 2 ≤ b ∧ (Value.slice ka out.length kc).ownBlock ≠ some b) out css ∧ RowQ wr (fun b => W.heap.size + 2 ≤ b ∧ (Value.slice ka out.length kc).ownBlock ≠ some b) 2 pa ps.length pc (propCells ps) ∧ Below W.heap.size W wr) (fun i _ => s.length - (intOf i).toNat)
        case atStart => exact ⟨a1 + 1, f, [], none, 0, [], rfl, by omega, by omega, by omega, HRk.out.symm, by simp, Hbx.out, World.ownsRow_nil _ _ _ _, by unfold KidsQ; rfl, Hrow.out.keep (Nat.le_refl _) (fun _ _ _ => rfl) (fun b hb _ => ⟨hb, by simp [Value.ownBlock]⟩), Hbel.out⟩
        case round =>
          obtain ⟨q, f', out, ka, kc, css, rfl, hq, hf1, hf2, hr, hoq, hbx, hown, hkids, hrow, hbel⟩ := hrel
          obtain ⟨f', rfl⟩ : ∃ g, f' = g + 1 := ⟨f' - 1, by omega⟩
          have hstep := rdK_step f' s q out
          rw [hr] at hstep
          have Hst := Lib.hid hstep
          have hlen := hown.1
          have HW2 := Lib.hid hbx.facts.2.2.2.2.2.2.2
          have hW2 : W.heap.size + 1 < wr.heap.size := hbx.facts.2.2.2.2.2.2.2
          obtain ⟨x0, x1, x2, x3, y0, y1, ⟨f0, f1, f2, f3, g0, g1⟩, -⟩ := hbx.facts
          have Hbx2 := Lib.hid hbx; have Hown := Lib.hid hown; have Hkids := Lib.hid hkids; have Hrow2 := Lib.hid hrow; have Hbel2 := Lib.hid hbel; have Hlen := Lib.hid hlen
          clear hstep hr hbx hown hkids hrow hbel hlen Hbx Hrow Hbel HRk
          cases h93 : standsB s q 93 with
          | true =>
            have HS4 := Lib.hid (HS.out q q rfl 93 93 rfl true h93 wr)
            have hlt := stands_lt h93
            have HR2 : Hid (R = .ok (.mk false ps [] out) (q + 1)) := by show R = _; rw [HR.out, Hst.out, if_pos h93]; rfl
            clear h93 Hst HR HS IH
            go_wp2_with fail
            refine HS4.out.mono ?_
            rintro e' w1 ⟨rfl, rfl⟩
            clear HS4
            go_wp2_with fail
            refine bodyPost_ret (v := .tuple #[.agg #[.bool false, .slice pa ps.length pc, .slice none 0 0, .slice ka out.length kc], .int .i64 ((q : Int) + 1), .agg #[.int .i64 0, .int .i64 0]]) (by simp [results, Tryz.results16, go_sem, x0, x1, x2, x3, y0, y1]) rfl ?_
            rw [HR2.out]
            have hA : ¬ (W.heap.size + 2 ≤ W.heap.size) := by omega
            have hB : ¬ (W.heap.size + 2 ≤ W.heap.size + 1) := by omega
            refine ⟨_, rfl, ?_, ?_⟩
            · unfold NodeQ
              obtain ⟨ka', kc', hka, hrk⟩ := rowq_own Hown.out Hkids.out.onec
              injection hka with e1 e2 e3
              subst e1; subst e3
              refine ⟨pa, pc, none, 0, ka, kc, css, rfl, ?_, RowQ.empty _ _ _, by simp, ?_, ?_⟩
              · exact RowQ.keep (ok := fun b => W.heap.size + 2 ≤ b) (rowq_both (rowq_all (Hrow2.out.keep (ok' := fun b => W.heap.size + 2 ≤ b) (Nat.le_refl _) (fun _ _ _ => rfl) (fun b hb _ => hb.1)) hA _ _ _ _) hB _ _) (Nat.le_refl _) (fun _ _ _ => rfl) (fun b hb _ => by omega)
              · exact RowQ.keep (ok := fun b => W.heap.size + 2 ≤ b) (rowq_both (rowq_all hrk hA _ _ _ _) hB _ _) (Nat.le_refl _) (fun _ _ _ => rfl) (fun b hb _ => by omega)
              · exact KidsQ.keep (ok := fun b => W.heap.size + 2 ≤ b) (Nat.le_refl _) (fun _ _ _ => rfl) (fun b hb _ => by omega) _ _ (kidsq_both (kidsq_all (KidsQ.keep (ok' := fun b => W.heap.size + 2 ≤ b) (Nat.le_refl _) (fun _ _ _ => rfl) (fun b hb _ => hb.1) _ _ Hkids.out) hA _ _ _ _) hB _ _)
            · with_reducible exact below_both (below_all Hbel2.out (Nat.le_refl _) _ _ _ _) (Nat.le_succ _) _ _
          | false =>
            have HS4 := Lib.hid (HS.out q q rfl 93 93 rfl false h93 wr)
            have HI := Lib.hid (IH.out f' q wr (by omega) hq (by omega) (HE.out.keep Hbel2.out) (TabAt.keep HT.out Hbel2.out Hg.out) (Nat.lt_of_lt_of_le Hg.out Hbel2.out.size))
            cases hn' : rdN f' s q with
            | bad p er =>
              have HR2 : Hid (R = .bad p er) := by show R = _; rw [HR.out, Hst.out, if_neg (by rw [h93]; decide), hn']; rfl
              rw [hn'] at HI
              clear h93 hn' Hst HR HS IH Hown Hkids Hrow2
              go_wp2_with fail
              refine HS4.out.mono ?_
              rintro e' w1 ⟨rfl, rfl⟩
              clear HS4
              go_wp2_with fail
              refine HI.out.mono ?_
              rintro e' w2 ⟨l, a2, n2, k2, a3, n3, k3, a4, n4, k4, z, rfl, her, hbel3⟩
              clear x0 x1 x2 x3 y0 y1 f0 f1 f2 f3 g0 g1
              have hbx3 := Hbx2.out.keep (hbel3.mono (by omega))
              obtain ⟨x0, x1, x2, x3, y0, y1, ⟨f0, f1, f2, f3, g0, g1⟩, hW3⟩ := hbx3.facts
              have hWb : W.heap.size < w2.heap.size := by omega
              have Hbx3 := Lib.hid hbx3
              have Hbel3 := Lib.hid (Hbel2.out.trans (hbel3.mono (by omega)))
              have her0 : (er == 0) = false := by simpa using her
              have Her := Lib.hid her
              clear hbx3 hbel3 Hbx2 Hbel2 HI her
              have hz := box2f (w := w2.alloc (Obj.cells #[.bool l, .slice a2 n2 k2, .slice a3 n3 k3, .slice a4 n4 k4] 27)) (c0 := .int .i64 p) (c1 := .int .i64 er) (T := 43) (Below.refl _ _)
              have hsz2 : (w2.alloc (Obj.cells #[.bool l, .slice a2 n2 k2, .slice a3 n3 k3, .slice a4 n4 k4] 27)).heap.size = w2.heap.size + 1 := by simp
              rw [hsz2] at hz
              have Hbx4 := Lib.hid ((Hbx3.out.alloc (Obj.cells #[.bool l, .slice a2 n2 k2, .slice a3 n3 k3, .slice a4 n4 k4] 27)).alloc (Obj.cells #[.int .i64 p, .int .i64 er] 43))
              have Hbel4 := Lib.hid ((Hbel3.out.alloc (by omega) (Obj.cells #[.bool l, .slice a2 n2 k2, .slice a3 n3 k3, .slice a4 n4 k4] 27)).alloc (by rw [hsz2]; omega) (Obj.cells #[.int .i64 p, .int .i64 er] 43))
              have hz := Lib.hid hz
              clear hsz2
              go_upto_region 15 with fail
              clear x0 x1 x2 x3 y0 y1 f0 f1 f2 f3 g0 g1
              obtain ⟨w4, hw4⟩ : ∃ w4, w4 = (w2.alloc (Obj.cells #[.bool l, .slice a2 n2 k2, .slice a3 n3 k3, .slice a4 n4 k4] 27)).alloc (Obj.cells #[.int .i64 p, .int .i64 er] 43) := ⟨_, rfl⟩
              rw [← hw4] at hz Hbx4 Hbel4 ⊢
              obtain ⟨z0, z1, -, -⟩ := hz.out
              obtain ⟨x0, x1, x2, x3, y0, y1, ⟨f0, f1, f2, f3, g0, g1⟩, hW4⟩ := Hbx4.out.facts
              clear hw4 hz
              go_cut [5] (fun s5 wx => s5 = .int .i64 0 ∧ BoxAt wx W.heap.size (.bool false) (.slice none 0 0) (.slice none 0 0) (.slice none 0 0) (.int .i64 p) (.int .i64 er) ∧ Below W.heap.size W wx)
              case first =>
                go_region
                all_goals
                  go_wp2_with fail
                  go_meet
                  case rel =>
                    refine ⟨rfl, ?_, ?_⟩
                    · with_reducible exact ((Hbx4.out.all _ _ _ _).both _ _).drew
                    · with_reducible exact (below_both (below_all Hbel4.out (Nat.le_refl _) _ _ _ _) (Nat.le_succ _) _ _).drew
              case rest =>
                obtain ⟨rfl, hbx5, hbel5⟩ := hcut
                clear x0 x1 x2 x3 y0 y1 f0 f1 f2 f3 g0 g1
                obtain ⟨x0, x1, x2, x3, y0, y1, -⟩ := hbx5.facts
                have Hbel5 := Lib.hid hbel5
                clear hbx5 hbel5 Hbx3 Hbel3 Hbx4 Hbel4
                go_wp2_with fail
                refine bodyPost_ret (v := .tuple #[.agg #[.bool false, .slice none 0 0, .slice none 0 0, .slice none 0 0], .int .i64 0, .agg #[.int .i64 p, .int .i64 er]]) (by simp [results, Tryz.results16, go_sem, x0, x1, x2, x3, y0, y1]) rfl ?_
                rw [HR2.out]
                exact ⟨_, _, _, _, _, _, _, _, _, _, _, rfl, Her.out, Hbel5.out⟩
            | ok k e2 =>
              have hpos2 := rdN_pos f' s q k e2 hq hn'
              have HRn : Hid (rdK f' s e2 (out ++ [k]) = Rk) := by show _ = Rk; rw [Hst.out, if_neg (by rw [h93]; decide), hn']
              rw [hn'] at HI
              clear h93 hn' Hst HS IH
              go_wp2_with fail
              refine HS4.out.mono ?_
              rintro e' w1 ⟨rfl, rfl⟩
              clear HS4
              go_wp2_with fail
              refine HI.out.mono ?_
              rintro e' w2 ⟨cs, rfl, hnode, hbel3⟩
              obtain ⟨l, a2, n2, k2, a3, n3, k3, a4, n4, k4, rfl⟩ := hnode.form
              clear x0 x1 x2 x3 y0 y1 f0 f1 f2 f3 g0 g1
              have hbx3 := Hbx2.out.keep (hbel3.mono (by omega))
              obtain ⟨x0, x1, x2, x3, y0, y1, ⟨f0, f1, f2, f3, g0, g1⟩, hW3⟩ := hbx3.facts
              have hWb : W.heap.size < w2.heap.size := by omega
              have Hbx3 := Lib.hid hbx3
              have Hb3 := Lib.hid hbel3
              have Hbel3 := Lib.hid (Hbel2.out.trans (hbel3.mono (by omega)))
              have Hnode := Lib.hid hnode
              clear hbx3 hbel3 Hbx2 HI hnode
              go_wp2_with (at_builtin; refine wpList_app2 rfl _ _ 25 rfl (W.heap.size + 2) 27 (.agg #[.bool false, .slice none 0 0, .slice none 0 0, .slice none 0 0]) 4 80 Tryz.underlying25 info_node rfl (by decide) _ _ _ rfl (((own_keep Hown.out Hb3.out).alloc _).alloc _ |>.alloc _) _ 1 1 (w2.heap.size + 3) [.bool l, .slice a2 n2 k2, .slice a3 n3 k3, .slice a4 n4 k4] rfl ?hr ?h63 ?hb ?hbase ?_)
              case hr =>
                have := row_four ((w2.alloc (Obj.cells #[.bool l, .slice a2 n2 k2, .slice a3 n3 k3, .slice a4 n4 k4] 27)).alloc (Obj.cells #[.int .i64 0, .int .i64 0] 43)) (.bool l) (.slice a2 n2 k2) (.slice a3 n3 k3) (.slice a4 n4 k4) 27 (w2.heap.size + 3) rfl rfl rfl rfl (by simp)
                simpa using this
              case h63 => unfold maxLen; omega
              case hb => omega
              case hbase => simp; omega
              intro v' w3 hown' hgrow hwhere
              have h2 : Below w2.heap.size w2 (((w2.alloc (Obj.cells #[.bool l, .slice a2 n2 k2, .slice a3 n3 k3, .slice a4 n4 k4] 27)).alloc (Obj.cells #[.int .i64 0, .int .i64 0] 43)).alloc (Obj.cells #[.bool l, .slice a2 n2 k2, .slice a3 n3 k3, .slice a4 n4 k4] 27)) :=
                (((Below.refl _ _).alloc (Nat.le_refl _) _).alloc (by simp) _).alloc (by simp; omega) _
              have hwh : v'.ownBlock = (Value.slice ka out.length kc).ownBlock ∨ ∀ k, v'.ownBlock = some k → (((w2.alloc (Obj.cells #[.bool l, .slice a2 n2 k2, .slice a3 n3 k3, .slice a4 n4 k4] 27)).alloc (Obj.cells #[.int .i64 0, .int .i64 0] 43)).alloc (Obj.cells #[.bool l, .slice a2 n2 k2, .slice a3 n3 k3, .slice a4 n4 k4] 27)).heap.size ≤ k := by
                rcases hwhere with h | h
                · exact .inl h
                · exact .inr fun k hk => by have := h k hk; simp; omega
              have hst1 := stay_kids Hown.out Hb3.out h2 hgrow hwh
              have hst2 := stay_kid Hown.out (by omega) h2 hgrow hwh
              have hk' := (Hkids.out.stay hst1).append (KidsQ.one (Hnode.out.stay hst2))
              have hr' := Hrow2.out.stay hst1
              have hbx4 := (((Hbx3.out.alloc _).alloc _).alloc _).grown hgrow (fun k hk => (Hown.out.lt k hk).1)
              have hbel4 := (Hbel3.out.trans (h2.mono (by omega))).grown hgrow (by simp; omega) (fun k hk => Nat.le_trans (by omega) (Hown.out.lt k hk).1)
              have hown2 : w3.ownsRow (W.heap.size + 2) 27 4 v' (out ++ [k]).length (css ++ [.bool l, .slice a2 n2 k2, .slice a3 n3 k3, .slice a4 n4 k4]) := by rw [List.length_append]; exact hown'
              obtain ⟨va, vc, rfl, -⟩ := row_of_own hown2 hk'.onec
              have hW4 : W.heap.size < w3.heap.size := by have := hbx4.facts.2.2.2.2.2.2.2; omega
              clear x0 x1 x2 x3 y0 y1 f0 f1 f2 f3 g0 g1
              obtain ⟨x0, x1, x2, x3, y0, y1, ⟨f0, f1, f2, f3, g0, g1⟩, -⟩ := hbx4.facts
              have Hk := Lib.hid hk'; have Hr := Lib.hid hr'; have Hbx4 := Lib.hid hbx4; have Hbel4 := Lib.hid hbel4; have Hown2 := Lib.hid hown2
              clear hown' hgrow hwhere h2 hwh hst1 hst2 hk' hr' hbx4 hbel4 hown2 Hbx3 Hb3 Hbel3 Hnode Hown Hkids Hrow2 Hbel2
              go_wp2_with fail
              go_roundw
              case rel => exact ⟨e2, f', out ++ [k], va, vc, css ++ [.bool l, .slice a2 n2 k2, .slice a3 n3 k3, .slice a4 n4 k4], rfl, hpos2.2, by omega, by omega, HRn.out, by simp; omega, by simpa using Hbx4.out.s3 (.slice va (out ++ [k]).length vc), by simpa using own_set (b := W.heap.size) (off := 3) (u := .slice va (out ++ [k]).length vc) Hown2.out (by omega), by simpa using kidsq_set (N := W.heap.size) (o := 3) (u := .slice va (out ++ [k]).length vc) Hk.out (by omega), by simpa using rowq_set (N := W.heap.size) (o := 3) (u := .slice va (out ++ [k]).length vc) Hr.out (by omega), Hbel4.out.setCell (p := ⟨W.heap.size, 3, none⟩) (Nat.le_refl _) _⟩
              case measure => simp [intOf]; omega

/-- code.read: what it answers. -/
theorem read_c (s : List UInt8) (hn : s.length ≤ 1000000) (f : Nat) : ∀ (a : Nat) (W : World), a ≤ s.length → 2 * (s.length - a) + 1 ≤ f → ErrsAt W → TabAt W → 7 < W.heap.size →
    Calls Tryz.prog 16 #[.string ⟨s.toArray⟩, .int .i64 a] W (ReadR W (rdN f s a)) := by
  induction f using Nat.strongRecOn with
  | ind f ih =>
    intro a W ha hf hE hT hg
    obtain ⟨f, rfl⟩ : ∃ g, f = g + 1 := ⟨f - 1, by omega⟩
    cases hh : rdH s a with
    | bad p er =>
      have : rdN (f + 1) s a = .bad p er := by unfold rdN; rw [hh]
      rw [this]
      exact read_bad s a f p er W hn ha hh
    | ok ps a1 => exact read_ok s a f a1 ps W hn ha hf hE hT hg hh (fun f' b W' h1 h2 h3 h4 h5 h6 => ih f' h1 b W' h2 h3 h4 h5 h6)

end Go.Proofs.YtmhgbocejjnoaaaGreatDoor
/- Walks: code's Parse. -/
namespace Go.Proofs.YtmhgbocejjnoaaaGreatDoor
open Go.RowKit Go.Redl
set_option linter.unusedVariables false

/-- What Parse answers. -/
def parseL (s : List UInt8) : Rd NodeD :=
  match rdN (2 * s.length + 1) s 0 with
  | .bad p er => .bad p er
  | .ok n e => if e < s.length then .bad e 11 else .ok n e
def ParseR (W : World) (R : Rd NodeD) (e : Ending) (w' : World) : Prop :=
  match R with
  | .ok n _ => ∃ cs, e = .returned (.tuple #[.agg cs.toArray, .int .i64 0, .int .i64 0]) ∧ NodeQ w' (fun b => W.heap.size ≤ b) n cs ∧ Below W.heap.size W w'
  | .bad a er => e = .returned (.tuple #[.agg #[.bool false, .slice none 0 0, .slice none 0 0, .slice none 0 0], .int .i64 a, .int .i64 er]) ∧ er ≠ 0 ∧ Below W.heap.size W w'

/-- A node's box. -/
def NodeAt (w : World) (N : Nat) (c0 c1 c2 c3 : Value) : Prop := w.heap[N]? = some (.cells #[c0, c1, c2, c3] 27 (0, 0))
theorem NodeAt.facts {w : World} {N : Nat} {c0 c1 c2 c3 : Value} (h : NodeAt w N c0 c1 c2 c3) :
    w.cell? ⟨N, 0, none⟩ = some c0 ∧ w.cell? ⟨N, 1, none⟩ = some c1 ∧ w.cell? ⟨N, 2, none⟩ = some c2 ∧ w.cell? ⟨N, 3, none⟩ = some c3 ∧
      (w.frozen? ⟨N, 0, none⟩ = false ∧ w.frozen? ⟨N, 1, none⟩ = false ∧ w.frozen? ⟨N, 2, none⟩ = false ∧ w.frozen? ⟨N, 3, none⟩ = false) ∧ N < w.heap.size := by
  refine ⟨?_, ?_, ?_, ?_, ⟨?_, ?_, ?_, ?_⟩, (Array.getElem?_eq_some_iff.1 h).1⟩
  all_goals first
    | exact Lib.frozen_of_heap h _
    | (rw [Lib.cell_of_heap h]; rfl)
theorem NodeAt.fresh (W : World) (c0 c1 c2 c3 : Value) : NodeAt (W.alloc (.cells #[c0, c1, c2, c3] 27)) W.heap.size c0 c1 c2 c3 := heap_alloc_new W _
theorem NodeAt.keep {w w' : World} {N : Nat} {c0 c1 c2 c3 : Value} (h : NodeAt w N c0 c1 c2 c3) (hb : Below (N + 1) w w') : NodeAt w' N c0 c1 c2 c3 := by
  unfold NodeAt; rw [hb.block N (by omega)]; exact h
theorem NodeAt.alloc {w : World} {N : Nat} {c0 c1 c2 c3 : Value} (h : NodeAt w N c0 c1 c2 c3) (o : Obj) : NodeAt (w.alloc o) N c0 c1 c2 c3 := by
  unfold NodeAt; rw [Lib.alloc_old _ _ _ (Array.getElem?_eq_some_iff.1 h).1]; exact h
theorem NodeAt.drew {w : World} {N : Nat} {c0 c1 c2 c3 : Value} (h : NodeAt w N c0 c1 c2 c3) : NodeAt w.drew N c0 c1 c2 c3 := h
theorem NodeAt.all {w : World} {N : Nat} {c0 c1 c2 c3 : Value} (h : NodeAt w N c0 c1 c2 c3) (d0 d1 d2 d3 : Value) : NodeAt ((((w.setCell ⟨N, 0, none⟩ d0).setCell ⟨N, 1, none⟩ d1).setCell ⟨N, 2, none⟩ d2).setCell ⟨N, 3, none⟩ d3) N d0 d1 d2 d3 := by
  have h0 := Lib.heap_setCell_same (i := 0) h d0
  have h1 := Lib.heap_setCell_same (i := 1) h0 d1
  have h2 := Lib.heap_setCell_same (i := 2) h1 d2
  exact Lib.heap_setCell_same (i := 3) h2 d3

theorem NodeAt.set {w : World} {N b o : Nat} {c0 c1 c2 c3 u : Value} (h : NodeAt w N c0 c1 c2 c3) (hne : N ≠ b) : NodeAt (w.setCell ⟨b, o, none⟩ u) N c0 c1 c2 c3 := by
  unfold NodeAt; rw [Below.heap_setCell _ _ _ _ hne]; exact h
/-- An error's box. -/
def PairAt (w : World) (N : Nat) (x y : Value) : Prop := w.heap[N]? = some (.cells #[x, y] 43 (0, 0))
theorem PairAt.facts {w : World} {N : Nat} {x y : Value} (h : PairAt w N x y) : w.cell? ⟨N, 0, none⟩ = some x ∧ w.cell? ⟨N, 1, none⟩ = some y ∧ w.frozen? ⟨N, 0, none⟩ = false ∧ w.frozen? ⟨N, 1, none⟩ = false ∧ N < w.heap.size := by
  refine ⟨?_, ?_, Lib.frozen_of_heap h _, Lib.frozen_of_heap h _, (Array.getElem?_eq_some_iff.1 h).1⟩
  all_goals (rw [Lib.cell_of_heap h]; rfl)
theorem PairAt.both {w : World} {N : Nat} {x y : Value} (h : PairAt w N x y) (u v : Value) : PairAt ((w.setCell ⟨N, 0, none⟩ u).setCell ⟨N, 1, none⟩ v) N u v := by
  have h0 := Lib.heap_setCell_same (i := 0) h u
  exact Lib.heap_setCell_same (i := 1) h0 v

set_option maxRecDepth 100000 in
set_option maxHeartbeats 4000000 in
theorem parseT_c (s : List UInt8) (W : World) (hn : s.length ≤ 1000000) (hE : ErrsAt W) (hT : TabAt W) (hg : 7 < W.heap.size) :
    Calls Tryz.prog 7 #[.string ⟨s.toArray⟩] W (ParseR W (parseL s)) := by
  have hsz : (⟨s.toArray⟩ : ByteArray).size = s.length := rfl
  have hb0 : Below W.heap.size W (W.alloc (Obj.cells #[.bool false, .slice none 0 0, .slice none 0 0, .slice none 0 0] 27)) := (Below.refl _ _).alloc (Nat.le_refl _) _
  have HI := Lib.hid (read_c s hn (2 * s.length + 1) 0 _ (by omega) (by omega) (hE.keep hb0) (TabAt.keep hT hb0 hg) (Nat.lt_of_lt_of_le hg hb0.size))
  obtain ⟨R, hR⟩ : ∃ R, R = parseL s := ⟨_, rfl⟩
  have HR : Hid (R = match rdN (2 * s.length + 1) s 0 with
      | .bad p er => .bad p er
      | .ok n e => if e < s.length then .bad e 11 else .ok n e) := hR
  rw [← hR]
  obtain ⟨S, hS⟩ : ∃ S, S = (⟨s.toArray⟩ : ByteArray) := ⟨_, rfl⟩
  rw [← hS] at HI hsz ⊢
  clear hS hR hE hT hg hb0
  cases hrd : rdN (2 * s.length + 1) s 0 with
  | bad p er =>
    have HRb : Hid (R = .bad p er) := by show R = _; rw [HR.out, hrd]
    rw [hrd] at HI
    clear hrd HR
    go_enter Tryz.func7, Tryz.ntmps7
    go_wp2_with fail
    refine HI.out.mono ?_
    rintro e' w1 ⟨l, a1, n1, k1, a2, n2, k2, a3, n3, k3, z, rfl, her, hbel⟩
    have her0 : (er == 0) = false := by simpa using her
    have Her := Lib.hid her
    have hW := hbel.size
    have Hbel := Lib.hid (below_unbox (below_box hbel))
    have hnb := (NodeAt.fresh W (.bool false) (.slice none 0 0) (.slice none 0 0) (.slice none 0 0)).keep (below_box hbel)
    obtain ⟨x0, x1, x2, x3, ⟨f0, f1, f2, f3⟩, hW1⟩ := hnb.facts
    have hz := box2f (w := w1.alloc (Obj.cells #[.bool l, .slice a1 n1 k1, .slice a2 n2 k2, .slice a3 n3 k3] 27)) (c0 := .int .i64 p) (c1 := .int .i64 er) (T := 43) (Below.refl _ _)
    have hsz2 : (w1.alloc (Obj.cells #[.bool l, .slice a1 n1 k1, .slice a2 n2 k2, .slice a3 n3 k3] 27)).heap.size = w1.heap.size + 1 := by simp
    rw [hsz2] at hz
    have Hnb := Lib.hid ((hnb.alloc (Obj.cells #[.bool l, .slice a1 n1 k1, .slice a2 n2 k2, .slice a3 n3 k3] 27)).alloc (Obj.cells #[.int .i64 p, .int .i64 er] 43))
    have Hbel4 := Lib.hid ((Hbel.out.alloc (by omega) (Obj.cells #[.bool l, .slice a1 n1 k1, .slice a2 n2 k2, .slice a3 n3 k3] 27)).alloc (by rw [hsz2]; omega) (Obj.cells #[.int .i64 p, .int .i64 er] 43))
    have hz := Lib.hid hz
    clear hbel HI her hsz2 hnb
    go_upto_region 5 with fail
    clear x0 x1 x2 x3 f0 f1 f2 f3
    obtain ⟨w4, hw4⟩ : ∃ w4, w4 = (w1.alloc (Obj.cells #[.bool l, .slice a1 n1 k1, .slice a2 n2 k2, .slice a3 n3 k3] 27)).alloc (Obj.cells #[.int .i64 p, .int .i64 er] 43) := ⟨_, rfl⟩
    rw [← hw4] at hz Hnb Hbel4 ⊢
    obtain ⟨z0, z1, -, -⟩ := hz.out
    obtain ⟨x0, x1, x2, x3, ⟨f0, f1, f2, f3⟩, hW4⟩ := Hnb.out.facts
    clear hw4 hz
    go_cut [3, 4] (fun s3 s4 wx => s3 = .int .i64 p ∧ s4 = .int .i64 er ∧ NodeAt wx W.heap.size (.bool false) (.slice none 0 0) (.slice none 0 0) (.slice none 0 0) ∧ Below W.heap.size W wx)
    case first =>
      go_region
      all_goals
        go_wp2_with fail
        go_meet
        case rel =>
          refine ⟨rfl, rfl, ?_, ?_⟩
          · with_reducible exact (Hnb.out.all _ _ _ _).drew
          · with_reducible exact (below_all Hbel4.out (Nat.le_refl _) _ _ _ _).drew
    case rest =>
      obtain ⟨rfl, rfl, hnb, hbel⟩ := hcut
      clear x0 x1 x2 x3 f0 f1 f2 f3
      obtain ⟨x0, x1, x2, x3, -⟩ := hnb.facts
      have Hbel5 := Lib.hid hbel
      clear hbel hnb Hnb Hbel4 Hbel
      go_wp2_with fail
      refine bodyPost_ret (v := .tuple #[.agg #[.bool false, .slice none 0 0, .slice none 0 0, .slice none 0 0], .int .i64 p, .int .i64 er]) (by simp [results, Tryz.results7, go_sem, x0, x1, x2, x3]) rfl ?_
      rw [HRb.out]
      exact ⟨rfl, by have := Her.out; simpa using this, Hbel5.out⟩
  | ok n e =>
    have hpos := rdN_pos _ s 0 n e (by omega) hrd
    rw [hrd] at HI
    by_cases hlt : e < s.length
    · have HRb : Hid (R = .bad e 11) := by show R = _; rw [HR.out, hrd]; exact if_pos hlt
      have hlti : (e : Int) < s.length := by omega
      have HWr := fun W => Lib.hid (wrong_c (e : Int) W)
      clear hrd HR
      go_enter Tryz.func7, Tryz.ntmps7
      go_wp2_with fail
      refine HI.out.mono ?_
      rintro e' w1 ⟨cs, rfl, hnode, hbel⟩
      obtain ⟨l, a1, n1, k1, a2, n2, k2, a3, n3, k3, rfl⟩ := hnode.form
      have hW := hbel.size
      have Hbel := Lib.hid (below_unbox (below_box hbel))
      have hnb := (NodeAt.fresh W (.bool false) (.slice none 0 0) (.slice none 0 0) (.slice none 0 0)).keep (below_box hbel)
      have Hnb := Lib.hid ((hnb.alloc (Obj.cells #[.bool l, .slice a1 n1 k1, .slice a2 n2 k2, .slice a3 n3 k3] 27)).alloc (Obj.cells #[.int .i64 0, .int .i64 0] 43))
      obtain ⟨x0, x1, x2, x3, ⟨f0, f1, f2, f3⟩, hW1⟩ := hnb.facts
      clear hbel HI hnode hnb
      go_wp2_with fail
      refine (HWr _).out.mono ?_
      rintro e' w2 ⟨rfl, hbel2⟩
      clear x0 x1 x2 x3 f0 f1 f2 f3 HWr
      have hsz2 : (w1.alloc (Obj.cells #[.bool l, .slice a1 n1 k1, .slice a2 n2 k2, .slice a3 n3 k3] 27)).heap.size = w1.heap.size + 1 := by simp
      have hsz3 : ((w1.alloc (Obj.cells #[.bool l, .slice a1 n1 k1, .slice a2 n2 k2, .slice a3 n3 k3] 27)).alloc (Obj.cells #[.int .i64 0, .int .i64 0] 43)).heap.size = w1.heap.size + 2 := by simp
      rw [hsz3] at hbel2
      have hp : PairAt w2 (w1.heap.size + 1) (.int .i64 0) (.int .i64 0) := by
        unfold PairAt
        rw [hbel2.block _ (by omega), ← hsz2]
        exact heap_alloc_new _ _
      have hn2 := Hnb.out.keep (hbel2.mono (by omega))
      have Hbel3 := Lib.hid (((Hbel.out.alloc (by omega) (Obj.cells #[.bool l, .slice a1 n1 k1, .slice a2 n2 k2, .slice a3 n3 k3] 27)).alloc (by rw [hsz2]; omega) (Obj.cells #[.int .i64 0, .int .i64 0] 43)).trans (hbel2.mono (by omega)))
      have hs2 := hbel2.size
      rw [hsz3] at hs2
      obtain ⟨y0, y1, g0, g1, -⟩ := hp.facts
      have Hp := Lib.hid (hp.both (.int .i64 e) (.int .i64 11))
      have Hn := Lib.hid (NodeAt.set (b := w1.heap.size + 1) (o := 1) (u := .int .i64 11) (NodeAt.set (b := w1.heap.size + 1) (o := 0) (u := .int .i64 e) hn2 (by omega)) (by omega))
      clear hbel2 hsz2 hsz3 hp hn2 Hnb Hbel
      go_upto_region 5 with fail
      clear y0 y1 g0 g1
      obtain ⟨w4, hw4⟩ : ∃ w4, w4 = (w2.setCell ⟨w1.heap.size + 1, 0, none⟩ (.int .i64 e)).setCell ⟨w1.heap.size + 1, 1, none⟩ (.int .i64 11) := ⟨_, rfl⟩
      have Hbel4 := Lib.hid (below_both (N := w1.heap.size + 1) Hbel3.out (by omega) (.int .i64 e) (.int .i64 11))
      rw [← hw4] at Hp Hn Hbel4 ⊢
      obtain ⟨y0, y1, g0, g1, -⟩ := Hp.out.facts
      obtain ⟨x0, x1, x2, x3, ⟨f0, f1, f2, f3⟩, hW4⟩ := Hn.out.facts
      clear hw4
      go_cut [3, 4] (fun s3 s4 wx => s3 = .int .i64 e ∧ s4 = .int .i64 11 ∧ NodeAt wx W.heap.size (.bool false) (.slice none 0 0) (.slice none 0 0) (.slice none 0 0) ∧ Below W.heap.size W wx)
      case first =>
        go_region
        all_goals
          go_wp2_with fail
          go_meet
          case rel =>
            refine ⟨rfl, rfl, ?_, ?_⟩
            · with_reducible exact (Hn.out.all _ _ _ _).drew
            · with_reducible exact (below_all Hbel4.out (Nat.le_refl _) _ _ _ _).drew
      case rest =>
        obtain ⟨rfl, rfl, hnb, hbel⟩ := hcut
        clear x0 x1 x2 x3 f0 f1 f2 f3 y0 y1 g0 g1
        obtain ⟨x0, x1, x2, x3, -⟩ := hnb.facts
        have Hbel5 := Lib.hid hbel
        clear hbel hnb Hn Hp Hbel4 Hbel3
        go_wp2_with fail
        refine bodyPost_ret (v := .tuple #[.agg #[.bool false, .slice none 0 0, .slice none 0 0, .slice none 0 0], .int .i64 e, .int .i64 11]) (by simp [results, Tryz.results7, go_sem, x0, x1, x2, x3]) rfl ?_
        rw [HRb.out]
        exact ⟨rfl, by decide, Hbel5.out⟩
    · have HRb : Hid (R = .ok n e) := by show R = _; rw [HR.out, hrd]; exact if_neg hlt
      have hlti : decide ((e : Int) < s.length) = false := by simp; omega
      clear hrd HR
      go_enter Tryz.func7, Tryz.ntmps7
      go_wp2_with fail
      refine HI.out.mono ?_
      rintro e' w1 ⟨cs, rfl, hnode, hbel⟩
      obtain ⟨l, a1, n1, k1, a2, n2, k2, a3, n3, k3, rfl⟩ := hnode.form
      have hW := hbel.size
      have Hbel := Lib.hid (below_unbox (below_box hbel))
      have hnb := (NodeAt.fresh W (.bool false) (.slice none 0 0) (.slice none 0 0) (.slice none 0 0)).keep (below_box hbel)
      obtain ⟨x0, x1, x2, x3, ⟨f0, f1, f2, f3⟩, hW1⟩ := hnb.facts
      have Hnode := Lib.hid hnode
      clear hbel HI hnode hnb
      go_wp2_with fail
      refine bodyPost_ret (v := .tuple #[.agg #[.bool l, .slice a1 n1 k1, .slice a2 n2 k2, .slice a3 n3 k3], .int .i64 0, .int .i64 0]) (by simp [results, Tryz.results7, go_sem, x0, x1, x2, x3, hW1]) rfl ?_
      rw [HRb.out]
      have hne : ¬ ((W.alloc (Obj.cells #[.bool false, .slice none 0 0, .slice none 0 0, .slice none 0 0] 27)).heap.size ≤ W.heap.size) := by simp
      have hs4 := (below_all Hbel.out (Nat.le_refl W.heap.size) (.bool l) (.slice a1 n1 k1) (.slice a2 n2 k2) (.slice a3 n3 k3))
      have hq := nodeq_set (N := W.heap.size) (o := 3) (u := .slice a3 n3 k3) (nodeq_set (N := W.heap.size) (o := 2) (u := .slice a2 n2 k2) (nodeq_set (N := W.heap.size) (o := 1) (u := .slice a1 n1 k1) (nodeq_set (N := W.heap.size) (o := 0) (u := .bool l) Hnode.out hne) hne) hne) hne
      obtain ⟨w5, hw5⟩ : ∃ w5, w5 = (((w1.setCell ⟨W.heap.size, 0, none⟩ (.bool l)).setCell ⟨W.heap.size, 1, none⟩ (.slice a1 n1 k1)).setCell ⟨W.heap.size, 2, none⟩ (.slice a2 n2 k2)).setCell ⟨W.heap.size, 3, none⟩ (.slice a3 n3 k3) := ⟨_, rfl⟩
      rw [← hw5] at hs4 hq ⊢
      refine ⟨_, rfl, ?_, ?_⟩
      · have hb5 : Below w5.heap.size w5 ((w5.alloc (Obj.cells #[.bool l, .slice a1 n1 k1, .slice a2 n2 k2, .slice a3 n3 k3] 27)).alloc (Obj.cells #[.int .i64 0, .int .i64 0] 43)) := ((Below.refl _ _).alloc (Nat.le_refl _) _).alloc (by simp) _
        exact NodeQ.keep hb5.size (fun b _ hlt => hb5.block b hlt) (fun b hb _ => by simp at hb; omega) _ _ hq
      · have := hs4.size
        exact (hs4.alloc (by omega) _).alloc (by simp; omega) _

end Go.Proofs.YtmhgbocejjnoaaaGreatDoor
