/- Parts of the proof, one behind the other: RB2, RR6, RW6, RW7, RR7, RW8. -/
import Derived.Test.YtmhgbocejjnoaaaGreatDoorPC4
import Derived.Test.YtmhgbocejjnoaaaGreatDoorPC5
import Derived.Test.YtmhgbocejjnoaaaGreatDoorPC2
import Derived.Test.YtmhgbocejjnoaaaGreatDoorPC11
import Derived.Laws.IdiomStrings
/- Walks: strings.Builder, written while other memory of the call's own stays as it is. -/
namespace Go.Proofs.YtmhgbocejjnoaaaGreatDoor
open Go.RowKit Go.Redl
set_option linter.unusedVariables false

/-- What a builder writes: its own block, and its bytes. -/
def badBld (T : TypeId) : Bool := T == 58 || T == 5
/-- What a writing method leaves. -/
def WroteS (w : World) (B b : Nat) (l : List UInt8) (v : Value) (e : Ending) (w' : World) : Prop := e = .returned v ∧ BldU w' B b l ∧ Spares badBld B w w'

theorem copyCheckS_c (B b : Nat) (l : List UInt8) (w : World) (h : Bld w B b l) (hBw : B ≤ w.heap.size) :
    Calls Tryz.prog 56 #[.pointer (some ⟨b, 0, none⟩)] w fun e w' => e = .returned (.tuple #[]) ∧ BldU w' B b l ∧ Spares badBld B w w' := by
  rcases h with h | h
  · refine (copyCheck_new b w h.cell0 h.shape h.frozen0).mono ?_
    rintro e w' ⟨rfl, rfl⟩
    have h2 := h
    obtain ⟨hB, v, hbk, -⟩ := h2
    exact ⟨rfl, h.used _, (Spares.refl hBw).setCell (b := b) (off := 0) hbk rfl hB _⟩
  · refine (copyCheck_old b w h.cell0).mono ?_
    rintro e w' ⟨rfl, rfl⟩
    exact ⟨rfl, h, Spares.refl hBw⟩

set_option maxRecDepth 100000 in
set_option maxHeartbeats 1000000 in
theorem writeByteS_c (B b : Nat) (l : List UInt8) (c : UInt8) (w : World) (h : Bld w B b l) (hlen : l.length ≤ 100000000) (hBw : B ≤ w.heap.size) :
    Calls Tryz.prog 40 #[.pointer (some ⟨b, 0, none⟩), .int .u8 c.toNat] w (WroteS w B b (l ++ [c]) .nilIface) := by
  have H := Lib.hid (copyCheckS_c B b l w h hBw)
  clear h
  go_enter Tryz.func40, Tryz.ntmps40
  go_wp2_with fail
  refine H.out.mono ?_
  rintro e w1 ⟨rfl, h1, hsp1⟩
  have hb1 := hsp1.below
  obtain ⟨hB, v, hbk, hown, hne⟩ := h1
  have hlenc : (Lib.byteCells l).length = l.length := by simp [Lib.byteCells]
  have c0 : w1.cell? ⟨b, 0, none⟩ = some (.pointer (some ⟨b, 0, none⟩)) := by rw [Lib.cell_of_heap hbk]; rfl
  have c1 : w1.cell? ⟨b, 1, none⟩ = some v := by rw [Lib.cell_of_heap hbk]; rfl
  have hlt : b < w1.heap.size := (Array.getElem?_eq_some_iff.1 hbk).1
  have Hbk := Lib.hid hbk; have Ho := Lib.hid hown; have Hne := Lib.hid hne; have Hb1 := Lib.hid hb1; have Hsp1 := Lib.hid hsp1; have Hlc := Lib.hid hlenc
  clear hbk hown hne hb1 hsp1 hlenc H
  go_wp2_with (at_builtin; refine wpList_app rfl _ _ 56 rfl B 5 (.int .u8 0) 1 1 Tryz.underlying56 info_u8 rfl (by decide) _ _ _ rfl (Ho.out.alloc _) (some ⟨w1.heap.size, 0, none⟩) 1 1 (w1.heap.size + 1) [.int .u8 c.toNat] rfl ?hr ?c3 ?c4 ?c5 ?_)
  case hr => exact row_one _ _ _ _ rfl
  case c3 => rw [Hlc.out]; unfold maxLen; omega
  case c4 => rw [Hlc.out]; omega
  case c5 => have := Hb1.out.size; simp; omega
  intro v' w2 hown' hgrow
  have hb2 : w2.heap[b]? = some (.cells #[.pointer (some ⟨b, 0, none⟩), v] 58 (0, 0)) := by
    rw [hgrow.block b (by simp; omega) (fun e => Hne.out e.symm), Lib.alloc_old w1 _ b hlt]
    exact Hbk.out
  have d0 : w2.cell? ⟨b, 0, none⟩ = some (.pointer (some ⟨b, 0, none⟩)) := by rw [Lib.cell_of_heap hb2]; rfl
  have d1 : w2.cell? ⟨b, 1, none⟩ = some v := by rw [Lib.cell_of_heap hb2]; rfl
  have f1 : w2.frozen? ⟨b, 1, none⟩ = false := Lib.frozen_of_heap hb2 1
  obtain ⟨ao, n', cap, rfl⟩ : ∃ ao n' cap, v' = .slice ao n' cap := by
    rcases hown'.2 with ⟨hv, _⟩ | ⟨g, cap, cur, hv, _⟩
    · exact ⟨_, _, _, hv⟩
    · exact ⟨_, _, _, hv⟩
  have hbel := ((((Hsp1.out.alloc hBw (.cells #[.int .u8 c.toNat] 5)).grown (Ho.out.alloc _) hgrow rfl (Nat.le_refl _) hBw)).setCell (b := b) (off := 1) hb2 rfl hB (.slice ao n' cap))
  have Ho2 := Lib.hid hown'; have Hb2 := Lib.hid hb2; have Hbel := Lib.hid hbel
  clear hown' hb2 hgrow hbel
  go_wp2_with fail
  go_ret
  refine ⟨rfl, ?_, Hbel.out⟩
  have := Ho2.out
  refine Lib.BuilderAt.put (T := 58) (e := 5) hB Hb2.out ?_ (by decide)
  have e : Lib.byteCells (l ++ [c]) = Lib.byteCells l ++ [.int .u8 c.toNat] := by simp [Lib.byteCells]
  rw [e, List.length_append]
  exact this

set_option maxRecDepth 100000 in
set_option maxHeartbeats 1000000 in
theorem writeStringS_c (B b : Nat) (l s : List UInt8) (w : World) (h : Bld w B b l) (hlen : l.length + s.length ≤ 100000000) (hBw : B ≤ w.heap.size) :
    Calls Tryz.prog 39 #[.pointer (some ⟨b, 0, none⟩), .string ⟨s.toArray⟩] w (WroteS w B b (l ++ s) (.tuple #[.int .i64 s.length, .nilIface])) := by
  obtain ⟨i0, hi, hz0, hz1, hz2⟩ := info_parts info_u8
  have H := Lib.hid (copyCheckS_c B b l w h hBw)
  clear h
  have Hi := Lib.hid hi; have Hz0 := Lib.hid hz0; have Hz1 := Lib.hid hz1; have Hz2 := Lib.hid hz2
  clear hi hz0 hz1 hz2
  go_enter Tryz.func39, Tryz.ntmps39
  go_wp2_with fail
  refine H.out.mono ?_
  rintro e w1 ⟨rfl, h1, hsp1⟩
  have hb1 := hsp1.below
  obtain ⟨hB, v, hbk, hown, hne⟩ := h1
  have hlenc : (Lib.byteCells l).length = l.length := by simp [Lib.byteCells]
  have c0 : w1.cell? ⟨b, 0, none⟩ = some (.pointer (some ⟨b, 0, none⟩)) := by rw [Lib.cell_of_heap hbk]; rfl
  have c1 : w1.cell? ⟨b, 1, none⟩ = some v := by rw [Lib.cell_of_heap hbk]; rfl
  have hlt : b < w1.heap.size := (Array.getElem?_eq_some_iff.1 hbk).1
  have Hbk := Lib.hid hbk; have Ho := Lib.hid hown; have Hne := Lib.hid hne; have Hb1 := Lib.hid hb1; have Hsp1 := Lib.hid hsp1; have Hlc := Lib.hid hlenc
  clear hbk hown hne hb1 hsp1 hlenc H
  go_wp2_with (at_builtin; refine Lib.wpList_append_own_string _ rfl _ _ 56 9 rfl B 5 i0 Tryz.underlying56 Tryz.underlying9 Hi.out Hz0.out Hz1.out Hz2.out _ _ _ rfl Ho.out ⟨s.toArray⟩ rfl ?c3 ?c4 ?c5 ?_)
  case c3 => rw [Hlc.out]; unfold maxLen; simp [ByteArray.size]; omega
  case c4 => rw [Hlc.out]; simp [ByteArray.size]; omega
  case c5 => have := Hb1.out.size; omega
  intro v' w2 hown' hgrow _
  have hb2 : w2.heap[b]? = some (.cells #[.pointer (some ⟨b, 0, none⟩), v] 58 (0, 0)) := by
    rw [hgrow.block b hlt (fun e => Hne.out e.symm)]
    exact Hbk.out
  have d0 : w2.cell? ⟨b, 0, none⟩ = some (.pointer (some ⟨b, 0, none⟩)) := by rw [Lib.cell_of_heap hb2]; rfl
  have d1 : w2.cell? ⟨b, 1, none⟩ = some v := by rw [Lib.cell_of_heap hb2]; rfl
  have f1 : w2.frozen? ⟨b, 1, none⟩ = false := Lib.frozen_of_heap hb2 1
  obtain ⟨ao, n', cap, rfl⟩ : ∃ ao n' cap, v' = .slice ao n' cap := by
    rcases hown'.2 with ⟨hv, _⟩ | ⟨g, cap, cur, hv, _⟩
    · exact ⟨_, _, _, hv⟩
    · exact ⟨_, _, _, hv⟩
  have hbel := ((Hsp1.out.grown Ho.out hgrow rfl (Nat.le_refl _) hBw).setCell (b := b) (off := 1) hb2 rfl hB (.slice ao n' cap))
  have Ho2 := Lib.hid hown'; have Hb2 := Lib.hid hb2; have Hbel := Lib.hid hbel
  clear hown' hb2 hgrow hbel
  go_wp2_with fail
  go_ret2
  refine ⟨?_, ?_, Hbel.out⟩
  · simp
  have := Ho2.out
  refine Lib.BuilderAt.put (T := 58) (e := 5) hB Hb2.out ?_ (by decide)
  have e : Lib.byteCells (l ++ s) = Lib.byteCells l ++ Lib.strCells ⟨s.toArray⟩ := by simp [Lib.byteCells, Lib.strCells]
  rw [e, List.length_append, Lib.strCells_length]
  exact this

theorem writeByteS_n (B b : Nat) (l : List UInt8) (c : UInt8) (n : Int) (hc : (c.toNat : Int) = n) (w : World) (h : Bld w B b l) (hlen : l.length ≤ 100000000) (hBw : B ≤ w.heap.size) :
    Calls Tryz.prog 40 #[.pointer (some ⟨b, 0, none⟩), .int .u8 n] w (WroteS w B b (l ++ [c]) .nilIface) := by
  subst hc; exact writeByteS_c B b l c w h hlen hBw

end Go.Proofs.YtmhgbocejjnoaaaGreatDoor
/- Walks: the reference's writing of a tree. -/
namespace Go.Proofs.YtmhgbocejjnoaaaGreatDoor
open Go.RowKit Go.Redl
set_option linter.unusedVariables false

theorem str_prop (T K V : List UInt8) (c : UInt8) : ((⟨T.toArray⟩ : ByteArray) ++ ⟨#[c]⟩) ++ (((⟨K.toArray⟩ : ByteArray) ++ ⟨#[58]⟩) ++ ⟨V.toArray⟩) = ⟨(T ++ c :: propL (K, V)).toArray⟩ := by
  rw [show (⟨#[c]⟩ : ByteArray) = ⟨[c].toArray⟩ from rfl, show (⟨#[58]⟩ : ByteArray) = ⟨[58].toArray⟩ from rfl, bytes_append, bytes_append, bytes_append, bytes_append]
  simp [propL]
theorem str_snoc (T : List UInt8) (c : UInt8) : ((⟨T.toArray⟩ : ByteArray) ++ ⟨#[c]⟩) = ⟨(T ++ [c]).toArray⟩ := by
  rw [show (⟨#[c]⟩ : ByteArray) = ⟨[c].toArray⟩ from rfl, bytes_append]
theorem nodeE_zero {l : Bool} {ps : List PropD} {t : List Int} {ks : List NodeD} (h : nodeE (.mk l ps t ks) = 0) : propsE ps = 0 ∧ checkE t = 0 ∧ kidsE ks = 0 ∧ (l = true → ks = []) ∧ (l = false → t = []) := by
  simp only [nodeE] at h
  split at h
  · contradiction
  · rename_i h0
    have h0 : ownE l ps t ks.length = 0 := by simpa using h0
    unfold ownE at h0
    split at h0
    · contradiction
    · rename_i h1
      have h1 : propsE ps = 0 := by simpa using h1
      split at h0
      · cases h0
      · rename_i h2
        refine ⟨h1, h0, h, fun hl => ?_, fun hl => ?_⟩
        · subst hl; simp at h2; exact h2
        · subst hl; simp at h2; exact h2
theorem kidsE_mem {ks : List NodeD} (h : kidsE ks = 0) : ∀ k ∈ ks, nodeE k = 0 := by
  induction ks with
  | nil => simp
  | cons q ks ih =>
    simp only [kidsE] at h
    split at h
    · contradiction
    · rename_i h0
      have h0 : nodeE q = 0 := by simpa using h0
      intro k hk
      rcases List.mem_cons.1 hk with rfl | hk
      · exact h0
      · exact ih h k hk

end Go.Proofs.YtmhgbocejjnoaaaGreatDoor
/- Walks: code.write. -/
namespace Go.Proofs.YtmhgbocejjnoaaaGreatDoor
open Go.RowKit Go.Redl
set_option linter.unusedVariables false

theorem Bld.keep {w w' : World} {B b : Nat} {l : List UInt8} (h : Bld w B b l) (hb : Below w.heap.size w w') : Bld w' B b l := by
  rcases h with h | h
  · obtain ⟨hB, v, hbk, hown, hne⟩ := h
    have hlt : b < w.heap.size := (Array.getElem?_eq_some_iff.1 hbk).1
    exact .inl ⟨hB, v, (hb.block b hlt).trans hbk, own_keep hown hb, hne⟩
  · exact .inr (BldU.keep h hb)
theorem Bld.cast {w : World} {B b : Nat} {l l' : List UInt8} (h : Bld w B b l) (e : l = l') : Bld w B b l' := e ▸ h
theorem str_prop2 (K V : List UInt8) (c : UInt8) : ((((⟨#[c]⟩ : ByteArray) ++ ⟨K.toArray⟩) ++ ⟨#[58]⟩) ++ ⟨V.toArray⟩) = ⟨(c :: propL (K, V)).toArray⟩ := by
  rw [show (⟨#[c]⟩ : ByteArray) = ⟨[c].toArray⟩ from rfl, show (⟨#[58]⟩ : ByteArray) = ⟨[58].toArray⟩ from rfl, bytes_append, bytes_append, bytes_append]
  simp [propL]
theorem below_new (w : World) (o : Obj) : Below w.heap.size w (w.alloc o) := (Below.refl _ _).alloc (Nat.le_refl _) o

theorem printK_take_q {ks : List NodeD} {k : Nat} (h : k < ks.length) : (printK (ks.take k)).length + 22 * ks[k].wt ≤ 22 * wtAll ks := by
  have h1 := printK_len (ks.take k)
  have h2 := wtAll_take ks (k + 1)
  rw [List.take_succ_eq_append_getElem h, wtAll_append] at h2
  simp only [wtAll] at h2
  omega

/-- What writing leaves. -/
def WriteP (W : World) (B b : Nat) (l : List UInt8) (e : Ending) (w' : World) : Prop := e = .returned (.int .i64 0) ∧ BldU w' B b l ∧ Spares badBld B W w'

set_option maxRecDepth 100000 in
set_option maxHeartbeats 8000000 in
theorem write_c (B b : Nat) (hBb : B ≤ b) (hgB : 7 < B) (m : Nat) : ∀ (n : NodeD) (v : Value) (L : List UInt8) (W : World), n.wt ≤ m → n.wt ≤ 1048576 → nodeE n = 0 → L.length + 22 * n.wt ≤ 60000000 → NodeV W B n v → B ≤ W.heap.size → TabAt W → Bld W B b L →
    Calls Tryz.prog 23 #[.pointer (some ⟨b, 0, none⟩), v] W (WriteP W B b (L ++ printL n)) := by
  induction m with
  | zero => intro n v L W hm; have := wt_pos n; omega
  | succ m ih =>
    intro n v L W hm hn hE hL hv hB hT hbld
    obtain ⟨l, ps, t, ks⟩ := n
    obtain ⟨ap, cp, at_, ct, ak, ck, css, rfl, hp, ht, hk, hc⟩ := hv.open
    obtain ⟨-, hte, hke, hlk, hlt0⟩ := nodeE_zero hE
    have IH := Lib.hid ih
    have hwt : 1 + propsWt ps + t.length + wtAll ks = (NodeD.mk l ps t ks).wt := rfl
    have hw2 : wtAll ks ≤ 1048576 := by omega
    have hw3 : wtAll ks ≤ m := by omega
    have hw4 : propsWt ps ≤ 1048576 := by omega
    have hkl := wtAll_len ks
    have htl : t.length ≤ 1048576 := by omega
    have hpl := propsWt_len ps
    have hLl : L.length + 22 * (1 + propsWt ps + t.length + wtAll ks) ≤ 60000000 := by omega
    have Hpr : Hid (printL (.mk l ps t ks) = propsL ps ++ (if l then quoteL t else 91 :: (printK ks ++ [93]))) := rfl
    have HQ := fun W' (hW : Below B W W') (hs : B ≤ W'.heap.size) => Lib.hid (quote_ok _ _ t W' (ht.keep hW (Nat.le_refl _)) hs hte (by omega) (hT.keep hW hgB) (Nat.lt_of_lt_of_le hgB hs))
    have HT := fun W' (hW : Below B W W') => Lib.hid (hT.keep hW hgB)
    have HKe := Lib.hid (kidsE_mem hke)
    have hpm := propsC_len ps 123
    have Hpe : Hid (propsL ps = if ps.length = 0 then [] else propsC 123 ps ++ [125]) := rfl
    have HS0 := Lib.hid ((Spares.refl (bad := badBld) hB).alloc hB (Obj.cells #[.bool l, .slice ap ps.length cp, .slice at_ t.length ct, .slice ak ks.length ck] 27))
    have HB0 := Lib.hid (Bld.keep hbld (below_new W (Obj.cells #[.bool l, .slice ap ps.length cp, .slice at_ t.length ct, .slice ak ks.length ck] 27)))
    clear ih hv ht hwt hm hn hte hke hlk hlt0 hE hT hbld hL
    go_enter Tryz.func23, Tryz.ntmps23
    go_wp2_with fail
    go_loopw [16] (fun i wr => ∃ k : Nat, k ≤ ps.length ∧ i = .int .i64 k ∧ Bld wr B b (L ++ propsC 123 (ps.take k)) ∧ Spares badBld B (W.alloc (Obj.cells #[.bool l, .slice ap ps.length cp, .slice at_ t.length ct, .slice ak ks.length ck] 27)) wr) (fun i _ => ps.length - (intOf i).toNat)
    case atStart => exact ⟨0, Nat.zero_le _, rfl, HB0.out.cast (by simp [propsC]), Spares.refl (by simp; omega)⟩
    case round =>
      obtain ⟨k, hkn, rfl, hbld, hsp⟩ := hrel
      have hr2 := hp.keep (HS0.out.trans hsp).below (Nat.le_refl _)
      have hcl := propsC_len (ps.take k) 123
      have hck := propsWt_take ps k
      have hBw : B ≤ wr.heap.size := Nat.le_trans hB (Nat.le_trans HS0.out.size hsp.size)
      by_cases hlt : k < ps.length
      · have Hbld := Lib.hid hbld; have Hsp := Lib.hid hsp
        have Hss := Lib.hid (propsC_succ ps 123 k hlt)
        have hcw := propsWt_mem (List.getElem_mem hlt)
        obtain ⟨bb, off, rfl, hb, g0, g1⟩ := hr2.prop_at k hlt
        generalize ps[k] = p at hcw g0 g1 Hss
        obtain ⟨p1, p2⟩ := p
        simp only at hcw g0 g1 Hss
        generalize propsC 123 (ps.take k) = T at hcl Hss Hbld
        have hTl : T.length ≤ 1048576 := by omega
        have hl1 : p1.length ≤ 1048576 := by omega
        have hl2 : p2.length ≤ 1048576 := by omega
        have hLT : (L ++ T).length ≤ 80000000 := by simp only [List.length_append]; omega
        have HW := fun (c : UInt8) => Lib.hid (writeStringS_c B b (L ++ T) (c :: propL (p1, p2)) (wr.alloc (Obj.cells #[.string ⟨p1.toArray⟩, .string ⟨p2.toArray⟩] 41)) (Hbld.out.keep (below_new _ _)) (by simp only [propL, List.length_cons, List.length_append] at *; omega) (by simp; omega))
        clear hbld hsp hcl hck hcw hLT
        cases k with
        | zero =>
          rw [Nat.zero_mul, Nat.add_zero] at g0 g1
          have HW1 := HW 123
          clear HW
          go_wp2_with fail
          rw [str_prop2]
          refine HW1.out.mono ?_
          rintro e w2 ⟨rfl, hbld2, hsp2⟩
          have Hb2 := Lib.hid hbld2.bld; have Hs2 := Lib.hid ((Hsp.out.alloc (by simp; omega) _).trans hsp2)
          clear hbld2 hsp2 HW1
          go_wp2_with fail
          go_roundw
          case rel => exact ⟨1, by omega, by go_num, Hb2.out.cast (by rw [Hss.out]; simp), Hs2.out⟩
          case measure => simp [intOf]; omega
        | succ j =>
          have hj0 : (((j + 1 : Nat) : Int) == 0) = false := by simp only [beq_eq_false_iff_ne, ne_eq]; omega
          have hj1 : (((j : Int) + 1) == 0) = false := by simp only [beq_eq_false_iff_ne, ne_eq]; omega
          have HW1 := HW 44
          clear HW
          go_wp2_with fail
          rw [str_prop2]
          refine HW1.out.mono ?_
          rintro e w2 ⟨rfl, hbld2, hsp2⟩
          have Hb2 := Lib.hid hbld2.bld; have Hs2 := Lib.hid ((Hsp.out.alloc (by simp; omega) _).trans hsp2)
          clear hbld2 hsp2 HW1
          go_wp2_with fail
          go_roundw
          case rel => exact ⟨j + 1 + 1, by omega, by go_num, Hb2.out.cast (by rw [Hss.out]; simp), Hs2.out⟩
          case measure => simp [intOf]; omega
      · obtain rfl : k = ps.length := by omega
        rw [List.take_length] at hcl hbld
        obtain ⟨x0, x1, x2, x3⟩ := hsp.box4 rfl
        have hT0 : 0 < ps.length ∨ propsC 123 ps = [] := by
          rcases Nat.eq_zero_or_pos ps.length with h | h
          · right; rw [List.eq_nil_of_length_eq_zero h]; simp [propsC]
          · exact .inl h
        generalize propsC 123 ps = T at hpm Hpe hbld hT0 hcl
        have hTl : T.length ≤ propsWt ps := by omega
        have Hbld := Lib.hid hbld; have Hsp := Lib.hid hsp; have HT0 := Lib.hid hT0
        have hszl : W.heap.size < wr.heap.size := by have := hsp.size; simp at this; omega
        clear hbld hsp hpm hcl hck hT0
        by_cases hp0 : 0 < ps.length
        · have Hnz := Lib.hid hp0
          have HWb := Lib.hid (writeByteS_n B b (L ++ T) 125 125 rfl wr Hbld.out (by simp only [List.length_append]; omega) hBw)
          go_wp2_with fail
          refine HWb.out.mono ?_
          rintro e w1 ⟨rfl, hbld, hsp1⟩
          have Hb1 := Lib.hid hbld; have Hs1 := Lib.hid (Hsp.out.trans hsp1)
          obtain ⟨y0, y1, y2, y3⟩ := Hs1.out.box4 rfl
          have HPL : Hid (L ++ T ++ [125] = L ++ propsL ps) := by
            show L ++ T ++ [125] = L ++ propsL ps
            rw [Hpe.out, if_neg (by have := Hnz.out; omega)]; simp
          have hszl1 : W.heap.size < w1.heap.size := by have := Hs1.out.size; simp at this; omega
          have hBw1 : B ≤ w1.heap.size := by omega
          have Hb1' := Lib.hid (Hb1.out.cast HPL.out).bld
          clear hbld hsp1 HWb x0 x1 x2 x3 Hb1 hszl hBw
          have hppl := propsL_len ps
          cases l with
          | true =>
            have HQ1 := HQ w1 (HS0.out.trans Hs1.out).below hBw1
            have hql := quoteL_len t
            go_wp2_with fail
            refine HQ1.out.mono ?_
            rintro e w3 ⟨rfl, hbel⟩
            have HWs := Lib.hid (writeStringS_c B b (L ++ propsL ps) (quoteL t) w3 (Hb1'.out.keep hbel) (by simp only [List.length_append]; omega) (Nat.le_trans hBw1 hbel.size))
            have Hs3 := Lib.hid (Hs1.out.more hbel (by simp; omega))
            clear hbel HQ1
            go_wp2_with fail
            refine HWs.out.mono ?_
            rintro e w4 ⟨rfl, hbld, hsp⟩
            have Hb4 := Lib.hid hbld; have Hs4 := Lib.hid (Hs3.out.trans hsp)
            clear hbld hsp HWs
            go_wp2_with fail
            go_ret
            exact ⟨rfl, Hb4.out.cast (by rw [Hpr.out]; simp), HS0.out.trans Hs4.out⟩
          | false =>
            have HWb1 := Lib.hid (writeByteS_n B b (L ++ propsL ps) 91 91 rfl w1 Hb1'.out (by simp only [List.length_append]; omega) hBw1)
            go_wp2_with fail
            refine HWb1.out.mono ?_
            rintro e w3 ⟨rfl, hbld, hsp⟩
            have Hb3 := Lib.hid hbld; have Hs3 := Lib.hid (Hs1.out.trans hsp)
            obtain ⟨z0, z1, z2, z3⟩ := Hs3.out.box4 rfl
            have hsz3 : W.heap.size < w3.heap.size := by have := Hs3.out.size; simp at this; omega
            clear hbld hsp HWb1 y0 y1 y2 y3
            go_wp2_with fail
            go_loopw [57] (fun i wr => ∃ k : Nat, k ≤ ks.length ∧ i = .int .i64 k ∧ BldU wr B b (L ++ propsL ps ++ 91 :: printK (ks.take k)) ∧ Spares badBld B (W.alloc (Obj.cells #[.bool false, .slice ap ps.length cp, .slice at_ t.length ct, .slice ak ks.length ck] 27)) wr) (fun i _ => ks.length - (intOf i).toNat)
            case atStart => exact ⟨0, Nat.zero_le _, rfl, Hb3.out.cast (by simp [printK]), Hs3.out⟩
            case round =>
              obtain ⟨k, hkn, rfl, hbld, hsp⟩ := hrel
              have hW0 := (HS0.out.trans hsp).below
              have hr2 := hk.keep hW0 (Nat.le_refl _)
              have hc2 := KidsC.keep hW0 (Nat.le_refl _) ks css hc
              have hBw : B ≤ wr.heap.size := Nat.le_trans hB (Nat.le_trans HS0.out.size hsp.size)
              have hcl := printK_take_len ks k
              obtain ⟨X, hX⟩ : ∃ X, X = L ++ propsL ps ++ 91 :: printK (ks.take k) := ⟨_, rfl⟩
              have hXl : X.length = L.length + (propsL ps).length + 1 + (printK (ks.take k)).length := by rw [hX]; simp only [List.length_append, List.length_cons]; omega
              rw [← hX] at hbld
              have HX := Lib.hid hX
              have Hbld := Lib.hid hbld; have Hsp := Lib.hid hsp; have HW0 := Lib.hid hW0
              clear hbld hsp hX hW0 z0 z1 z2 z3
              by_cases hlt : k < ks.length
              · have Hss := Lib.hid (printK_succ hlt)
                have hkw := wtAll_mem (List.getElem_mem hlt)
                have hkq := printK_take_q hlt
                have hqe := HKe.out ks[k] (List.getElem_mem hlt)
                obtain ⟨bb, off, l', a1, n1, c1, a2, n2, c2, a3, n3, c3, rfl, hb, hnc, g0, g1, g2, g3⟩ := hr2.kid_at hc2 k hlt
                generalize ks[k] = q at hnc hkw Hss hqe hkq
                have hBx := below_new wr (Obj.cells #[.bool l', .slice a1 n1 c1, .slice a2 n2 c2, .slice a3 n3 c3] 27)
                have HC := Lib.hid (IH.out q (.agg #[.bool l', .slice a1 n1 c1, .slice a2 n2 c2, .slice a3 n3 c3]) X _ (by omega) (by omega) hqe (by omega) ⟨_, rfl, NodeC.keep (hBx.mono hBw) (Nat.le_refl _) _ _ hnc⟩ (Nat.le_trans hBw hBx.size) (HT _ (HW0.out.trans (hBx.mono hBw))).out (Bld.keep Hbld.out.bld hBx))
                clear hqe hBx hkq hXl hcl
                go_wp2_with fail
                refine HC.out.mono ?_
                rintro e w4 ⟨rfl, hbld, hsp⟩
                have Hb4 := Lib.hid hbld; have Hs4 := Lib.hid ((Hsp.out.alloc (by simp; omega) _).trans hsp)
                clear hbld hsp HC
                go_wp2_with fail
                go_roundw
                case rel => exact ⟨k + 1, by omega, by go_num, Hb4.out.cast (by rw [Hss.out, HX.out]; simp), Hs4.out⟩
                case measure => simp [intOf]; omega
              · obtain rfl : k = ks.length := by omega
                have HWe := Lib.hid (writeByteS_n B b X 93 93 rfl wr Hbld.out.bld (by omega) hBw)
                clear hXl hcl
                go_wp2_with fail
                refine HWe.out.mono ?_
                rintro e w4 ⟨rfl, hbld, hsp⟩
                have Hb4 := Lib.hid hbld; have Hs4 := Lib.hid (Hsp.out.trans hsp)
                clear hbld hsp HWe
                go_wp2_with fail
                go_ret
                exact ⟨rfl, Hb4.out.cast (by rw [HX.out, Hpr.out, List.take_length]; simp), HS0.out.trans Hs4.out⟩
        · have Hz : Hid (ps.length = 0 ∧ T = []) := by
            show ps.length = 0 ∧ T = []
            exact ⟨by omega, HT0.out.elim (fun h => absurd h hp0) id⟩
          have hp1 : ps.length ≤ 0 := by omega
          have hpd : decide ((0 : Int) < (ps.length : Int)) = false := decide_eq_false (by omega)
          have hpd2 : decide (0 < ps.length) = false := decide_eq_false (by omega)
          have Hb1' : Hid (Bld wr B b (L ++ propsL ps)) := by
            show Bld wr B b (L ++ propsL ps)
            refine Hbld.out.cast ?_
            rw [Hpe.out, if_pos Hz.out.1, Hz.out.2]
          have hBwr := hBw
          clear hp0 Hbld hBw
          have hppl := propsL_len ps
          cases l with
          | true =>
            have HQ1 := HQ wr (HS0.out.trans Hsp.out).below hBwr
            have hql := quoteL_len t
            go_wp2_with fail
            refine HQ1.out.mono ?_
            rintro e w3 ⟨rfl, hbel⟩
            have HWs := Lib.hid (writeStringS_c B b (L ++ propsL ps) (quoteL t) w3 (Hb1'.out.keep hbel) (by simp only [List.length_append]; omega) (Nat.le_trans hBwr hbel.size))
            have Hs3 := Lib.hid (Hsp.out.more hbel (by simp; omega))
            clear hbel HQ1
            go_wp2_with fail
            refine HWs.out.mono ?_
            rintro e w4 ⟨rfl, hbld, hsp⟩
            have Hb4 := Lib.hid hbld; have Hs4 := Lib.hid (Hs3.out.trans hsp)
            clear hbld hsp HWs
            go_wp2_with fail
            go_ret
            exact ⟨rfl, Hb4.out.cast (by rw [Hpr.out]; simp), HS0.out.trans Hs4.out⟩
          | false =>
            have HWb1 := Lib.hid (writeByteS_n B b (L ++ propsL ps) 91 91 rfl wr Hb1'.out (by simp only [List.length_append]; omega) hBwr)
            go_wp2_with fail
            refine HWb1.out.mono ?_
            rintro e w3 ⟨rfl, hbld, hsp⟩
            have Hb3 := Lib.hid hbld; have Hs3 := Lib.hid (Hsp.out.trans hsp)
            obtain ⟨z0, z1, z2, z3⟩ := Hs3.out.box4 rfl
            have hsz3 : W.heap.size < w3.heap.size := by have := Hs3.out.size; simp at this; omega
            clear hbld hsp HWb1 x0 x1 x2 x3
            go_wp2_with fail
            go_loopw [57] (fun i wr => ∃ k : Nat, k ≤ ks.length ∧ i = .int .i64 k ∧ BldU wr B b (L ++ propsL ps ++ 91 :: printK (ks.take k)) ∧ Spares badBld B (W.alloc (Obj.cells #[.bool false, .slice ap ps.length cp, .slice at_ t.length ct, .slice ak ks.length ck] 27)) wr) (fun i _ => ks.length - (intOf i).toNat)
            case atStart => exact ⟨0, Nat.zero_le _, rfl, Hb3.out.cast (by simp [printK]), Hs3.out⟩
            case round =>
              obtain ⟨k, hkn, rfl, hbld, hsp⟩ := hrel
              have hW0 := (HS0.out.trans hsp).below
              have hr2 := hk.keep hW0 (Nat.le_refl _)
              have hc2 := KidsC.keep hW0 (Nat.le_refl _) ks css hc
              have hBw : B ≤ wr.heap.size := Nat.le_trans hB (Nat.le_trans HS0.out.size hsp.size)
              have hcl := printK_take_len ks k
              obtain ⟨X, hX⟩ : ∃ X, X = L ++ propsL ps ++ 91 :: printK (ks.take k) := ⟨_, rfl⟩
              have hXl : X.length = L.length + (propsL ps).length + 1 + (printK (ks.take k)).length := by rw [hX]; simp only [List.length_append, List.length_cons]; omega
              rw [← hX] at hbld
              have HX := Lib.hid hX
              have Hbld := Lib.hid hbld; have Hsp := Lib.hid hsp; have HW0 := Lib.hid hW0
              clear hbld hsp hX hW0 z0 z1 z2 z3
              by_cases hlt : k < ks.length
              · have Hss := Lib.hid (printK_succ hlt)
                have hkw := wtAll_mem (List.getElem_mem hlt)
                have hkq := printK_take_q hlt
                have hqe := HKe.out ks[k] (List.getElem_mem hlt)
                obtain ⟨bb, off, l', a1, n1, c1, a2, n2, c2, a3, n3, c3, rfl, hb, hnc, g0, g1, g2, g3⟩ := hr2.kid_at hc2 k hlt
                generalize ks[k] = q at hnc hkw Hss hqe hkq
                have hBx := below_new wr (Obj.cells #[.bool l', .slice a1 n1 c1, .slice a2 n2 c2, .slice a3 n3 c3] 27)
                have HC := Lib.hid (IH.out q (.agg #[.bool l', .slice a1 n1 c1, .slice a2 n2 c2, .slice a3 n3 c3]) X _ (by omega) (by omega) hqe (by omega) ⟨_, rfl, NodeC.keep (hBx.mono hBw) (Nat.le_refl _) _ _ hnc⟩ (Nat.le_trans hBw hBx.size) (HT _ (HW0.out.trans (hBx.mono hBw))).out (Bld.keep Hbld.out.bld hBx))
                clear hqe hBx hkq hXl hcl
                go_wp2_with fail
                refine HC.out.mono ?_
                rintro e w4 ⟨rfl, hbld, hsp⟩
                have Hb4 := Lib.hid hbld; have Hs4 := Lib.hid ((Hsp.out.alloc (by simp; omega) _).trans hsp)
                clear hbld hsp HC
                go_wp2_with fail
                go_roundw
                case rel => exact ⟨k + 1, by omega, by go_num, Hb4.out.cast (by rw [Hss.out, HX.out]; simp), Hs4.out⟩
                case measure => simp [intOf]; omega
              · obtain rfl : k = ks.length := by omega
                have HWe := Lib.hid (writeByteS_n B b X 93 93 rfl wr Hbld.out.bld (by omega) hBw)
                clear hXl hcl
                go_wp2_with fail
                refine HWe.out.mono ?_
                rintro e w4 ⟨rfl, hbld, hsp⟩
                have Hb4 := Lib.hid hbld; have Hs4 := Lib.hid (Hsp.out.trans hsp)
                clear hbld hsp HWe
                go_wp2_with fail
                go_ret
                exact ⟨rfl, Hb4.out.cast (by rw [HX.out, Hpr.out, List.take_length]; simp), HS0.out.trans Hs4.out⟩

end Go.Proofs.YtmhgbocejjnoaaaGreatDoor
/- Walks: code.Print. -/
namespace Go.Proofs.YtmhgbocejjnoaaaGreatDoor
open Go.RowKit Go.Redl
set_option linter.unusedVariables false

theorem printL_ne (n : NodeD) : printL n ≠ [] := by
  obtain ⟨l, ps, t, ks⟩ := n
  rw [printL]
  cases l <;> simp [quoteL]

set_option maxRecDepth 100000 in
set_option maxHeartbeats 1000000 in
theorem print_no (n : NodeD) (v : Value) (W : World) (hn : n.wt ≤ 1048576) (hv : NodeV W W.heap.size n v) (hE : nodeE n ≠ 0) :
    Calls Tryz.prog 11 #[v] W fun e w' => e = .returned (.tuple #[.string ⟨#[]⟩, .int .i64 (nodeE n)]) ∧ Below W.heap.size W w' := by
  have hv0 := hv
  obtain ⟨l, ps, t, ks⟩ := n
  obtain ⟨ap, cp, at_, ct, ak, ck, css, rfl, -, -, -, -⟩ := hv0.open
  generalize NodeD.mk l ps t ks = n at hv hn hE ⊢
  have hB0 := below_new W (Obj.cells #[.bool l, .slice ap ps.length cp, .slice at_ t.length ct, .slice ak ks.length ck] 27)
  have HS := Lib.hid (ncheck_c n _ W.heap.size _ hn (hv.keep hB0 (Nat.le_refl _)) hB0.size)
  have hne : (nodeE n != 0) = true := by simpa using hE
  clear hv0 hv hB0 hn hE
  go_enter Tryz.func11, Tryz.ntmps11
  go_wp2_with fail
  refine HS.out.mono ?_
  rintro e w1 ⟨rfl, hbel⟩
  have Hb1 := Lib.hid (below_unbox (below_box hbel))
  clear hbel HS
  go_wp2_with fail
  go_ret2
  exact ⟨rfl, Hb1.out⟩

set_option maxRecDepth 100000 in
set_option maxHeartbeats 1000000 in
theorem print_ok (n : NodeD) (v : Value) (W : World) (hn : n.wt ≤ 1048576) (hv : NodeV W W.heap.size n v) (hE : nodeE n = 0) (hT : TabAt W) (hg : 7 < W.heap.size) :
    Calls Tryz.prog 11 #[v] W fun e w' => e = .returned (.tuple #[.string ⟨(printL n).toArray⟩, .int .i64 0]) ∧ Below W.heap.size W w' := by
  have hv0 := hv
  obtain ⟨l, ps, t, ks⟩ := n
  obtain ⟨ap, cp, at_, ct, ak, ck, css, rfl, -, -, -, -⟩ := hv0.open
  generalize NodeD.mk l ps t ks = n at hv hn hE ⊢
  have hB0 := below_new W (Obj.cells #[.bool l, .slice ap ps.length cp, .slice at_ t.length ct, .slice ak ks.length ck] 27)
  have HS := Lib.hid (ncheck_c n _ W.heap.size _ hn (hv.keep hB0 (Nat.le_refl _)) hB0.size)
  rw [hE] at HS
  have HW := fun (w1 : World) (hb : Below W.heap.size W w1) => Lib.hid (write_c w1.heap.size w1.heap.size (Nat.le_refl _) (Nat.lt_of_lt_of_le hg hb.size) _ n _ [] (w1.alloc (Obj.cells #[Value.pointer none, Value.slice none 0 0] 58)) (Nat.le_refl _) hn hE (by simp; omega)
    (hv.keep (hb.alloc hb.size _) hb.size) (by simp) (hT.keep (hb.alloc hb.size _) hg) (Lib.fresh_isBuilder 58 5 w1))
  have Hne := Lib.hid (printL_ne n)
  simp only [List.nil_append] at HW
  generalize printL n = P at HW Hne ⊢
  clear hv0 hv hB0 hn hE hT
  go_enter Tryz.func11, Tryz.ntmps11
  go_wp2_with fail
  refine HS.out.mono ?_
  rintro e w1 ⟨rfl, hbel⟩
  obtain ⟨x0, x1, x2, x3⟩ := box_keep (below_box hbel)
  have Hb1 := Lib.hid (below_unbox (below_box hbel))
  have hsz1 : W.heap.size < w1.heap.size := by have := (below_box hbel).size; simp at this; omega
  have HW1 := HW w1 Hb1.out
  clear hbel HS HW
  go_wp2_with fail
  refine HW1.out.mono ?_
  rintro e w2 ⟨rfl, hbld, hsp⟩
  have HS2 := Lib.hid (string_c w1.heap.size w1.heap.size P w2 hbld.bld Hne.out)
  have Hb2 := Lib.hid ((below_new w1 (Obj.cells #[Value.pointer none, Value.slice none 0 0] 58)).trans hsp.below)
  clear hbld hsp HW1 x0 x1 x2 x3
  go_wp2_with fail
  refine HS2.out.mono ?_
  rintro e w3 ⟨rfl, hbel⟩
  have Hb3 := Lib.hid (Hb1.out.trans ((Hb2.out.trans hbel).mono Hb1.out.size))
  clear hbel HS2
  go_wp2_with fail
  go_ret2
  exact ⟨rfl, Hb3.out⟩

end Go.Proofs.YtmhgbocejjnoaaaGreatDoor
/- Walks: the reference of node: left, Few. -/
namespace Go.Proofs.YtmhgbocejjnoaaaGreatDoor
open Go.RowKit Go.Redl
set_option linter.unusedVariables false

/-- What properties' lengths count. -/
def propsQ : List PropD → Nat
  | [] => 0
  | p :: ps => p.1.length / 64 + p.2.length / 64 + propsQ ps
mutual
/-- How many more there might be. -/
def leftN : NodeD → Int → Int
  | .mk _ ps t ks, m => if m - (1 + t.length + ps.length : Nat) - (propsQ ps : Nat) < 0 then -1 else leftK ks (m - (1 + t.length + ps.length : Nat) - (propsQ ps : Nat))
def leftK : List NodeD → Int → Int
  | [], m => m
  | k :: ks, m => if leftN k m < 0 then -1 else leftK ks (leftN k m)
end
def fewB (n : NodeD) (m : Int) : Bool := decide (0 ≤ leftN n m)
theorem propsQ_append (a b : List PropD) : propsQ (a ++ b) = propsQ a + propsQ b := by
  induction a with
  | nil => simp [propsQ]
  | cons p ps ih => simp only [List.cons_append, propsQ, ih]; omega
theorem propsQ_succ {ps : List PropD} {k : Nat} (h : k < ps.length) : propsQ (ps.take (k + 1)) = propsQ (ps.take k) + (ps[k].1.length / 64 + ps[k].2.length / 64) := by
  rw [List.take_succ_eq_append_getElem h, propsQ_append]; simp [propsQ]
theorem propsQ_le (ps : List PropD) : propsQ ps ≤ propsWt ps := by
  induction ps with
  | nil => simp [propsQ]
  | cons p ps ih => simp only [propsQ, propsWt]; omega
mutual
theorem leftN_le : ∀ (n : NodeD) (m : Int), 0 ≤ m → -1 ≤ leftN n m ∧ leftN n m ≤ m
  | .mk l ps t ks, m, h => by
    simp only [leftN]
    split
    · omega
    · have := leftK_le ks (m - (1 + t.length + ps.length : Nat) - (propsQ ps : Nat)) (by omega)
      omega
theorem leftK_le : ∀ (ks : List NodeD) (m : Int), 0 ≤ m → -1 ≤ leftK ks m ∧ leftK ks m ≤ m
  | [], m, h => by simp only [leftK]; omega
  | k :: ks, m, h => by
    simp only [leftK]
    have h1 := leftN_le k m h
    split
    · omega
    · have := leftK_le ks (leftN k m) (by omega)
      omega
end
theorem leftK_step {ks : List NodeD} {k : Nat} {m : Int} (h : k < ks.length) : leftK (ks.drop k) m = if leftN ks[k] m < 0 then -1 else leftK (ks.drop (k + 1)) (leftN ks[k] m) := by
  conv => lhs; rw [List.drop_eq_getElem_cons h]
  simp only [leftK]
theorem div64 (n : Nat) : ((n : Int)).tdiv 64 = ((n / 64 : Nat) : Int) := by rw [Int.tdiv_eq_ediv_of_nonneg (by omega)]; omega
theorem left_eq {z : Int} {ks : List NodeD} {l : Bool} {ps : List PropD} {t : List Int} {most : Int} (hz : z = most - (1 + t.length + ps.length : Nat) - (propsQ ps : Nat)) :
    leftN (.mk l ps t ks) most = if z < 0 then -1 else leftK ks z := by subst hz; rfl

set_option maxRecDepth 100000 in
set_option maxHeartbeats 2000000 in
theorem rleft_c (m : Nat) : ∀ (n : NodeD) (v : Value) (most : Int) (w : World), n.wt ≤ m → n.wt ≤ 100000000 → 0 ≤ most → most ≤ 1000000 → NodeV w w.heap.size n v →
    Calls Tryz.prog 22 #[v, .int .i64 most] w fun e w' => e = .returned (.int .i64 (leftN n most)) ∧ Below w.heap.size w w' := by
  induction m with
  | zero => intro n v most w hm; have := wt_pos n; omega
  | succ m ih =>
    intro n v most w hm hn hm0 hm1 hv
    obtain ⟨l, ps, t, ks⟩ := n
    obtain ⟨ap, cp, at_, ct, ak, ck, css, rfl, hp, ht, hk, hc⟩ := hv.open
    have IH := Lib.hid ih
    have hwt : 1 + propsWt ps + t.length + wtAll ks = (NodeD.mk l ps t ks).wt := rfl
    have hw2 : wtAll ks ≤ 100000000 := by omega
    have hw3 : wtAll ks ≤ m := by omega
    have hw4 : propsWt ps ≤ 100000000 := by omega
    have hkl := wtAll_len ks
    have htl : t.length ≤ 100000000 := by omega
    have hpl := propsWt_len ps
    have Hl := fun z (hz : z = most - (1 + t.length + ps.length : Nat) - (propsQ ps : Nat)) => Lib.hid (left_eq (l := l) (ks := ks) hz)
    clear ih hv hwt hm hn ht
    go_enter Tryz.func22, Tryz.ntmps22
    go_wp2_with fail
    go_loopw [1, 22] (fun s i wr => ∃ k : Nat, k ≤ ps.length ∧ i = .int .i64 k ∧ s = .int .i64 (most - (1 + t.length + ps.length : Nat) - (propsQ (ps.take k) : Nat)) ∧ Below (w.heap.size + 1) (w.alloc (Obj.cells #[.bool l, .slice ap ps.length cp, .slice at_ t.length ct, .slice ak ks.length ck] 27)) wr) (fun _ i _ => ps.length - (intOf i).toNat)
    case atStart => exact ⟨0, Nat.zero_le _, rfl, by simp [propsQ], Below.refl _ _⟩
    case round =>
      obtain ⟨k, hkn, rfl, rfl, hbel⟩ := hrel
      have hr2 := hp.keep (below_unbox hbel) (below_unbox hbel).size
      have hcl := propsQ_le (ps.take k)
      have hck := propsWt_take ps k
      by_cases hlt : k < ps.length
      · have Hb := Lib.hid hbel
        have Hss := Lib.hid (propsQ_succ hlt)
        have hcw := propsWt_mem (List.getElem_mem hlt)
        obtain ⟨b, off, rfl, hb, g0, g1⟩ := hr2.prop_at k hlt
        generalize ps[k] = p at hcw g0 g1 Hss
        obtain ⟨p1, p2⟩ := p
        simp only at hcw g0 g1 Hss
        generalize propsQ (ps.take k) = T at hcl Hss ⊢
        have hTl : T ≤ 100000000 := by omega
        have hl1 : p1.length ≤ 100000000 := by omega
        have hl2 : p2.length ≤ 100000000 := by omega
        have hb2 : (⟨p1.toArray⟩ : ByteArray).size = p1.length := rfl
        clear hbel hcl hck hcw
        go_wp2_with fail
        go_roundw
        case rel => exact ⟨k + 1, by omega, by go_num, by rw [Hss.out]; go_num, below_box_more Hb.out⟩
        case measure => simp [intOf]; omega
      · obtain rfl : k = ps.length := by omega
        rw [List.take_length] at hcl ⊢
        obtain ⟨x0, x1, x2, x3⟩ := box_keep hbel
        have Hb := Lib.hid (below_unbox hbel)
        have Hl1 := Hl _ rfl
        have hz1 : most - (1 + t.length + ps.length : Nat) - (propsQ ps : Nat) ≤ 1000000 := by omega
        generalize most - (1 + t.length + ps.length : Nat) - (propsQ ps : Nat) = z at Hl1 hz1 ⊢
        clear hbel hcl hck Hl
        by_cases hz : z < 0
        · go_wp2_with fail
          go_ret
          exact ⟨ret_int (by rw [Hl1.out, if_pos hz]), Hb.out⟩
        · have Hl2 : Hid (leftN (.mk l ps t ks) most = leftK ks z) := by
            show leftN _ _ = _
            rw [Hl1.out, if_neg hz]
          have hz0 : 0 ≤ z := by omega
          clear hz Hl1
          go_wp2_with fail
          go_loopw [1, 43] (fun s i wr => ∃ (k : Nat) (y : Int), k ≤ ks.length ∧ 0 ≤ y ∧ y ≤ 1000000 ∧ i = .int .i64 k ∧ s = .int .i64 y ∧ leftK (ks.drop k) y = leftK ks z ∧ Below w.heap.size w wr) (fun _ i _ => ks.length - (intOf i).toNat)
          case atStart => exact ⟨0, z, Nat.zero_le _, hz0, hz1, rfl, rfl, by simp, Hb.out⟩
          case round =>
            obtain ⟨k, y, hkn, hy0, hy1, rfl, rfl, hke, hbel⟩ := hrel
            have hr2 := hk.keep hbel hbel.size
            have hc2 := KidsC.keep hbel hbel.size ks css hc
            have Hb2 := Lib.hid hbel
            have Hke := Lib.hid hke
            clear hbel hke x0 x1 x2 x3
            by_cases hlt : k < ks.length
            · have Hss := Lib.hid (leftK_step (m := y) hlt)
              have hkw := wtAll_mem (List.getElem_mem hlt)
              obtain ⟨b, off, l', a1, n1, c1, a2, n2, c2, a3, n3, c3, rfl, hb, hnc, g0, g1, g2, g3⟩ := hr2.kid_at hc2 k hlt
              generalize ks[k] = q at hnc hkw Hss
              have hB := (((Below.refl wr.heap.size wr).alloc (Nat.le_refl _) (Obj.cells #[.bool l', .slice a1 n1 c1, .slice a2 n2 c2, .slice a3 n3 c3] 27)))
              have HC := Lib.hid (IH.out q (.agg #[.bool l', .slice a1 n1 c1, .slice a2 n2 c2, .slice a3 n3 c3]) y _ (by omega) (by omega) hy0 hy1 ⟨_, rfl, NodeC.keep hB hB.size _ _ hnc⟩)
              have hql := leftN_le q y hy0
              generalize leftN q y = x at HC Hss hql
              obtain ⟨hq0, hq1⟩ := hql
              by_cases hx : x < 0
              · have Hr : Hid (leftN (.mk l ps t ks) most = -1) := by
                  show leftN _ _ = _
                  rw [Hl2.out, ← Hke.out, Hss.out, if_pos hx]
                go_wp2_with fail
                refine HC.out.mono ?_
                rintro e w2 ⟨rfl, hbel⟩
                have Hb3 := Lib.hid ((Hb2.out.alloc Hb2.out.size _).trans (hbel.mono (by simp; have := Hb2.out.size; omega)))
                clear hbel
                go_wp2_with fail
                go_ret
                exact ⟨ret_int Hr.out.symm, Hb3.out⟩
              · have Hr : Hid (leftK (ks.drop (k + 1)) x = leftK ks z) := by
                  show leftK _ _ = _
                  rw [← Hke.out, Hss.out, if_neg hx]
                go_wp2_with fail
                refine HC.out.mono ?_
                rintro e w2 ⟨rfl, hbel⟩
                have Hb3 := Lib.hid ((Hb2.out.alloc Hb2.out.size _).trans (hbel.mono (by simp; have := Hb2.out.size; omega)))
                clear hbel
                go_wp2_with fail
                go_roundw
                case rel => exact ⟨k + 1, x, by omega, by omega, by omega, by go_num, rfl, Hr.out, Hb3.out⟩
                case measure => simp [intOf]; omega
            · obtain rfl : k = ks.length := by omega
              go_wp2_with fail
              go_ret
              exact ⟨ret_int (by rw [Hl2.out, ← Hke.out, List.drop_length]; rfl), Hb2.out⟩

set_option maxRecDepth 100000 in
set_option maxHeartbeats 1000000 in
theorem rfew_c (n : NodeD) (v : Value) (most : Int) (w : World) (hn : n.wt ≤ 100000000) (h0 : 0 ≤ most) (h1 : most ≤ 1000000) (hv : NodeV w w.heap.size n v) :
    Calls Tryz.prog 10 #[v, .int .i64 most] w fun e w' => e = .returned (.bool (fewB n most)) ∧ Below w.heap.size w w' := by
  have hv0 := hv
  obtain ⟨l, ps, t, ks⟩ := n
  obtain ⟨ap, cp, at_, ct, ak, ck, css, rfl, -, -, -, -⟩ := hv0.open
  generalize NodeD.mk l ps t ks = n at hv hn ⊢
  have hB0 := ((Below.refl w.heap.size w).alloc (Nat.le_refl _) (Obj.cells #[.bool l, .slice ap ps.length cp, .slice at_ t.length ct, .slice ak ks.length ck] 27))
  have HS := Lib.hid (rleft_c _ n _ most _ (Nat.le_refl _) hn h0 h1 (hv.keep hB0 hB0.size))
  have Hf : Hid (fewB n most = decide (0 ≤ leftN n most)) := rfl
  generalize leftN n most = x at HS Hf
  clear hv0 hv hB0 hn
  go_enter Tryz.func10, Tryz.ntmps10
  go_wp2_with fail
  refine HS.out.mono ?_
  rintro e w1 ⟨rfl, hbel⟩
  have Hb1 := Lib.hid (below_unbox (below_box hbel))
  clear hbel HS
  go_wp2_with fail
  go_ret
  exact ⟨ret_bool Hf.out.symm, Hb1.out⟩

end Go.Proofs.YtmhgbocejjnoaaaGreatDoor
/- Walks: CodePrints' example; CodePrints. -/
namespace Go.Proofs.YtmhgbocejjnoaaaGreatDoor
open Go.RowKit Go.Redl
set_option linter.unusedVariables false

/-- A text of one byte, as runes. -/
theorem conv_one (c : UInt8) (hc : Conv.runesFrom ⟨#[c]⟩ 1 0 #[] = #[.int .i32 c.toNat]) (w : World) : ∃ cap w', (convert 9 24 (.string ⟨#[c]⟩)).run Tryz.prog w = .ok (.slice (some ⟨w.heap.size, 0, none⟩) 1 cap) w' ∧
    Below w.heap.size w w' ∧ RowA w' w'.heap.size 1 (some ⟨w.heap.size, 0, none⟩) 1 cap [.int .i32 c.toNat] := by
  have hsz : (Conv.runesFrom ⟨#[c]⟩ (⟨#[c]⟩ : ByteArray).size 0 #[]) = #[.int .i32 c.toNat] := hc
  have h := run_runes_of_string (P := Tryz.prog) w 9 24 21 ⟨#[c]⟩ Tryz.underlying9 Tryz.underlying24 Tryz.underlying21 (by rw [hsz]; simp)
  rw [hsz] at h
  have h1 : (#[Value.int .i32 c.toNat] : Array Value).size = 1 := rfl
  rw [h1] at h
  have hge := grownCap_ge w 1 0 21
  have hcm := grownCap_le_maxLen w 1 0 21 (by unfold maxLen; omega)
  refine ⟨_, _, h, (Below.refl _ _).drew.alloc (Nat.le_refl _) _, ⟨by simp, hge, hcm, by simp; rfl, (fun h => by cases h), fun _ => ⟨w.heap.size, 0, rfl, by simp, fun j u hj => ?_⟩⟩⟩
  have hg := heap_alloc_new w.drew (Obj.cells (#[Value.int .i32 c.toNat] ++ Array.replicate (grownCap w 1 0 21 - 1) (.int .i32 0)) 21)
  have hd : w.drew.heap.size = w.heap.size := rfl
  rw [hd] at hg
  rw [cell_of_row _ w.heap.size (0 + j) _ _ _ hg]
  have hj0 : j = 0 := by
    cases j with
    | zero => rfl
    | succ j => simp at hj
  subst hj0
  simp at hj
  subst hj
  rw [Array.getElem?_append_left (by simp)]
  rfl
/-- A leaf of one byte. -/
def LeafP (W : World) (ps : List PropD) (c : UInt8) (e : Ending) (w' : World) : Prop :=
  ∃ ap cp at_ ct, e = .returned (.agg #[.bool true, .slice ap ps.length cp, .slice at_ 1 ct, .slice none 0 0]) ∧ NodeC w' w'.heap.size (.mk true ps [(c.toNat : Int)] []) [.bool true, .slice ap ps.length cp, .slice at_ 1 ct, .slice none 0 0] ∧ Below W.heap.size W w'

set_option maxRecDepth 100000 in
set_option maxHeartbeats 1000000 in
theorem leaf_c (c : UInt8) (hc : Conv.runesFrom ⟨#[c]⟩ 1 0 #[] = #[.int .i32 c.toNat]) (ps : List PropD) (ap : Option Addr) (cp : Nat) (W : World) (hp : RowA W W.heap.size 2 ap ps.length cp (propCells ps)) :
    Calls Tryz.prog 15 #[.string ⟨#[c]⟩, .slice ap ps.length cp] W (LeafP W ps c) := by
  obtain ⟨cap, w1, h1, h2, h3⟩ := conv_one c hc (W.alloc (Obj.cells #[Value.bool false, Value.slice none 0 0, Value.slice none 0 0, Value.slice none 0 0] 27))
  have hsz0 : (W.alloc (Obj.cells #[Value.bool false, Value.slice none 0 0, Value.slice none 0 0, Value.slice none 0 0] 27)).heap.size = W.heap.size + 1 := by simp
  have hz := h2.size
  rw [hsz0] at h2 hz h3 h1
  have hblk : w1.heap[W.heap.size]? = some (Obj.cells #[Value.bool false, Value.slice none 0 0, Value.slice none 0 0, Value.slice none 0 0] 27 (0, 0)) := by
    rw [h2.block _ (by omega)]; exact heap_alloc_new W _
  have k0 : w1.cell? ⟨W.heap.size, 0, none⟩ = some (.bool false) := by rw [cell_of_row _ _ _ _ _ _ hblk]; rfl
  have k1 : w1.cell? ⟨W.heap.size, 1, none⟩ = some (.slice none 0 0) := by rw [cell_of_row _ _ _ _ _ _ hblk]; rfl
  have k2 : w1.cell? ⟨W.heap.size, 2, none⟩ = some (.slice none 0 0) := by rw [cell_of_row _ _ _ _ _ _ hblk]; rfl
  have k3 : w1.cell? ⟨W.heap.size, 3, none⟩ = some (.slice none 0 0) := by rw [cell_of_row _ _ _ _ _ _ hblk]; rfl
  have f0 : ∀ i, w1.frozen? ⟨W.heap.size, i, none⟩ = false := fun i => by simp [World.frozen?, hblk]
  have Hp := Lib.hid hp; have H2 := Lib.hid h2; have H3 := Lib.hid h3; have Hblk := Lib.hid hblk
  clear hp h2 h3 hsz0 hblk hc
  go_enter Tryz.func15, Tryz.ntmps15
  go_wp2_with fail
  have hz2 : W.heap.size + 1 < w1.heap.size ∨ True := .inr trivial
  refine bodyPost_ret (v := .agg #[.bool true, .slice ap ps.length cp, .slice (some ⟨W.heap.size + 1, 0, none⟩) 1 cap, .slice none 0 0]) (by simp [results, Tryz.results15, go_sem, k0, k1, k2, k3]) rfl ⟨ap, cp, _, cap, rfl, ?_, ?_⟩
  · have hb : Below W.heap.size W w1 := below_unbox H2.out
    have r1 : RowA w1 w1.heap.size 2 ap ps.length cp (propCells ps) := Hp.out.keep hb hb.size
    have hn1 : ∀ b off, ap = some ⟨b, off, none⟩ → propCells ps ≠ [] → b < W.heap.size := fun b off h hne => by
      obtain ⟨b', off', h', hlt, -⟩ := Hp.out.some_ hne
      rw [h] at h'
      cases h'; exact hlt
    unfold NodeC
    refine ⟨ap, cp, _, cap, none, 0, [], rfl, ?_, ?_, ?_, RowA.empty _ _ _, by unfold KidsC; rfl⟩
    · have hlen := propCells_len ps
      by_cases hpe : propCells ps = []
      · have h0 := Hp.out
        exact ⟨h0.len, h0.le, h0.max, h0.one, h0.nil, fun h => absurd hpe h⟩
      · have r2 := (((r1.setCell ⟨W.heap.size, 0, none⟩ (.bool true) (fun b off h => by have := hn1 b off h hpe; simp; omega)).setCell ⟨W.heap.size, 1, none⟩ (.slice ap ps.length cp) (fun b off h => by have := hn1 b off h hpe; simp; omega)).setCell ⟨W.heap.size, 2, none⟩ (.slice (some ⟨W.heap.size + 1, 0, none⟩) 1 cap) (fun b off h => by have := hn1 b off h hpe; simp; omega)).setCell ⟨W.heap.size, 3, none⟩ (.slice none 0 0) (fun b off h => by have := hn1 b off h hpe; simp; omega)
        simpa [World.setCell] using r2
    · have r2 := (((H3.out.setCell ⟨W.heap.size, 0, none⟩ (.bool true) (fun b off h => by cases h; simp)).setCell ⟨W.heap.size, 1, none⟩ (.slice ap ps.length cp) (fun b off h => by cases h; simp)).setCell ⟨W.heap.size, 2, none⟩ (.slice (some ⟨W.heap.size + 1, 0, none⟩) 1 cap) (fun b off h => by cases h; simp)).setCell ⟨W.heap.size, 3, none⟩ (.slice none 0 0) (fun b off h => by cases h; simp)
      simpa [World.setCell] using r2
    · intro z hz
      simp at hz
      subst hz
      have := c.toNat_lt
      have h1 : IntKind.i32.min = -2147483648 := by decide
      have h2 : IntKind.i32.max = 2147483647 := by decide
      simp only [Lit.wf, Bool.and_eq_true, decide_eq_true_eq, h1, h2]
      omega
  · exact ((((below_unbox H2.out).setCell (p := ⟨W.heap.size, 0, none⟩) (Nat.le_refl _) _).setCell (p := ⟨W.heap.size, 1, none⟩) (Nat.le_refl _) _).setCell (p := ⟨W.heap.size, 2, none⟩) (Nat.le_refl _) _).setCell (p := ⟨W.heap.size, 3, none⟩) (Nat.le_refl _) _

end Go.Proofs.YtmhgbocejjnoaaaGreatDoor
