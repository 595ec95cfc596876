/- Parts of the proof, one behind the other: ROT, ROU, ROV, ROW, ROL, ROM. -/
import Derived.Test.YtbommcakcmhalaaGreatDoorLM15
import Derived.Test.YtbommcakcmhalaaGreatDoorLM11
import Derived.Lib.ConvBytes
import Derived.Test.YtbommcakcmhalaaGreatDoorLM8
/- Walks: back.set, of what repairs have. -/
set_option linter.unusedVariables false
set_option linter.unusedSimpArgs false
set_option maxHeartbeats 4000000
set_option maxRecDepth 100000
namespace Go.Proofs.YtbommcakcmhalaaGreatDoor
open Go.RowKit Go.Redl
theorem zero_nodev (w : World) : NodeV w w.heap.size zeroN (.agg #[.bool false, .slice none 0 0, .slice none 0 0, .slice none 0 0]) :=
 ⟨_, rfl, NodeQ.node (ok := fun _ => True) zeroN _ (by
  unfold zeroN NodeQ
  exact ⟨none, 0, none, 0, none, 0, [], rfl, RowQ.empty _ _ _, RowQ.empty _ _ _, (by simp), RowQ.empty _ _ _, by unfold KidsQ; rfl⟩)⟩
theorem bsame_ent : ∀ args w, (callFunc 29 args).run Tryz.prog w = .ok (.enter 29 args) w := by intro args w; kernel_rfl
theorem bsamesel_ent : ∀ args w, (callFunc 70 args).run Tryz.prog w = .ok (.enter 70 args) w := by intro args w; kernel_rfl
theorem info_u8S : (Tryz.prog.info? 5).map (fun i => (i.zero, i.size, i.bytes)) = some (some (.int .u8 0), 1, 1) := by kernel_rfl
/-- The bytes whose fields are there. -/
def onB (L : List (UInt8 × Bool)) : List UInt8 := (L.filter (·.2)).map (·.1)
theorem onB_take {L : List (UInt8 × Bool)} {j : Nat} (h : j < L.length) : onB (L.take (j + 1)) = if L[j].2 then onB (L.take j) ++ [L[j].1] else onB (L.take j) := by
 unfold onB
 rw [List.take_succ_eq_append_getElem h, List.filter_append, List.map_append]
 cases hb : L[j].2 <;> simp [hb]
def setL9 (p d : List Int) (pos : Int) (nd : NodeD) (ol : List PropD) : List (UInt8 × Bool) :=
 [(112, decide (0 < p.length)), (116, decide (0 < d.length)), (97, pos != 0), (110, !sameN nd zeroN), (111, decide (0 < ol.length)), (119, false), (120, false), (115, false), (115, false)]
theorem bset_c (p d : List Int) (kd pos : Int) (nd : NodeD) (ol : List PropD) (pa ta oa : Option Addr) (pc tc oc : Nat) (l0 : Bool) (a1 a2 a3 : Option Addr) (m1 m2 m3 c1 c2 c3 : Nat) (W : World) (hbig : nd.wt <= 100000000) (hn : NodeV W W.heap.size nd (.agg #[.bool l0, .slice a1 m1 c1, .slice a2 m2 c2, .slice a3 m3 c3])) (hne : p ≠ []) :
 Calls Tryz.prog 182 #[.agg #[.int .i64 kd, .slice pa p.length pc, .slice ta d.length tc, .int .i64 pos, .bool l0, .slice a1 m1 c1, .slice a2 m2 c2, .slice a3 m3 c3, .slice oa ol.length oc, .slice none 0 0, .slice none 0 0, .bool false, .slice none 0 0, .int .i64 0, .slice none 0 0, .int .i64 0, .bool false, .slice none 0 0, .int .i64 0, .slice none 0 0, .int .i64 0]] W (fun e w' => e = .returned (.string ⟨(onB (setL9 p d pos nd ol)).toArray⟩) /\ Below W.heap.size W w') := by
 obtain ⟨w0, hw0⟩ : ∃ w0, w0 = W.alloc (Obj.cells #[.int .i64 kd, .slice pa p.length pc, .slice ta d.length tc, .int .i64 pos, .bool l0, .slice a1 m1 c1, .slice a2 m2 c2, .slice a3 m3 c3, .slice oa ol.length oc, .slice none 0 0, .slice none 0 0, .bool false, .slice none 0 0, .int .i64 0, .slice none 0 0, .int .i64 0, .bool false, .slice none 0 0, .int .i64 0, .slice none 0 0, .int .i64 0] 63) := ⟨_, rfl⟩
 have hb0 : Below W.heap.size W w0 := by rw [hw0]; exact one_below _ _
 have hA : At w0 W.heap.size [.int .i64 kd, .slice pa p.length pc, .slice ta d.length tc, .int .i64 pos, .bool l0, .slice a1 m1 c1, .slice a2 m2 c2, .slice a3 m3 c3, .slice oa ol.length oc, .slice none 0 0, .slice none 0 0, .bool false, .slice none 0 0, .int .i64 0, .slice none 0 0, .int .i64 0, .bool false, .slice none 0 0, .int .i64 0, .slice none 0 0, .int .i64 0] 63 := by rw [hw0]; exact At.fresh W _ _
 have HS0 := Lib.hid (fun (w' : World) (hb : Below w0.heap.size w0 w') => (show w'.cell? ⟨W.heap.size, 0, none⟩ = some (.int .i64 kd) /\ w'.cell? ⟨W.heap.size, 1, none⟩ = some (.slice pa p.length pc) /\ w'.cell? ⟨W.heap.size, 2, none⟩ = some (.slice ta d.length tc) /\ w'.cell? ⟨W.heap.size, 3, none⟩ = some (.int .i64 pos) /\ w'.cell? ⟨W.heap.size, 4, none⟩ = some (.bool l0) /\ w'.cell? ⟨W.heap.size, 5, none⟩ = some (.slice a1 m1 c1) /\ w'.cell? ⟨W.heap.size, 6, none⟩ = some (.slice a2 m2 c2) /\ w'.cell? ⟨W.heap.size, 7, none⟩ = some (.slice a3 m3 c3) /\ w'.cell? ⟨W.heap.size, 8, none⟩ = some (.slice oa ol.length oc) /\ w'.cell? ⟨W.heap.size, 9, none⟩ = some (.slice none 0 0) /\ w'.cell? ⟨W.heap.size, 10, none⟩ = some (.slice none 0 0) /\ w'.cell? ⟨W.heap.size, 11, none⟩ = some (.bool false) /\ w'.cell? ⟨W.heap.size, 12, none⟩ = some (.slice none 0 0) /\ w'.cell? ⟨W.heap.size, 13, none⟩ = some (.int .i64 0) /\ w'.cell? ⟨W.heap.size, 14, none⟩ = some (.slice none 0 0) /\ w'.cell? ⟨W.heap.size, 15, none⟩ = some (.int .i64 0) /\ w'.cell? ⟨W.heap.size, 16, none⟩ = some (.bool false) /\ w'.cell? ⟨W.heap.size, 17, none⟩ = some (.slice none 0 0) /\ w'.cell? ⟨W.heap.size, 18, none⟩ = some (.int .i64 0) /\ w'.cell? ⟨W.heap.size, 19, none⟩ = some (.slice none 0 0) /\ w'.cell? ⟨W.heap.size, 20, none⟩ = some (.int .i64 0) from by have h := hA.kept hb; exact ⟨h.cell 0 rfl, h.cell 1 rfl, h.cell 2 rfl, h.cell 3 rfl, h.cell 4 rfl, h.cell 5 rfl, h.cell 6 rfl, h.cell 7 rfl, h.cell 8 rfl, h.cell 9 rfl, h.cell 10 rfl, h.cell 11 rfl, h.cell 12 rfl, h.cell 13 rfl, h.cell 14 rfl, h.cell 15 rfl, h.cell 16 rfl, h.cell 17 rfl, h.cell 18 rfl, h.cell 19 rfl, h.cell 20 rfl⟩))
 have HN := Lib.hid (fun (w' : World) (hb : Below w0.heap.size w0 w') => same_c nd.wt nd zeroN (.agg #[.bool l0, .slice a1 m1 c1, .slice a2 m2 c2, .slice a3 m3 c3]) (.agg #[.bool false, .slice none 0 0, .slice none 0 0, .slice none 0 0]) w' (Nat.le_refl _) (by obtain ⟨cs, he, hc⟩ := hn; exact ⟨cs, he, NodeC.keep (hb0.trans (hb.mono hb0.size)) (hb0.trans (hb.mono hb0.size)).size _ _ hc⟩) (zero_nodev w'))
 have HZ := Lib.hid (fun (w' : World) => sameselZ_c w')
 obtain ⟨sn, hsn⟩ : ∃ sn, sn = sameN nd zeroN := ⟨_, rfl⟩
 rw [<- hsn] at HN
 have HL : Hid (setL9 p d pos nd ol = [(112, decide (0 < p.length)), (116, decide (0 < d.length)), (97, pos != 0), (110, !sn), (111, decide (0 < ol.length)), (119, false), (120, false), (115, false), (115, false)]) := Lib.hid (by unfold setL9; rw [hsn])
 have hLne : onB (setL9 p d pos nd ol) ≠ [] := by
  unfold onB setL9
  have : decide (0 < p.length) = true := by simpa using List.length_pos_iff.2 hne
  simp [this]
 have HLne := Lib.hid hLne
 generalize setL9 p d pos nd ol = L at HL HLne ⊢
 have hLl : L.length = 9 := by rw [HL.out]; rfl
 have Hb0 := Lib.hid hb0; have Hw0 := Lib.hid hw0
 clear hn hA hb0 hw0 hsn hLne
 go_enter Tryz.func182, Tryz.ntmps182
 go_upto_region 2 with fail
 rw [<- Hw0.out]
 clear Hw0
 go_cut [53, 54, 55] (fun s n i wx => n = .int .i64 9 /\ i = .int .i64 0 /\ ∃ b, s = .slice (some ⟨b, 0, none⟩) 9 9 /\ b < wx.heap.size /\ (∀ (j : Nat) (h : j < L.length), wx.cell? ⟨b, j * 2, none⟩ = some (.int .u8 L[j].1.toNat) /\ wx.cell? ⟨b, j * 2 + 1, none⟩ = some (.bool L[j].2)) /\ Below W.heap.size W wx)
 case first =>
  go_region_held3 (fun w' => w'.cell? ⟨W.heap.size, 0, none⟩ = some (.int .i64 kd) /\ w'.cell? ⟨W.heap.size, 1, none⟩ = some (.slice pa p.length pc) /\ w'.cell? ⟨W.heap.size, 2, none⟩ = some (.slice ta d.length tc) /\ w'.cell? ⟨W.heap.size, 3, none⟩ = some (.int .i64 pos) /\ w'.cell? ⟨W.heap.size, 4, none⟩ = some (.bool l0) /\ w'.cell? ⟨W.heap.size, 5, none⟩ = some (.slice a1 m1 c1) /\ w'.cell? ⟨W.heap.size, 6, none⟩ = some (.slice a2 m2 c2) /\ w'.cell? ⟨W.heap.size, 7, none⟩ = some (.slice a3 m3 c3) /\ w'.cell? ⟨W.heap.size, 8, none⟩ = some (.slice oa ol.length oc) /\ w'.cell? ⟨W.heap.size, 9, none⟩ = some (.slice none 0 0) /\ w'.cell? ⟨W.heap.size, 10, none⟩ = some (.slice none 0 0) /\ w'.cell? ⟨W.heap.size, 11, none⟩ = some (.bool false) /\ w'.cell? ⟨W.heap.size, 12, none⟩ = some (.slice none 0 0) /\ w'.cell? ⟨W.heap.size, 13, none⟩ = some (.int .i64 0) /\ w'.cell? ⟨W.heap.size, 14, none⟩ = some (.slice none 0 0) /\ w'.cell? ⟨W.heap.size, 15, none⟩ = some (.int .i64 0) /\ w'.cell? ⟨W.heap.size, 16, none⟩ = some (.bool false) /\ w'.cell? ⟨W.heap.size, 17, none⟩ = some (.slice none 0 0) /\ w'.cell? ⟨W.heap.size, 18, none⟩ = some (.int .i64 0) /\ w'.cell? ⟨W.heap.size, 19, none⟩ = some (.slice none 0 0) /\ w'.cell? ⟨W.heap.size, 20, none⟩ = some (.int .i64 0)) (refine HS0.out _ (by ((repeat (first | with_reducible exact Hb3.out | with_reducible exact Hb2.out | with_reducible exact Hb1.out | with_reducible exact Below.refl _ _ | with_reducible refine Below.drew ?_ | with_reducible refine Below.alloc ?_ ?_ _ | with_reducible refine Below.setCell ?_ ?_ _)) <;> (first | with_reducible exact Nat.le_refl _ | with_reducible exact Hb3.out.size | with_reducible exact Hb2.out.size | with_reducible exact Hb1.out.size | (have hsz := Hb3.out.size; simp [World.setCell]; omega) | (have hsz := Hb2.out.size; simp [World.setCell]; omega) | (have hsz := Hb1.out.size; simp [World.setCell]; omega) | (simp; done) | (simp; omega) | omega))))
   (first
   | (refine step_call rfl 29 _ _ rfl bsame_ent [.agg #[.bool l0, .slice a1 m1 c1, .slice a2 m2 c2, .slice a3 m3 c3], .agg #[.bool false, .slice none 0 0, .slice none 0 0, .slice none 0 0]] ?_ _ (HN.out _ (by ((repeat (first | with_reducible exact Below.refl _ _ | with_reducible refine Below.drew ?_ | with_reducible refine Below.alloc ?_ ?_ _ | with_reducible refine Below.setCell ?_ ?_ _)) <;> (first | with_reducible exact Nat.le_refl _ | (simp; done) | (simp; omega) | omega)))) ?_
      . go_simp
      rintro e w1 ⟨rfl, hbel⟩
      refine ⟨_, rfl, ?_⟩
      have Hb1 := Lib.hid (Below.and (w0 := w0) (by ((repeat (first | with_reducible exact Below.refl _ _ | with_reducible refine Below.drew ?_ | with_reducible refine Below.alloc ?_ ?_ _ | with_reducible refine Below.setCell ?_ ?_ _)) <;> (first | with_reducible exact Nat.le_refl _ | (simp; done) | (simp; omega) | omega))) hbel)
      clear hbel)
   | (refine step_call rfl 70 _ _ rfl bsamesel_ent [selZV, selZV] ?_ _ (HZ.out w1) ?_
      . go_simp
      rintro e w2 ⟨rfl, hbel⟩
      refine ⟨_, rfl, ?_⟩
      have Hb2 := Lib.hid (Below.and (w0 := w0) Hb1.out hbel)
      clear hbel)
   | (refine step_call rfl 70 _ _ rfl bsamesel_ent [selZV, selZV] ?_ _ (HZ.out _) ?_
      . go_simp
      rintro e w3 ⟨rfl, hbel⟩
      refine ⟨_, rfl, ?_⟩
      have Hb3 := Lib.hid (Below.and (w0 := w0) Hb2.out hbel)
      clear hbel))
  all_goals
   go_wp2_with fail
   go_meet
   case rel =>
    refine ⟨rfl, rfl, w3.heap.size, rfl, by simp, ?_, (Hb0.out.trans (Hb3.out.mono Hb0.out.size)).trans ((one_below w3 _).mono ?_)⟩
    . have h := At.fresh w3 [.int .u8 112, .bool (decide (0 < p.length)), .int .u8 116, .bool (decide (0 < d.length)), .int .u8 97, .bool (pos != 0), .int .u8 110, .bool (!sn), .int .u8 111, .bool (decide (0 < ol.length)), .int .u8 119, .bool false, .int .u8 120, .bool false, .int .u8 115, .bool false, .int .u8 115, .bool false] 262
      have hLL := HL.out
      clear HL
      subst hLL
      intro j hj
      have : j = 0 ∨ j = 1 ∨ j = 2 ∨ j = 3 ∨ j = 4 ∨ j = 5 ∨ j = 6 ∨ j = 7 ∨ j = 8 := by simp at hj; omega
      rcases this with rfl | rfl | rfl | rfl | rfl | rfl | rfl | rfl | rfl
      . exact ⟨h.cell 0 rfl, h.cell 1 rfl⟩
      . exact ⟨h.cell 2 rfl, h.cell 3 rfl⟩
      . exact ⟨h.cell 4 rfl, h.cell 5 rfl⟩
      . exact ⟨h.cell 6 rfl, h.cell 7 rfl⟩
      . exact ⟨h.cell 8 rfl, h.cell 9 rfl⟩
      . exact ⟨h.cell 10 rfl, h.cell 11 rfl⟩
      . exact ⟨h.cell 12 rfl, h.cell 13 rfl⟩
      . exact ⟨h.cell 14 rfl, h.cell 15 rfl⟩
      . exact ⟨h.cell 16 rfl, h.cell 17 rfl⟩
    . exact Nat.le_trans Hb0.out.size Hb3.out.size
 case rest =>
  obtain ⟨rfl, rfl, b, rfl, hb, hcell, hbel⟩ := hcut
  have Hcell := Lib.hid hcell; have Hbel := Lib.hid hbel; have Hbw := Lib.hid hb; have HLl := Lib.hid hLl
  clear hcell hbel HS0 HN HZ HL hb hLl
  go_wp2_with fail
  go_loopg [55, 3, 5] 9 (fun g i v _ wr => ∃ j : Nat, i = .int .i64 j /\ j + g = 9 /\ wr.ownsRow wc.heap.size 5 1 v (onB (L.take j)).length ((onB (L.take j)).map fun c => Value.int .u8 c.toNat) /\ Below wc.heap.size wc wr)
  case atStart => exact ⟨0, rfl, rfl, World.ownsRow_nil _ _ _ _, Below.refl _ _⟩
  case round =>
   obtain ⟨j, rfl, hg, hown, hbr⟩ := hrel
   by_cases hlt : j < 9
   . have hlti : (j : Int) < 9 := by omega
     have hjL : j < L.length := by have := HLl.out; omega
     obtain ⟨h0, h1⟩ := Hcell.out j hjL
     have g0 := (hbr.cell (p := ⟨b, j * 2, none⟩) Hbw.out).trans h0
     have g1 := (hbr.cell (p := ⟨b, j * 2 + 1, none⟩) Hbw.out).trans h1
     have hT := onB_take hjL
     have hbl : b < wr.heap.size := Nat.lt_of_lt_of_le Hbw.out hbr.size
     generalize L[j].1 = c at g0 hT h0
     generalize L[j].2 = bb at g1 hT h1
     have HT := Lib.hid hT; have Hown := Lib.hid hown; have Hbr := Lib.hid hbr
     clear hT hown hbr h0 h1
     cases bb with
     | false =>
       go_wp2_with fail
       go_roundg (9 - (j + 1))
       case measure => omega
       case rel =>
        have h := HT.out
        rw [if_neg (by decide)] at h
        exact ⟨j + 1, by go_num, by omega, by rw [h]; exact own_keep Hown.out (one_below _ _), Hbr.out.trans ((one_below _ _).mono Hbr.out.size)⟩
     | true =>
       have hol : (onB (L.take j)).length <= 9 := by
        unfold onB
        rw [List.length_map]
        have h2 := HLl.out
        exact Nat.le_trans (List.length_filter_le _ _) (by rw [List.length_take]; omega)
       go_wp2_with ((at_builtin; refine wpList_app rfl _ _ 211 rfl wc.heap.size 5 (.int .u8 0) 1 1 Tryz.underlying211 info_u8S rfl (by decide) _ _ _ rfl (own_keep (own_keep Hown.out (one_below _ _)) (one_below _ _)) _ 1 1 (wr.heap.size + 2) [.int .u8 c.toNat] rfl ?hr ?h63 ?hb ?hbase ?_))
       case hr =>
        have hsz : (wr.alloc (Obj.cells #[.int .u8 c.toNat, .bool true] 262)).heap.size = wr.heap.size + 1 := by simp
        have h := row_one (wr.alloc (Obj.cells #[.int .u8 c.toNat, .bool true] 262)) (.int .u8 c.toNat) 5 (wr.heap.size + 2) rfl (by rw [hsz]; omega)
        rw [hsz] at h
        exact h
       case h63 => unfold maxLen; omega
       case hb => omega
       case hbase => have := Hbr.out.size; simp; omega
       intro v' w2 hown' hgrow
       have Hown2 := Lib.hid hown'
       have Hb2 := Lib.hid (show Below wc.heap.size wr w2 from (((Below.refl wc.heap.size wr).alloc Hbr.out.size _).alloc (Nat.le_trans Hbr.out.size (by simp)) _).grown hgrow (by have := Hbr.out.size; simp; omega) (fun k hk => (Hown.out.lt k hk).1))
       clear hown' hgrow
       go_wp2_with fail
       go_roundg (9 - (j + 1))
       case measure => omega
       case rel =>
        have h := HT.out
        rw [if_pos trivial] at h
        refine ⟨j + 1, by go_num, by omega, ?_, Hbr.out.trans Hb2.out⟩
        rw [h, List.length_append, List.map_append]
        exact Hown2.out
   . obtain rfl : j = 9 := by omega
     have ht : L.take 9 = L := List.take_of_length_le (by have := HLl.out; omega)
     rw [ht] at hown
     have hne2 : ((onB L).map fun c => Value.int .u8 c.toNat) ≠ [] := fun e => HLne.out (List.map_eq_nil_iff.1 e)
     obtain ⟨va, vc, rfl, -⟩ := row_of_own hown (by intro u hu; obtain ⟨z, -, rfl⟩ := List.mem_map.1 hu; rfl)
     obtain ⟨g1, rfl, -⟩ := own_some hown hne2
     have hcv := bytes_string (P := Tryz.prog) (w := wr) (src := 211) (dst := 9) Tryz.underlying211 Tryz.underlying5 Tryz.underlying9 g1 0 (onB L).length vc (onB L) rfl (fun k hk => by
      rw [Nat.zero_add]
      refine own_at hown k _ ?_
      rw [List.getElem?_map, List.getElem?_eq_getElem hk, List.getD_eq_getElem?_getD, List.getElem?_eq_getElem hk]; rfl)
     have Hbr := Lib.hid hbr
     have Hbe := Lib.hid (Hbel.out.trans (hbr.mono Hbel.out.size))
     clear hown hne2 hbr ht
     go_wp2_with fail
     go_ret
     exact ⟨rfl, Hbe.out⟩
end Go.Proofs.YtbommcakcmhalaaGreatDoor
/- Walks: slices.Contains at bytes; back.Form, where it is right. -/
namespace Go.Proofs.YtbommcakcmhalaaGreatDoor
open Go.RowKit Go.Redl
theorem conv_bytesF (s : List UInt8) (w : World) : ∃ cap wb, (convert 9 211 (.string ⟨s.toArray⟩)).run Tryz.prog w = .ok (.slice (some ⟨w.heap.size, 0, none⟩) s.length cap) wb /\ Below w.heap.size w wb /\ w.heap.size < wb.heap.size /\
 ∀ j, j < s.length -> wb.cell? ⟨w.heap.size, j, none⟩ = some (.int .u8 (s.getD j 0).toNat) := by
 refine ⟨_, _, Lib.run_convert_string_bytes w 9 211 5 ⟨s.toArray⟩ Tryz.underlying9 Tryz.underlying211 Tryz.underlying5, ?_, ?_, fun j hj => ?_⟩
 . exact ⟨rfl, rfl, rfl, by rw [Lib.bytesWorld_size]; omega, fun k hk => Lib.bytesWorld_at_old w _ _ k hk⟩
 . rw [Lib.bytesWorld_size]; omega
 . have := Lib.bytesWorld_cell w 5 ⟨s.toArray⟩ j hj
   simpa using this
theorem bindex_c (L : List UInt8) (c : UInt8) (b cap : Nat) (W : World) (hc : ∀ j, j < L.length -> W.cell? ⟨b, j, none⟩ = some (.int .u8 (L.getD j 0).toNat)) (hn : L.length <= 1000) :
 Calls Tryz.prog 236 #[.slice (some ⟨b, 0, none⟩) L.length cap, .int .u8 c.toNat] W (fun e w' => (∃ z : Int, e = .returned (.int .i64 z) /\ decide (0 <= z) = decide (c ∈ L)) /\ w' = W) := by
 have Hc := Lib.hid hc
 clear hc
 go_enter Tryz.func236, Tryz.ntmps236
 go_wp2_with fail
 go_loopg [8, 5] L.length (fun g i _ wr => ∃ j : Nat, i = .int .i64 j /\ j + g = L.length /\ Hid (∀ k, k < j -> L.getD k 0 ≠ c) /\ wr = W)
 case atStart => exact ⟨0, rfl, by omega, Lib.hid (fun k hk => by omega), rfl⟩
 case round =>
  obtain ⟨j, rfl, hg, Hk, rfl⟩ := hrel
  by_cases hlt : j < L.length
  . have hlti : (j : Int) < L.length := by omega
    have x0 := Hc.out j hlt
    have hmem : L.getD j 0 ∈ L := by rw [List.getD_eq_getElem?_getD, List.getElem?_eq_getElem hlt]; exact List.getElem_mem hlt
    have hy0 : Hid (L.getD j 0 = L.getD j 0) := Lib.hid rfl
    generalize hy : L.getD j 0 = y at x0 hmem
    have Hy := Lib.hid hy
    clear hy hy0
    by_cases he : y = c
    . have hb : ((c.toNat : Int) == (y.toNat : Int)) = true := by rw [he]; simp
      have Hm := Lib.hid (show c ∈ L by rw [<- he]; exact hmem)
      clear he hmem
      go_wp2_with fail
      go_ret
      exact ⟨⟨j, rfl, by rw [decide_eq_true Hm.out]; simp⟩, rfl⟩
    . have hb : ((c.toNat : Int) == (y.toNat : Int)) = false := by
       rw [beq_eq_false_iff_ne]
       intro e
       exact he (UInt8.toNat_inj.1 (by omega))
      have He := Lib.hid he
      clear he hmem
      go_wp2_with fail
      go_roundg (L.length - (j + 1))
      case measure => omega
      case rel => exact ⟨j + 1, by go_num, by omega, Lib.hid (fun k hk => by
       rcases Nat.lt_or_ge k j with h | h
       . exact Hk.out k h
       . obtain rfl : k = j := by omega
         exact fun e => He.out (Hy.out.symm.trans e)), rfl⟩
  . obtain rfl : j = L.length := by omega
    have Hm := Lib.hid (show c ∉ L from fun h => by
     obtain ⟨k, hk, e⟩ := List.mem_iff_getElem.1 h
     exact Hk.out k hk (by rw [List.getD_eq_getElem?_getD, List.getElem?_eq_getElem hk]; exact e))
    go_wp2_with fail
    go_ret
    exact ⟨⟨-1, rfl, by rw [decide_eq_false Hm.out]; rfl⟩, rfl⟩
theorem bcont_c (L : List UInt8) (c : UInt8) (b cap : Nat) (W : World) (hc : ∀ j, j < L.length -> W.cell? ⟨b, j, none⟩ = some (.int .u8 (L.getD j 0).toNat)) (hn : L.length <= 1000) :
 Calls Tryz.prog 183 #[.slice (some ⟨b, 0, none⟩) L.length cap, .int .u8 c.toNat] W (fun e w' => e = .returned (.bool (decide (c ∈ L))) /\ w' = W) := by
 have HI := Lib.hid (bindex_c L c b cap W hc hn)
 generalize decide (c ∈ L) = r at HI ⊢
 clear hc
 go_enter Tryz.func183, Tryz.ntmps183
 go_wp2_with fail
 refine HI.out.mono ?_
 rintro e w1 ⟨⟨z, rfl, hz⟩, rfl⟩
 have Hz := Lib.hid hz
 clear HI hz
 go_wp2_with fail
 go_ret
 exact ⟨ret_bool Hz.out, rfl⟩
end Go.Proofs.YtbommcakcmhalaaGreatDoor
/- Walks: back.Form, where it is right. -/
namespace Go.Proofs.YtbommcakcmhalaaGreatDoor
open Go.RowKit Go.Redl
abbrev hasLst : List (Int × Value) := [(1, .string ⟨#[112,110]⟩), (2, .string ⟨#[112,110]⟩), (3, .string ⟨#[112,97,111]⟩), (4, .string ⟨#[112,97,119]⟩), (5, .string ⟨#[112,116]⟩), (6, .string ⟨#[112,111,119]⟩), (7, .string ⟨#[112,97,120]⟩), (8, .string ⟨#[112,97,120]⟩), (9, .string ⟨#[115]⟩)]
theorem has_ent : ∀ args w, (callFunc 181 args).run Tryz.prog w = .ok (.enter 181 args) w := by intro args w; kernel_rfl
theorem form_ok (p d : List Int) (kd pos : Int) (nd : NodeD) (ol : List PropD) (pa ta oa : Option Addr) (pc tc oc : Nat) (l0 : Bool) (a1 a2 a3 : Option Addr) (m1 m2 m3 c1 c2 c3 : Nat) (W : World) (hbig : nd.wt <= 100000000) (hn : NodeV W W.heap.size nd (.agg #[.bool l0, .slice a1 m1 c1, .slice a2 m2 c2, .slice a3 m3 c3])) (hne : p ≠ [])
 (fs : List UInt8) (hfs : askM hasLst kd (.string ⟨#[]⟩) = (.string ⟨fs.toArray⟩, true)) (hfl : fs.length <= 1000) (hall : ∀ c ∈ onB (setL9 p d pos nd ol), c ∈ fs) :
 Calls Tryz.prog 125 #[.agg #[.int .i64 kd, .slice pa p.length pc, .slice ta d.length tc, .int .i64 pos, .bool l0, .slice a1 m1 c1, .slice a2 m2 c2, .slice a3 m3 c3, .slice oa ol.length oc, .slice none 0 0, .slice none 0 0, .bool false, .slice none 0 0, .int .i64 0, .slice none 0 0, .int .i64 0, .bool false, .slice none 0 0, .int .i64 0, .slice none 0 0, .int .i64 0]] W (fun e w' => e = .returned (.int .i64 0) /\ Below W.heap.size W w') := by
 obtain ⟨w0, hw0⟩ : ∃ w0, w0 = W.alloc (Obj.cells #[.int .i64 kd, .slice pa p.length pc, .slice ta d.length tc, .int .i64 pos, .bool l0, .slice a1 m1 c1, .slice a2 m2 c2, .slice a3 m3 c3, .slice oa ol.length oc, .slice none 0 0, .slice none 0 0, .bool false, .slice none 0 0, .int .i64 0, .slice none 0 0, .int .i64 0, .bool false, .slice none 0 0, .int .i64 0, .slice none 0 0, .int .i64 0] 63) := ⟨_, rfl⟩
 have hb0 : Below W.heap.size W w0 := by rw [hw0]; exact one_below _ _
 have hA : At w0 W.heap.size [.int .i64 kd, .slice pa p.length pc, .slice ta d.length tc, .int .i64 pos, .bool l0, .slice a1 m1 c1, .slice a2 m2 c2, .slice a3 m3 c3, .slice oa ol.length oc, .slice none 0 0, .slice none 0 0, .bool false, .slice none 0 0, .int .i64 0, .slice none 0 0, .int .i64 0, .bool false, .slice none 0 0, .int .i64 0, .slice none 0 0, .int .i64 0] 63 := by rw [hw0]; exact At.fresh W _ _
 have HS0 := Lib.hid (fun (w' : World) (hb : Below w0.heap.size w0 w') => (hA.kept hb).cell 0 rfl)
 have HA := Lib.hid hA
 have HB := Lib.hid (fun (w' : World) (hb : Below w0.heap.size w0 w') => bset_c p d kd pos nd ol pa ta oa pc tc oc l0 a1 a2 a3 m1 m2 m3 c1 c2 c3 w' hbig (by obtain ⟨cs, he, hc⟩ := hn; exact ⟨cs, he, NodeC.keep (hb0.trans (hb.mono hb0.size)) (hb0.trans (hb.mono hb0.size)).size _ _ hc⟩) hne)
 have hLl : (onB (setL9 p d pos nd ol)).length <= 9 := by
  unfold onB
  rw [List.length_map]
  exact Nat.le_trans (List.length_filter_le _ _) (by unfold setL9; simp)
 have HAll := Lib.hid hall
 generalize onB (setL9 p d pos nd ol) = L at HB HAll hLl
 have hzs : ∀ w, (zeroValue 9).run Tryz.prog w = .ok (.string ⟨#[]⟩) w := by intro w; kernel_rfl
 have HAK := Lib.hid (fun (w : World) (b : Nat) (hm : MapAt w b hasLst) => run_ask (P := Tryz.prog) (K := 3) hm Tryz.underlying209 Tryz.underlying3 (.string ⟨#[]⟩) hzs kd (by decide))
 rw [hfs] at HAK
 have Hb0 := Lib.hid hb0; have Hw0 := Lib.hid hw0
 clear hn hA hb0 hw0 hzs hfs hall hne
 go_enter Tryz.func125, Tryz.ntmps125
 go_upto_region 1 with fail
 rw [<- Hw0.out]
 clear Hw0
 go_cut [3, 4] (fun f b wx => f = .string ⟨fs.toArray⟩ /\ b = .bool true /\ Below w0.heap.size w0 wx)
 case first =>
  go_region_held3 (fun w' => w'.cell? ⟨W.heap.size, 0, none⟩ = some (.int .i64 kd)) (refine HS0.out _ (by ((repeat (first | with_reducible exact Hb1.out | with_reducible exact Below.refl _ _ | with_reducible refine Below.drew ?_ | with_reducible refine Below.alloc ?_ ?_ _ | with_reducible refine Below.setCell ?_ ?_ _)) <;> (first | with_reducible exact Nat.le_refl _ | with_reducible exact Hb1.out.size | (have hsz := Hb1.out.size; simp [World.setCell]; omega) | (simp; done) | (simp; omega) | omega))))
   (first
   | (refine step_call rfl 181 _ _ rfl has_ent [] ?_ _ (has_c _) ?_
      . go_simp
      rintro e w1 ⟨rfl, hm, hbel⟩
      refine ⟨_, rfl, ?_⟩
      have ha : (Instr.lookup 209 (.map (some w0.heap.size)) (.int .i64 kd) true).run Tryz.prog w1 = .ok (.tuple #[.string ⟨fs.toArray⟩, .bool true]) w1 := HAK.out _ _ hm
      have Hb1 := Lib.hid (Below.and (w0 := w0) (by ((repeat (first | with_reducible exact Below.refl _ _ | with_reducible refine Below.drew ?_ | with_reducible refine Below.alloc ?_ ?_ _ | with_reducible refine Below.setCell ?_ ?_ _)) <;> (first | with_reducible exact Nat.le_refl _ | (simp; done) | (simp; omega) | omega))) hbel)
      clear hbel hm))
  all_goals
   go_wp2_with fail
   go_meet
   case rel => exact ⟨rfl, rfl, Hb1.out⟩
 case rest =>
  obtain ⟨rfl, rfl, hbc⟩ := hcut
  have Hb1 := Lib.hid hbc
  clear hbc
  go_upto_region 4 with fail
  have hA1 := HA.out.kept Hb1.out
  have hl1 := At.load (P := Tryz.prog) hA1 Tryz.underlying63 rfl (by kernel_rfl)
  simp [go_sem] at hl1
  have HB1 := Lib.hid (HB.out _ Hb1.out)
  clear hA1
  go_wp2_with fail
  refine HB1.out.mono ?_
  rintro e w2 ⟨rfl, hbel⟩
  obtain ⟨cap, wb, hcv, hbb, hlt, hcell⟩ := conv_bytesF L w2
  have Hb2 := Lib.hid (((Hb0.out.trans (Hb1.out.mono Hb0.out.size)).trans (hbel.mono (Nat.le_trans Hb0.out.size Hb1.out.size))).trans (hbb.mono (Nat.le_trans (Nat.le_trans Hb0.out.size Hb1.out.size) hbel.size)))
  have Hcell := Lib.hid hcell; have Hlt := Lib.hid hlt
  clear HB1 hbel hbb hcell hlt hl1
  go_wp2_with fail
  clear hcv
  go_loopg [20, 6] L.length (fun g i _ wr => ∃ j : Nat, i = .int .i64 j /\ j + g = L.length /\ Below wb.heap.size wb wr)
  case atStart => exact ⟨0, rfl, by omega, Below.refl _ _⟩
  case round =>
   obtain ⟨j, rfl, hg, hbr⟩ := hrel
   by_cases hj : j < L.length
   . have hji : (j : Int) < L.length := by omega
     have x0 := (hbr.cell (p := ⟨w2.heap.size, j, none⟩) Hlt.out).trans (Hcell.out j hj)
     have hmem : L.getD j 0 ∈ L := by rw [List.getD_eq_getElem?_getD, List.getElem?_eq_getElem hj]; exact List.getElem_mem hj
     generalize L.getD j 0 = y at x0 hmem
     have hf := HAll.out y hmem
     have hxl : w2.heap.size < wr.heap.size := Nat.lt_of_lt_of_le Hlt.out hbr.size
     obtain ⟨cap2, wb2, hcv2, hbb2, hlt2, hcell2⟩ := conv_bytesF fs wr
     have HC := Lib.hid (bcont_c fs y wr.heap.size cap2 wb2 hcell2 hfl)
     rw [decide_eq_true hf] at HC
     have Hbn := Lib.hid (hbr.trans (hbb2.mono hbr.size))
     clear hmem hf hbb2 hlt2 hcell2 hbr
     go_wp2_with fail
     refine HC.out.mono ?_
     rintro e w5 ⟨rfl, rfl⟩
     clear HC hcv2
     go_wp2_with fail
     go_roundg (L.length - (j + 1))
     case measure => omega
     case rel => exact ⟨j + 1, by go_num, by omega, Hbn.out⟩
   . obtain rfl : j = L.length := by omega
     have Hbe := Lib.hid (Hb2.out.trans (hbr.mono Hb2.out.size))
     clear hbr
     go_wp2_with fail
     go_ret
     exact ⟨rfl, Hbe.out⟩
end Go.Proofs.YtbommcakcmhalaaGreatDoor
/- Walks: op.may, where something can be done with no selection. -/
namespace Go.Proofs.YtbommcakcmhalaaGreatDoor
open Go.RowKit Go.Redl
theorem may_ok (n : NodeD) (p d : List Int) (kd pos : Int) (nd : NodeD) (ol : List PropD) (b1 b2 b3 : Option Addr) (o1 o2 o3 d1 d2 d3 : Nat) (pa ta oa : Option Addr) (pc tc oc : Nat) (l0 : Bool) (a1 a2 a3 : Option Addr) (m1 m2 m3 c1 c2 c3 : Nat) (W : World)
 (hbn : n.wt <= 1048576) (hv : NodeV W W.heap.size n (.agg #[.bool false, .slice b1 o1 d1, .slice b2 o2 d2, .slice b3 o3 d3])) (hE : nodeE n = 0)
 (hbig : nd.wt <= 100000000) (hn : NodeV W W.heap.size nd (.agg #[.bool l0, .slice a1 m1 c1, .slice a2 m2 c2, .slice a3 m3 c3])) (hne : p ≠ [])
 (fs : List UInt8) (hfs : askM hasLst kd (.string ⟨#[]⟩) = (.string ⟨fs.toArray⟩, true)) (hfl : fs.length <= 1000) (hall : ∀ c ∈ onB (setL9 p d pos nd ol), c ∈ fs) :
 Calls Tryz.prog 69 #[.agg #[.bool false, .slice b1 o1 d1, .slice b2 o2 d2, .slice b3 o3 d3], selZV, .agg #[.int .i64 kd, .slice pa p.length pc, .slice ta d.length tc, .int .i64 pos, .bool l0, .slice a1 m1 c1, .slice a2 m2 c2, .slice a3 m3 c3, .slice oa ol.length oc, .slice none 0 0, .slice none 0 0, .bool false, .slice none 0 0, .int .i64 0, .slice none 0 0, .int .i64 0, .bool false, .slice none 0 0, .int .i64 0, .slice none 0 0, .int .i64 0]] W (fun e w' => e = .returned (.int .i64 0) /\ Below W.heap.size W w') := by
 obtain ⟨w0, hw0⟩ : ∃ w0, w0 = ((W.alloc (Obj.cells #[.bool false, .slice b1 o1 d1, .slice b2 o2 d2, .slice b3 o3 d3] 35)).alloc (Obj.cells #[.bool false, .slice none 0 0, .int .i64 0, .slice none 0 0, .int .i64 0] 61)).alloc (Obj.cells #[.int .i64 kd, .slice pa p.length pc, .slice ta d.length tc, .int .i64 pos, .bool l0, .slice a1 m1 c1, .slice a2 m2 c2, .slice a3 m3 c3, .slice oa ol.length oc, .slice none 0 0, .slice none 0 0, .bool false, .slice none 0 0, .int .i64 0, .slice none 0 0, .int .i64 0, .bool false, .slice none 0 0, .int .i64 0, .slice none 0 0, .int .i64 0] 63) := ⟨_, rfl⟩
 have hb0 : Below W.heap.size W w0 := by rw [hw0]; exact three_below _ _ _ _
 have hA : At w0 W.heap.size [.bool false, .slice b1 o1 d1, .slice b2 o2 d2, .slice b3 o3 d3] 35 := by rw [hw0]; exact ((At.fresh W _ _).alloc _).alloc _
 have hB : At w0 (W.heap.size + 1) [.bool false, .slice none 0 0, .int .i64 0, .slice none 0 0, .int .i64 0] 61 := by rw [hw0]; exact (At.second W _ _ _).alloc _
 have hC : At w0 (W.heap.size + 1 + 1) [.int .i64 kd, .slice pa p.length pc, .slice ta d.length tc, .int .i64 pos, .bool l0, .slice a1 m1 c1, .slice a2 m2 c2, .slice a3 m3 c3, .slice oa ol.length oc, .slice none 0 0, .slice none 0 0, .bool false, .slice none 0 0, .int .i64 0, .slice none 0 0, .int .i64 0, .bool false, .slice none 0 0, .int .i64 0, .slice none 0 0, .int .i64 0] 63 := by rw [hw0]; exact At.third W _ _ _ _
 have HV := Lib.hid (fun (w' : World) (hb : Below w0.heap.size w0 w') => (show NodeV w' w'.heap.size n (.agg #[.bool false, .slice b1 o1 d1, .slice b2 o2 d2, .slice b3 o3 d3]) by obtain ⟨cs, he, hc⟩ := hv; exact ⟨cs, he, NodeC.keep (hb0.trans (hb.mono hb0.size)) (hb0.trans (hb.mono hb0.size)).size _ _ hc⟩))
 have HF := Lib.hid (fun (w' : World) (hb : Below w0.heap.size w0 w') => form_ok p d kd pos nd ol pa ta oa pc tc oc l0 a1 a2 a3 m1 m2 m3 c1 c2 c3 w' hbig (by obtain ⟨cs, he, hc⟩ := hn; exact ⟨cs, he, NodeC.keep (hb0.trans (hb.mono hb0.size)) (hb0.trans (hb.mono hb0.size)).size _ _ hc⟩) hne fs hfs hfl hall)
 have hck := ncheck_c n _ w0.heap.size w0 hbn (HV.out w0 (Below.refl _ _)) (Nat.le_refl _)
 rw [hE] at hck
 have HCk := Lib.hid hck
 have HA := Lib.hid hA; have HB := Lib.hid hB; have HC := Lib.hid hC
 have Hb0 := Lib.hid hb0; have Hw0 := Lib.hid hw0
 obtain ⟨y0, y1, y2, y3, -, -⟩ := NodeAt.facts hA
 clear hv hn hA hB hC hb0 hw0 hfs hall hne hck
 go_enter Tryz.func69, Tryz.ntmps69
 go_upto_region 1 with fail
 rw [<- Hw0.out]
 clear Hw0
 go_wp2_with fail
 refine HCk.out.mono ?_
 rintro e w1 ⟨rfl, hb1⟩
 have hA1 := HA.out.kept hb1
 obtain ⟨z0, z1, z2, z3, -, -⟩ := NodeAt.facts hA1
 obtain ⟨⟨s0, s1, s2, s3, s4⟩, -, -⟩ := (HB.out.kept hb1).f5
 have HS := Lib.hid (checkselZ_c _ n w1 (HV.out w1 hb1))
 have Hb1 := Lib.hid hb1
 clear HCk hb1 hA1 y0 y1 y2 y3
 go_wp2_with fail
 refine HS.out.mono ?_
 rintro e w2 ⟨rfl, hb2⟩
 have hb02 := Hb1.out.trans (hb2.mono Hb1.out.size)
 have hl := At.load (P := Tryz.prog) (HC.out.kept hb02) Tryz.underlying63 rfl (by kernel_rfl)
 simp [go_sem] at hl
 have HF2 := Lib.hid (HF.out w2 hb02)
 have Hb2 := Lib.hid (Hb0.out.trans (hb02.mono Hb0.out.size))
 clear HS hb2 hb02 z0 z1 z2 z3 s0 s1 s2 s3 s4
 go_wp2_with fail
 refine HF2.out.mono ?_
 rintro e w3 ⟨rfl, hb3⟩
 have Hb3 := Lib.hid (Hb2.out.trans (hb3.mono Hb2.out.size))
 clear HF2 hb3 hl
 go_wp2_with fail
 go_ret
 exact ⟨rfl, Hb3.out⟩
end Go.Proofs.YtbommcakcmhalaaGreatDoor
/- Walks: op.length; a node to whose rows others are put. -/
namespace Go.Proofs.YtbommcakcmhalaaGreatDoor
open Go.RowKit Go.Redl
theorem length_ent : ∀ args w, (callFunc 190 args).run Tryz.prog w = .ok (.enter 190 args) w := by intro args w; kernel_rfl
theorem length_c (n : NodeD) (v : Value) (W : World) (hv : NodeV W W.heap.size n v) :
 Calls Tryz.prog 190 #[v] W (fun e w' => e = .returned (.int .i64 (lengthN n)) /\ Below W.heap.size W w') := by
 obtain ⟨l, ps, t, ks⟩ := n
 obtain ⟨ap, cp, at_, ct, ak, ck, css, rfl, hp, ht, hk, hkk⟩ := hv.open
 clear hv hp ht hk hkk
 have hl : lengthN (.mk l ps t ks) = if l then t.length else ks.length := rfl
 rw [hl]
 cases l
 all_goals
  go_enter Tryz.func190, Tryz.ntmps190
  go_wp2_with fail
  go_ret
  exact ⟨rfl, one_below _ _⟩
/-- A node whose text and Kids lie in rows of its own, apart from each other and from block N. -/
def NodeX (w : World) (M N : Nat) : NodeD -> List Value -> Prop
 | .mk l ps t ks, cs => ∃ (ap : Option Addr) (cp : Nat) (at_ : Option Addr) (ct : Nat) (ak : Option Addr) (ck : Nat) (css : List Value), cs = [.bool l, .slice ap ps.length cp, .slice at_ t.length ct, .slice ak ks.length ck] /\
     RowQ w (fun b => b ≠ N /\ (Value.slice ak ks.length ck).ownBlock ≠ some b /\ (Value.slice at_ t.length ct).ownBlock ≠ some b) 2 ap ps.length cp (propCells ps) /\ w.ownsRow M 21 1 (.slice at_ t.length ct) t.length (t.map (Value.int .i32)) /\ (∀ z ∈ t, (Lit.int .i32 z).wf = true) /\
     w.ownsRow M 35 4 (.slice ak ks.length ck) ks.length css /\ KidsQ w (fun b => b ≠ N /\ (Value.slice ak ks.length ck).ownBlock ≠ some b /\ (Value.slice at_ t.length ct).ownBlock ≠ some b) ks css /\ (∀ b, (Value.slice at_ t.length ct).ownBlock = some b -> b ≠ N /\ (Value.slice ak ks.length ck).ownBlock ≠ some b) /\ (Value.slice ak ks.length ck).ownBlock ≠ some N
theorem NodeX.of {w w' : World} {M N : Nat} {n : NodeD} {cs : List Value} (h : NodeO w M n cs) (hN : w.heap.size <= N) (hb : Below w.heap.size w w') : NodeX w' M N n cs := by
 obtain ⟨l, ps, t, ks⟩ := n
 unfold NodeO at h
 unfold NodeX
 obtain ⟨ap, cp, at_, ct, ak, ck, css, h1, h2, h3, h4, h5, h6, h7⟩ := h
 exact ⟨ap, cp, at_, ct, ak, ck, css, h1, h2.keep hb.size (fun b _ hlt => hb.block b hlt) (fun b h hlt => ⟨by omega, h.2⟩), own_keep h3 hb, h4, own_keep h5 hb, KidsQ.keep hb.size (fun b _ hlt => hb.block b hlt) (fun b h hlt => ⟨by omega, h.2⟩) _ _ h6, fun b h => ⟨by have := (h3.lt b h).2; omega, h7 b h⟩, fun h => by have := (h5.lt N h).2; omega⟩
theorem NodeX.set {w : World} {M N o : Nat} {n : NodeD} {cs : List Value} {u : Value} (h : NodeX w M N n cs) : NodeX (w.setCell ⟨N, o, none⟩ u) M N n cs := by
 obtain ⟨l, ps, t, ks⟩ := n
 unfold NodeX at h ⊢
 obtain ⟨ap, cp, at_, ct, ak, ck, css, h1, h2, h3, h4, h5, h6, h7, h8⟩ := h
 have hh : ∀ b, b ≠ N -> (w.setCell ⟨N, o, none⟩ u).heap[b]? = w.heap[b]? := fun b hb => Below.heap_setCell w ⟨N, o, none⟩ u b hb
 exact ⟨ap, cp, at_, ct, ak, ck, css, h1, h2.keep (by simp [World.setCell]) (fun b hb _ => hh b hb.1) (fun _ hb _ => hb), own_set_ne h3 (fun e => (h7 N e).1 rfl), h4, own_set_ne h5 h8, KidsQ.keep (by simp [World.setCell]) (fun b hb _ => hh b hb.1) (fun _ hb _ => hb) _ _ h6, h7, h8⟩
theorem NodeX.drew {w : World} {M N : Nat} {n : NodeD} {cs : List Value} (h : NodeX w M N n cs) : NodeX w.drew M N n cs := by
 obtain ⟨l, ps, t, ks⟩ := n
 unfold NodeX at h ⊢
 obtain ⟨ap, cp, at_, ct, ak, ck, css, h1, h2, h3, h4, h5, h6, h7, h8⟩ := h
 have hb : Below w.heap.size w w.drew := (Below.refl _ _).drew
 exact ⟨ap, cp, at_, ct, ak, ck, css, h1, h2.keep hb.size (fun b _ hlt => hb.block b hlt) (fun _ h _ => h), own_keep h3 hb, h4, own_keep h5 hb, KidsQ.keep hb.size (fun b _ hlt => hb.block b hlt) (fun _ h _ => h) _ _ h6, h7, h8⟩
theorem NodeX.q {w : World} {M N : Nat} {n : NodeD} {cs : List Value} (h : NodeX w M N n cs) : NodeQ w (fun b => True) n cs := by
 obtain ⟨l, ps, t, ks⟩ := n
 unfold NodeX at h
 unfold NodeQ
 obtain ⟨ap, cp, at_, ct, ak, ck, css, h1, h2, h3, h4, h5, h6, h7, h8⟩ := h
 obtain ⟨a1, c1, hv1, hr1⟩ := RowQ.of_own h3 (by intro u hu; obtain ⟨z, -, rfl⟩ := List.mem_map.1 hu; rfl)
 obtain ⟨a2, c2, hv2, hr2⟩ := RowQ.of_own h5 h6.onec
 injection hv1 with e1 e2 e3
 injection hv2 with g1 g2 g3
 subst e1; subst e3; subst g1; subst g3
 exact ⟨ap, cp, at_, ct, ak, ck, css, h1, h2.keep (Nat.le_refl _) (fun _ _ _ => rfl) (fun b hb _ => trivial), hr1.keep (Nat.le_refl _) (fun _ _ _ => rfl) (fun b hb _ => trivial), h4, hr2.keep (Nat.le_refl _) (fun _ _ _ => rfl) (fun b hb _ => trivial), KidsQ.keep (Nat.le_refl _) (fun _ _ _ => rfl) (fun b hb _ => trivial) _ _ h6⟩
theorem own_grown_ne {w w' : World} {M e sz n : Nat} {v : Value} {cs : List Value} {r : Option Nat} (h : w.ownsRow M e sz v n cs) (hg : w.grownBy w' r) (hne : ∀ b, v.ownBlock = some b -> r ≠ some b) : w'.ownsRow M e sz v n cs := by
 refine ⟨h.1, ?_⟩
 rcases h.2 with hn | ⟨k, cap, cur, hv, hb, hg2, hr⟩
 . exact .inl hn
 . refine .inr ⟨k, cap, cur, hv, hb, ?_, hr⟩
   have hlt := (h.lt k (by rw [hv]; rfl)).2
   rw [hg.block k hlt (fun e => hne k (by rw [hv]; rfl) e.symm)]
   exact hg2
/-- More text at an own row. -/
theorem NodeX.text {w w' : World} {M N : Nat} {l : Bool} {ps : List PropD} {t t2 : List Int} {ks : List NodeD} {pv tv kv tv' : Value} (h : NodeX w M N (.mk l ps t ks) [.bool l, pv, tv, kv]) (hN : N < w.heap.size) (ht2 : ∀ z ∈ t2, (Lit.int .i32 z).wf = true)
 (hown : w'.ownsRow M 21 1 tv' (t.length + t2.length) (t.map (Value.int .i32) ++ t2.map (Value.int .i32))) (hg : w.grownBy w' tv.ownBlock) (hw : tv'.ownBlock = tv.ownBlock ∨ ∀ k, tv'.ownBlock = some k -> w.heap.size <= k) :
 NodeX w' M N (.mk l ps (t ++ t2) ks) [.bool l, pv, tv', kv] := by
 unfold NodeX at h ⊢
 obtain ⟨ap, cp, at_, ct, ak, ck, css, h1, h2, h3, h4, h5, h6, h7, h8⟩ := h
 injection h1 with _ h1
 injection h1 with e1 h1
 injection h1 with e2 h1
 injection h1 with e3 h1
 subst e1; subst e2; subst e3
 have hs := hg.size
 rw [<- List.length_append, <- List.map_append] at hown
 obtain ⟨a', c', rfl, -⟩ := row_of_own hown (by intro u hu; obtain ⟨z, -, rfl⟩ := List.mem_map.1 hu; rfl)
 have hok : ∀ b, (b ≠ N /\ (Value.slice ak ks.length ck).ownBlock ≠ some b /\ (Value.slice at_ t.length ct).ownBlock ≠ some b) -> b < w.heap.size -> (b ≠ N /\ (Value.slice ak ks.length ck).ownBlock ≠ some b /\ (Value.slice a' (t ++ t2).length c').ownBlock ≠ some b) := fun b hb hlt => by
  refine ⟨hb.1, hb.2.1, ?_⟩
  rcases hw with e | e
  . rw [e]; exact hb.2.2
  . intro e2; have := e b e2; omega
 have hbl : ∀ b, (b ≠ N /\ (Value.slice ak ks.length ck).ownBlock ≠ some b /\ (Value.slice at_ t.length ct).ownBlock ≠ some b) -> b < w.heap.size -> w'.heap[b]? = w.heap[b]? := fun b hb hlt => hg.block b hlt (fun e => hb.2.2 e.symm)
 refine ⟨ap, cp, a', c', ak, ck, css, rfl, h2.keep hs hbl hok, hown, fun z hz => (List.mem_append.1 hz).elim (h4 z) (ht2 z), own_grown_ne h5 hg (fun b hb e => (h7 b e).2 hb), KidsQ.keep hs hbl hok _ _ h6, fun b hb => ?_, h8⟩
 rcases hw with e | e
 . exact h7 b (by rw [<- e]; exact hb)
 . have h9 := e b hb
   exact ⟨by omega, fun h => by have := (h5.lt b h).2; omega⟩
/-- More Kids at an own row. -/
theorem NodeX.kids {w w' : World} {M N : Nat} {l : Bool} {ps : List PropD} {t : List Int} {ks ks2 : List NodeD} {css2 : List Value} {pv tv kv kv' : Value} (h : NodeX w M N (.mk l ps t ks) [.bool l, pv, tv, kv]) (hN : N < w.heap.size) (hM : M <= N) (hk2 : KidsQ w (fun b => b < M) ks2 css2)
 (hown : ∀ css, css.length = ks.length * 4 -> w.ownsRow M 35 4 kv ks.length css -> w'.ownsRow M 35 4 kv' (ks.length + ks2.length) (css ++ css2)) (hg : w.grownBy w' kv.ownBlock) (hw : kv'.ownBlock = kv.ownBlock ∨ ∀ k, kv'.ownBlock = some k -> w.heap.size <= k) :
 NodeX w' M N (.mk l ps t (ks ++ ks2)) [.bool l, pv, tv, kv'] := by
 unfold NodeX at h ⊢
 obtain ⟨ap, cp, at_, ct, ak, ck, css, h1, h2, h3, h4, h5, h6, h7, h8⟩ := h
 injection h1 with _ h1
 injection h1 with e1 h1
 injection h1 with e2 h1
 injection h1 with e3 h1
 subst e1; subst e2; subst e3
 have hs := hg.size
 have hown := hown css (KidsQ.len' h6) h5
 have hq6 := h6
 have hkge : ∀ b, kv'.ownBlock = some b -> M <= b := fun b hb => (hown.lt b hb).1
 have htge : ∀ b, (Value.slice at_ t.length ct).ownBlock = some b -> M <= b := fun b hb => (h3.lt b hb).1
 have hkgeo : ∀ b, (Value.slice ak ks.length ck).ownBlock = some b -> M <= b := fun b hb => (h5.lt b hb).1
 have hone : ∀ u ∈ css ++ css2, u.oneCell' = true := fun u hu => (List.mem_append.1 hu).elim (h6.onec u) (hk2.onec u)
 rw [<- List.length_append] at hown
 obtain ⟨a', c', rfl, -⟩ := row_of_own hown hone
 have hok : ∀ b, (b ≠ N /\ (Value.slice ak ks.length ck).ownBlock ≠ some b /\ (Value.slice at_ t.length ct).ownBlock ≠ some b) -> b < w.heap.size -> (b ≠ N /\ (Value.slice a' (ks ++ ks2).length c').ownBlock ≠ some b /\ (Value.slice at_ t.length ct).ownBlock ≠ some b) := fun b hb hlt => by
  refine ⟨hb.1, ?_, hb.2.2⟩
  rcases hw with e | e
  . rw [e]; exact hb.2.1
  . intro e2; have := e b e2; omega
 have hbl : ∀ b, (b ≠ N /\ (Value.slice ak ks.length ck).ownBlock ≠ some b /\ (Value.slice at_ t.length ct).ownBlock ≠ some b) -> b < w.heap.size -> w'.heap[b]? = w.heap[b]? := fun b hb hlt => hg.block b hlt (fun e => hb.2.1 e.symm)
 refine ⟨ap, cp, at_, ct, a', c', css ++ css2, rfl, h2.keep hs hbl hok, own_grown_ne h3 hg (fun b hb e => (h7 b hb).2 e), h4, hown, KidsQ.append (KidsQ.keep hs hbl hok _ _ h6) (KidsQ.keep hs (fun b hb hlt => hg.block b hlt (fun e => by have := hkgeo b e.symm; omega)) (fun b hb hlt => ⟨by omega, fun e => by have := hkge b e; omega, fun e => by have := htge b e; omega⟩) _ _ hk2), fun b hb => ⟨(h7 b hb).1, ?_⟩, ?_⟩
 . rcases hw with e | e
   . rw [e]; exact (h7 b hb).2
   . intro e2; have := e b e2; have := (h3.lt b hb).2; omega
 . rcases hw with e | e
   . rw [e]; exact h8
   . intro e2; have := e N e2; omega
end Go.Proofs.YtbommcakcmhalaaGreatDoor
/- Walks: op.merged, where it can be done. -/
namespace Go.Proofs.YtbommcakcmhalaaGreatDoor
open Go.RowKit Go.Redl
theorem below_grown2 {M : Nat} {w w' : World} {e sz n : Nat} {v : Value} {cs : List Value} (hown : w.ownsRow M e sz v n cs) (hg : w.grownBy w' v.ownBlock) (hM : M <= w.heap.size) : Below M w w' := (Below.refl M w).grown hg hM (fun k hk => (hown.lt k hk).1)
theorem own_same {w : World} {M e sz n : Nat} {v : Value} {cs cs' : List Value} (h : w.ownsRow M e sz v n cs) (h' : w.ownsRow M e sz v n cs') : cs = cs' := by
 have hl := h.1; have hl' := h'.1
 rcases h.2 with ⟨rfl, rfl⟩ | ⟨g, cap, cur, rfl, hb, hg, hnc, hcm, hcs, htake⟩
 . rw [List.eq_nil_of_length_eq_zero (by omega : cs.length = 0), List.eq_nil_of_length_eq_zero (by omega : cs'.length = 0)]
 . rcases h'.2 with ⟨hv, _⟩ | ⟨g', cap', cur', hv, hb', hg', hnc', hcm', hcs', htake'⟩
   . cases hv
   . injection hv with e1 e2 e3
     injection e1 with e1
     injection e1 with e1 _ _
     subst e1
     rw [hg] at hg'
     injection hg' with hg'
     injection hg' with e4 _ _
     subst e4
     rw [<- htake, <- htake']
theorem NodeX.owns {w : World} {M N : Nat} {l : Bool} {ps : List PropD} {t : List Int} {ks : List NodeD} {pv tv kv : Value} (h : NodeX w M N (.mk l ps t ks) [.bool l, pv, tv, kv]) : w.ownsRow M 21 1 tv t.length (t.map (Value.int .i32)) /\ (∃ css, css.length = ks.length * 4 /\ w.ownsRow M 35 4 kv ks.length css) /\ tv.ownBlock ≠ some N /\ kv.ownBlock ≠ some N := by
 unfold NodeX at h
 obtain ⟨ap, cp, at_, ct, ak, ck, css, h1, h2, h3, h4, h5, h6, h7, h8⟩ := h
 injection h1 with _ h1
 injection h1 with e1 h1
 injection h1 with e2 h1
 injection h1 with e3 h1
 subst e1; subst e2; subst e3
 exact ⟨h3, ⟨css, KidsQ.len' h6, h5⟩, fun e => (h7 N e).1 rfl, h8⟩
theorem NodeX.form {w : World} {M N : Nat} {n : NodeD} {cs : List Value} (h : NodeX w M N n cs) : ∃ l a1 n1 c1 a2 n2 c2 a3 n3 c3, cs = [.bool l, .slice a1 n1 c1, .slice a2 n2 c2, .slice a3 n3 c3] := h.q.form
/-- A text put behind a node's own text, as a step of a region that draws. -/
theorem step_text {ops : Array Oper} {o : Oper} {a : Act} {w : World} {K : Act -> World -> Prop} {Q : Exit -> Act -> World -> Prop} {E : Prop}
 (hg : o.guard = none) (s x : Operand) (ho : o.op = .call { callee := .builtin .append, args := #[s, x], argTypes := #[32, 32] })
 (M N : Nat) (l : Bool) (ps : List PropD) (t t2 : List Int) (ks : List NodeD) (pv tv kv : Value) (hs : a.eval s = tv) (hX : NodeX w M N (.mk l ps t ks) [.bool l, pv, tv, kv]) (hN : N < w.heap.size) (hM : M <= N)
 (ya : Option Addr) (yc B : Nat) (hx : a.eval x = .slice ya t2.length yc) (hr : RowA w B 1 ya t2.length yc (t2.map (Value.int .i32))) (ht2 : ∀ z ∈ t2, (Lit.int .i32 z).wf = true) (hn : t.length + t2.length <= 200000000)
 (h : ∀ a' c' w', NodeX w' M N (.mk l ps (t ++ t2) ks) [.bool l, pv, .slice a' (t ++ t2).length c', kv] -> Below M w w' -> w'.heap[N]? = w.heap[N]? -> K (a.put o.dst (.slice a' (t ++ t2).length c')) w') : if Region.wanted o (yielded ops a.tmps) = true then Oper.wp Tryz.prog o a w K Q else E := by
 obtain ⟨hto, -, htn, -⟩ := hX.owns
 cases ya with
 | none =>
   have hc0 : yc = 0 := hr.nil rfl
   have hn0 : t2.length = 0 := by have := hr.le; omega
   obtain rfl : t2 = [] := List.eq_nil_of_length_eq_zero hn0
   subst hc0
   have hw : Region.wanted o (yielded ops a.tmps) = true := by simp [Region.wanted, hg]
   rw [if_pos hw]
   obtain ⟨i, hi', -, hsize, -⟩ := info_parts (P := Tryz.prog) info_int32
   have hrun := run_append_owned_none (P := Tryz.prog) (w := w) M 32 o.type 21 i 1 Tryz.underlying32 hi' tv t.length (t.map (Value.int .i32)) hto
   unfold Oper.wp execOp
   simp only [ho, resolve, invoke, builtin, Sem.run_bind, Sem.run_pure, Result.andThen_ok, List.map_toArray, List.map_cons, List.map_nil, hs, hx, List.length_nil, hrun]
   obtain ⟨a', c', rfl, -⟩ := row_of_own hto (by intro u hu; obtain ⟨z, -, rfl⟩ := List.mem_map.1 hu; rfl)
   have := h a' c' w (by rw [List.append_nil]; exact hX) (Below.refl _ _) rfl
   rw [List.append_nil] at this
   exact this
 | some ad =>
   refine step_app2 hg s x 32 ho M 21 (.int .i32 0) 1 4 Tryz.underlying32 info_int32 rfl (by decide) tv t.length (t.map (Value.int .i32)) hs hto ad t2.length yc B (t2.map (Value.int .i32)) hx hr (by unfold maxLen; omega) (by omega) (by omega) fun v' w' hown hgrow hwh => ?_
   have hX' := hX.text hN ht2 hown hgrow hwh
   rw [<- List.length_append, <- List.map_append] at hown
   obtain ⟨a', c', rfl, -⟩ := row_of_own hown (by intro u hu; obtain ⟨z, -, rfl⟩ := List.mem_map.1 hu; rfl)
   exact h a' c' w' hX' (below_grown2 hto hgrow (by omega)) (hgrow.block N hN (fun e => htn e.symm))
/-- Kids put behind a node's own Kids, as a step of a region that draws. -/
theorem step_kids {ops : Array Oper} {o : Oper} {a : Act} {w : World} {K : Act -> World -> Prop} {Q : Exit -> Act -> World -> Prop} {E : Prop}
 (hg : o.guard = none) (s x : Operand) (ho : o.op = .call { callee := .builtin .append, args := #[s, x], argTypes := #[33, 33] })
 (M N : Nat) (l : Bool) (ps : List PropD) (t : List Int) (ks ks2 : List NodeD) (pv tv kv : Value) (hs : a.eval s = kv) (hX : NodeX w M N (.mk l ps t ks) [.bool l, pv, tv, kv]) (hN : N < w.heap.size) (hM : M <= N)
 (ya : Option Addr) (yc B : Nat) (css2 : List Value) (hx : a.eval x = .slice ya ks2.length yc) (hr : RowA w B 4 ya ks2.length yc css2) (hk2 : KidsQ w (fun b => b < M) ks2 css2) (hn : ks.length + ks2.length <= 200000000)
 (h : ∀ a' c' w', NodeX w' M N (.mk l ps t (ks ++ ks2)) [.bool l, pv, tv, .slice a' (ks ++ ks2).length c'] -> Below M w w' -> w'.heap[N]? = w.heap[N]? -> K (a.put o.dst (.slice a' (ks ++ ks2).length c')) w') : if Region.wanted o (yielded ops a.tmps) = true then Oper.wp Tryz.prog o a w K Q else E := by
 obtain ⟨-, ⟨css, hcl, hko⟩, -, hkn⟩ := hX.owns
 obtain ⟨l', a1, n1, c1, a2, n2, c2, a3, n3, c3, hf⟩ := hX.form
 injection hf with _ hf
 injection hf with _ hf
 injection hf with _ hf
 injection hf with e3 _
 subst e3
 obtain rfl : n3 = ks.length := by
  unfold NodeX at hX
  obtain ⟨_, _, _, _, _, _, _, h1, _⟩ := hX
  injection h1 with _ h1
  injection h1 with _ h1
  injection h1 with _ h1
  injection h1 with e3 _
  injection e3
 cases ya with
 | none =>
   have hc0 : yc = 0 := hr.nil rfl
   have hn0 : ks2.length = 0 := by have := hr.le; omega
   obtain rfl : ks2 = [] := List.eq_nil_of_length_eq_zero hn0
   subst hc0
   have hw : Region.wanted o (yielded ops a.tmps) = true := by simp [Region.wanted, hg]
   rw [if_pos hw]
   obtain ⟨i, hi', -, hsize, -⟩ := info_parts (P := Tryz.prog) info_nodeC
   have hrun := run_append_owned_none (P := Tryz.prog) (w := w) M 33 o.type 35 i 4 Tryz.underlying33 hi' _ ks.length css hko
   unfold Oper.wp execOp
   simp only [ho, resolve, invoke, builtin, Sem.run_bind, Sem.run_pure, Result.andThen_ok, List.map_toArray, List.map_cons, List.map_nil, hs, hx, List.length_nil, hrun]
   have := h a3 c3 w (by rw [List.append_nil]; exact hX) (Below.refl _ _) rfl
   rw [List.append_nil] at this
   exact this
 | some ad =>
   refine step_app2 hg s x 33 ho M 35 (.agg #[.bool false, .slice none 0 0, .slice none 0 0, .slice none 0 0]) 4 80 Tryz.underlying33 info_nodeC rfl (by decide) _ ks.length css hs hko ad ks2.length yc B css2 hx hr (by unfold maxLen; omega) (by omega) (by omega) fun v' w' hown hgrow hwh => ?_
   have hX' := hX.kids (kv' := v') (ks2 := ks2) (css2 := css2) (w' := w') hN hM hk2 (fun css' hl hk => ?_) hgrow hwh
   . have hX2 := hX'
     unfold NodeX at hX2
     obtain ⟨_, _, _, _, ak, ck, _, h1, _⟩ := hX2
     injection h1 with _ h1
     injection h1 with _ h1
     injection h1 with _ h1
     injection h1 with e3 _
     subst e3
     exact h ak ck w' hX' (below_grown2 hko hgrow (by omega)) (hgrow.block N hN (fun e => hkn e.symm))
   . obtain rfl : css' = css := own_same hk hko
     exact hown
end Go.Proofs.YtbommcakcmhalaaGreatDoor
