/- Parts of the proof, one behind the other: RON, ROX, ROY, ROZ. -/
import Derived.Test.YtbommcakcmhalaaGreatDoorLM16
import Derived.Test.YtbommcakcmhalaaGreatDoorLM15
import Derived.Deep.RegionHeld3
/- Walks: op.merged, where it can be done. -/
set_option linter.unusedVariables false
set_option linter.unusedSimpArgs false
set_option maxHeartbeats 4000000
set_option maxRecDepth 100000
namespace Go.Proofs.YtbommcakcmhalaaGreatDoor
open Go.RowKit Go.Redl
theorem beside_back {p : List Int} (hne : p ≠ []) (hl : 0 < lastN p) : besideN p (-1) = (backP p, 0) := by
 unfold besideN backP
 rw [if_neg hne, if_neg (by omega)]
 rfl
theorem NodeX.since {w w' : World} {M N : Nat} {n : NodeD} {cs : List Value} (h : NodeX w M N n cs) (hb : Below w.heap.size w w') : NodeX w' M N n cs := by
 obtain ⟨l, ps, t, ks⟩ := n
 unfold NodeX at h ⊢
 obtain ⟨ap, cp, at_, ct, ak, ck, css, h1, h2, h3, h4, h5, h6, h7, h8⟩ := h
 exact ⟨ap, cp, at_, ct, ak, ck, css, h1, h2.keep hb.size (fun b _ hlt => hb.block b hlt) (fun _ h _ => h), own_keep h3 hb, h4, own_keep h5 hb, KidsQ.keep hb.size (fun b _ hlt => hb.block b hlt) (fun _ h _ => h) _ _ h6, h7, h8⟩
theorem merged_ok (rest k into : NodeD) (p d : List Int) (ol : List PropD) (kd pos : Int) (vr vk n0 n1 n2 n3 : Value) (pa ta oa : Option Addr) (pc tc oc : Nat) (W : World)
 (hbr : rest.wt <= 100000000) (hbk : k.wt <= 100000000) (hbj : (joinN into k).wt <= 100000000) (hvr : NodeV W W.heap.size rest vr) (hvk : NodeV W W.heap.size k vk)
 (hp : RowA W W.heap.size 1 pa p.length pc (p.map (Value.int .i64))) (hpl : p.length <= 1000000) (hpw : ∀ z ∈ p, -9223372036854775807 <= z /\ z <= 9223372036854775807)
 (ho : RowA W W.heap.size 2 oa ol.length oc (propCells ol)) (hne : p ≠ []) (hlast : 0 < lastN p) (hat : atN rest (backP p) = some into) (hlf : leafOf into = leafOf k) (hpos : (lengthN into : Int) = pos) (hprops : propsOf k = ol) :
 Calls Tryz.prog 131 #[vr, vk, .agg #[.int .i64 kd, .slice pa p.length pc, .slice ta d.length tc, .int .i64 pos, n0, n1, n2, n3, .slice oa ol.length oc, .slice none 0 0, .slice none 0 0, .bool false, .slice none 0 0, .int .i64 0, .slice none 0 0, .int .i64 0, .bool false, .slice none 0 0, .int .i64 0, .slice none 0 0, .int .i64 0]] W (TreeP W (putN rest (backP p) (joinN into k), 0)) := by
 obtain ⟨R, hR⟩ : ∃ R, R = putN rest (backP p) (joinN into k) := ⟨_, rfl⟩
 rw [<- hR]
 have HRR := Lib.hid hR
 clear hR
 have hiw := atN_wt _ rest into hat
 obtain ⟨csr, rfl, hcr⟩ := hvr
 obtain ⟨lr, a1, m1, c1, a2, m2, c2, a3, m3, c3, rfl⟩ := hcr.form
 obtain ⟨l, ps, t, ks⟩ := k
 obtain ⟨ap, cp, at_, ct, ak, ck, css, rfl, hkp, hkt, hkk, hkkk⟩ := hvk.open
 clear hvk
 obtain ⟨⟨at2, ct2, htv, htr⟩, htw⟩ := hkt
 injection htv with e1 e2 e3
 subst e1; subst e3
 obtain ⟨w0, hw0⟩ : ∃ w0, w0 = ((((W.alloc (Obj.cells #[.bool lr, .slice a1 m1 c1, .slice a2 m2 c2, .slice a3 m3 c3] 35)).alloc (Obj.cells #[.bool l, .slice ap ps.length cp, .slice at_ t.length ct, .slice ak ks.length ck] 35)).alloc (Obj.cells #[.int .i64 kd, .slice pa p.length pc, .slice ta d.length tc, .int .i64 pos, n0, n1, n2, n3, .slice oa ol.length oc, .slice none 0 0, .slice none 0 0, .bool false, .slice none 0 0, .int .i64 0, .slice none 0 0, .int .i64 0, .bool false, .slice none 0 0, .int .i64 0, .slice none 0 0, .int .i64 0] 63)).alloc (Obj.cells #[.bool false, .slice none 0 0, .slice none 0 0, .slice none 0 0] 35)) := ⟨_, rfl⟩
 have hb0 : Below W.heap.size W w0 := by rw [hw0]; exact (three_below _ _ _ _).alloc (by simp; omega) _
 have hs0 : w0.heap.size = W.heap.size + 4 := by rw [hw0]; simp
 have hA : At w0 W.heap.size [.bool lr, .slice a1 m1 c1, .slice a2 m2 c2, .slice a3 m3 c3] 35 := by rw [hw0]; exact (((At.fresh W _ _).alloc _).alloc _).alloc _
 have hK : At w0 (W.heap.size + 1) [.bool l, .slice ap ps.length cp, .slice at_ t.length ct, .slice ak ks.length ck] 35 := by rw [hw0]; exact ((At.second W _ _ _).alloc _).alloc _
 have hO : At w0 (W.heap.size + 1 + 1) [.int .i64 kd, .slice pa p.length pc, .slice ta d.length tc, .int .i64 pos, n0, n1, n2, n3, .slice oa ol.length oc, .slice none 0 0, .slice none 0 0, .bool false, .slice none 0 0, .int .i64 0, .slice none 0 0, .int .i64 0, .bool false, .slice none 0 0, .int .i64 0, .slice none 0 0, .int .i64 0] 63 := by rw [hw0]; exact (At.third W _ _ _ _).alloc _
 have hR : At w0 (W.heap.size + 1 + 1 + 1) [.bool false, .slice none 0 0, .slice none 0 0, .slice none 0 0] 35 := by rw [hw0]; exact At.fourth W _ _ _ _ _
 have hbk0 := back_c p pa pc W.heap.size w0 (hp.keep hb0 (Nat.le_refl _)) hb0.size hpl hpw
 rw [beside_back hne hlast] at hbk0
 have HBK := Lib.hid hbk0; have Hb0 := Lib.hid hb0; have HA := Lib.hid hA; have HK := Lib.hid hK; have HO := Lib.hid hO; have HR := Lib.hid hR; have Hs0 := Lib.hid hs0; have Hw0 := Lib.hid hw0
 have Hcr := Lib.hid hcr; have Hkp := Lib.hid hkp; have Htr := Lib.hid htr; have Htw := Lib.hid htw; have Hkk := Lib.hid hkk; have Hkkk := Lib.hid hkkk; have Ho := Lib.hid ho
 have y1 : w0.cell? ⟨W.heap.size + 1 + 1, 1, none⟩ = some (.slice pa p.length pc) := hO.cell 1 rfl
 clear hbk0 hb0 hA hK hO hR hs0 hw0 hcr hkp htr htw hkk hkkk ho hp hpl hpw
 go_enter Tryz.func131, Tryz.ntmps131
 go_upto_region 1 with fail
 rw [<- Hw0.out]
 clear Hw0
 go_wp2_with fail
 refine HBK.out.mono ?_
 rintro e w1 ⟨hb1, v, rfl, hv⟩
 have hvr := hv
 obtain ⟨qa, qc, rfl, hq⟩ := RowQ.of_own hv (by intro u hu; obtain ⟨z, -, rfl⟩ := List.mem_map.1 hu; rfl)
 have hbW := Hb0.out.trans (hb1.mono Hb0.out.size)
 have hA1 := HA.out.kept hb1
 obtain ⟨y0, y2, y3, y4, -, -⟩ := NodeAt.facts hA1
 have HG := Lib.hid (getO_c rest into (backP p) (.agg #[.bool lr, .slice a1 m1 c1, .slice a2 m2 c2, .slice a3 m3 c3]) qa qc w1 hbr ⟨_, rfl, NodeC.keep hbW hbW.size _ _ Hcr.out⟩ hq.row hat)
 have Hb1 := Lib.hid hb1; have HbW := Lib.hid hbW; have Hq := Lib.hid hq.row
 clear HBK hb1 hv hvr hq hbW hA1 y1
 go_wp2_with fail
 refine HG.out.mono ?_
 rintro e w2 ⟨cs, rfl, hin, hb2⟩
 obtain ⟨l2, ps2, t2, ks2⟩ := into
 obtain ⟨l2', b1, o1, d1, b2, o2, d2, b3, o3, d3, rfl⟩ := hin.form
 obtain rfl : l2' = l2 := by
  unfold NodeO at hin
  obtain ⟨_, _, _, _, _, _, _, h1, _⟩ := hin
  injection h1 with h1 _
  injection h1
 have hll : l = l2' := hlf.symm
 subst hll
 obtain ⟨w3, hw3⟩ : ∃ w3, w3 = w2.alloc (Obj.cells #[.bool l, .slice b1 o1 d1, .slice b2 o2 d2, .slice b3 o3 d3] 35) := ⟨_, rfl⟩
 have hb3 : Below w2.heap.size w2 w3 := by rw [hw3]; exact one_below _ _
 have hs3 : w3.heap.size = w2.heap.size + 1 := by rw [hw3]; simp
 have hN3 : At w3 w2.heap.size [.bool l, .slice b1 o1 d1, .slice b2 o2 d2, .slice b3 o3 d3] 35 := by rw [hw3]; exact At.fresh _ _ _
 have hb13 := hb2.trans (hb3.mono hb2.size)
 have hb03 := Hb1.out.trans (hb13.mono Hb1.out.size)
 have hbW3 := HbW.out.trans (hb13.mono HbW.out.size)
 have hX3 : NodeX w3 w1.heap.size w2.heap.size (.mk l ps2 t2 ks2) [.bool l, .slice b1 o1 d1, .slice b2 o2 d2, .slice b3 o3 d3] := NodeX.of hin (Nat.le_refl _) hb3
 have Hw3 := Lib.hid hw3; have Hb3 := Lib.hid hb3; have Hb13 := Lib.hid hb13; have HbW3 := Lib.hid hbW3; have HX3 := Lib.hid hX3; have Hs3 := Lib.hid hs3; have HN3 := Lib.hid hN3
 have Hb2 := Lib.hid hb2
 have HK3 := Lib.hid (HK.out.kept hb03); have HO3 := Lib.hid (HO.out.kept hb03)
 have y5 : w3.cell? ⟨W.heap.size + 1, 0, none⟩ = some (.bool l) := HK3.out.cell 0 rfl
 have y6 : w3.cell? ⟨w2.heap.size, 0, none⟩ = some (.bool l) := HN3.out.cell 0 rfl
 have HS3 := Lib.hid (fun (w' : World) (hb : Below w3.heap.size w3 w') => (show w'.cell? ⟨W.heap.size + 1 + 1, 3, none⟩ = some (.int .i64 pos) /\ At w' w2.heap.size [.bool l, .slice b1 o1 d1, .slice b2 o2 d2, .slice b3 o3 d3] 35 from ⟨(HO3.out.kept hb).cell 3 rfl, HN3.out.kept hb⟩))
 have HL := Lib.hid (fun (w' : World) (hb : Below w3.heap.size w3 w') => length_c (.mk l ps2 t2 ks2) (.agg #[.bool l, .slice b1 o1 d1, .slice b2 o2 d2, .slice b3 o3 d3]) w' ⟨_, rfl, NodeC.keep hb hb.size _ _ (NodeQ.node _ _ hX3.q)⟩)
 have hld := fun (w' : World) (h : At w' w2.heap.size [.bool l, .slice b1 o1 d1, .slice b2 o2 d2, .slice b3 o3 d3] 35) => At.load (P := Tryz.prog) h Tryz.underlying35 rfl (by kernel_rfl)
 simp [go_sem] at hld
 have hps : ((lengthN (.mk l ps2 t2 ks2) : Int) != pos) = false := by rw [hpos]; simp
 generalize hLN : (lengthN (.mk l ps2 t2 ks2) : Int) = LN at HL hps
 clear HG hin hb2 y0 y2 y3 y4 hw3 hb3 hs3 hN3 hb13 hb03 hbW3 hX3 hlf hpos hLN
 go_upto_region 5 with fail
 rw [<- Hw3.out]
 clear Hw3
 go_upto_region 9 with fail
 go_region_held3 (fun w' => w'.cell? ⟨W.heap.size + 1 + 1, 3, none⟩ = some (.int .i64 pos) /\ At w' w2.heap.size [.bool l, .slice b1 o1 d1, .slice b2 o2 d2, .slice b3 o3 d3] 35) (refine HS3.out _ (by ((repeat (first | with_reducible exact Hb4.out | with_reducible exact Below.refl _ _ | with_reducible refine Below.drew ?_ | with_reducible refine Below.alloc ?_ ?_ _ | with_reducible refine Below.setCell ?_ ?_ _)) <;> (first | with_reducible exact Nat.le_refl _ | with_reducible exact Hb4.out.size | (have hsz := Hb4.out.size; simp [World.setCell]; omega) | (simp; done) | (simp; omega) | omega))))
  (first
  | (refine step_call rfl 190 _ _ rfl length_ent [.agg #[.bool l, .slice b1 o1 d1, .slice b2 o2 d2, .slice b3 o3 d3]] ?_ _ (HL.out _ (by ((repeat (first | with_reducible exact Below.refl _ _ | with_reducible refine Below.drew ?_ | with_reducible refine Below.alloc ?_ ?_ _ | with_reducible refine Below.setCell ?_ ?_ _)) <;> (first | with_reducible exact Nat.le_refl _ | (simp; done) | (simp; omega) | omega)))) ?_
     . go_simp
     rintro e w4 ⟨rfl, hbel⟩
     refine ⟨_, rfl, ?_⟩
     have Hb4 := Lib.hid (Below.and (w0 := w3) (by ((repeat (first | with_reducible exact Below.refl _ _ | with_reducible refine Below.drew ?_ | with_reducible refine Below.alloc ?_ ?_ _ | with_reducible refine Below.setCell ?_ ?_ _)) <;> (first | with_reducible exact Nat.le_refl _ | (simp; done) | (simp; omega) | omega))) hbel)
     clear hbel))
 all_goals
  have hbW4 := HbW3.out.trans (Hb4.out.mono HbW3.out.size)
  have HP := Lib.hid (psame_c ap oa cp oc W.heap.size ps ol w4 (Hkp.out.keep hbW4 (Nat.le_refl _)) (Ho.out.keep hbW4 (Nat.le_refl _)))
  have hpo : decide (ps = ol) = true := decide_eq_true hprops
  rw [hpo] at HP
  have y7 : w4.cell? ⟨W.heap.size + 1, 1, none⟩ = some (.slice ap ps.length cp) := (HK3.out.kept Hb4.out).cell 1 rfl
  have y8 : w4.cell? ⟨W.heap.size + 1 + 1, 8, none⟩ = some (.slice oa ol.length oc) := (HO3.out.kept Hb4.out).cell 8 rfl
  clear y5 y6 hld hpo hbW4
  go_upto_region 11 with fail
  go_wp2_with fail
  refine HP.out.mono ?_
  rintro e w5 ⟨rfl, hd⟩
  have hb5 := Hb4.out.trans ((hd.below w4.heap.size).mono Hb4.out.size)
  have HK5 := Lib.hid (HK3.out.kept hb5)
  have HN5 := Lib.hid (HN3.out.kept hb5)
  have HA5 := Lib.hid ((HA.out.kept (Hb1.out.trans (Hb13.out.mono Hb1.out.size))).kept hb5)
  have HR5 := Lib.hid ((HR.out.kept (Hb1.out.trans (Hb13.out.mono Hb1.out.size))).kept hb5)
  have HX5 := Lib.hid (HX3.out.since hb5)
  have HbW5 := Lib.hid (HbW3.out.trans (hb5.mono HbW3.out.size))
  have Hb35 := Lib.hid hb5
  have Hs5 := Lib.hid (show w2.heap.size < w5.heap.size from HN5.out.lt)
  have HMN := Lib.hid (show w1.heap.size <= w2.heap.size from Hb2.out.size)
  obtain ⟨z0, z1, z2, z3, ⟨g0, g1, g2, g3⟩, -⟩ := NodeAt.facts HN5.out
  obtain ⟨k0, k1, k2, k3, -, -⟩ := NodeAt.facts HK5.out
  clear HP hd hb5 y7 y8
  go_upto_region 13 with fail
  have hbd : Below w5.heap.size w5 w5.drew := (Below.refl _ _).drew
  have HT5 := Lib.hid ((Htr.out.keep HbW5.out (Nat.le_refl _)).keep (hbd.mono HbW5.out.size) (Nat.le_refl _))
  have HKr5 := Lib.hid (Hkk.out.keep HbW5.out (Nat.le_refl _))
  have HKq5 := Lib.hid (show KidsQ w5 (fun b => b < w1.heap.size) ks css from KidsQ.keep (Nat.le_refl _) (fun _ _ _ => rfl) (fun b hb _ => by have := HbW.out.size; omega) _ _ (KidsC.q HbW5.out.size _ _ (KidsC.keep HbW5.out (Nat.le_refl _) _ _ Hkkk.out)))
  have hn1 : t2.length + t.length <= 200000000 := by simp only [joinN, NodeD.wt, List.length_append] at hbj; omega
  have hn2 : ks2.length + ks.length <= 200000000 := by have := wtAll_len (ks2 ++ ks); simp only [joinN, NodeD.wt, List.length_append] at hbj this; omega
  have HWM := Lib.hid (show W.heap.size + 4 <= w1.heap.size by have := Hb1.out.size; have := Hs0.out; omega)
  go_cut [] (fun wx => ∃ ta' tc' ka' kc', NodeX wx w1.heap.size w2.heap.size (.mk l ps2 (t2 ++ t) (ks2 ++ ks)) [.bool l, .slice b1 o1 d1, .slice ta' (t2 ++ t).length tc', .slice ka' (ks2 ++ ks).length kc'] /\ At wx w2.heap.size [.bool l, .slice b1 o1 d1, .slice ta' (t2 ++ t).length tc', .slice ka' (ks2 ++ ks).length kc'] 35 /\ Below w1.heap.size w5 wx)
  case first =>
   go_region_law (first
  | (refine step_text rfl _ _ rfl w1.heap.size w2.heap.size l ps2 t2 t ks2 (.slice b1 o1 d1) (.slice b2 o2 d2) (.slice b3 o3 d3) ?_ HX5.out.drew Hs5.out HMN.out at_ ct W.heap.size ?_ HT5.out Htw.out hn1 ?_
     . go_simp
     . go_simp
     intro ta' tc' w6 hx6 hb6 he6
     have HX6 := Lib.hid hx6
     have hb6' := (hbd.mono (Nat.le_of_lt (Nat.lt_of_le_of_lt HMN.out Hs5.out))).trans hb6
     have HN6 := Lib.hid (show At w6 w2.heap.size [.bool l, .slice b1 o1 d1, .slice b2 o2 d2, .slice b3 o3 d3] 35 by unfold At; rw [he6]; exact HN5.out)
     have HKr6 := Lib.hid (HKr5.out.keep (hb6'.mono (by have := HWM.out; omega)) (Nat.le_refl _))
     have HKq6 := Lib.hid (KidsQ.keep hb6'.size (fun b h _ => hb6'.block b h) (fun _ h _ => h) _ _ HKq5.out)
     have hK6 := HK5.out.keep (hb6'.mono (by have := HWM.out; omega))
     have Hb6 := Lib.hid hb6'
     obtain ⟨p0, p1, p2, p3, -, -⟩ := NodeAt.facts hK6
     obtain ⟨q0, q1, q2, q3, ⟨f0, f1, f2, f3⟩, -⟩ := NodeAt.facts HN6.out
     clear hx6 he6 hb6 hb6' hK6)
  | (refine step_kids rfl _ _ rfl w1.heap.size w2.heap.size l ps2 (t2 ++ t) ks2 ks (.slice b1 o1 d1) (.slice ta' (t2 ++ t).length tc') (.slice b3 o3 d3) ?_ HX6.out HN6.out.lt HMN.out ak ck W.heap.size css ?_ HKr6.out HKq6.out hn2 ?_
     . go_simp
     . go_simp
     intro ka' kc' w7 hx7 hb7 he7
     have HX7 := Lib.hid hx7
     have HN7 := Lib.hid (show At w7 w2.heap.size [.bool l, .slice b1 o1 d1, .slice b2 o2 d2, .slice b3 o3 d3] 35 by unfold At; rw [he7]; exact HN6.out)
     have Hb7 := Lib.hid (Hb6.out.trans hb7)
     obtain ⟨r0, r1, r2, r3, ⟨s0, s1, s2, s3⟩, -⟩ := NodeAt.facts HN7.out
     clear hx7 he7 hb7))
   all_goals
    go_wp2_with fail
    go_meet
    case rel =>
     have hx := (HX7.out.set (o := 2) (u := .slice ta' (t2 ++ t).length tc')).set (o := 3) (u := .slice ka' (ks2 ++ ks).length kc')
     have ha := (HN7.out.set 2 (.slice ta' (t2 ++ t).length tc')).set 3 (.slice ka' (ks2 ++ ks).length kc')
     have hb := (Hb7.out.setCell (p := ⟨w2.heap.size, 2, none⟩) HMN.out (.slice ta' (t2 ++ t).length tc')).setCell (p := ⟨w2.heap.size, 3, none⟩) HMN.out (.slice ka' (ks2 ++ ks).length kc')
     refine ⟨ta', tc', ka', kc', ?_⟩
     simp only [List.length_append] at hx ha hb ⊢
     exact ⟨hx, ha, hb⟩
  case rest =>
   obtain ⟨ta', tc', ka', kc', hx, ha, hb⟩ := hcut
   have hb1x := (Hb13.out.trans (Hb35.out.mono Hb13.out.size)).trans hb
   have hbWx := HbW.out.trans (hb1x.mono HbW.out.size)
   have hAx := HA5.out.keep (hb.mono (by have := HWM.out; omega))
   have hRx := HR5.out.keep (hb.mono (by have := HWM.out; omega))
   have hput := put_c rest (.mk l (ps2) (t2 ++ t) (ks2 ++ ks)) (backP p) (.agg #[.bool lr, .slice a1 m1 c1, .slice a2 m2 c2, .slice a3 m3 c3]) (.agg #[.bool l, .slice b1 o1 d1, .slice ta' (t2 ++ t).length tc', .slice ka' (ks2 ++ ks).length kc']) qa qc wc hbr hbj ⟨_, rfl, NodeC.keep hbWx hbWx.size _ _ Hcr.out⟩ ⟨_, rfl, NodeQ.node _ _ hx.q⟩ (Hq.out.keep hb1x hb1x.size)
   have hpe : putE rest (backP p) (.mk l ps2 (t2 ++ t) (ks2 ++ ks)) = (putN rest (backP p) (joinN (.mk l ps2 t2 ks2) (.mk l ps t ks)), 0) := by unfold putE; rw [hat]; rfl
   rw [hpe] at hput
   simp only [List.length_append] at hput ha
   have HPut := Lib.hid hput; have HRx := Lib.hid hRx; have HbWx := Lib.hid hbWx
   obtain ⟨y0, y1, y2, y3, -, -⟩ := NodeAt.facts hAx
   obtain ⟨z4, z5, z6, z7, -, -⟩ := NodeAt.facts ha
   have HWx := Lib.hid (show W.heap.size + 1 + 1 + 1 < wc.heap.size from hRx.lt)
   rw [<- HRR.out] at HPut
   clear hput hpe hx ha hb hb1x hbWx hAx hRx hbd z0 z1 z2 z3 g0 g1 g2 g3 k0 k1 k2 k3
   go_wp2_with fail
   refine HPut.out.mono ?_
   intro e w8 ht
   obtain ⟨hb8, ⟨hz, l', k1, o4, r1, k2, o5, r2, k3, o6, r3, rfl, hq8⟩ | ⟨hz, rfl⟩⟩ := ht.cases
   . have hR8 := HRx.out.keep (hb8.mono (by have := HWx.out; omega))
     obtain ⟨x0, x1, x2, x3, ⟨f0, f1, f2, f3⟩, -⟩ := NodeAt.facts hR8
     have Hq8 := Lib.hid hq8; have Hb8 := Lib.hid (HbWx.out.trans (hb8.mono HbWx.out.size))
     clear HPut ht hb8 hq8 hR8 y0 y1 y2 y3 z4 z5 z6 z7 hz
     go_wp2_with fail
     refine bodyPost_ret (v := .tuple #[.agg #[.bool l', .slice k1 o4 r1, .slice k2 o5 r2, .slice k3 o6 r3], .int .i64 0]) (by simp [results, Tryz.results131, go_sem, x0, x1, x2, x3, f0, f1, f2, f3]) rfl ?_
     exact tree_ok (N := W.heap.size + 1 + 1 + 1) Hb8.out HbWx.out.size HWx.out (by omega) Hq8.out
   . exact absurd rfl hz
end Go.Proofs.YtbommcakcmhalaaGreatDoor
/- Walks: op.shaped, where it can be done: kinds 2, 3 and 5. -/
namespace Go.Proofs.YtbommcakcmhalaaGreatDoor
open Go.RowKit Go.Redl
/-- What is asked of the three kinds that take a node out. -/
def CutDoes (kd pos : Int) (p d : List Int) (nd : NodeD) (ol : List PropD) (R k X : NodeD) : Prop :=
 (kd = 2 /\ sameN k nd = true /\ X = R) ∨ (kd = 3 /\ ∃ into, 0 < lastN p /\ atN R (backP p) = some into /\ leafOf into = leafOf k /\ (lengthN into : Int) = pos /\ propsOf k = ol /\ (joinN into k).wt <= 100000000 /\ X = putN R (backP p) (joinN into k)) ∨ (kd = 5 /\ addN R d k = (X, 0))
theorem five_below (W : World) (o1 o2 o3 o4 o5 : Obj) : Below W.heap.size W (((((W.alloc o1).alloc o2).alloc o3).alloc o4).alloc o5) := ((three_below _ _ _ _).alloc (by simp; omega) _).alloc (by simp; omega) _
theorem At.fifth (W : World) (o1 o2 o3 o4 : Obj) (cs : List Value) (T : TypeId) : At (((((W.alloc o1).alloc o2).alloc o3).alloc o4).alloc (.cells cs.toArray T)) (W.heap.size + 1 + 1 + 1 + 1) cs T := by
 have h := At.fourth (W.alloc o1) o2 o3 o4 cs T
 rw [show (W.alloc o1).heap.size = W.heap.size + 1 by simp] at h
 exact h
theorem shaped_cut (n R k X : NodeD) (p d : List Int) (kd pos : Int) (nd : NodeD) (ol : List PropD) (v : Value) (pa ta oa : Option Addr) (pc tc oc : Nat) (l0 : Bool) (a1 a2 a3 : Option Addr) (m1 m2 m3 c1 c2 c3 : Nat) (W : World)
 (hbn : n.wt <= 100000000) (hbR : R.wt <= 100000000) (hbk : k.wt <= 100000000) (hv : NodeV W W.heap.size n v) (hbig : nd.wt <= 100000000) (hn : NodeV W W.heap.size nd (.agg #[.bool l0, .slice a1 m1 c1, .slice a2 m2 c2, .slice a3 m3 c3])) (hne : p ≠ [])
 (hp : RowA W W.heap.size 1 pa p.length pc (p.map (Value.int .i64))) (hpl : p.length <= 1000000) (hpw : ∀ z ∈ p, -9223372036854775807 <= z /\ z <= 9223372036854775807) (hd : RowA W W.heap.size 1 ta d.length tc (d.map (Value.int .i64))) (hdl : d.length <= 1000000)
 (ho : RowA W W.heap.size 2 oa ol.length oc (propCells ol)) (hcut : cutN n p = (R, k, 0)) (hdo : CutDoes kd pos p d nd ol R k X) :
 Calls Tryz.prog 73 #[v, .agg #[.int .i64 kd, .slice pa p.length pc, .slice ta d.length tc, .int .i64 pos, .bool l0, .slice a1 m1 c1, .slice a2 m2 c2, .slice a3 m3 c3, .slice oa ol.length oc, .slice none 0 0, .slice none 0 0, .bool false, .slice none 0 0, .int .i64 0, .slice none 0 0, .int .i64 0, .bool false, .slice none 0 0, .int .i64 0, .slice none 0 0, .int .i64 0]] W (TreeP W (X, 0)) := by
 obtain ⟨csn, rfl, hc⟩ := hv
 obtain ⟨l, b1, o1, d1, b2, o2, d2, b3, o3, d3, rfl⟩ := hc.form
 obtain ⟨w0, hw0⟩ : ∃ w0, w0 = (((((W.alloc (Obj.cells #[.bool l, .slice b1 o1 d1, .slice b2 o2 d2, .slice b3 o3 d3] 35)).alloc (Obj.cells #[.int .i64 kd, .slice pa p.length pc, .slice ta d.length tc, .int .i64 pos, .bool l0, .slice a1 m1 c1, .slice a2 m2 c2, .slice a3 m3 c3, .slice oa ol.length oc, .slice none 0 0, .slice none 0 0, .bool false, .slice none 0 0, .int .i64 0, .slice none 0 0, .int .i64 0, .bool false, .slice none 0 0, .int .i64 0, .slice none 0 0, .int .i64 0] 63)).alloc (Obj.cells #[.bool false, .slice none 0 0, .slice none 0 0, .slice none 0 0] 35)).alloc (Obj.cells #[.bool false, .slice none 0 0, .slice none 0 0, .slice none 0 0] 35)).alloc (Obj.cells #[.bool false, .slice none 0 0, .slice none 0 0, .slice none 0 0] 35)) := ⟨_, rfl⟩
 have hb0 : Below W.heap.size W w0 := by rw [hw0]; exact five_below _ _ _ _ _ _
 have hs0 : w0.heap.size = W.heap.size + 5 := by rw [hw0]; simp
 have hA : NodeAt w0 W.heap.size (.bool l) (.slice b1 o1 d1) (.slice b2 o2 d2) (.slice b3 o3 d3) := by rw [hw0]; exact ((((At.fresh W _ _).alloc _).alloc _).alloc _).alloc _
 have hO : At w0 (W.heap.size + 1) [.int .i64 kd, .slice pa p.length pc, .slice ta d.length tc, .int .i64 pos, .bool l0, .slice a1 m1 c1, .slice a2 m2 c2, .slice a3 m3 c3, .slice oa ol.length oc, .slice none 0 0, .slice none 0 0, .bool false, .slice none 0 0, .int .i64 0, .slice none 0 0, .int .i64 0, .bool false, .slice none 0 0, .int .i64 0, .slice none 0 0, .int .i64 0] 63 := by rw [hw0]; exact (((At.second W _ _ _).alloc _).alloc _).alloc _
 have hX : NodeAt w0 (W.heap.size + 1 + 1) (.bool false) (.slice none 0 0) (.slice none 0 0) (.slice none 0 0) := by rw [hw0]; exact ((At.third W _ _ _ _).alloc _).alloc _
 have hR : NodeAt w0 (W.heap.size + 1 + 1 + 1) (.bool false) (.slice none 0 0) (.slice none 0 0) (.slice none 0 0) := by rw [hw0]; exact (At.fourth W _ _ _ _ _).alloc _
 have hK : NodeAt w0 (W.heap.size + 1 + 1 + 1 + 1) (.bool false) (.slice none 0 0) (.slice none 0 0) (.slice none 0 0) := by rw [hw0]; exact At.fifth W _ _ _ _ _ _
 have hcc := cut_c n p (.agg #[.bool l, .slice b1 o1 d1, .slice b2 o2 d2, .slice b3 o3 d3]) pa pc w0 hbn ⟨_, rfl, NodeC.keep hb0 hb0.size _ _ hc⟩ (hp.keep hb0 hb0.size) hpl
 rw [hcut] at hcc
 have HCut := Lib.hid hcc
 obtain ⟨y0, y1, y2, y3, -, -⟩ := hA.facts
 have x0 := hO.cell 0 rfl; have x1 := hO.cell 1 rfl; have xl := hO.lt
 have HO := Lib.hid hO; have HX := Lib.hid hX; have HR := Lib.hid hR; have HK := Lib.hid hK; have Hb0 := Lib.hid hb0; have Hs0 := Lib.hid hs0; have Hw0 := Lib.hid hw0
 have Hn := Lib.hid hn; have Hp := Lib.hid hp; have Hpw := Lib.hid hpw; have Hd := Lib.hid hd; have Ho := Lib.hid ho
 have hk3 : kd = 2 ∨ kd = 3 ∨ kd = 5 := by
  rcases hdo with ⟨h, -⟩ | ⟨h, -⟩ | ⟨h, -⟩
  . exact .inl h
  . exact .inr (.inl h)
  . exact .inr (.inr h)
 have q4 : (kd == 4) = false := by rcases hk3 with h | h | h <;> (subst h; rfl)
 have q1 : (kd == 1) = false := by rcases hk3 with h | h | h <;> (subst h; rfl)
 have Hdo := Lib.hid hdo; have Hne := Lib.hid hne
 clear hc hn hp hpw hd ho hb0 hs0 hA hO hX hR hK hcc hcut hw0 hdo hne
 rcases hk3 with rfl | rfl | rfl
 all_goals
  go_enter Tryz.func73, Tryz.ntmps73
  go_upto_region 2 with fail
  rw [<- Hw0.out]
  clear Hw0
  go_wp2_with fail
  refine HCut.out.mono ?_
  rintro e w1 ⟨hb1, hh⟩
  simp only [if_true] at hh
  obtain ⟨cs, ds, rfl, hqr, hqk⟩ := hh
  obtain ⟨lr, r1, e1, f1, r2, e2, f2, r3, e3, f3, rfl⟩ := hqr.form
  obtain ⟨lk, s1, g1, h1, s2, g2, h2, s3, g3, h3, rfl⟩ := hqk.form
  have hs0 := Hs0.out
  have hR1 := HR.out.keep (hb1.mono (by omega))
  have hK1 := HK.out.keep (hb1.mono (by omega))
  have hX1 := HX.out.keep (hb1.mono (by omega))
  have hO1 := HO.out.kept hb1
  have hbW1 := Hb0.out.trans (hb1.mono Hb0.out.size)
  obtain ⟨z0, z1, z2, z3, ⟨fz0, fz1, fz2, fz3⟩, zl⟩ := hR1.facts
  obtain ⟨k0, k1, k2, k3, ⟨fk0, fk1, fk2, fk3⟩, kl⟩ := hK1.facts
  have HR1 := Lib.hid hR1; have HK1 := Lib.hid hK1; have HX1 := Lib.hid hX1; have HO1 := Lib.hid hO1; have HbW1 := Lib.hid hbW1; have Hqr := Lib.hid hqr; have Hqk := Lib.hid hqk; have Hs1 := Lib.hid hb1.size
  clear HCut hb1 hR1 hK1 hX1 hO1 hbW1 hqr hqk y0 y1 y2 y3 x0 x1 xl HR HK HX HO hs0
  go_upto_region 12 with fail
  have hs0 := Hs0.out; have hs1 := Hs1.out
  have hn3 : ¬ (w0.heap.size <= W.heap.size + 1 + 1 + 1) := by omega
  have hn4 : ¬ (w0.heap.size <= W.heap.size + 1 + 1 + 1 + 1) := by omega
  have t1 := below_all (below_all HbW1.out (N := W.heap.size + 1 + 1 + 1) (by omega) (.bool lr) (.slice r1 e1 f1) (.slice r2 e2 f2) (.slice r3 e3 f3)) (N := W.heap.size + 1 + 1 + 1 + 1) (by omega) (.bool lk) (.slice s1 g1 h1) (.slice s2 g2 h2) (.slice s3 g3 h3)
  have t2 := NodeAt.set4 (N := W.heap.size + 1 + 1 + 1 + 1) (NodeAt.all HR1.out (.bool lr) (.slice r1 e1 f1) (.slice r2 e2 f2) (.slice r3 e3 f3)) (by omega) (.bool lk) (.slice s1 g1 h1) (.slice s2 g2 h2) (.slice s3 g3 h3)
  have t3 := NodeAt.all (NodeAt.set4 (N := W.heap.size + 1 + 1 + 1) HK1.out (by omega) (.bool lr) (.slice r1 e1 f1) (.slice r2 e2 f2) (.slice r3 e3 f3)) (.bool lk) (.slice s1 g1 h1) (.slice s2 g2 h2) (.slice s3 g3 h3)
  have t4 := NodeAt.set4 (N := W.heap.size + 1 + 1 + 1 + 1) (NodeAt.set4 (N := W.heap.size + 1 + 1 + 1) HX1.out (by omega) (.bool lr) (.slice r1 e1 f1) (.slice r2 e2 f2) (.slice r3 e3 f3)) (by omega) (.bool lk) (.slice s1 g1 h1) (.slice s2 g2 h2) (.slice s3 g3 h3)
  have t5 := At.n4 (N := W.heap.size + 1 + 1 + 1 + 1) (At.n4 (N := W.heap.size + 1 + 1 + 1) HO1.out (by omega) (.bool lr) (.slice r1 e1 f1) (.slice r2 e2 f2) (.slice r3 e3 f3)) (by omega) (.bool lk) (.slice s1 g1 h1) (.slice s2 g2 h2) (.slice s3 g3 h3)
  have t6 := nodeq_set4 (nodeq_set4 Hqr.out hn3 (.bool lr) (.slice r1 e1 f1) (.slice r2 e2 f2) (.slice r3 e3 f3)) hn4 (.bool lk) (.slice s1 g1 h1) (.slice s2 g2 h2) (.slice s3 g3 h3)
  have t7 := nodeq_set4 (nodeq_set4 Hqk.out hn3 (.bool lr) (.slice r1 e1 f1) (.slice r2 e2 f2) (.slice r3 e3 f3)) hn4 (.bool lk) (.slice s1 g1 h1) (.slice s2 g2 h2) (.slice s3 g3 h3)
  clear z0 z1 z2 z3 fz0 fz1 fz2 fz3 zl k0 k1 k2 k3 fk0 fk1 fk2 fk3 kl hn3 hn4
  with_reducible generalize World.setCell (World.setCell (World.setCell (World.setCell (World.setCell (World.setCell (World.setCell (World.setCell w1 _ _) _ _) _ _) _ _) _ _) _ _) _ _) _ _ = w2 at t1 t2 t3 t4 t5 t6 t7 ⊢
  obtain ⟨z0, z1, z2, z3, -, -⟩ := t2.facts
  obtain ⟨k0, k1, k2, k3, -, -⟩ := t3.facts
  obtain ⟨x0, x1, x2, x3, ⟨fx0, fx1, fx2, fx3⟩, xl⟩ := t4.facts
  have c0 := t5.cell 0 rfl
  have cl := t5.lt
  have Hs2 := Lib.hid (show w0.heap.size <= w2.heap.size by rw [Hs0.out]; have := t3.facts.2.2.2.2.2; omega)
  have T1 := Lib.hid t1; have T2 := Lib.hid t2; have T3 := Lib.hid t3; have T4 := Lib.hid t4; have T5 := Lib.hid t5; have T6 := Lib.hid t6; have T7 := Lib.hid t7
  clear t1 t2 t3 t4 t5 t6 t7 HR1 HK1 HX1 HO1 HbW1 Hqr Hqk Hs1 hs0 hs1
 . have hdo2 : sameN k nd = true /\ X = R := by
    rcases Hdo.out with ⟨-, h⟩ | ⟨h, -⟩ | ⟨h, -⟩
    . exact h
    . exact absurd h (by decide)
    . exact absurd h (by decide)
   obtain ⟨hsm, rfl⟩ := hdo2
   have hsc := same_c k.wt k nd (.agg #[.bool lk, .slice s1 g1 h1, .slice s2 g2 h2, .slice s3 g3 h3]) (.agg #[.bool l0, .slice a1 m1 c1, .slice a2 m2 c2, .slice a3 m3 c3]) w2 (Nat.le_refl _) ⟨_, rfl, NodeQ.node _ _ T7.out⟩ (by obtain ⟨cs, he, hc⟩ := Hn.out; exact ⟨cs, he, NodeC.keep T1.out T1.out.size _ _ hc⟩)
   rw [hsm] at hsc
   have HSm := Lib.hid hsc
   have e4 := T5.out.cell 4 rfl; have e5 := T5.out.cell 5 rfl; have e6 := T5.out.cell 6 rfl; have e7 := T5.out.cell 7 rfl
   clear hsc hsm Hdo
   go_wp2_with fail
   refine HSm.out.mono ?_
   rintro e w3 ⟨rfl, hb3⟩
   have hR3 := T2.out.keep (hb3.mono (by have := T2.out.facts.2.2.2.2.2; omega))
   have hX3 := T4.out.keep (hb3.mono (by have := T4.out.facts.2.2.2.2.2; omega))
   have Hb3 := Lib.hid (T1.out.trans (hb3.mono T1.out.size)); have Hq3 := Lib.hid (nodeq_since T6.out hb3)
   clear HSm hb3 e4 e5 e6 e7 c0 cl z0 z1 z2 z3 k0 k1 k2 k3 x0 x1 x2 x3 fx0 fx1 fx2 fx3 xl
   obtain ⟨z0, z1, z2, z3, -, -⟩ := hR3.facts
   obtain ⟨x0, x1, x2, x3, ⟨fx0, fx1, fx2, fx3⟩, xl⟩ := hX3.facts
   clear hR3 hX3
   go_wp2_with fail
   refine bodyPost_ret (v := .tuple #[.agg #[.bool lr, .slice r1 e1 f1, .slice r2 e2 f2, .slice r3 e3 f3], .int .i64 0]) (by simp [results, Tryz.results73, go_sem, x0, x1, x2, x3, fx0, fx1, fx2, fx3]) rfl ?_
   exact tree_ok (N := W.heap.size + 1 + 1) Hb3.out Hb0.out.size (by rw [Hs0.out]; omega) (by omega) Hq3.out
 . have hdo2 : ∃ into, 0 < lastN p /\ atN R (backP p) = some into /\ leafOf into = leafOf k /\ (lengthN into : Int) = pos /\ propsOf k = ol /\ (joinN into k).wt <= 100000000 /\ X = putN R (backP p) (joinN into k) := by
    rcases Hdo.out with ⟨h, -⟩ | ⟨-, h⟩ | ⟨h, -⟩
    . exact absurd h (by decide)
    . exact h
    . exact absurd h (by decide)
   obtain ⟨into, i1, i2, i3, i4, i5, i6, hXe⟩ := hdo2
   have hmg := merged_ok R k into p d ol 3 pos (.agg #[.bool lr, .slice r1 e1 f1, .slice r2 e2 f2, .slice r3 e3 f3]) (.agg #[.bool lk, .slice s1 g1 h1, .slice s2 g2 h2, .slice s3 g3 h3]) (.bool l0) (.slice a1 m1 c1) (.slice a2 m2 c2) (.slice a3 m3 c3) pa ta oa pc tc oc w2 hbR hbk i6 ⟨_, rfl, NodeQ.node _ _ T6.out⟩ ⟨_, rfl, NodeQ.node _ _ T7.out⟩ (Hp.out.keep T1.out T1.out.size) hpl Hpw.out (Ho.out.keep T1.out T1.out.size) Hne.out i1 i2 i3 i4 i5
   rw [<- hXe] at hmg
   have HM := Lib.hid hmg
   clear hmg Hdo i1 i2 i3 i4 i5 i6 hXe
   go_upto_region 25 with fail
   have hl := At.load (P := Tryz.prog) T5.out Tryz.underlying63 rfl (by kernel_rfl)
   simp [go_sem] at hl
   clear c0
   go_wp2_with fail
   refine HM.out.mono ?_
   intro e w3 ht
   obtain ⟨hb3, ⟨-, l', k1', o4, r1', k2', o5, r2', k3', o6, r3', rfl, hq3⟩ | ⟨hz, -⟩⟩ := ht.cases
   . have hX3 := T4.out.keep (hb3.mono (by have := T4.out.facts.2.2.2.2.2; omega))
     have Hb3 := Lib.hid (T1.out.trans (hb3.mono T1.out.size))
     have Hq3 := Lib.hid (show NodeQ w3 (fun b => w0.heap.size <= b) X [.bool l', .slice k1' o4 r1', .slice k2' o5 r2', .slice k3' o6 r3'] from NodeQ.keep (Nat.le_refl _) (fun _ _ _ => rfl) (fun b hb _ => Nat.le_trans Hs2.out hb) _ _ hq3)
     clear HM ht hb3 hq3 cl z0 z1 z2 z3 k0 k1 k2 k3 x0 x1 x2 x3 fx0 fx1 fx2 fx3 xl hl
     obtain ⟨x0, x1, x2, x3, ⟨fx0, fx1, fx2, fx3⟩, xl⟩ := hX3.facts
     clear hX3
     go_wp2_with fail
     refine bodyPost_ret (v := .tuple #[.agg #[.bool l', .slice k1' o4 r1', .slice k2' o5 r2', .slice k3' o6 r3'], .int .i64 0]) (by simp [results, Tryz.results73, go_sem, x0, x1, x2, x3, fx0, fx1, fx2, fx3]) rfl ?_
     exact tree_ok (N := W.heap.size + 1 + 1) Hb3.out Hb0.out.size (by rw [Hs0.out]; omega) (by omega) Hq3.out
   . exact absurd rfl hz
 . have hdo2 : addN R d k = (X, 0) := by
    rcases Hdo.out with ⟨h, -⟩ | ⟨h, -⟩ | ⟨-, h⟩
    . exact absurd h (by decide)
    . exact absurd h (by decide)
    . exact h
   have had := add_c R k d (.agg #[.bool lr, .slice r1 e1 f1, .slice r2 e2 f2, .slice r3 e3 f3]) (.agg #[.bool lk, .slice s1 g1 h1, .slice s2 g2 h2, .slice s3 g3 h3]) ta tc w2 hbR hbk ⟨_, rfl, NodeQ.node _ _ T6.out⟩ ⟨_, rfl, NodeQ.node _ _ T7.out⟩ (Hd.out.keep T1.out T1.out.size) hdl
   rw [hdo2] at had
   have HM := Lib.hid had
   have e2' := T5.out.cell 2 rfl
   clear had Hdo hdo2
   go_wp2_with fail
   refine HM.out.mono ?_
   intro e w3 ht
   obtain ⟨hb3, ⟨-, l', k1', o4, r1', k2', o5, r2', k3', o6, r3', rfl, hq3⟩ | ⟨hz, -⟩⟩ := ht.cases
   . have hX3 := T4.out.keep (hb3.mono (by have := T4.out.facts.2.2.2.2.2; omega))
     have Hb3 := Lib.hid (T1.out.trans (hb3.mono T1.out.size))
     have Hq3 := Lib.hid (show NodeQ w3 (fun b => w0.heap.size <= b) X [.bool l', .slice k1' o4 r1', .slice k2' o5 r2', .slice k3' o6 r3'] from NodeQ.keep (Nat.le_refl _) (fun _ _ _ => rfl) (fun b hb _ => Nat.le_trans Hs2.out hb) _ _ hq3)
     clear HM ht hb3 hq3 c0 cl e2' z0 z1 z2 z3 k0 k1 k2 k3 x0 x1 x2 x3 fx0 fx1 fx2 fx3 xl
     obtain ⟨x0, x1, x2, x3, ⟨fx0, fx1, fx2, fx3⟩, xl⟩ := hX3.facts
     clear hX3
     go_wp2_with fail
     refine bodyPost_ret (v := .tuple #[.agg #[.bool l', .slice k1' o4 r1', .slice k2' o5 r2', .slice k3' o6 r3'], .int .i64 0]) (by simp [results, Tryz.results73, go_sem, x0, x1, x2, x3, fx0, fx1, fx2, fx3]) rfl ?_
     exact tree_ok (N := W.heap.size + 1 + 1) Hb3.out Hb0.out.size (by rw [Hs0.out]; omega) (by omega) Hq3.out
   . exact absurd rfl hz
end Go.Proofs.YtbommcakcmhalaaGreatDoor
/- Walks: op.shaped, where it can be done: kind 1. -/
namespace Go.Proofs.YtbommcakcmhalaaGreatDoor
open Go.RowKit Go.Redl
theorem shaped_ins (n X : NodeD) (p d : List Int) (pos : Int) (nd : NodeD) (ol : List PropD) (v : Value) (pa ta oa : Option Addr) (pc tc oc : Nat) (l0 : Bool) (a1 a2 a3 : Option Addr) (m1 m2 m3 c1 c2 c3 : Nat) (W : World)
 (hbn : n.wt <= 100000000) (hv : NodeV W W.heap.size n v) (hbig : nd.wt <= 1048576) (hn : NodeV W W.heap.size nd (.agg #[.bool l0, .slice a1 m1 c1, .slice a2 m2 c2, .slice a3 m3 c3]))
 (hp : RowA W W.heap.size 1 pa p.length pc (p.map (Value.int .i64))) (hpl : p.length <= 1000000) (hE : nodeE nd = 0) (hadd : addN n p nd = (X, 0)) :
 Calls Tryz.prog 73 #[v, .agg #[.int .i64 1, .slice pa p.length pc, .slice ta d.length tc, .int .i64 pos, .bool l0, .slice a1 m1 c1, .slice a2 m2 c2, .slice a3 m3 c3, .slice oa ol.length oc, .slice none 0 0, .slice none 0 0, .bool false, .slice none 0 0, .int .i64 0, .slice none 0 0, .int .i64 0, .bool false, .slice none 0 0, .int .i64 0, .slice none 0 0, .int .i64 0]] W (TreeP W (X, 0)) := by
 obtain ⟨csn, rfl, hc⟩ := hv
 obtain ⟨l, b1, o1, d1, b2, o2, d2, b3, o3, d3, rfl⟩ := hc.form
 obtain ⟨kd, hkd⟩ : ∃ kd : Int, kd = 1 := ⟨_, rfl⟩
 rw [<- hkd]
 obtain ⟨w0, hw0⟩ : ∃ w0, w0 = (((((W.alloc (Obj.cells #[.bool l, .slice b1 o1 d1, .slice b2 o2 d2, .slice b3 o3 d3] 35)).alloc (Obj.cells #[.int .i64 kd, .slice pa p.length pc, .slice ta d.length tc, .int .i64 pos, .bool l0, .slice a1 m1 c1, .slice a2 m2 c2, .slice a3 m3 c3, .slice oa ol.length oc, .slice none 0 0, .slice none 0 0, .bool false, .slice none 0 0, .int .i64 0, .slice none 0 0, .int .i64 0, .bool false, .slice none 0 0, .int .i64 0, .slice none 0 0, .int .i64 0] 63)).alloc (Obj.cells #[.bool false, .slice none 0 0, .slice none 0 0, .slice none 0 0] 35)).alloc (Obj.cells #[.bool false, .slice none 0 0, .slice none 0 0, .slice none 0 0] 35)).alloc (Obj.cells #[.bool false, .slice none 0 0, .slice none 0 0, .slice none 0 0] 35)) := ⟨_, rfl⟩
 have hb0 : Below W.heap.size W w0 := by rw [hw0]; exact five_below _ _ _ _ _ _
 have hs0 : w0.heap.size = W.heap.size + 5 := by rw [hw0]; simp
 have hA : NodeAt w0 W.heap.size (.bool l) (.slice b1 o1 d1) (.slice b2 o2 d2) (.slice b3 o3 d3) := by rw [hw0]; exact ((((At.fresh W _ _).alloc _).alloc _).alloc _).alloc _
 have hO : At w0 (W.heap.size + 1) [.int .i64 kd, .slice pa p.length pc, .slice ta d.length tc, .int .i64 pos, .bool l0, .slice a1 m1 c1, .slice a2 m2 c2, .slice a3 m3 c3, .slice oa ol.length oc, .slice none 0 0, .slice none 0 0, .bool false, .slice none 0 0, .int .i64 0, .slice none 0 0, .int .i64 0, .bool false, .slice none 0 0, .int .i64 0, .slice none 0 0, .int .i64 0] 63 := by rw [hw0]; exact (((At.second W _ _ _).alloc _).alloc _).alloc _
 have hX : NodeAt w0 (W.heap.size + 1 + 1) (.bool false) (.slice none 0 0) (.slice none 0 0) (.slice none 0 0) := by rw [hw0]; exact ((At.third W _ _ _ _).alloc _).alloc _
 have HCk := Lib.hid (ncheck_c nd _ w0.heap.size w0 hbig (show NodeV w0 w0.heap.size nd (.agg #[.bool l0, .slice a1 m1 c1, .slice a2 m2 c2, .slice a3 m3 c3]) by obtain ⟨cs, he, hc⟩ := hn; exact ⟨cs, he, NodeC.keep hb0 hb0.size _ _ hc⟩) (Nat.le_refl _))
 rw [hE] at HCk
 have had := fun (w' : World) (hb : Below w0.heap.size w0 w') => add_c n nd p (.agg #[.bool l, .slice b1 o1 d1, .slice b2 o2 d2, .slice b3 o3 d3]) (.agg #[.bool l0, .slice a1 m1 c1, .slice a2 m2 c2, .slice a3 m3 c3]) pa pc w' hbn (by omega) ⟨_, rfl, NodeC.keep (hb0.trans (hb.mono hb0.size)) (hb0.trans (hb.mono hb0.size)).size _ _ hc⟩ (by obtain ⟨cs, he, hc⟩ := hn; exact ⟨cs, he, NodeC.keep (hb0.trans (hb.mono hb0.size)) (hb0.trans (hb.mono hb0.size)).size _ _ hc⟩) (hp.keep (hb0.trans (hb.mono hb0.size)) (hb0.trans (hb.mono hb0.size)).size) hpl
 rw [hadd] at had
 have HAd := Lib.hid had
 have x0 := hO.cell 0 rfl; have x4 := hO.cell 4 rfl; have x5 := hO.cell 5 rfl; have x6 := hO.cell 6 rfl; have x7 := hO.cell 7 rfl; have xl := hO.lt
 have HA := Lib.hid hA; have HO := Lib.hid hO; have HX := Lib.hid hX; have Hb0 := Lib.hid hb0; have Hs0 := Lib.hid hs0; have Hw0 := Lib.hid hw0
 have q1 : (kd == 1) = true := by subst hkd; rfl
 have q2 : (kd == 2) = false := by subst hkd; rfl
 have q3 : (kd == 3) = false := by subst hkd; rfl
 have q4 : (kd == 4) = false := by subst hkd; rfl
 have q5 : (kd == 5) = false := by subst hkd; rfl
 clear hc hn hp hb0 hs0 hA hO hX had hw0 hE hadd hkd
 go_enter Tryz.func73, Tryz.ntmps73
 go_upto_region 2 with fail
 rw [<- Hw0.out]
 clear Hw0
 go_wp2_with fail
 refine HCk.out.mono ?_
 rintro e w1 ⟨rfl, hb1⟩
 have hO1 := HO.out.kept hb1
 have z1 := hO1.cell 1 rfl; have z4 := hO1.cell 4 rfl; have z5 := hO1.cell 5 rfl; have z6 := hO1.cell 6 rfl; have z7 := hO1.cell 7 rfl
 obtain ⟨y0, y1, y2, y3, -, -⟩ := (HA.out.keep (hb1.mono (by have := Hs0.out; omega))).facts
 have HX1 := Lib.hid (HX.out.keep (hb1.mono (by have := Hs0.out; omega)))
 have HM := Lib.hid (HAd.out w1 hb1)
 have Hb1 := Lib.hid (Hb0.out.trans (hb1.mono Hb0.out.size))
 have Hs2 := Lib.hid hb1.size
 clear HCk hb1 hO1 HAd x0 x4 x5 x6 x7 xl HA HO HX
 go_wp2_with fail
 refine HM.out.mono ?_
 intro e w3 ht
 obtain ⟨hb3, ⟨-, l', k1', o4, r1', k2', o5, r2', k3', o6, r3', rfl, hq3⟩ | ⟨hz, -⟩⟩ := ht.cases
 . have hX3 := HX1.out.keep (hb3.mono (by have := HX1.out.facts.2.2.2.2.2; omega))
   have Hb3 := Lib.hid (Hb1.out.trans (hb3.mono Hb1.out.size))
   have Hq3 := Lib.hid (show NodeQ w3 (fun b => w0.heap.size <= b) X [.bool l', .slice k1' o4 r1', .slice k2' o5 r2', .slice k3' o6 r3'] from NodeQ.keep (Nat.le_refl _) (fun _ _ _ => rfl) (fun b hb _ => Nat.le_trans Hs2.out hb) _ _ hq3)
   clear HM ht hb3 hq3 z1 z4 z5 z6 z7 y0 y1 y2 y3
   obtain ⟨x0, x1, x2, x3, ⟨fx0, fx1, fx2, fx3⟩, xl⟩ := hX3.facts
   clear hX3
   go_wp2_with fail
   refine bodyPost_ret (v := .tuple #[.agg #[.bool l', .slice k1' o4 r1', .slice k2' o5 r2', .slice k3' o6 r3'], .int .i64 0]) (by simp [results, Tryz.results73, go_sem, x0, x1, x2, x3, fx0, fx1, fx2, fx3]) rfl ?_
   exact tree_ok (N := W.heap.size + 1 + 1) Hb3.out Hb0.out.size (by rw [Hs0.out]; omega) (by omega) Hq3.out
 . exact absurd rfl hz
end Go.Proofs.YtbommcakcmhalaaGreatDoor
/- Walks: op.own, at no selection. -/
namespace Go.Proofs.YtbommcakcmhalaaGreatDoor
open Go.RowKit Go.Redl
theorem ownclint_ent : ∀ args w, (callFunc 128 args).run Tryz.prog w = .ok (.enter 128 args) w := by intro args w; kernel_rfl
theorem clone_nil (w : World) : Calls Tryz.prog 128 #[.slice none 0 0] w (fun e w' => (∃ a c, e = .returned (.slice a 0 c)) /\ Below w.heap.size w w') := by
 refine (clone_int 0 0 none 0 [] w (RowA.empty _ _ _) (Nat.zero_le _) (by omega)).mono ?_
 rintro e w' ⟨v, rfl, hown, hb⟩
 obtain ⟨va, vc, rfl, -⟩ := row_of_own hown (by intro u hu; cases hu)
 exact ⟨⟨va, vc, rfl⟩, hb⟩
theorem ownZ_c (W : World) :
 Calls Tryz.prog 72 #[selZV] W (fun e w' => (∃ a c a' c', e = .returned (.agg #[.bool false, .slice a 0 c, .int .i64 0, .slice a' 0 c', .int .i64 0])) /\ Below W.heap.size W w') := by
 obtain ⟨w0, hw0⟩ : ∃ w0, w0 = (W.alloc (Obj.cells #[.bool false, .slice none 0 0, .int .i64 0, .slice none 0 0, .int .i64 0] 61)).alloc (Obj.cells #[.bool false, .slice none 0 0, .int .i64 0, .slice none 0 0, .int .i64 0] 61) := ⟨_, rfl⟩
 have hb0 : Below W.heap.size W w0 := by rw [hw0]; exact (one_below _ _).alloc (by simp) _
 have hs0 : w0.heap.size = W.heap.size + 2 := by rw [hw0]; simp
 have hA : At w0 W.heap.size [.bool false, .slice none 0 0, .int .i64 0, .slice none 0 0, .int .i64 0] 61 := by rw [hw0]; exact (At.fresh W _ _).alloc _
 have hB : At w0 (W.heap.size + 1) [.bool false, .slice none 0 0, .int .i64 0, .slice none 0 0, .int .i64 0] 61 := by rw [hw0]; exact At.second W _ _ _
 obtain ⟨⟨x0, x1, x2, x3, x4⟩, xf, xl⟩ := hA.f5
 have HA := Lib.hid hA; have HB := Lib.hid hB; have Hb0 := Lib.hid hb0; have Hs0 := Lib.hid hs0; have Hw0 := Lib.hid hw0
 clear hA hB hb0 hs0 hw0
 go_enter Tryz.func72, Tryz.ntmps72
 go_upto_region 1 with fail
 rw [<- Hw0.out]
 clear Hw0
 go_cut [] (fun wx => ∃ a c a' c', At wx W.heap.size [.bool false, .slice a 0 c, .int .i64 0, .slice a' 0 c', .int .i64 0] 61 /\ At wx (W.heap.size + 1) [.bool false, .slice none 0 0, .int .i64 0, .slice none 0 0, .int .i64 0] 61 /\ Below W.heap.size W wx)
 case first =>
  go_region_law (first
   | (refine step_call rfl 128 _ _ rfl ownclint_ent [.slice none 0 0] ?_ _ (clone_nil w0.drew) ?_
      . go_simp
      rintro e w1 ⟨⟨va, vc, rfl⟩, hbel⟩
      refine ⟨_, rfl, ?_⟩
      have Hb1 := Lib.hid (((Below.refl w0.heap.size w0).drew).trans hbel)
      obtain ⟨⟨y0, y1, y2, y3, y4⟩, yf, yl⟩ := (HA.out.kept Hb1.out).f5
      clear hbel)
   | (refine step_call rfl 128 _ _ rfl ownclint_ent [.slice none 0 0] ?_ _ (clone_nil w1) ?_
      . go_simp
      rintro e w2 ⟨⟨ua, uc, rfl⟩, hbel⟩
      refine ⟨_, rfl, ?_⟩
      have Hb2 := Lib.hid (Hb1.out.trans (hbel.mono Hb1.out.size))
      have HA2 := Lib.hid (HA.out.kept Hb2.out)
      obtain ⟨⟨z0, z1, z2, z3, z4⟩, zf, zl⟩ := HA2.out.f5
      clear hbel))
  all_goals
   go_wp2_with fail
   go_meet
   case rel =>
    refine ⟨va, vc, ua, uc, (HA2.out.set 1 _).set 3 _, ((HB.out.kept Hb2.out).set_ne (by omega) _).set_ne (by omega) _, ((Hb0.out.trans (Hb2.out.mono Hb0.out.size)).setCell (p := ⟨W.heap.size, 1, none⟩) (Nat.le_refl _) _).setCell (p := ⟨W.heap.size, 3, none⟩) (Nat.le_refl _) _⟩
 case rest =>
  obtain ⟨a, c, a', c', hA, hB, hbel⟩ := hcut
  obtain ⟨⟨y0, y1, y2, y3, y4⟩, yf, yl⟩ := hA.f5
  obtain ⟨⟨z0, z1, z2, z3, z4⟩, zf, zl⟩ := hB.f5
  have Hbel := Lib.hid hbel
  clear hA hB hbel x0 x1 x2 x3 x4 xf xl HA HB
  go_wp2_with fail
  refine bodyPost_ret (v := .agg #[.bool false, .slice a 0 c, .int .i64 0, .slice a' 0 c', .int .i64 0]) (by simp [results, Tryz.results72, go_sem, z0, z1, z2, z3, z4, zf]) rfl ?_
  exact ⟨⟨a, c, a', c', rfl⟩, ((((Hbel.out.setCell (p := ⟨W.heap.size + 1, 0, none⟩) (by show _ <= _ + 1; omega) _).setCell (p := ⟨W.heap.size + 1, 1, none⟩) (by show _ <= _ + 1; omega) _).setCell (p := ⟨W.heap.size + 1, 2, none⟩) (by show _ <= _ + 1; omega) _).setCell (p := ⟨W.heap.size + 1, 3, none⟩) (by show _ <= _ + 1; omega) _).setCell (p := ⟨W.heap.size + 1, 4, none⟩) (by show _ <= _ + 1; omega) _⟩
end Go.Proofs.YtbommcakcmhalaaGreatDoor
