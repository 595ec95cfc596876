/- Parts of the proof, one behind the other: RTQ, RTR. -/
import Derived.Test.YtbommcakcmhalaaGreatDoorLM19
import Derived.Test.YtbommcakcmhalaaGreatDoorLM17
import Derived.Test.YtbommcakcmhalaaGreatDoorLM14
/- Walks: op.stays, with no selection, at what repairs have. -/
set_option linter.unusedVariables false
set_option linter.unusedSimpArgs false
set_option maxHeartbeats 4000000
set_option maxRecDepth 100000
namespace Go.Proofs.YtbommcakcmhalaaGreatDoor
open Go.RowKit Go.Redl
/-- A part of a box, loaded whole, as one operation of a plain region. -/
theorem wpList_loadP {P : Program} {ops : Array Oper} {rest : List Oper} {o : Oper} {a : Act} {w : World} {Q : Exit -> Act -> World -> Prop} (hg : o.guard = none) (ty : TypeId) (x : Operand) (ho : o.op = .load ty x)
 (N off : Nat) (cs : List Value) (U : TypeId) (vs : Array Value) (hx : a.eval x = .pointer (some ⟨N, off, none⟩)) (h : At w N cs U) (hds : (cs.drop off).take vs.toList.length = vs.toList) (d : TypeDesc) (hu : P.underlying ty = some d) (hd : d.isRow = true) (hi : (P.info? ty).map (·.size) = some vs.size)
 (hk : wpList P ops Q rest (a.put o.dst (.agg vs)) w) : wpList P ops Q (o :: rest) a w :=
 wpList_load_mid hg ty x ho N off hx vs.toList d (fun j v hj => h.cell (off + j) (by
  rw [<- hds, List.getElem?_take] at hj
  split at hj
  . rw [List.getElem?_drop] at hj; exact hj
  . cases hj)) hu hd (by simpa using hi) (by simpa using hk)
theorem stays_c (p d : List Int) (kd pos : Int) (nd : NodeD) (ol : List PropD) (pa ta oa : Option Addr) (pc tc oc : Nat) (l0 : Bool) (a1 a2 a3 : Option Addr) (m1 m2 m3 c1 c2 c3 : Nat) (W : World)
 (hbig : nd.wt <= 100000000) (hn : NodeV W W.heap.size nd (.agg #[.bool l0, .slice a1 m1 c1, .slice a2 m2 c2, .slice a3 m3 c3])) (hne : p ≠ [])
 (fs : List UInt8) (hfs : askM hasLst kd (.string ⟨#[]⟩) = (.string ⟨fs.toArray⟩, true)) (hfl : fs.length <= 1000) (hall : ∀ c ∈ onB (setL9 p d pos nd ol), c ∈ fs)
 (hp : RowA W W.heap.size 1 pa p.length pc (p.map (Value.int .i64))) (hpl : p.length <= 1000000) (hd : RowA W W.heap.size 1 ta d.length tc (d.map (Value.int .i64))) (hdl : d.length <= 1000000) (ho : RowA W W.heap.size 2 oa ol.length oc (propCells ol)) (hol : ol.length <= 100000000)
 (hk : KindR kd) (h3 : kd = 3 -> 0 < lastN p) (h5 : kd = 5 -> d ≠ []) (hpw : ∀ z ∈ p, -9223372036854775807 <= z /\ z <= 9223372036854775807) :
 Calls Tryz.prog 74 #[selZV, .agg #[.int .i64 kd, .slice pa p.length pc, .slice ta d.length tc, .int .i64 pos, .bool l0, .slice a1 m1 c1, .slice a2 m2 c2, .slice a3 m3 c3, .slice oa ol.length oc, .slice none 0 0, .slice none 0 0, .bool false, .slice none 0 0, .int .i64 0, .slice none 0 0, .int .i64 0, .bool false, .slice none 0 0, .int .i64 0, .slice none 0 0, .int .i64 0]] W (fun e w' => e = .returned (.bool true) /\ Below W.heap.size W w') := by
 obtain ⟨w0, hw0⟩ : ∃ w0, w0 = (W.alloc (Obj.cells #[.bool false, .slice none 0 0, .int .i64 0, .slice none 0 0, .int .i64 0] 61)).alloc (Obj.cells #[.int .i64 kd, .slice pa p.length pc, .slice ta d.length tc, .int .i64 pos, .bool l0, .slice a1 m1 c1, .slice a2 m2 c2, .slice a3 m3 c3, .slice oa ol.length oc, .slice none 0 0, .slice none 0 0, .bool false, .slice none 0 0, .int .i64 0, .slice none 0 0, .int .i64 0, .bool false, .slice none 0 0, .int .i64 0, .slice none 0 0, .int .i64 0] 63) := ⟨_, rfl⟩
 have hb0 : Below W.heap.size W w0 := by rw [hw0]; exact (one_below _ _).alloc (by simp) _
 have hs0 : w0.heap.size = W.heap.size + 2 := by rw [hw0]; simp
 have hA : At w0 W.heap.size [.bool false, .slice none 0 0, .int .i64 0, .slice none 0 0, .int .i64 0] 61 := by rw [hw0]; exact (At.fresh W _ _).alloc _
 have hB : At w0 (W.heap.size + 1) [.int .i64 kd, .slice pa p.length pc, .slice ta d.length tc, .int .i64 pos, .bool l0, .slice a1 m1 c1, .slice a2 m2 c2, .slice a3 m3 c3, .slice oa ol.length oc, .slice none 0 0, .slice none 0 0, .bool false, .slice none 0 0, .int .i64 0, .slice none 0 0, .int .i64 0, .bool false, .slice none 0 0, .int .i64 0, .slice none 0 0, .int .i64 0] 63 := by rw [hw0]; exact At.second W _ _ _
 have hnk : NodeV w0 w0.heap.size nd (.agg #[.bool l0, .slice a1 m1 c1, .slice a2 m2 c2, .slice a3 m3 c3]) := by
  obtain ⟨cs, he, hc⟩ := hn
  exact ⟨cs, he, NodeC.keep hb0 hb0.size _ _ hc⟩
 have hrk : ∀ {sz : Nat} {a : Option Addr} {n c : Nat} {cs : List Value} (w' : World), Below w0.heap.size w0 w' -> RowA W W.heap.size sz a n c cs -> RowA w' w'.heap.size sz a n c cs := fun w' hb hr => hr.keep (hb0.trans (hb.mono hb0.size)) (hb0.trans (hb.mono hb0.size)).size
 have HI := Lib.hid (binv_c p d kd pos nd ol pa ta oa pc tc oc l0 a1 a2 a3 m1 m2 m3 c1 c2 c3 w0 hbig hnk hne fs hfs hfl hall (hrk w0 (Below.refl _ _) hp) hpl (hrk w0 (Below.refl _ _) hd) hdl (hrk w0 (Below.refl _ _) ho) hol hk h3 h5 hpw)
 have HM1 := Lib.hid (fun (w' : World) (hb : Below w0.heap.size w0 w') => pmoveZ_c p d kd pos pa ta pc tc (.bool l0) (.slice a1 m1 c1) (.slice a2 m2 c2) (.slice a3 m3 c3) (.slice oa ol.length oc) (.slice none 0 0) (.slice none 0 0) (.bool false) (.slice none 0 0) (.int .i64 0) (.slice none 0 0) (.int .i64 0) (.bool false) (.slice none 0 0) (.int .i64 0) (.slice none 0 0) (.int .i64 0) w' (by rcases hk with h | h | h | h <;> omega) (hrk w' hb hp) (hrk w' hb hd) hpl hdl hne)
 have HA := Lib.hid hA; have HB := Lib.hid hB; have Hb0 := Lib.hid hb0; have Hs0 := Lib.hid hs0; have Hw0 := Lib.hid hw0
 clear hA hB hb0 hs0 hw0 hn hp hd ho hnk hrk hfs hall h3 h5 hne hpw hk
 go_enter Tryz.func74, Tryz.ntmps74
 go_upto_region 1 with fail
 rw [<- Hw0.out]
 clear Hw0
 go_wp2_with (refine wpList_loadA rfl _ _ rfl (W.heap.size + 1) #[.int .i64 kd, .slice pa p.length pc, .slice ta d.length tc, .int .i64 pos, .bool l0, .slice a1 m1 c1, .slice a2 m2 c2, .slice a3 m3 c3, .slice oa ol.length oc, .slice none 0 0, .slice none 0 0, .bool false, .slice none 0 0, .int .i64 0, .slice none 0 0, .int .i64 0, .bool false, .slice none 0 0, .int .i64 0, .slice none 0 0, .int .i64 0] rfl HB.out _ Tryz.underlying63 rfl (by kernel_rfl) ?_)
 refine HI.out.mono ?_
 rintro e w1 ⟨hbel, kd2, q, r, pos2, qa, qc, ra, rc, v4, v5, v6, v7, v8, v9, v10, v11, v12, v13, v14, v15, v16, v17, v18, v19, v20, rfl, hk2, hqne, hql, hrl, hq, hr, hone⟩
 have Hb1 := Lib.hid hbel
 have Hone := Lib.hid hone
 have HM2 := Lib.hid (fun (w' : World) (hb : Below w1.heap.size w1 w') => pmoveZ_c q r kd2 pos2 qa ra qc rc v4 v5 v6 v7 v8 v9 v10 v11 v12 v13 v14 v15 v16 v17 v18 v19 v20 w' hk2 (hq.row.keep hb hb.size) (hr.row.keep hb hb.size) hql hrl hqne)
 clear hbel hone hq hr hk2 hqne hql hrl HI
 go_wp2_with (refine wpList_storeA rfl _ _ _ rfl rfl w1.heap.size [.int .i64 0, .slice none 0 0, .slice none 0 0, .int .i64 0, .bool false, .slice none 0 0, .slice none 0 0, .slice none 0 0, .slice none 0 0, .slice none 0 0, .slice none 0 0, .bool false, .slice none 0 0, .int .i64 0, .slice none 0 0, .int .i64 0, .bool false, .slice none 0 0, .int .i64 0, .slice none 0 0, .int .i64 0] #[.int .i64 kd2, .slice qa q.length qc, .slice ra r.length rc, .int .i64 pos2, v4, v5, v6, v7, v8, v9, v10, v11, v12, v13, v14, v15, v16, v17, v18, v19, v20] rfl rfl (At.fresh w1 _ _) rfl Hone.out (by kernel_rfl) ?_)
 intro w2 hC2 hg2
 have hgg := grownBy_trans (grown_of_below (one_below w1 (Obj.cells #[.int .i64 0, .slice none 0 0, .slice none 0 0, .int .i64 0, .bool false, .slice none 0 0, .slice none 0 0, .slice none 0 0, .slice none 0 0, .slice none 0 0, .slice none 0 0, .bool false, .slice none 0 0, .int .i64 0, .slice none 0 0, .int .i64 0, .bool false, .slice none 0 0, .int .i64 0, .slice none 0 0, .int .i64 0] 63))) hg2
 have Hb12 := Lib.hid (hgg.old (M := w1.heap.size) (Nat.le_refl _) (fun k hk => by cases hk; exact Nat.le_refl _))
 have Hb2 := Lib.hid (below_and Hb1.out Hb12.out)
 have HC2 := Lib.hid hC2
 have HA2 := Lib.hid (HA.out.kept Hb2.out); have HB2 := Lib.hid (HB.out.kept Hb2.out)
 have HN1 := Lib.hid (show ∀ w', Below w2.heap.size w2 w' -> Below w0.heap.size w0 w' from fun w' hb => below_and Hb2.out hb)
 have HN2 := Lib.hid (show ∀ w', Below w2.heap.size w2 w' -> Below w1.heap.size w1 w' from fun w' hb => below_and Hb12.out hb)
 have x1 := HA2.out.cell 1 rfl; have x2 := HA2.out.cell 2 rfl; have x3 := HA2.out.cell 3 rfl; have x4 := HA2.out.cell 4 rfl; have xl := HA2.out.lt
 have Hs2 := Lib.hid (show W.heap.size + 2 <= w2.heap.size by have h1 := Hs0.out; have h2 := Hb2.out.size; omega)
 have Hl2 := Lib.hid (show w1.heap.size < w2.heap.size from hC2.lt)
 clear hC2 hg2 hgg HA HB
 go_wp2_with fail
 obtain ⟨w3, hw3⟩ : ∃ w3, w3 = w2.alloc (Obj.cells #[.slice none 0 0, .int .i64 0, .slice none 0 0, .int .i64 0] 57) := ⟨_, rfl⟩
 have HP3 := Lib.hid (show At w3 w2.heap.size [.slice none 0 0, .int .i64 0, .slice none 0 0, .int .i64 0] 57 by rw [hw3]; exact At.fresh _ _ _)
 have Hb3 := Lib.hid (show Below w2.heap.size w2 w3 by rw [hw3]; exact one_below _ _)
 rw [<- hw3]
 clear hw3 x1 x2 x3 x4 xl
 go_loopg [26, 8, 10, 11, 12] 2 (fun g i _ _ _ _ wr => ∃ j : Nat, i = .int .i64 j /\ j + g = 2 /\ Hid (Below w3.heap.size w3 wr))
 case atStart => exact ⟨0, rfl, rfl, Below.refl _ _⟩
 case round =>
  obtain ⟨j, rfl, hg, hbr⟩ := hrel
  have hb2r := below_and Hb3.out hbr.out
  have HA3 := Lib.hid (HA2.out.kept hb2r); have HB3 := Lib.hid (HB2.out.kept hb2r); have HC3 := Lib.hid (HC2.out.kept hb2r)
  have HPr := Lib.hid (HP3.out.kept hbr.out)
  have Hb2r := Lib.hid hb2r
  have HBR := hbr
  clear hb2r hbr
  have hj : j = 2 ∨ j = 0 ∨ j = 1 := by omega
  rcases hj with rfl | hj
  ·
    have x0 := HA3.out.cell 0 rfl; have xl := HA3.out.lt
    have HbW := Lib.hid (Hb0.out.trans ((HN1.out wr Hb2r.out).mono Hb0.out.size))
    go_wp2_with fail
    go_ret
    exact ⟨rfl, HbW.out⟩
  . have p0 := HPr.out.cell 0 rfl; have p1 := HPr.out.cell 1 rfl; have p2 := HPr.out.cell 2 rfl; have p3 := HPr.out.cell 3 rfl; have pl := HPr.out.lt
    rcases hj with rfl | rfl
    ·
      go_wp2_with (first
       | (refine wpList_loadA rfl _ _ rfl (W.heap.size + 1) #[.int .i64 kd, .slice pa p.length pc, .slice ta d.length tc, .int .i64 pos, .bool l0, .slice a1 m1 c1, .slice a2 m2 c2, .slice a3 m3 c3, .slice oa ol.length oc, .slice none 0 0, .slice none 0 0, .bool false, .slice none 0 0, .int .i64 0, .slice none 0 0, .int .i64 0, .bool false, .slice none 0 0, .int .i64 0, .slice none 0 0, .int .i64 0] rfl (HB3.out.alloc _) _ Tryz.underlying63 rfl (by kernel_rfl) ?_)
       | (refine wpList_loadA rfl _ _ rfl w1.heap.size #[.int .i64 kd2, .slice qa q.length qc, .slice ra r.length rc, .int .i64 pos2, v4, v5, v6, v7, v8, v9, v10, v11, v12, v13, v14, v15, v16, v17, v18, v19, v20] rfl (HC3.out.alloc _) _ Tryz.underlying63 rfl (by kernel_rfl) ?_))
      obtain ⟨w4, hw4⟩ : ∃ w4, w4 = (wr.alloc (Obj.cells #[Value.slice none 0 0, Value.int .i64 0] 57)).alloc (Obj.cells #[.int .i64 kd, .slice pa p.length pc, .slice ta d.length tc, .int .i64 pos, .bool l0, .slice a1 m1 c1, .slice a2 m2 c2, .slice a3 m3 c3, .slice oa ol.length oc, .slice none 0 0, .slice none 0 0, .bool false, .slice none 0 0, .int .i64 0, .slice none 0 0, .int .i64 0, .bool false, .slice none 0 0, .int .i64 0, .slice none 0 0, .int .i64 0, .int .i64 kd2, .slice qa q.length qc, .slice ra r.length rc, .int .i64 pos2, v4, v5, v6, v7, v8, v9, v10, v11, v12, v13, v14, v15, v16, v17, v18, v19, v20] 63) := ⟨_, rfl⟩
      have Hbr4 := Lib.hid (show Below wr.heap.size wr w4 by rw [hw4]; exact two_below _ _ _)
      have HP := Lib.hid (show At w4 wr.heap.size [Value.slice none 0 0, Value.int .i64 0] 57 by rw [hw4]; exact (At.fresh _ _ _).alloc _)
      have HO := Lib.hid (show At w4 (wr.heap.size + 1) [.int .i64 kd, .slice pa p.length pc, .slice ta d.length tc, .int .i64 pos, .bool l0, .slice a1 m1 c1, .slice a2 m2 c2, .slice a3 m3 c3, .slice oa ol.length oc, .slice none 0 0, .slice none 0 0, .bool false, .slice none 0 0, .int .i64 0, .slice none 0 0, .int .i64 0, .bool false, .slice none 0 0, .int .i64 0, .slice none 0 0, .int .i64 0, .int .i64 kd2, .slice qa q.length qc, .slice ra r.length rc, .int .i64 pos2, v4, v5, v6, v7, v8, v9, v10, v11, v12, v13, v14, v15, v16, v17, v18, v19, v20] 63 by rw [hw4]; exact At.second _ _ _ _)
      rw [<- hw4]
      clear hw4 p0 p1 p2 p3 pl
      generalize hwo : wr = wo at *
      clear hwo
      go_loopg [34, 10, 11, 12] 2 (fun g i _ _ _ wr => ∃ k : Nat, i = .int .i64 k /\ k + g = 2 /\ Hid (Below w4.heap.size w4 wr))
      case atStart => exact ⟨0, rfl, rfl, Below.refl _ _⟩
      case round =>
       obtain ⟨k, rfl, hgk, hbi⟩ := hrel
       have HP4 := Lib.hid (HP.out.kept hbi.out); have HO4 := Lib.hid (HO.out.kept hbi.out)
       have Hbi := Lib.hid hbi.out
       clear hbi
       have hk : k = 2 ∨ k = 0 ∨ k = 1 := by omega
       rcases hk with rfl | rfl | rfl
       . go_wp2_with fail
         go_roundg 1
         case measure => omega
         case rel => exact ⟨1, rfl, by omega, (show Below _ _ _ from below_and HBR.out (Hbr4.out.trans (Hbi.out.mono Hbr4.out.size)))⟩
       . go_wp2_with (first
          | (refine wpList_loadP rfl _ _ rfl (wo.heap.size + 1) 0 [.int .i64 kd, .slice pa p.length pc, .slice ta d.length tc, .int .i64 pos, .bool l0, .slice a1 m1 c1, .slice a2 m2 c2, .slice a3 m3 c3, .slice oa ol.length oc, .slice none 0 0, .slice none 0 0, .bool false, .slice none 0 0, .int .i64 0, .slice none 0 0, .int .i64 0, .bool false, .slice none 0 0, .int .i64 0, .slice none 0 0, .int .i64 0, .int .i64 kd2, .slice qa q.length qc, .slice ra r.length rc, .int .i64 pos2, v4, v5, v6, v7, v8, v9, v10, v11, v12, v13, v14, v15, v16, v17, v18, v19, v20] 63 #[.int .i64 kd, .slice pa p.length pc, .slice ta d.length tc, .int .i64 pos, .bool l0, .slice a1 m1 c1, .slice a2 m2 c2, .slice a3 m3 c3, .slice oa ol.length oc, .slice none 0 0, .slice none 0 0, .bool false, .slice none 0 0, .int .i64 0, .slice none 0 0, .int .i64 0, .bool false, .slice none 0 0, .int .i64 0, .slice none 0 0, .int .i64 0] rfl HO4.out rfl _ Tryz.underlying63 rfl (by kernel_rfl) ?_)
          | (refine wpList_storeA rfl _ _ _ rfl rfl wr.heap.size [.int .i64 0, .slice none 0 0, .slice none 0 0, .int .i64 0, .bool false, .slice none 0 0, .slice none 0 0, .slice none 0 0, .slice none 0 0, .slice none 0 0, .slice none 0 0, .bool false, .slice none 0 0, .int .i64 0, .slice none 0 0, .int .i64 0, .bool false, .slice none 0 0, .int .i64 0, .slice none 0 0, .int .i64 0] #[.int .i64 kd, .slice pa p.length pc, .slice ta d.length tc, .int .i64 pos, .bool l0, .slice a1 m1 c1, .slice a2 m2 c2, .slice a3 m3 c3, .slice oa ol.length oc, .slice none 0 0, .slice none 0 0, .bool false, .slice none 0 0, .int .i64 0, .slice none 0 0, .int .i64 0, .bool false, .slice none 0 0, .int .i64 0, .slice none 0 0, .int .i64 0] rfl rfl (At.fresh wr _ _) rfl rfl (by kernel_rfl) ?_))
         intro w5 h5 g5
         have hgg := grownBy_trans (grown_of_below (one_below wr (Obj.cells #[.int .i64 0, .slice none 0 0, .slice none 0 0, .int .i64 0, .bool false, .slice none 0 0, .slice none 0 0, .slice none 0 0, .slice none 0 0, .slice none 0 0, .slice none 0 0, .bool false, .slice none 0 0, .int .i64 0, .slice none 0 0, .int .i64 0, .bool false, .slice none 0 0, .int .i64 0, .slice none 0 0, .int .i64 0] 63))) g5
         have Hb5 := Lib.hid (hgg.old (M := wr.heap.size) (Nat.le_refl _) (fun k hk => by cases hk; exact Nat.le_refl _))
         have H5 := Lib.hid h5
         have p5 := (HP4.out.kept Hb5.out).cell 0 rfl; have p6 := (HP4.out.kept Hb5.out).cell 1 rfl; have p7 := (HP4.out.kept Hb5.out).lt
         have Hb45 := Lib.hid (below_and Hbi.out Hb5.out)
         have HMc := Lib.hid (HM1.out w5 (HN1.out w5 (below_and Hb2r.out (Hbr4.out.trans (Hb45.out.mono Hbr4.out.size)))))
         clear h5 g5 hgg
         go_wp2_with (refine wpList_loadA rfl _ _ rfl wr.heap.size #[.int .i64 kd, .slice pa p.length pc, .slice ta d.length tc, .int .i64 pos, .bool l0, .slice a1 m1 c1, .slice a2 m2 c2, .slice a3 m3 c3, .slice oa ol.length oc, .slice none 0 0, .slice none 0 0, .bool false, .slice none 0 0, .int .i64 0, .slice none 0 0, .int .i64 0, .bool false, .slice none 0 0, .int .i64 0, .slice none 0 0, .int .i64 0] rfl H5.out _ Tryz.underlying63 rfl (by kernel_rfl) ?_)
         refine HMc.out.mono ?_
         rintro e w6 ⟨hbel, va, vc, vi, vb, rfl⟩
         have Hb46 := Lib.hid (below_and Hb45.out hbel)
         have x0 := (HA3.out.kept (below_and Hbr4.out Hb46.out)).cell 0 rfl
         have xl := (HA3.out.kept (below_and Hbr4.out Hb46.out)).lt
         clear hbel HMc p5 p6 p7
         go_wp2_with fail
         go_roundg 1
         case measure => omega
         case rel => exact ⟨1, rfl, by omega, Hb46.out.trans ((one_below w6 _).mono Hb46.out.size)⟩
       . go_wp2_with (first
          | (refine wpList_loadP rfl _ _ rfl (wo.heap.size + 1) 21 [.int .i64 kd, .slice pa p.length pc, .slice ta d.length tc, .int .i64 pos, .bool l0, .slice a1 m1 c1, .slice a2 m2 c2, .slice a3 m3 c3, .slice oa ol.length oc, .slice none 0 0, .slice none 0 0, .bool false, .slice none 0 0, .int .i64 0, .slice none 0 0, .int .i64 0, .bool false, .slice none 0 0, .int .i64 0, .slice none 0 0, .int .i64 0, .int .i64 kd2, .slice qa q.length qc, .slice ra r.length rc, .int .i64 pos2, v4, v5, v6, v7, v8, v9, v10, v11, v12, v13, v14, v15, v16, v17, v18, v19, v20] 63 #[.int .i64 kd2, .slice qa q.length qc, .slice ra r.length rc, .int .i64 pos2, v4, v5, v6, v7, v8, v9, v10, v11, v12, v13, v14, v15, v16, v17, v18, v19, v20] rfl HO4.out rfl _ Tryz.underlying63 rfl (by kernel_rfl) ?_)
          | (refine wpList_storeA rfl _ _ _ rfl rfl wr.heap.size [.int .i64 0, .slice none 0 0, .slice none 0 0, .int .i64 0, .bool false, .slice none 0 0, .slice none 0 0, .slice none 0 0, .slice none 0 0, .slice none 0 0, .slice none 0 0, .bool false, .slice none 0 0, .int .i64 0, .slice none 0 0, .int .i64 0, .bool false, .slice none 0 0, .int .i64 0, .slice none 0 0, .int .i64 0] #[.int .i64 kd2, .slice qa q.length qc, .slice ra r.length rc, .int .i64 pos2, v4, v5, v6, v7, v8, v9, v10, v11, v12, v13, v14, v15, v16, v17, v18, v19, v20] rfl rfl (At.fresh wr _ _) rfl Hone.out (by kernel_rfl) ?_))
         intro w5 h5 g5
         have hgg := grownBy_trans (grown_of_below (one_below wr (Obj.cells #[.int .i64 0, .slice none 0 0, .slice none 0 0, .int .i64 0, .bool false, .slice none 0 0, .slice none 0 0, .slice none 0 0, .slice none 0 0, .slice none 0 0, .slice none 0 0, .bool false, .slice none 0 0, .int .i64 0, .slice none 0 0, .int .i64 0, .bool false, .slice none 0 0, .int .i64 0, .slice none 0 0, .int .i64 0] 63))) g5
         have Hb5 := Lib.hid (hgg.old (M := wr.heap.size) (Nat.le_refl _) (fun k hk => by cases hk; exact Nat.le_refl _))
         have H5 := Lib.hid h5
         have p5 := (HP4.out.kept Hb5.out).cell 0 rfl; have p6 := (HP4.out.kept Hb5.out).cell 1 rfl; have p7 := (HP4.out.kept Hb5.out).lt
         have Hb45 := Lib.hid (below_and Hbi.out Hb5.out)
         have HMc := Lib.hid (HM2.out w5 (HN2.out w5 (below_and Hb2r.out (Hbr4.out.trans (Hb45.out.mono Hbr4.out.size)))))
         clear h5 g5 hgg
         go_wp2_with (refine wpList_loadA rfl _ _ rfl wr.heap.size #[.int .i64 kd2, .slice qa q.length qc, .slice ra r.length rc, .int .i64 pos2, v4, v5, v6, v7, v8, v9, v10, v11, v12, v13, v14, v15, v16, v17, v18, v19, v20] rfl H5.out _ Tryz.underlying63 rfl (by kernel_rfl) ?_)
         refine HMc.out.mono ?_
         rintro e w6 ⟨hbel, va, vc, vi, vb, rfl⟩
         have Hb46 := Lib.hid (below_and Hb45.out hbel)
         have x0 := (HA3.out.kept (below_and Hbr4.out Hb46.out)).cell 0 rfl
         have xl := (HA3.out.kept (below_and Hbr4.out Hb46.out)).lt
         clear hbel HMc p5 p6 p7
         go_wp2_with fail
         go_roundg 0
         case measure => omega
         case rel => exact ⟨2, rfl, by omega, Hb46.out.trans ((one_below w6 _).mono Hb46.out.size)⟩
    ·
      go_wp2_with (first
       | (refine wpList_loadA rfl _ _ rfl (W.heap.size + 1) #[.int .i64 kd, .slice pa p.length pc, .slice ta d.length tc, .int .i64 pos, .bool l0, .slice a1 m1 c1, .slice a2 m2 c2, .slice a3 m3 c3, .slice oa ol.length oc, .slice none 0 0, .slice none 0 0, .bool false, .slice none 0 0, .int .i64 0, .slice none 0 0, .int .i64 0, .bool false, .slice none 0 0, .int .i64 0, .slice none 0 0, .int .i64 0] rfl (HB3.out.alloc _) _ Tryz.underlying63 rfl (by kernel_rfl) ?_)
       | (refine wpList_loadA rfl _ _ rfl w1.heap.size #[.int .i64 kd2, .slice qa q.length qc, .slice ra r.length rc, .int .i64 pos2, v4, v5, v6, v7, v8, v9, v10, v11, v12, v13, v14, v15, v16, v17, v18, v19, v20] rfl (HC3.out.alloc _) _ Tryz.underlying63 rfl (by kernel_rfl) ?_))
      obtain ⟨w4, hw4⟩ : ∃ w4, w4 = (wr.alloc (Obj.cells #[Value.slice none 0 0, Value.int .i64 0] 57)).alloc (Obj.cells #[.int .i64 kd, .slice pa p.length pc, .slice ta d.length tc, .int .i64 pos, .bool l0, .slice a1 m1 c1, .slice a2 m2 c2, .slice a3 m3 c3, .slice oa ol.length oc, .slice none 0 0, .slice none 0 0, .bool false, .slice none 0 0, .int .i64 0, .slice none 0 0, .int .i64 0, .bool false, .slice none 0 0, .int .i64 0, .slice none 0 0, .int .i64 0, .int .i64 kd2, .slice qa q.length qc, .slice ra r.length rc, .int .i64 pos2, v4, v5, v6, v7, v8, v9, v10, v11, v12, v13, v14, v15, v16, v17, v18, v19, v20] 63) := ⟨_, rfl⟩
      have Hbr4 := Lib.hid (show Below wr.heap.size wr w4 by rw [hw4]; exact two_below _ _ _)
      have HP := Lib.hid (show At w4 wr.heap.size [Value.slice none 0 0, Value.int .i64 0] 57 by rw [hw4]; exact (At.fresh _ _ _).alloc _)
      have HO := Lib.hid (show At w4 (wr.heap.size + 1) [.int .i64 kd, .slice pa p.length pc, .slice ta d.length tc, .int .i64 pos, .bool l0, .slice a1 m1 c1, .slice a2 m2 c2, .slice a3 m3 c3, .slice oa ol.length oc, .slice none 0 0, .slice none 0 0, .bool false, .slice none 0 0, .int .i64 0, .slice none 0 0, .int .i64 0, .bool false, .slice none 0 0, .int .i64 0, .slice none 0 0, .int .i64 0, .int .i64 kd2, .slice qa q.length qc, .slice ra r.length rc, .int .i64 pos2, v4, v5, v6, v7, v8, v9, v10, v11, v12, v13, v14, v15, v16, v17, v18, v19, v20] 63 by rw [hw4]; exact At.second _ _ _ _)
      rw [<- hw4]
      clear hw4 p0 p1 p2 p3 pl
      generalize hwo : wr = wo at *
      clear hwo
      go_loopg [34, 10, 11, 12] 2 (fun g i _ _ _ wr => ∃ k : Nat, i = .int .i64 k /\ k + g = 2 /\ Hid (Below w4.heap.size w4 wr))
      case atStart => exact ⟨0, rfl, rfl, Below.refl _ _⟩
      case round =>
       obtain ⟨k, rfl, hgk, hbi⟩ := hrel
       have HP4 := Lib.hid (HP.out.kept hbi.out); have HO4 := Lib.hid (HO.out.kept hbi.out)
       have Hbi := Lib.hid hbi.out
       clear hbi
       have hk : k = 2 ∨ k = 0 ∨ k = 1 := by omega
       rcases hk with rfl | rfl | rfl
       . go_wp2_with fail
         go_roundg 0
         case measure => omega
         case rel => exact ⟨2, rfl, by omega, (show Below _ _ _ from below_and HBR.out (Hbr4.out.trans (Hbi.out.mono Hbr4.out.size)))⟩
       . go_wp2_with (first
          | (refine wpList_loadP rfl _ _ rfl (wo.heap.size + 1) 0 [.int .i64 kd, .slice pa p.length pc, .slice ta d.length tc, .int .i64 pos, .bool l0, .slice a1 m1 c1, .slice a2 m2 c2, .slice a3 m3 c3, .slice oa ol.length oc, .slice none 0 0, .slice none 0 0, .bool false, .slice none 0 0, .int .i64 0, .slice none 0 0, .int .i64 0, .bool false, .slice none 0 0, .int .i64 0, .slice none 0 0, .int .i64 0, .int .i64 kd2, .slice qa q.length qc, .slice ra r.length rc, .int .i64 pos2, v4, v5, v6, v7, v8, v9, v10, v11, v12, v13, v14, v15, v16, v17, v18, v19, v20] 63 #[.int .i64 kd, .slice pa p.length pc, .slice ta d.length tc, .int .i64 pos, .bool l0, .slice a1 m1 c1, .slice a2 m2 c2, .slice a3 m3 c3, .slice oa ol.length oc, .slice none 0 0, .slice none 0 0, .bool false, .slice none 0 0, .int .i64 0, .slice none 0 0, .int .i64 0, .bool false, .slice none 0 0, .int .i64 0, .slice none 0 0, .int .i64 0] rfl HO4.out rfl _ Tryz.underlying63 rfl (by kernel_rfl) ?_)
          | (refine wpList_storeA rfl _ _ _ rfl rfl wr.heap.size [.int .i64 0, .slice none 0 0, .slice none 0 0, .int .i64 0, .bool false, .slice none 0 0, .slice none 0 0, .slice none 0 0, .slice none 0 0, .slice none 0 0, .slice none 0 0, .bool false, .slice none 0 0, .int .i64 0, .slice none 0 0, .int .i64 0, .bool false, .slice none 0 0, .int .i64 0, .slice none 0 0, .int .i64 0] #[.int .i64 kd, .slice pa p.length pc, .slice ta d.length tc, .int .i64 pos, .bool l0, .slice a1 m1 c1, .slice a2 m2 c2, .slice a3 m3 c3, .slice oa ol.length oc, .slice none 0 0, .slice none 0 0, .bool false, .slice none 0 0, .int .i64 0, .slice none 0 0, .int .i64 0, .bool false, .slice none 0 0, .int .i64 0, .slice none 0 0, .int .i64 0] rfl rfl (At.fresh wr _ _) rfl rfl (by kernel_rfl) ?_))
         intro w5 h5 g5
         have hgg := grownBy_trans (grown_of_below (one_below wr (Obj.cells #[.int .i64 0, .slice none 0 0, .slice none 0 0, .int .i64 0, .bool false, .slice none 0 0, .slice none 0 0, .slice none 0 0, .slice none 0 0, .slice none 0 0, .slice none 0 0, .bool false, .slice none 0 0, .int .i64 0, .slice none 0 0, .int .i64 0, .bool false, .slice none 0 0, .int .i64 0, .slice none 0 0, .int .i64 0] 63))) g5
         have Hb5 := Lib.hid (hgg.old (M := wr.heap.size) (Nat.le_refl _) (fun k hk => by cases hk; exact Nat.le_refl _))
         have H5 := Lib.hid h5
         have p5 := (HP4.out.kept Hb5.out).cell 0 rfl; have p6 := (HP4.out.kept Hb5.out).cell 1 rfl; have p7 := (HP4.out.kept Hb5.out).lt
         have Hb45 := Lib.hid (below_and Hbi.out Hb5.out)
         have HMc := Lib.hid (HM1.out w5 (HN1.out w5 (below_and Hb2r.out (Hbr4.out.trans (Hb45.out.mono Hbr4.out.size)))))
         clear h5 g5 hgg
         go_wp2_with (refine wpList_loadA rfl _ _ rfl wr.heap.size #[.int .i64 kd, .slice pa p.length pc, .slice ta d.length tc, .int .i64 pos, .bool l0, .slice a1 m1 c1, .slice a2 m2 c2, .slice a3 m3 c3, .slice oa ol.length oc, .slice none 0 0, .slice none 0 0, .bool false, .slice none 0 0, .int .i64 0, .slice none 0 0, .int .i64 0, .bool false, .slice none 0 0, .int .i64 0, .slice none 0 0, .int .i64 0] rfl H5.out _ Tryz.underlying63 rfl (by kernel_rfl) ?_)
         refine HMc.out.mono ?_
         rintro e w6 ⟨hbel, va, vc, vi, vb, rfl⟩
         have Hb46 := Lib.hid (below_and Hb45.out hbel)
         have x0 := (HA3.out.kept (below_and Hbr4.out Hb46.out)).cell 0 rfl
         have xl := (HA3.out.kept (below_and Hbr4.out Hb46.out)).lt
         clear hbel HMc p5 p6 p7
         go_wp2_with fail
         go_roundg 1
         case measure => omega
         case rel => exact ⟨1, rfl, by omega, Hb46.out.trans ((one_below w6 _).mono Hb46.out.size)⟩
       . go_wp2_with (first
          | (refine wpList_loadP rfl _ _ rfl (wo.heap.size + 1) 21 [.int .i64 kd, .slice pa p.length pc, .slice ta d.length tc, .int .i64 pos, .bool l0, .slice a1 m1 c1, .slice a2 m2 c2, .slice a3 m3 c3, .slice oa ol.length oc, .slice none 0 0, .slice none 0 0, .bool false, .slice none 0 0, .int .i64 0, .slice none 0 0, .int .i64 0, .bool false, .slice none 0 0, .int .i64 0, .slice none 0 0, .int .i64 0, .int .i64 kd2, .slice qa q.length qc, .slice ra r.length rc, .int .i64 pos2, v4, v5, v6, v7, v8, v9, v10, v11, v12, v13, v14, v15, v16, v17, v18, v19, v20] 63 #[.int .i64 kd2, .slice qa q.length qc, .slice ra r.length rc, .int .i64 pos2, v4, v5, v6, v7, v8, v9, v10, v11, v12, v13, v14, v15, v16, v17, v18, v19, v20] rfl HO4.out rfl _ Tryz.underlying63 rfl (by kernel_rfl) ?_)
          | (refine wpList_storeA rfl _ _ _ rfl rfl wr.heap.size [.int .i64 0, .slice none 0 0, .slice none 0 0, .int .i64 0, .bool false, .slice none 0 0, .slice none 0 0, .slice none 0 0, .slice none 0 0, .slice none 0 0, .slice none 0 0, .bool false, .slice none 0 0, .int .i64 0, .slice none 0 0, .int .i64 0, .bool false, .slice none 0 0, .int .i64 0, .slice none 0 0, .int .i64 0] #[.int .i64 kd2, .slice qa q.length qc, .slice ra r.length rc, .int .i64 pos2, v4, v5, v6, v7, v8, v9, v10, v11, v12, v13, v14, v15, v16, v17, v18, v19, v20] rfl rfl (At.fresh wr _ _) rfl Hone.out (by kernel_rfl) ?_))
         intro w5 h5 g5
         have hgg := grownBy_trans (grown_of_below (one_below wr (Obj.cells #[.int .i64 0, .slice none 0 0, .slice none 0 0, .int .i64 0, .bool false, .slice none 0 0, .slice none 0 0, .slice none 0 0, .slice none 0 0, .slice none 0 0, .slice none 0 0, .bool false, .slice none 0 0, .int .i64 0, .slice none 0 0, .int .i64 0, .bool false, .slice none 0 0, .int .i64 0, .slice none 0 0, .int .i64 0] 63))) g5
         have Hb5 := Lib.hid (hgg.old (M := wr.heap.size) (Nat.le_refl _) (fun k hk => by cases hk; exact Nat.le_refl _))
         have H5 := Lib.hid h5
         have p5 := (HP4.out.kept Hb5.out).cell 0 rfl; have p6 := (HP4.out.kept Hb5.out).cell 1 rfl; have p7 := (HP4.out.kept Hb5.out).lt
         have Hb45 := Lib.hid (below_and Hbi.out Hb5.out)
         have HMc := Lib.hid (HM2.out w5 (HN2.out w5 (below_and Hb2r.out (Hbr4.out.trans (Hb45.out.mono Hbr4.out.size)))))
         clear h5 g5 hgg
         go_wp2_with (refine wpList_loadA rfl _ _ rfl wr.heap.size #[.int .i64 kd2, .slice qa q.length qc, .slice ra r.length rc, .int .i64 pos2, v4, v5, v6, v7, v8, v9, v10, v11, v12, v13, v14, v15, v16, v17, v18, v19, v20] rfl H5.out _ Tryz.underlying63 rfl (by kernel_rfl) ?_)
         refine HMc.out.mono ?_
         rintro e w6 ⟨hbel, va, vc, vi, vb, rfl⟩
         have Hb46 := Lib.hid (below_and Hb45.out hbel)
         have x0 := (HA3.out.kept (below_and Hbr4.out Hb46.out)).cell 0 rfl
         have xl := (HA3.out.kept (below_and Hbr4.out Hb46.out)).lt
         clear hbel HMc p5 p6 p7
         go_wp2_with fail
         go_roundg 0
         case measure => omega
         case rel => exact ⟨2, rfl, by omega, Hb46.out.trans ((one_below w6 _).mono Hb46.out.size)⟩
end Go.Proofs.YtbommcakcmhalaaGreatDoor
/- Walks: op.Apply, with no selection, at what repairs have, where it can be done. -/
namespace Go.Proofs.YtbommcakcmhalaaGreatDoor
open Go.RowKit Go.Redl
theorem atN_nums : ∀ (p : List Int) (n k : NodeD), atN n p = some k -> ∀ z ∈ p, 0 <= z /\ z < n.wt
 | [], n, k, h, z, hz => by cases hz
 | i :: p, n, k, h, z, hz => by
   obtain ⟨j, rfl, hj, h2⟩ := atN_cons_some h
   have h3 := wtAll_len (kidsOf n)
   have h4 : wtAll (kidsOf n) < n.wt := by cases n; simp only [NodeD.wt, kidsOf]; omega
   rcases List.mem_cons.1 hz with rfl | hz
   . omega
   . have h5 := atN_nums p _ k h2 z hz
     have h6 := wtAll_mem (List.getElem_mem hj)
     omega
theorem atN_deep : ∀ (p : List Int) (n k : NodeD), atN n p = some k -> p.length < n.wt
 | [], n, k, h => by have := wt_pos n; show 0 < n.wt; omega
 | i :: p, n, k, h => by
   obtain ⟨j, rfl, hj, h2⟩ := atN_cons_some h
   have h4 : wtAll (kidsOf n) < n.wt := by cases n; simp only [NodeD.wt, kidsOf]; omega
   have h5 := atN_deep p _ k h2
   have h6 := wtAll_mem (List.getElem_mem hj)
   simp only [List.length_cons]
   omega
/-- The paths of an operation that can be done are small. -/
theorem add_nums {n X m : NodeD} {p : List Int} (h : addN n p m = (X, 0)) : (∀ z ∈ p, 0 <= z /\ z <= n.wt) /\ p.length <= n.wt := by
 unfold addN at h
 split at h
 . simp at h
 . rename_i hp
   split at h
   . simp at h
   . rename_i k hk
     split at h
     . simp at h
     . split at h
       . simp at h
       . rename_i hl
         have h1 := atN_nums _ _ _ hk
         have h2 := atN_deep _ _ _ hk
         have h3 := atN_wt _ _ _ hk
         have h4 := wtAll_len (kidsOf k)
         have h5 : wtAll (kidsOf k) < k.wt := by cases k; simp only [NodeD.wt, kidsOf]; omega
         rw [<- path_last hp]
         refine ⟨fun z hz => ?_, by simp at h2 ⊢; omega⟩
         rcases List.mem_append.1 hz with hz | hz
         . have := h1 z hz; omega
         . rw [List.mem_singleton.1 hz]; omega
theorem apply_nums {n X : NodeD} {o : OpD} (hk : KindR o.kind) (hw : n.wt <= 100000000) (h : applyN n o.full = (X, 0)) : (∀ z ∈ o.path, 0 <= z /\ z <= n.wt) /\ o.path.length <= n.wt := by
 obtain ⟨-, -, -, -, ⟨-, -, h2⟩ | ⟨-, R, k, h2, -, -, -, -⟩⟩ := apply_parts hk hw h
 . exact add_nums h2
 . obtain ⟨hp, h3, -⟩ := cutN_some h2
   exact ⟨fun z hz => by have := atN_nums _ _ _ h3 z hz; omega, Nat.le_of_lt (atN_deep _ _ _ h3)⟩
theorem aown_ent : ∀ args w, (callFunc 72 args).run Tryz.prog w = .ok (.enter 72 args) w := by intro args w; kernel_rfl
/-- What op.Apply answers: the tree behind it, and no selection. -/
def ApplyP (W : World) (X : NodeD) (e : Ending) (w' : World) : Prop := Below W.heap.size W w' /\ ∃ (x0 : Bool) (x1 x2 x3 : Option Addr) (y1 y2 y3 z1 z2 z3 : Nat) (sa sb : Option Addr) (sc sd : Nat),
 e = .returned (.tuple #[.agg #[.bool x0, .slice x1 y1 z1, .slice x2 y2 z2, .slice x3 y3 z3], .agg #[.bool false, .slice sa 0 sc, .int .i64 0, .slice sb 0 sd, .int .i64 0], .int .i64 0]) /\ NodeQ w' (fun b => W.heap.size <= b) X [.bool x0, .slice x1 y1 z1, .slice x2 y2 z2, .slice x3 y3 z3]
theorem apply_c (n X : NodeD) (p d : List Int) (kd pos : Int) (nd : NodeD) (ol : List PropD) (b1 b2 b3 : Option Addr) (o1 o2 o3 d1 d2 d3 : Nat) (pa ta oa : Option Addr) (pc tc oc : Nat) (l0 : Bool) (a1 a2 a3 : Option Addr) (m1 m2 m3 c1 c2 c3 : Nat) (W : World)
 (hbn : n.wt <= 1000000) (hv : NodeV W W.heap.size n (.agg #[.bool false, .slice b1 o1 d1, .slice b2 o2 d2, .slice b3 o3 d3])) (hbig : nd.wt <= 1000000) (hn : NodeV W W.heap.size nd (.agg #[.bool l0, .slice a1 m1 c1, .slice a2 m2 c2, .slice a3 m3 c3]))
 (hp : RowA W W.heap.size 1 pa p.length pc (p.map (Value.int .i64))) (hd : RowA W W.heap.size 1 ta d.length tc (d.map (Value.int .i64))) (hdl : d.length <= 1000000) (ho : RowA W W.heap.size 2 oa ol.length oc (propCells ol)) (hol : ol.length <= 100000000)
 (hk : KindR kd) (happ : applyN n (OpD.full ⟨kd, p, d, pos, nd, ol⟩) = (X, 0)) :
 Calls Tryz.prog 20 #[.agg #[.bool false, .slice b1 o1 d1, .slice b2 o2 d2, .slice b3 o3 d3], selZV, .agg #[.int .i64 kd, .slice pa p.length pc, .slice ta d.length tc, .int .i64 pos, .bool l0, .slice a1 m1 c1, .slice a2 m2 c2, .slice a3 m3 c3, .slice oa ol.length oc, .slice none 0 0, .slice none 0 0, .bool false, .slice none 0 0, .int .i64 0, .slice none 0 0, .int .i64 0, .bool false, .slice none 0 0, .int .i64 0, .slice none 0 0, .int .i64 0]] W (ApplyP W X) := by
 obtain ⟨hnum, hpl⟩ := apply_nums (o := ⟨kd, p, d, pos, nd, ol⟩) hk (by omega) happ
 simp only at hnum hpl
 have hpl : p.length <= 1000000 := by omega
 have hpw : ∀ z ∈ p, -9223372036854775807 <= z /\ z <= 9223372036854775807 := fun z hz => by have := hnum z hz; omega
 have hXw := apply_wt (o := ⟨kd, p, d, pos, nd, ol⟩) hk (by omega) happ
 obtain ⟨hE, hl0, hne, hfo, hpart⟩ := apply_parts (o := ⟨kd, p, d, pos, nd, ol⟩) hk (by omega) happ
 obtain ⟨fs, hf1, hfs, hfl⟩ := fields_has hk
 have hall : ∀ c ∈ onB (setL9 p d pos nd ol), c ∈ fs := form_within (o := ⟨kd, p, d, pos, nd, ol⟩) hfo hf1
 simp only at hne hpart
 have h3 : kd = 3 -> 0 < lastN p := by
  rcases hpart with ⟨h, -⟩ | ⟨-, R, k, -, -, -, h, -⟩
  . intro e; omega
  . exact h
 have h5 : kd = 5 -> d ≠ [] := by
  rcases hpart with ⟨h, -⟩ | ⟨-, R, k, -, -, -, -, h⟩
  . intro e; omega
  . exact h
 obtain ⟨w0, hw0⟩ : ∃ w0, w0 = ((((W.alloc (Obj.cells #[.bool false, .slice b1 o1 d1, .slice b2 o2 d2, .slice b3 o3 d3] 35)).alloc (Obj.cells #[.bool false, .slice none 0 0, .int .i64 0, .slice none 0 0, .int .i64 0] 61)).alloc (Obj.cells #[.int .i64 kd, .slice pa p.length pc, .slice ta d.length tc, .int .i64 pos, .bool l0, .slice a1 m1 c1, .slice a2 m2 c2, .slice a3 m3 c3, .slice oa ol.length oc, .slice none 0 0, .slice none 0 0, .bool false, .slice none 0 0, .int .i64 0, .slice none 0 0, .int .i64 0, .bool false, .slice none 0 0, .int .i64 0, .slice none 0 0, .int .i64 0] 63)).alloc (Obj.cells #[.bool false, .slice none 0 0, .slice none 0 0, .slice none 0 0] 35)).alloc (Obj.cells #[.bool false, .slice none 0 0, .int .i64 0, .slice none 0 0, .int .i64 0] 61) := ⟨_, rfl⟩
 have hb0 : Below W.heap.size W w0 := by rw [hw0]; exact five_below _ _ _ _ _ _
 have hs0 : w0.heap.size = W.heap.size + 5 := by rw [hw0]; simp
 have hA : At w0 W.heap.size [.bool false, .slice b1 o1 d1, .slice b2 o2 d2, .slice b3 o3 d3] 35 := by rw [hw0]; exact ((((At.fresh W _ _).alloc _).alloc _).alloc _).alloc _
 have hS : At w0 (W.heap.size + 1) [.bool false, .slice none 0 0, .int .i64 0, .slice none 0 0, .int .i64 0] 61 := by rw [hw0]; exact (((At.second W _ _ _).alloc _).alloc _).alloc _
 have hO : At w0 (W.heap.size + 1 + 1) [.int .i64 kd, .slice pa p.length pc, .slice ta d.length tc, .int .i64 pos, .bool l0, .slice a1 m1 c1, .slice a2 m2 c2, .slice a3 m3 c3, .slice oa ol.length oc, .slice none 0 0, .slice none 0 0, .bool false, .slice none 0 0, .int .i64 0, .slice none 0 0, .int .i64 0, .bool false, .slice none 0 0, .int .i64 0, .slice none 0 0, .int .i64 0] 63 := by rw [hw0]; exact ((At.third W _ _ _ _).alloc _).alloc _
 have hB : At w0 (W.heap.size + 1 + 1 + 1) [.bool false, .slice none 0 0, .slice none 0 0, .slice none 0 0] 35 := by rw [hw0]; exact (At.fourth W _ _ _ _ _).alloc _
 have hC : At w0 (W.heap.size + 1 + 1 + 1 + 1) [.bool false, .slice none 0 0, .int .i64 0, .slice none 0 0, .int .i64 0] 61 := by rw [hw0]; exact At.fifth W _ _ _ _ _ _
 have hnk : ∀ w', Below w0.heap.size w0 w' -> NodeV w' w'.heap.size nd (.agg #[.bool l0, .slice a1 m1 c1, .slice a2 m2 c2, .slice a3 m3 c3]) := fun w' hb => by
  obtain ⟨cs, he, hc⟩ := hn
  exact ⟨cs, he, NodeC.keep (hb0.trans (hb.mono hb0.size)) (hb0.trans (hb.mono hb0.size)).size _ _ hc⟩
 have hvk : ∀ w', Below w0.heap.size w0 w' -> NodeV w' w'.heap.size n (.agg #[.bool false, .slice b1 o1 d1, .slice b2 o2 d2, .slice b3 o3 d3]) := fun w' hb => by
  obtain ⟨cs, he, hc⟩ := hv
  exact ⟨cs, he, NodeC.keep (hb0.trans (hb.mono hb0.size)) (hb0.trans (hb.mono hb0.size)).size _ _ hc⟩
 have hrk : ∀ {sz : Nat} {a : Option Addr} {n c : Nat} {cs : List Value} (w' : World), Below w0.heap.size w0 w' -> RowA W W.heap.size sz a n c cs -> RowA w' w'.heap.size sz a n c cs := fun w' hb hr => hr.keep (hb0.trans (hb.mono hb0.size)) (hb0.trans (hb.mono hb0.size)).size
 have HM := Lib.hid (may_ok n p d kd pos nd ol b1 b2 b3 o1 o2 o3 d1 d2 d3 pa ta oa pc tc oc l0 a1 a2 a3 m1 m2 m3 c1 c2 c3 w0 (by omega) (hvk w0 (Below.refl _ _)) hE (by omega) (hnk w0 (Below.refl _ _)) hne fs hfs hfl hall)
 have HT := Lib.hid (fun (w' : World) (hb : Below w0.heap.size w0 w') => stays_c p d kd pos nd ol pa ta oa pc tc oc l0 a1 a2 a3 m1 m2 m3 c1 c2 c3 w' (by omega) (hnk w' hb) hne fs hfs hfl hall (hrk w' hb hp) hpl (hrk w' hb hd) hdl (hrk w' hb ho) hol hk h3 h5 hpw)
 have HH : Hid (∀ w', Below w0.heap.size w0 w' -> Calls Tryz.prog 73 #[.agg #[.bool false, .slice b1 o1 d1, .slice b2 o2 d2, .slice b3 o3 d3], .agg #[.int .i64 kd, .slice pa p.length pc, .slice ta d.length tc, .int .i64 pos, .bool l0, .slice a1 m1 c1, .slice a2 m2 c2, .slice a3 m3 c3, .slice oa ol.length oc, .slice none 0 0, .slice none 0 0, .bool false, .slice none 0 0, .int .i64 0, .slice none 0 0, .int .i64 0, .bool false, .slice none 0 0, .int .i64 0, .slice none 0 0, .int .i64 0]] w' (TreeP w' (X, 0))) := by
  show ∀ w', _
  intro w' hb
  rcases hpart with ⟨rfl, hE2, hadd⟩ | ⟨-, R, k, hcut, hdo, -, -, -⟩
  . exact shaped_ins n X p d pos nd ol _ pa ta oa pc tc oc l0 a1 a2 a3 m1 m2 m3 c1 c2 c3 w' (by omega) (hvk w' hb) (by omega) (hnk w' hb) (hrk w' hb hp) hpl hE2 hadd
  . have hcw := cut_wt hcut
    exact shaped_cut n R k X p d kd pos nd ol _ pa ta oa pc tc oc l0 a1 a2 a3 m1 m2 m3 c1 c2 c3 w' (by omega) (by omega) (by omega) (hvk w' hb) (by omega) (hnk w' hb) hne (hrk w' hb hp) hpl hpw (hrk w' hb hd) hdl (hrk w' hb ho) hcut hdo
 have hk9 : ((kd : Int) == 9) = false := by rcases hk with h | h | h | h <;> subst h <;> rfl
 have HA := Lib.hid hA; have HS := Lib.hid hS; have HO := Lib.hid hO; have HB := Lib.hid hB; have HC := Lib.hid hC
 have Hb0 := Lib.hid hb0; have Hs0 := Lib.hid hs0; have Hw0 := Lib.hid hw0
 obtain ⟨⟨f0, f1, f2, f3⟩, -, fl⟩ := hA.f4
 have s0 := hS.cell 0 rfl; have s1 := hS.cell 1 rfl; have s2 := hS.cell 2 rfl; have s3 := hS.cell 3 rfl; have s4 := hS.cell 4 rfl; have sl := hS.lt
 clear hA hS hO hB hC hb0 hs0 hw0 hn hv hp hd ho hnk hvk hrk hfs hall h3 h5 hne hpw hk happ hXw hpart hnum hE hl0 hfo hf1
 unfold ApplyP
 go_enter Tryz.func20, Tryz.ntmps20
 go_upto_region 1 with fail
 rw [<- Hw0.out]
 clear Hw0
 go_wp2_with (refine wpList_loadA rfl _ _ rfl (W.heap.size + 1 + 1) #[.int .i64 kd, .slice pa p.length pc, .slice ta d.length tc, .int .i64 pos, .bool l0, .slice a1 m1 c1, .slice a2 m2 c2, .slice a3 m3 c3, .slice oa ol.length oc, .slice none 0 0, .slice none 0 0, .bool false, .slice none 0 0, .int .i64 0, .slice none 0 0, .int .i64 0, .bool false, .slice none 0 0, .int .i64 0, .slice none 0 0, .int .i64 0] rfl HO.out _ Tryz.underlying63 rfl (by kernel_rfl) ?_)
 refine HM.out.mono ?_
 rintro e w1 ⟨rfl, hbel⟩
 have Hb1 := Lib.hid hbel
 have HO1 := Lib.hid (HO.out.kept hbel)
 have k0 := HO1.out.cell 0 rfl; have kl := HO1.out.lt
 clear hbel HM f0 f1 f2 f3 fl s0 s1 s2 s3 s4 sl
 go_upto_region 11 with fail
 clear k0 kl
 obtain ⟨⟨f0, f1, f2, f3⟩, -, fl⟩ := (HA.out.kept Hb1.out).f4
 go_wp2_with (refine wpList_loadA rfl _ _ rfl (W.heap.size + 1 + 1) #[.int .i64 kd, .slice pa p.length pc, .slice ta d.length tc, .int .i64 pos, .bool l0, .slice a1 m1 c1, .slice a2 m2 c2, .slice a3 m3 c3, .slice oa ol.length oc, .slice none 0 0, .slice none 0 0, .bool false, .slice none 0 0, .int .i64 0, .slice none 0 0, .int .i64 0, .bool false, .slice none 0 0, .int .i64 0, .slice none 0 0, .int .i64 0] rfl HO1.out _ Tryz.underlying63 rfl (by kernel_rfl) ?_)
 refine (HH.out w1 Hb1.out).mono ?_
 rintro e w2 htp
 obtain ⟨hbel, ⟨-, x0, x1, y1, z1, x2, y2, z2, x3, y3, z3, rfl, hX⟩ | ⟨h, -⟩⟩ := htp.cases
 rotate_left
 . exact absurd rfl h
 simp only at hX
 have Hb2 := Lib.hid (below_and Hb1.out hbel)
 have HX2 := Lib.hid hX
 have Hs12p := Lib.hid hbel.size
 have Hsz1 := Lib.hid (show W.heap.size + 5 <= w1.heap.size by have h1 := Hb1.out.size; have h2 := Hs0.out; omega)
 clear htp hbel hX HH HO1 HA f0 f1 f2 f3 fl
 go_upto_region 12 with fail
 obtain ⟨w3, hw3⟩ : ∃ w3, w3 = w2.alloc (Obj.cells #[.bool x0, .slice x1 y1 z1, .slice x2 y2 z2, .slice x3 y3 z3] 35) := ⟨_, rfl⟩
 have hb3 : Below w2.heap.size w2 w3 := by rw [hw3]; exact one_below _ _
 have HN3 := Lib.hid (show At w3 w2.heap.size [.bool x0, .slice x1 y1 z1, .slice x2 y2 z2, .slice x3 y3 z3] 35 by rw [hw3]; exact At.fresh _ _ _)
 have Hb3 := Lib.hid (below_and Hb2.out hb3)
 have HX3 := Lib.hid (show NodeQ w3 (fun b => w1.heap.size <= b /\ b ≠ w2.heap.size) X [.bool x0, .slice x1 y1 z1, .slice x2 y2 z2, .slice x3 y3 z3] from NodeQ.keep hb3.size (fun b _ hlt => hb3.block b hlt) (fun b hb hlt => ⟨hb, by omega⟩) _ _ HX2.out)
 rw [<- hw3]
 have hl := At.load (P := Tryz.prog) (HO.out.kept Hb3.out) Tryz.underlying63 rfl (by kernel_rfl)
 simp [go_sem] at hl
 have HS3 := Lib.hid (HS.out.kept Hb3.out)
 have s0 := HS3.out.cell 0 rfl; have s1 := HS3.out.cell 1 rfl; have s2 := HS3.out.cell 2 rfl; have s3 := HS3.out.cell 3 rfl; have s4 := HS3.out.cell 4 rfl; have sl := HS3.out.lt
 have HT3 := Lib.hid (HT.out w3 Hb3.out)
 clear hw3 hb3 HT HX2
 go_wp2_with fail
 refine HT3.out.mono ?_
 rintro e w4 ⟨rfl, hbel⟩
 have Hb4 := Lib.hid (below_and Hb3.out hbel)
 have HN4 := Lib.hid (HN3.out.kept hbel); have HS4 := Lib.hid (HS3.out.kept hbel)
 have HX4 := Lib.hid (show NodeQ w4 (fun b => w1.heap.size <= b /\ b ≠ w2.heap.size) X [.bool x0, .slice x1 y1 z1, .slice x2 y2 z2, .slice x3 y3 z3] from NodeQ.keep hbel.size (fun b _ hlt => hbel.block b hlt) (fun _ h _ => h) _ _ HX3.out)
 have Hs12 := Lib.hid Hs12p.out
 clear hbel HT3 HX3 hl s0 s1 s2 s3 s4 sl HN3 HS3
 go_upto_region 16 with fail
 have HB4 := Lib.hid (HB.out.kept Hb4.out); have HC4 := Lib.hid (HC.out.kept Hb4.out)
 have hsz1 : W.heap.size + 5 <= w1.heap.size := Hsz1.out
 have hsz2 : w1.heap.size <= w2.heap.size := Hs12.out
 have HNS : Hid (∀ w', At w' w2.heap.size [.bool x0, .slice x1 y1 z1, .slice x2 y2 z2, .slice x3 y3 z3] 35 -> At w' (W.heap.size + 1) [.bool false, .slice none 0 0, .int .i64 0, .slice none 0 0, .int .i64 0] 61 -> w'.cell? ⟨w2.heap.size, 0, none⟩ = some (.bool x0) /\ w'.cell? ⟨w2.heap.size, 1, none⟩ = some (.slice x1 y1 z1) /\ w'.cell? ⟨w2.heap.size, 2, none⟩ = some (.slice x2 y2 z2) /\ w'.cell? ⟨w2.heap.size, 3, none⟩ = some (.slice x3 y3 z3) /\ w'.cell? ⟨W.heap.size + 1, 0, none⟩ = some (.bool false) /\ w'.cell? ⟨W.heap.size + 1, 1, none⟩ = some (.slice none 0 0) /\ w'.cell? ⟨W.heap.size + 1, 2, none⟩ = some (.int .i64 0) /\ w'.cell? ⟨W.heap.size + 1, 3, none⟩ = some (.slice none 0 0) /\ w'.cell? ⟨W.heap.size + 1, 4, none⟩ = some (.int .i64 0)) := by
  show ∀ w', _
  intro w' h1 h2
  exact ⟨h1.cell 0 rfl, h1.cell 1 rfl, h1.cell 2 rfl, h1.cell 3 rfl, h2.cell 0 rfl, h2.cell 1 rfl, h2.cell 2 rfl, h2.cell 3 rfl, h2.cell 4 rfl⟩
 go_cut [8] (fun r wx => r = .int .i64 0 /\ (∃ (sa sb : Option Addr) (sc sd : Nat), At wx (W.heap.size + 1 + 1 + 1 + 1) [.bool false, .slice sa 0 sc, .int .i64 0, .slice sb 0 sd, .int .i64 0] 61) /\ At wx (W.heap.size + 1 + 1 + 1) [.bool x0, .slice x1 y1 z1, .slice x2 y2 z2, .slice x3 y3 z3] 35 /\ NodeQ wx (fun b => w1.heap.size <= b /\ b ≠ w2.heap.size) X [.bool x0, .slice x1 y1 z1, .slice x2 y2 z2, .slice x3 y3 z3] /\ Below W.heap.size W wx)
 case first =>
  go_region_held3 (fun w' => w'.cell? ⟨w2.heap.size, 0, none⟩ = some (.bool x0) /\ w'.cell? ⟨w2.heap.size, 1, none⟩ = some (.slice x1 y1 z1) /\ w'.cell? ⟨w2.heap.size, 2, none⟩ = some (.slice x2 y2 z2) /\ w'.cell? ⟨w2.heap.size, 3, none⟩ = some (.slice x3 y3 z3) /\ w'.cell? ⟨W.heap.size + 1, 0, none⟩ = some (.bool false) /\ w'.cell? ⟨W.heap.size + 1, 1, none⟩ = some (.slice none 0 0) /\ w'.cell? ⟨W.heap.size + 1, 2, none⟩ = some (.int .i64 0) /\ w'.cell? ⟨W.heap.size + 1, 3, none⟩ = some (.slice none 0 0) /\ w'.cell? ⟨W.heap.size + 1, 4, none⟩ = some (.int .i64 0)) (refine HNS.out _ (by (repeat (first | with_reducible exact HN4.out | with_reducible exact HN5.out | with_reducible exact At.second _ _ _ _ | with_reducible exact At.fresh _ _ _ | with_reducible refine At.drew ?_ | with_reducible refine At.alloc ?_ _ | (with_reducible refine At.set_ne ?_ ?_ _; rotate_left; omega)))) (by (repeat (first | with_reducible exact HS4.out | with_reducible exact HS5.out | with_reducible exact At.second _ _ _ _ | with_reducible exact At.fresh _ _ _ | with_reducible refine At.drew ?_ | with_reducible refine At.alloc ?_ _ | (with_reducible refine At.set_ne ?_ ?_ _; rotate_left; omega)))))
   (first
   | (refine step_call rfl 72 _ _ rfl aown_ent [selZV] ?_ _ (ownZ_c _) ?_
      . go_simp
      rintro e w5 ⟨⟨sa, sc, sb, sd, rfl⟩, hbel⟩
      refine ⟨_, rfl, ?_⟩
      have Hb45 := Lib.hid (Below.and (w0 := w4) (by ((repeat (first | with_reducible exact Below.refl _ _ | with_reducible refine Below.drew ?_ | with_reducible refine Below.alloc ?_ ?_ _ | with_reducible refine Below.setCell ?_ ?_ _)) <;> (first | with_reducible exact Nat.le_refl _ | (simp; done) | (simp; omega) | omega))) hbel)
      have HN5 := Lib.hid (HN4.out.kept Hb45.out); have HS5 := Lib.hid (HS4.out.kept Hb45.out)
      have HB5 := Lib.hid (HB4.out.kept Hb45.out); have HC5 := Lib.hid (HC4.out.kept Hb45.out)
      obtain ⟨⟨f0, f1, f2, f3⟩, ff, fl⟩ := HB5.out.f4
      have g0 := HC5.out.cell 0 rfl; have g1 := HC5.out.cell 1 rfl; have g2 := HC5.out.cell 2 rfl; have g3 := HC5.out.cell 3 rfl; have g4 := HC5.out.cell 4 rfl; have gl := HC5.out.lt
      have gf := fun j => Lib.frozen_of_heap HC5.out j
      clear hbel))
  all_goals
   go_wp2_with fail
   go_meet
   case rel =>
    have n43 : W.heap.size + 1 + 1 + 1 + 1 ≠ W.heap.size + 1 + 1 + 1 := by omega
    have n34 : W.heap.size + 1 + 1 + 1 ≠ W.heap.size + 1 + 1 + 1 + 1 := by omega
    have q3 : ¬ (w1.heap.size <= W.heap.size + 1 + 1 + 1 /\ W.heap.size + 1 + 1 + 1 ≠ w2.heap.size) := by omega
    have q4 : ¬ (w1.heap.size <= W.heap.size + 1 + 1 + 1 + 1 /\ W.heap.size + 1 + 1 + 1 + 1 ≠ w2.heap.size) := by omega
    have l3 : W.heap.size <= W.heap.size + 1 + 1 + 1 := by omega
    have l4 : W.heap.size <= W.heap.size + 1 + 1 + 1 + 1 := by omega
    have hb5 := Hb0.out.trans ((below_and Hb4.out Hb45.out).mono Hb0.out.size)
    have HX5 := Lib.hid (show NodeQ w5 (fun b => w1.heap.size <= b /\ b ≠ w2.heap.size) X [.bool x0, .slice x1 y1 z1, .slice x2 y2 z2, .slice x3 y3 z3] from NodeQ.keep Hb45.out.size (fun b _ hlt => Hb45.out.block b hlt) (fun _ h _ => h) _ _ HX4.out)
    refine ⟨rfl, ⟨sa, sb, sc, sd, ?_⟩, ?_, ?_, ?_⟩
    . exact (((((((((HC5.out.set_ne n43 _).set_ne n43 _).set_ne n43 _).set_ne n43 _).set 0 _).set 1 _).set 2 _).set 3 _).set 4 _)
    . exact (((((((((HB5.out.set 0 _).set 1 _).set 2 _).set 3 _).set_ne n34 _).set_ne n34 _).set_ne n34 _).set_ne n34 _).set_ne n34 _)
    . exact (nodeq_set (nodeq_set (nodeq_set (nodeq_set (nodeq_set (nodeq_set (nodeq_set (nodeq_set (nodeq_set HX5.out q3) q3) q3) q3) q4) q4) q4) q4) q4)
    . exact (((((((((hb5.setCell (p := ⟨W.heap.size + 1 + 1 + 1, 0, none⟩) l3 _).setCell (p := ⟨W.heap.size + 1 + 1 + 1, 1, none⟩) l3 _).setCell (p := ⟨W.heap.size + 1 + 1 + 1, 2, none⟩) l3 _).setCell (p := ⟨W.heap.size + 1 + 1 + 1, 3, none⟩) l3 _).setCell (p := ⟨W.heap.size + 1 + 1 + 1 + 1, 0, none⟩) l4 _).setCell (p := ⟨W.heap.size + 1 + 1 + 1 + 1, 1, none⟩) l4 _).setCell (p := ⟨W.heap.size + 1 + 1 + 1 + 1, 2, none⟩) l4 _).setCell (p := ⟨W.heap.size + 1 + 1 + 1 + 1, 3, none⟩) l4 _).setCell (p := ⟨W.heap.size + 1 + 1 + 1 + 1, 4, none⟩) l4 _)
 case rest =>
  obtain ⟨rfl, ⟨sa, sb, sc, sd, hC⟩, hB, hX, hbel⟩ := hcut
  have HX := Lib.hid hX; have Hbel := Lib.hid hbel
  have Hsz := Lib.hid (Nat.le_trans (show W.heap.size <= W.heap.size + 5 by omega) hsz1)
  obtain ⟨⟨f0, f1, f2, f3⟩, ff, fl⟩ := hB.f4
  have g0 := hC.cell 0 rfl; have g1 := hC.cell 1 rfl; have g2 := hC.cell 2 rfl; have g3 := hC.cell 3 rfl; have g4 := hC.cell 4 rfl
  clear hB hC hX hbel hsz1 hsz2
  go_wp2_with fail
  refine bodyPost_ret (v := .tuple #[.agg #[.bool x0, .slice x1 y1 z1, .slice x2 y2 z2, .slice x3 y3 z3], .agg #[.bool false, .slice sa 0 sc, .int .i64 0, .slice sb 0 sd, .int .i64 0], .int .i64 0]) (by simp [results, Tryz.results20, go_sem, f0, f1, f2, f3, g0, g1, g2, g3, g4]) rfl ?_
  exact ⟨Hbel.out, x0, x1, x2, x3, y1, y2, y3, z1, z2, z3, sa, sb, sc, sd, rfl, NodeQ.keep (Nat.le_refl _) (fun _ _ _ => rfl) (fun b hb _ => Nat.le_trans Hsz.out hb.1) _ _ HX.out⟩
end Go.Proofs.YtbommcakcmhalaaGreatDoor
