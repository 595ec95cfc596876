/- Parts of the proof, one behind the other: RTO, RR7, RJA. -/
import Derived.Test.YtbommcakcmhalaaGreatDoorLM17
import Derived.Test.YtbommcakcmhalaaGreatDoorLM2
import Derived.Test.YtbommcakcmhalaaGreatDoorLM7
import Derived.Test.YtbommcakcmhalaaGreatDoorLM9
/- Walks: back.own. -/
set_option linter.unusedVariables false
set_option linter.unusedSimpArgs false
set_option maxHeartbeats 4000000
set_option maxRecDepth 100000
namespace Go.Proofs.YtbommcakcmhalaaGreatDoor
open Go.RowKit Go.Redl
theorem ownclr_ent : ∀ args w, (callFunc 117 args).run Tryz.prog w = .ok (.enter 117 args) w := by intro args w; kernel_rfl
theorem ownclp_ent : ∀ args w, (callFunc 116 args).run Tryz.prog w = .ok (.enter 116 args) w := by intro args w; kernel_rfl
theorem owncopy_ent : ∀ args w, (callFunc 64 args).run Tryz.prog w = .ok (.enter 64 args) w := by intro args w; kernel_rfl
theorem clonr_nil (w : World) : Calls Tryz.prog 117 #[.slice none 0 0] w (fun e w' => (∃ a c, e = .returned (.slice a 0 c)) /\ Below w.heap.size w w') := by
 refine (clone_runes 0 0 none 0 [] w (RowA.empty _ _ _) (Nat.zero_le _) (by omega)).mono ?_
 rintro e w' ⟨v, rfl, hown, hb⟩
 obtain ⟨va, vc, rfl, -⟩ := row_of_own hown (by intro u hu; cases hu)
 exact ⟨⟨va, vc, rfl⟩, hb⟩
theorem clone_path1 (B : Nat) (p : List Int) (a : Option Addr) (c : Nat) (w : World) (hr : RowA w B 1 a p.length c (p.map (Value.int .i64))) (hB : B <= w.heap.size) (hn : p.length <= 1000000) :
 Calls Tryz.prog 128 #[.slice a p.length c] w (fun e w' => (∃ a c, e = .returned (.slice a p.length c) /\ RowQ w' (fun b => w.heap.size <= b) 1 a p.length c (p.map (Value.int .i64))) /\ Below w.heap.size w w') := by
 refine (clone_int B p.length a c _ w hr hB (by omega)).mono ?_
 rintro e w' ⟨v, rfl, hown, hb⟩
 obtain ⟨va, vc, rfl, hq⟩ := RowQ.of_own hown (by intro u hu; obtain ⟨z, -, rfl⟩ := List.mem_map.1 hu; rfl)
 exact ⟨⟨va, vc, rfl, hq.keep (Nat.le_refl _) (fun _ _ _ => rfl) (fun b hb _ => (hown.lt b hb).1)⟩, hb⟩
theorem rowq_gbn {w w' : World} {B M sz n cap : Nat} {a : Option Addr} {cs : List Value} (h : RowQ w (fun b => B <= b) sz a n cap cs) (hg : w.grownBy w' (some M)) (hM : M < B) : RowQ w' (fun b => B <= b) sz a n cap cs :=
 h.keep hg.size (fun b hb hlt => hg.block b hlt (fun e => by injection e with e; omega)) (fun b hb _ => hb)
/-- A whole box, stored: no unrolling. -/
theorem At.store {P : Program} {w : World} {N : Nat} {cs cs' : List Value} {T : TypeId} (h : At w N cs T) (hl : cs'.length = cs.length) (h1 : cs'.all (·.oneCell') = true) (hi : (P.info? T).map (·.size) = some cs'.length) :
 ∃ w', (Instr.storeAt T (.pointer (some ⟨N, 0, none⟩)) (.agg cs'.toArray)).run P w = .ok () w' /\ At w' N cs' T /\ w.grownBy w' (some N) := by
 refine ⟨w.setCells N 0 cs', ?_, ?_, grown_setCells cs' 0 w⟩
 . refine run_storeAt_mid w N 0 T cs'.toArray (fun j hj => ⟨?_, ?_⟩) (by simpa using hi) (by simpa using h1)
   . have hj' : j < cs.length := by rw [<- hl]; simpa using hj
     rw [Nat.zero_add, h.cell j (List.getElem?_eq_getElem hj')]; rfl
   . rw [Nat.zero_add]; exact Lib.frozen_of_heap h j
 . obtain ⟨cur', g1, g2, g3⟩ := heap_setCells N cs' 0 w cs.toArray T (0, 0) h (by simp [hl])
   unfold At
   rw [g1]
   have : cur' = cs'.toArray := by
    apply Array.toList_inj.1
    rw [g3]
    simp [<- hl]
   rw [this]
theorem bown_c (p d : List Int) (kd pos : Int) (nd : NodeD) (ol : List PropD) (pa ta oa : Option Addr) (pc tc oc : Nat) (l0 : Bool) (a1 a2 a3 : Option Addr) (m1 m2 m3 c1 c2 c3 : Nat) (W : World)
 (hbig : nd.wt <= 100000000) (hn : NodeV W W.heap.size nd (.agg #[.bool l0, .slice a1 m1 c1, .slice a2 m2 c2, .slice a3 m3 c3]))
 (hp : RowA W W.heap.size 1 pa p.length pc (p.map (Value.int .i64))) (hpl : p.length <= 1000000) (hd : RowA W W.heap.size 1 ta d.length tc (d.map (Value.int .i64))) (hdl : d.length <= 1000000) (ho : RowA W W.heap.size 2 oa ol.length oc (propCells ol)) (hol : ol.length <= 100000000) :
 Calls Tryz.prog 195 #[.agg #[.int .i64 kd, .slice pa p.length pc, .slice ta d.length tc, .int .i64 pos, .bool l0, .slice a1 m1 c1, .slice a2 m2 c2, .slice a3 m3 c3, .slice oa ol.length oc, .slice none 0 0, .slice none 0 0, .bool false, .slice none 0 0, .int .i64 0, .slice none 0 0, .int .i64 0, .bool false, .slice none 0 0, .int .i64 0, .slice none 0 0, .int .i64 0]] W (fun e w' => (∃ (qa : Option Addr) (qc : Nat) (ra : Option Addr) (rc : Nat) (xa : Option Addr) (xc : Nat) (v4 v5 v6 v7 v8 v9 : Value) (g1 g2 g3 g4 : Option Addr) (h1 h2 h3 h4 : Nat), e = .returned (.agg #[.int .i64 kd, .slice qa p.length qc, .slice ra d.length rc, .int .i64 pos, v4, v5, v6, v7, v8, v9, .slice xa 0 xc, .bool false, .slice g1 0 h1, .int .i64 0, .slice g2 0 h2, .int .i64 0, .bool false, .slice g3 0 h3, .int .i64 0, .slice g4 0 h4, .int .i64 0]) /\ RowQ w' (fun b => W.heap.size <= b) 1 qa p.length qc (p.map (Value.int .i64)) /\ RowQ w' (fun b => W.heap.size <= b) 1 ra d.length rc (d.map (Value.int .i64)) /\ [v4, v5, v6, v7, v8, v9].all (·.oneCell') = true /\ (∃ a n c, v8 = .slice a n c) /\ (∃ a n c, v9 = .slice a n c)) /\ Below W.heap.size W w') := by
 obtain ⟨w0, hw0⟩ : ∃ w0, w0 = (W.alloc (Obj.cells #[.int .i64 kd, .slice pa p.length pc, .slice ta d.length tc, .int .i64 pos, .bool l0, .slice a1 m1 c1, .slice a2 m2 c2, .slice a3 m3 c3, .slice oa ol.length oc, .slice none 0 0, .slice none 0 0, .bool false, .slice none 0 0, .int .i64 0, .slice none 0 0, .int .i64 0, .bool false, .slice none 0 0, .int .i64 0, .slice none 0 0, .int .i64 0] 63)).alloc (Obj.cells #[.int .i64 0, .slice none 0 0, .slice none 0 0, .int .i64 0, .bool false, .slice none 0 0, .slice none 0 0, .slice none 0 0, .slice none 0 0, .slice none 0 0, .slice none 0 0, .bool false, .slice none 0 0, .int .i64 0, .slice none 0 0, .int .i64 0, .bool false, .slice none 0 0, .int .i64 0, .slice none 0 0, .int .i64 0] 63) := ⟨_, rfl⟩
 have hb0 : Below W.heap.size W w0 := by rw [hw0]; exact (one_below _ _).alloc (by simp) _
 have hs0 : w0.heap.size = W.heap.size + 2 := by rw [hw0]; simp
 have hA : At w0 W.heap.size [.int .i64 kd, .slice pa p.length pc, .slice ta d.length tc, .int .i64 pos, .bool l0, .slice a1 m1 c1, .slice a2 m2 c2, .slice a3 m3 c3, .slice oa ol.length oc, .slice none 0 0, .slice none 0 0, .bool false, .slice none 0 0, .int .i64 0, .slice none 0 0, .int .i64 0, .bool false, .slice none 0 0, .int .i64 0, .slice none 0 0, .int .i64 0] 63 := by rw [hw0]; exact (At.fresh W _ _).alloc _
 have hB : At w0 (W.heap.size + 1) [.int .i64 0, .slice none 0 0, .slice none 0 0, .int .i64 0, .bool false, .slice none 0 0, .slice none 0 0, .slice none 0 0, .slice none 0 0, .slice none 0 0, .slice none 0 0, .bool false, .slice none 0 0, .int .i64 0, .slice none 0 0, .int .i64 0, .bool false, .slice none 0 0, .int .i64 0, .slice none 0 0, .int .i64 0] 63 := by rw [hw0]; exact At.second W _ _ _
 have x1 := hA.cell 1 rfl; have x2 := hA.cell 2 rfl; have x10 := hA.cell 10 rfl; have xl := hA.lt
 have HCp := Lib.hid (fun (w' : World) (hb : Below w0.heap.size w0 w') => clone_path1 W.heap.size p pa pc w' (hp.keep (hb0.trans (hb.mono hb0.size)) (Nat.le_refl _)) (hb0.trans (hb.mono hb0.size)).size hpl)
 have HCd := Lib.hid (fun (w' : World) (hb : Below w0.heap.size w0 w') => clone_path1 W.heap.size d ta tc w' (hd.keep (hb0.trans (hb.mono hb0.size)) (Nat.le_refl _)) (hb0.trans (hb.mono hb0.size)).size hdl)
 have HA := Lib.hid hA; have HB := Lib.hid hB; have Hb0 := Lib.hid hb0; have Hs0 := Lib.hid hs0; have Hw0 := Lib.hid hw0
 have Hn := Lib.hid hn; have Ho := Lib.hid ho
 clear hA hB hb0 hs0 hw0 hn hp hd ho
 go_enter Tryz.func195, Tryz.ntmps195
 go_upto_region 1 with fail
 rw [<- Hw0.out]
 clear Hw0
 go_cut [] (fun wx => ∃ (qa : Option Addr) (qc : Nat) (ra : Option Addr) (rc : Nat) (xa : Option Addr) (xc : Nat), At wx W.heap.size [.int .i64 kd, .slice qa p.length qc, .slice ra d.length rc, .int .i64 pos, .bool l0, .slice a1 m1 c1, .slice a2 m2 c2, .slice a3 m3 c3, .slice oa ol.length oc, .slice none 0 0, .slice xa 0 xc, .bool false, .slice none 0 0, .int .i64 0, .slice none 0 0, .int .i64 0, .bool false, .slice none 0 0, .int .i64 0, .slice none 0 0, .int .i64 0] 63 /\ At wx (W.heap.size + 1) [.int .i64 0, .slice none 0 0, .slice none 0 0, .int .i64 0, .bool false, .slice none 0 0, .slice none 0 0, .slice none 0 0, .slice none 0 0, .slice none 0 0, .slice none 0 0, .bool false, .slice none 0 0, .int .i64 0, .slice none 0 0, .int .i64 0, .bool false, .slice none 0 0, .int .i64 0, .slice none 0 0, .int .i64 0] 63 /\ RowQ wx (fun b => W.heap.size + 2 <= b) 1 qa p.length qc (p.map (Value.int .i64)) /\ RowQ wx (fun b => W.heap.size + 2 <= b) 1 ra d.length rc (d.map (Value.int .i64)) /\ Below W.heap.size W wx)
 case first =>
  go_region_law (first
   | (refine step_call rfl 128 _ _ rfl ownclint_ent [.slice pa p.length pc] ?_ _ (HCp.out w0.drew (Below.refl _ _).drew) ?_
      . go_simp
      rintro e w1 ⟨⟨qa, qc, rfl, hq⟩, hbel⟩
      refine ⟨_, rfl, ?_⟩
      have Hb1 := Lib.hid (((Below.refl w0.heap.size w0).drew).trans hbel)
      have Hq1 := Lib.hid hq
      have hA1 := HA.out.kept Hb1.out
      have y1 := hA1.cell 1 rfl; have y2 := hA1.cell 2 rfl; have y10 := hA1.cell 10 rfl; have yl := hA1.lt
      clear hbel hq hA1)
   | (refine step_call rfl 128 _ _ rfl ownclint_ent [.slice ta d.length tc] ?_ _ (HCd.out w1 Hb1.out) ?_
      . go_simp
      rintro e w2 ⟨⟨ra, rc, rfl, hq⟩, hbel⟩
      refine ⟨_, rfl, ?_⟩
      have Hb2 := Lib.hid (Hb1.out.trans (hbel.mono Hb1.out.size))
      have Hb12 := Lib.hid hbel
      have Hq2 := Lib.hid hq
      have hA2 := HA.out.kept Hb2.out
      have z1 := hA2.cell 1 rfl; have z2 := hA2.cell 2 rfl; have z10 := hA2.cell 10 rfl; have zl := hA2.lt
      clear hbel hq hA2)
   | (refine step_call rfl 117 _ _ rfl ownclr_ent [.slice none 0 0] ?_ _ (clonr_nil w2) ?_
      . go_simp
      rintro e w3 ⟨⟨xa, xc, rfl⟩, hbel⟩
      refine ⟨_, rfl, ?_⟩
      have Hb3 := Lib.hid (Hb2.out.trans (hbel.mono Hb2.out.size))
      have Hb23 := Lib.hid hbel
      have HA3 := Lib.hid (HA.out.kept Hb3.out)
      have t1 := HA3.out.cell 1 rfl; have t2 := HA3.out.cell 2 rfl; have t10 := HA3.out.cell 10 rfl; have tl := HA3.out.lt
      have tf := fun j => Lib.frozen_of_heap HA3.out j
      clear hbel))
  all_goals
   go_wp2_with fail
   go_meet
   case rel =>
    have hs0 := Hs0.out; have hs1 := Hb1.out.size; have hs2 := Hb2.out.size
    have hne : ¬ (W.heap.size + 2 <= W.heap.size) := by omega
    refine ⟨qa, qc, ra, rc, xa, xc, ((HA3.out.set 1 _).set 2 _).set 10 _, (((HB.out.kept Hb3.out).set_ne (by omega) _).set_ne (by omega) _).set_ne (by omega) _, rowq_set (rowq_set (rowq_set (((Hq1.out.keep Hb12.out.size (fun b _ hlt => Hb12.out.block b hlt) (fun _ h _ => h)).keep Hb23.out.size (fun b _ hlt => Hb23.out.block b hlt) (fun b h _ => by have : w0.heap.size <= b := h; omega))) hne) hne) hne, rowq_set (rowq_set (rowq_set (Hq2.out.keep Hb23.out.size (fun b _ hlt => Hb23.out.block b hlt) (fun b h _ => by omega)) hne) hne) hne, ((((Hb0.out.trans (Hb3.out.mono Hb0.out.size)).setCell (p := ⟨W.heap.size, 1, none⟩) (Nat.le_refl _) _).setCell (p := ⟨W.heap.size, 2, none⟩) (Nat.le_refl _) _).setCell (p := ⟨W.heap.size, 10, none⟩) (Nat.le_refl _) _)⟩
 case rest =>
  obtain ⟨qa, qc, ra, rc, xa, xc, hA, hB, hq, hr, hbel⟩ := hcut
  have x5 := hA.cell 8 rfl; have x6 := hA.cell 9 rfl; have e4 := hA.cell 4 rfl; have e5 := hA.cell 5 rfl; have e6 := hA.cell 6 rfl; have e7 := hA.cell 7 rfl; have xl := hA.lt
  have HCo := Lib.hid (fun (w' : World) (hb : Below wc.heap.size wc w') => clone_prop W.heap.size ol.length oa oc _ w' (Ho.out.keep (hbel.trans (hb.mono hbel.size)) (Nat.le_refl _)) (hbel.trans (hb.mono hbel.size)).size hol)
  have HCn := Lib.hid (fun (w' : World) => clone_prop 0 0 none 0 [] w' (RowA.empty _ _ _) (Nat.zero_le _) (by omega))
  have HCy := Lib.hid (fun (w' : World) (hb : Below wc.heap.size wc w') => copy_c nd.wt nd (.agg #[.bool l0, .slice a1 m1 c1, .slice a2 m2 c2, .slice a3 m3 c3]) w' (Nat.le_refl _) hbig (by obtain ⟨cs, he, hc⟩ := Hn.out; exact ⟨cs, he, NodeC.keep (hbel.trans (hb.mono hbel.size)) (hbel.trans (hb.mono hbel.size)).size _ _ hc⟩))
  have HA := Lib.hid hA; have HB := Lib.hid hB; have Hq := Lib.hid hq; have Hr := Lib.hid hr; have Hbel := Lib.hid hbel
  clear hA hB hq hr hbel Hn Ho HCp HCd x1 x2 x10
  go_upto_region 2 with fail
  go_cut [] (fun wx => ∃ v4 v5 v6 v7 v8 v9, At wx W.heap.size [.int .i64 kd, .slice qa p.length qc, .slice ra d.length rc, .int .i64 pos, v4, v5, v6, v7, v8, v9, .slice xa 0 xc, .bool false, .slice none 0 0, .int .i64 0, .slice none 0 0, .int .i64 0, .bool false, .slice none 0 0, .int .i64 0, .slice none 0 0, .int .i64 0] 63 /\ At wx (W.heap.size + 1) [.int .i64 0, .slice none 0 0, .slice none 0 0, .int .i64 0, .bool false, .slice none 0 0, .slice none 0 0, .slice none 0 0, .slice none 0 0, .slice none 0 0, .slice none 0 0, .bool false, .slice none 0 0, .int .i64 0, .slice none 0 0, .int .i64 0, .bool false, .slice none 0 0, .int .i64 0, .slice none 0 0, .int .i64 0] 63 /\ RowQ wx (fun b => W.heap.size + 2 <= b) 1 qa p.length qc (p.map (Value.int .i64)) /\ RowQ wx (fun b => W.heap.size + 2 <= b) 1 ra d.length rc (d.map (Value.int .i64)) /\ Below W.heap.size W wx /\ [v4, v5, v6, v7, v8, v9].all (·.oneCell') = true /\ (∃ a n c, v8 = .slice a n c) /\ (∃ a n c, v9 = .slice a n c))
  case first =>
   go_region_law (first
    | (refine step_call rfl 116 _ _ rfl ownclp_ent [.slice oa ol.length oc] ?_ _ (HCo.out wc.drew (Below.refl _ _).drew) ?_
       . go_simp
       rintro e w1 ⟨u5, rfl, hown, hbel⟩
       obtain ⟨ua, ub, rfl, -⟩ := row_of_own hown (propCells_one _)
       refine ⟨_, rfl, ?_⟩
       have Hb1 := Lib.hid (((Below.refl wc.heap.size wc).drew).trans hbel)
       have hA1 := HA.out.kept Hb1.out
       have y5 := hA1.cell 8 rfl; have y6 := hA1.cell 9 rfl; have y4 := hA1.cell 4 rfl; have y7 := hA1.cell 5 rfl; have y8 := hA1.cell 6 rfl; have y9 := hA1.cell 7 rfl; have yl := hA1.lt
       clear hbel hown hA1)
    | (refine step_call rfl 116 _ _ rfl ownclp_ent [.slice none 0 0] ?_ _ (HCn.out w1) ?_
       . go_simp
       rintro e w2 ⟨u6, rfl, hown, hbel⟩
       obtain ⟨uc, ud, rfl, -⟩ := row_of_own hown (by intro u hu; cases hu)
       refine ⟨_, rfl, ?_⟩
       have Hb2 := Lib.hid (Hb1.out.trans (hbel.mono Hb1.out.size))
       have hA2 := HA.out.kept Hb2.out
       have z5 := hA2.cell 8 rfl; have z6 := hA2.cell 9 rfl; have z4 := hA2.cell 4 rfl; have z7 := hA2.cell 5 rfl; have z8 := hA2.cell 6 rfl; have z9 := hA2.cell 7 rfl; have zl := hA2.lt
       clear hbel hown hA2)
    | (refine step_call rfl 64 _ _ rfl owncopy_ent [.agg #[.bool l0, .slice a1 m1 c1, .slice a2 m2 c2, .slice a3 m3 c3]] ?_ _ (HCy.out w2 Hb2.out) ?_
       . go_simp
       rintro e w3 ⟨cs, rfl, hno, hbel⟩
       obtain ⟨lk, s1, g1, h1, s2, g2, h2, s3, g3, h3, rfl⟩ := hno.form
       refine ⟨_, rfl, ?_⟩
       have Hb3 := Lib.hid (Hb2.out.trans (hbel.mono Hb2.out.size))
       have HA3 := Lib.hid (HA.out.kept Hb3.out)
       have t5 := HA3.out.cell 8 rfl; have t6 := HA3.out.cell 9 rfl; have t4 := HA3.out.cell 4 rfl; have t7 := HA3.out.cell 5 rfl; have t8 := HA3.out.cell 6 rfl; have t9 := HA3.out.cell 7 rfl; have tl := HA3.out.lt
       have tf := fun j => Lib.frozen_of_heap HA3.out j
       clear hbel hno))
   all_goals
    go_wp2_with fail
    go_meet
    case rel =>
     have hs0 := Hs0.out
     have hw := (Hbel.out.trans (Hb3.out.mono Hbel.out.size))
     have hne : ¬ (W.heap.size + 2 <= W.heap.size) := by omega
     refine ⟨_, _, _, _, _, _, (((((HA3.out.set 8 _).set 9 _).set 4 _).set 5 _).set 6 _).set 7 _, ((((((HB.out.kept Hb3.out).set_ne (by omega) _).set_ne (by omega) _).set_ne (by omega) _).set_ne (by omega) _).set_ne (by omega) _).set_ne (by omega) _, rowq_set (rowq_set (rowq_set (rowq_set (rowq_set (rowq_set (Hq.out.since Hb3.out) hne) hne) hne) hne) hne) hne, rowq_set (rowq_set (rowq_set (rowq_set (rowq_set (rowq_set (Hr.out.since Hb3.out) hne) hne) hne) hne) hne) hne, (((((hw.setCell (p := ⟨W.heap.size, 8, none⟩) (Nat.le_refl _) _).setCell (p := ⟨W.heap.size, 9, none⟩) (Nat.le_refl _) _).setCell (p := ⟨W.heap.size, 4, none⟩) (Nat.le_refl _) _).setCell (p := ⟨W.heap.size, 5, none⟩) (Nat.le_refl _) _).setCell (p := ⟨W.heap.size, 6, none⟩) (Nat.le_refl _) _).setCell (p := ⟨W.heap.size, 7, none⟩) (Nat.le_refl _) _, rfl, ⟨_, _, _, rfl⟩, ⟨_, _, _, rfl⟩⟩
  case rest =>
   obtain ⟨v4, v5, v6, v7, v8, v9, hA, hB, hq, hr, hbel, hone, h8, h9⟩ := hcut
   have Hone := Lib.hid hone; have H8 := Lib.hid h8; have H9 := Lib.hid h9
   clear hone h8 h9
   have Hs2 := Lib.hid (show W.heap.size + 1 < wc.heap.size from hB.lt)
   have HA := Lib.hid hA; have HB := Lib.hid hB; have Hq := Lib.hid hq; have Hr := Lib.hid hr; have Hbel := Lib.hid hbel
   clear hA hB hq hr hbel
   go_wp2_with fail
   go_loopg [43, 4] 4 (fun g i _ wr => ∃ (j : Nat) (g1 : Option Addr) (h1 : Nat) (g2 : Option Addr) (h2 : Nat) (g3 : Option Addr) (h3 : Nat) (g4 : Option Addr) (h4 : Nat), i = .int .i64 j /\ j + g = 4 /\ (j < 1 -> g1 = none /\ h1 = 0) /\ (j < 2 -> g2 = none /\ h2 = 0) /\ (j < 3 -> g3 = none /\ h3 = 0) /\ (j < 4 -> g4 = none /\ h4 = 0) /\
    At wr W.heap.size [.int .i64 kd, .slice qa p.length qc, .slice ra d.length rc, .int .i64 pos, v4, v5, v6, v7, v8, v9, .slice xa 0 xc, .bool false, .slice g1 0 h1, .int .i64 0, .slice g2 0 h2, .int .i64 0, .bool false, .slice g3 0 h3, .int .i64 0, .slice g4 0 h4, .int .i64 0] 63 /\ At wr (W.heap.size + 1) [.int .i64 0, .slice none 0 0, .slice none 0 0, .int .i64 0, .bool false, .slice none 0 0, .slice none 0 0, .slice none 0 0, .slice none 0 0, .slice none 0 0, .slice none 0 0, .bool false, .slice none 0 0, .int .i64 0, .slice none 0 0, .int .i64 0, .bool false, .slice none 0 0, .int .i64 0, .slice none 0 0, .int .i64 0] 63 /\ At wr wc.heap.size [.pointer (some ⟨W.heap.size, 12, none⟩), .pointer (some ⟨W.heap.size, 14, none⟩), .pointer (some ⟨W.heap.size, 17, none⟩), .pointer (some ⟨W.heap.size, 19, none⟩)] 276 /\ RowQ wr (fun b => W.heap.size + 2 <= b) 1 qa p.length qc (p.map (Value.int .i64)) /\ RowQ wr (fun b => W.heap.size + 2 <= b) 1 ra d.length rc (d.map (Value.int .i64)) /\ Below W.heap.size W wr)
   case atStart => exact ⟨0, none, 0, none, 0, none, 0, none, 0, rfl, rfl, fun _ => ⟨rfl, rfl⟩, fun _ => ⟨rfl, rfl⟩, fun _ => ⟨rfl, rfl⟩, fun _ => ⟨rfl, rfl⟩, HA.out.alloc _, HB.out.alloc _, At.fresh _ _ _, Hq.out.since (one_below _ _), Hr.out.since (one_below _ _), Hbel.out.trans ((one_below _ _).mono Hbel.out.size)⟩
   case round =>
    obtain ⟨j, g1, h1, g2, h2, g3, h3, g4, h4, rfl, hg, i1, i2, i3, i4, hA, hB, hP, hq, hr, hbr⟩ := hrel
    have HNb := Lib.hid (show W.heap.size + 1 < wc.heap.size from Hs2.out)
    clear HA HB Hq Hr
    have H1 := Lib.hid i1; have H2 := Lib.hid i2; have H3 := Lib.hid i3; have H4 := Lib.hid i4
    have HA := Lib.hid hA; have HB := Lib.hid hB; have HP := Lib.hid hP; have Hq := Lib.hid hq; have Hr := Lib.hid hr; have Hbr := Lib.hid hbr
    clear i1 i2 i3 i4 hA hB hP hq hr hbr
    have hj : j = 0 ∨ j = 1 ∨ j = 2 ∨ j = 3 ∨ j = 4 := by omega
    rcases hj with rfl | rfl | rfl | rfl | rfl
    . obtain ⟨rfl, rfl⟩ := H1.out (by omega)
      have p0 := HP.out.cell 0 rfl; have pl := HP.out.lt
      have c0 := HA.out.cell 12 rfl; have al := HA.out.lt
      go_wp2_with fail
      refine (clone_nil wr).mono ?_
      rintro e w4 ⟨⟨ga, gc, rfl⟩, hb4⟩
      have HA4 := Lib.hid (HA.out.kept hb4)
      have k0 := HA4.out.cell 12 rfl; have kl := HA4.out.lt
      have kf := fun j => Lib.frozen_of_heap HA4.out j
      have Hb4 := Lib.hid hb4
      clear hb4 p0 pl c0 al
      go_wp2_with fail
      go_roundg 3
      case measure => omega
      case rel =>
       have hne : ¬ (W.heap.size + 2 <= W.heap.size) := by omega
       have hNb := HNb.out
       exact ⟨1, ga, gc, g2, h2, g3, h3, g4, h4, rfl, by omega, fun h => absurd h (by omega), fun h => H2.out (by omega), fun h => H3.out (by omega), fun h => H4.out (by omega), HA4.out.set 12 _, (HB.out.kept Hb4.out).set_ne (by omega) _, (HP.out.kept Hb4.out).set_ne (by omega) _, rowq_set (Hq.out.since Hb4.out) hne, rowq_set (Hr.out.since Hb4.out) hne, (Hbr.out.trans (Hb4.out.mono Hbr.out.size)).setCell (p := ⟨W.heap.size, 12, none⟩) (Nat.le_refl _) _⟩
    . obtain ⟨rfl, rfl⟩ := H2.out (by omega)
      have p0 := HP.out.cell 1 rfl; have pl := HP.out.lt
      have c0 := HA.out.cell 14 rfl; have al := HA.out.lt
      go_wp2_with fail
      refine (clone_nil wr).mono ?_
      rintro e w4 ⟨⟨ga, gc, rfl⟩, hb4⟩
      have HA4 := Lib.hid (HA.out.kept hb4)
      have k0 := HA4.out.cell 14 rfl; have kl := HA4.out.lt
      have kf := fun j => Lib.frozen_of_heap HA4.out j
      have Hb4 := Lib.hid hb4
      clear hb4 p0 pl c0 al
      go_wp2_with fail
      go_roundg 2
      case measure => omega
      case rel =>
       have hne : ¬ (W.heap.size + 2 <= W.heap.size) := by omega
       have hNb := HNb.out
       exact ⟨2, g1, h1, ga, gc, g3, h3, g4, h4, rfl, by omega, fun h => absurd h (by omega), fun h => absurd h (by omega), fun h => H3.out (by omega), fun h => H4.out (by omega), HA4.out.set 14 _, (HB.out.kept Hb4.out).set_ne (by omega) _, (HP.out.kept Hb4.out).set_ne (by omega) _, rowq_set (Hq.out.since Hb4.out) hne, rowq_set (Hr.out.since Hb4.out) hne, (Hbr.out.trans (Hb4.out.mono Hbr.out.size)).setCell (p := ⟨W.heap.size, 14, none⟩) (Nat.le_refl _) _⟩
    . obtain ⟨rfl, rfl⟩ := H3.out (by omega)
      have p0 := HP.out.cell 2 rfl; have pl := HP.out.lt
      have c0 := HA.out.cell 17 rfl; have al := HA.out.lt
      go_wp2_with fail
      refine (clone_nil wr).mono ?_
      rintro e w4 ⟨⟨ga, gc, rfl⟩, hb4⟩
      have HA4 := Lib.hid (HA.out.kept hb4)
      have k0 := HA4.out.cell 17 rfl; have kl := HA4.out.lt
      have kf := fun j => Lib.frozen_of_heap HA4.out j
      have Hb4 := Lib.hid hb4
      clear hb4 p0 pl c0 al
      go_wp2_with fail
      go_roundg 1
      case measure => omega
      case rel =>
       have hne : ¬ (W.heap.size + 2 <= W.heap.size) := by omega
       have hNb := HNb.out
       exact ⟨3, g1, h1, g2, h2, ga, gc, g4, h4, rfl, by omega, fun h => absurd h (by omega), fun h => absurd h (by omega), fun h => absurd h (by omega), fun h => H4.out (by omega), HA4.out.set 17 _, (HB.out.kept Hb4.out).set_ne (by omega) _, (HP.out.kept Hb4.out).set_ne (by omega) _, rowq_set (Hq.out.since Hb4.out) hne, rowq_set (Hr.out.since Hb4.out) hne, (Hbr.out.trans (Hb4.out.mono Hbr.out.size)).setCell (p := ⟨W.heap.size, 17, none⟩) (Nat.le_refl _) _⟩
    . obtain ⟨rfl, rfl⟩ := H4.out (by omega)
      have p0 := HP.out.cell 3 rfl; have pl := HP.out.lt
      have c0 := HA.out.cell 19 rfl; have al := HA.out.lt
      go_wp2_with fail
      refine (clone_nil wr).mono ?_
      rintro e w4 ⟨⟨ga, gc, rfl⟩, hb4⟩
      have HA4 := Lib.hid (HA.out.kept hb4)
      have k0 := HA4.out.cell 19 rfl; have kl := HA4.out.lt
      have kf := fun j => Lib.frozen_of_heap HA4.out j
      have Hb4 := Lib.hid hb4
      clear hb4 p0 pl c0 al
      go_wp2_with fail
      go_roundg 0
      case measure => omega
      case rel =>
       have hne : ¬ (W.heap.size + 2 <= W.heap.size) := by omega
       have hNb := HNb.out
       exact ⟨4, g1, h1, g2, h2, g3, h3, ga, gc, rfl, by omega, fun h => absurd h (by omega), fun h => absurd h (by omega), fun h => absurd h (by omega), fun h => absurd h (by omega), HA4.out.set 19 _, (HB.out.kept Hb4.out).set_ne (by omega) _, (HP.out.kept Hb4.out).set_ne (by omega) _, rowq_set (Hq.out.since Hb4.out) hne, rowq_set (Hr.out.since Hb4.out) hne, (Hbr.out.trans (Hb4.out.mono Hbr.out.size)).setCell (p := ⟨W.heap.size, 19, none⟩) (Nat.le_refl _) _⟩
    . have hl := At.load (P := Tryz.prog) HA.out Tryz.underlying63 rfl (by kernel_rfl)
      simp [go_sem] at hl
      have hone : [.int .i64 kd, .slice qa p.length qc, .slice ra d.length rc, .int .i64 pos, v4, v5, v6, v7, v8, v9, .slice xa 0 xc, .bool false, .slice g1 0 h1, .int .i64 0, .slice g2 0 h2, .int .i64 0, .bool false, .slice g3 0 h3, .int .i64 0, .slice g4 0 h4, .int .i64 0].all (·.oneCell') = true := by
       have h := Hone.out
       simp only [List.all_cons, List.all_nil, Bool.and_true, Bool.and_eq_true] at h ⊢
       exact ⟨rfl, rfl, rfl, rfl, h.1, h.2.1, h.2.2.1, h.2.2.2.1, h.2.2.2.2.1, h.2.2.2.2.2, rfl, rfl, rfl, rfl, rfl, rfl, rfl, rfl, rfl, rfl, rfl⟩
      obtain ⟨w5, hst, hA5, hg5⟩ := At.store (P := Tryz.prog) HB.out (cs' := [.int .i64 kd, .slice qa p.length qc, .slice ra d.length rc, .int .i64 pos, v4, v5, v6, v7, v8, v9, .slice xa 0 xc, .bool false, .slice g1 0 h1, .int .i64 0, .slice g2 0 h2, .int .i64 0, .bool false, .slice g3 0 h3, .int .i64 0, .slice g4 0 h4, .int .i64 0]) rfl hone (by kernel_rfl)
      simp [go_sem] at hst
      have hN1 : W.heap.size <= W.heap.size + 1 := by omega
      have T1 := Lib.hid hA5
      have T2 := Lib.hid (Hbr.out.grown hg5 Hbr.out.size (fun k e => by cases e; exact hN1))
      have T3 := Lib.hid (rowq_gbn Hq.out hg5 (by omega))
      have T4 := Lib.hid (rowq_gbn Hr.out hg5 (by omega))
      clear hA5 hg5 hone
      go_wp2_with fail
      have hlr := At.load (P := Tryz.prog) T1.out Tryz.underlying63 rfl (by kernel_rfl)
      simp [go_sem] at hlr
      refine bodyPost_ret (v := .agg #[.int .i64 kd, .slice qa p.length qc, .slice ra d.length rc, .int .i64 pos, v4, v5, v6, v7, v8, v9, .slice xa 0 xc, .bool false, .slice g1 0 h1, .int .i64 0, .slice g2 0 h2, .int .i64 0, .bool false, .slice g3 0 h3, .int .i64 0, .slice g4 0 h4, .int .i64 0]) (by simp [results, Tryz.results195, go_sem, hlr]) rfl ?_
      exact ⟨⟨qa, qc, ra, rc, xa, xc, v4, v5, v6, v7, v8, v9, g1, g2, g3, g4, h1, h2, h3, h4, rfl, T3.out.keep (Nat.le_refl _) (fun _ _ _ => rfl) (fun b hb _ => by omega), T4.out.keep (Nat.le_refl _) (fun _ _ _ => rfl) (fun b hb _ => by omega), Hone.out, H8.out, H9.out⟩, T2.out⟩
end Go.Proofs.YtbommcakcmhalaaGreatDoor
/- Walks: the reference of node: left, Few. -/
namespace Go.Proofs.YtbommcakcmhalaaGreatDoor
open Go.RowKit Go.Redl
/-- What properties' lengths count. -/
def propsQ : List PropD -> Nat
 | [] => 0
 | p :: ps => p.1.length / 64 + p.2.length / 64 + propsQ ps
mutual
/-- How many more there might be. -/
def leftN : NodeD -> Int -> Int
 | .mk _ ps t ks, m => if m - (1 + t.length + ps.length : Nat) - (propsQ ps : Nat) < 0 then -1 else leftK ks (m - (1 + t.length + ps.length : Nat) - (propsQ ps : Nat))
def leftK : List NodeD -> Int -> Int
 | [], m => m
 | k :: ks, m => if leftN k m < 0 then -1 else leftK ks (leftN k m)
end
def fewB (n : NodeD) (m : Int) : Bool := decide (0 <= leftN n m)
theorem propsQ_append (a b : List PropD) : propsQ (a ++ b) = propsQ a + propsQ b := by
 induction a with
 | nil => simp [propsQ]
 | cons p ps ih => simp only [List.cons_append, propsQ, ih]; omega
theorem propsQ_succ {ps : List PropD} {k : Nat} (h : k < ps.length) : propsQ (ps.take (k + 1)) = propsQ (ps.take k) + (ps[k].1.length / 64 + ps[k].2.length / 64) := by
 rw [List.take_succ_eq_append_getElem h, propsQ_append]; simp [propsQ]
theorem propsQ_le (ps : List PropD) : propsQ ps <= propsWt ps := by
 induction ps with
 | nil => simp [propsQ]
 | cons p ps ih => simp only [propsQ, propsWt]; omega
mutual
theorem leftN_le : ∀ (n : NodeD) (m : Int), 0 <= m -> -1 <= leftN n m /\ leftN n m <= m
 | .mk l ps t ks, m, h => by
   simp only [leftN]
   split
   . omega
   . have := leftK_le ks (m - (1 + t.length + ps.length : Nat) - (propsQ ps : Nat)) (by omega)
     omega
theorem leftK_le : ∀ (ks : List NodeD) (m : Int), 0 <= m -> -1 <= leftK ks m /\ leftK ks m <= m
 | [], m, h => by simp only [leftK]; omega
 | k :: ks, m, h => by
   simp only [leftK]
   have h1 := leftN_le k m h
   split
   . omega
   . have := leftK_le ks (leftN k m) (by omega)
     omega
end
theorem leftK_step {ks : List NodeD} {k : Nat} {m : Int} (h : k < ks.length) : leftK (ks.drop k) m = if leftN ks[k] m < 0 then -1 else leftK (ks.drop (k + 1)) (leftN ks[k] m) := by
 conv => lhs; rw [List.drop_eq_getElem_cons h]
 simp only [leftK]
theorem left_eq {z : Int} {ks : List NodeD} {l : Bool} {ps : List PropD} {t : List Int} {most : Int} (hz : z = most - (1 + t.length + ps.length : Nat) - (propsQ ps : Nat)) :
 leftN (.mk l ps t ks) most = if z < 0 then -1 else leftK ks z := by subst hz; rfl
theorem rleft_c (m : Nat) : ∀ (n : NodeD) (v : Value) (most : Int) (w : World), n.wt <= m -> n.wt <= 100000000 -> 0 <= most -> most <= 1000000 -> NodeV w w.heap.size n v ->
 Calls Tryz.prog 93 #[v, .int .i64 most] w fun e w' => e = .returned (.int .i64 (leftN n most)) /\ Below w.heap.size w w' := by
 induction m with
 | zero => intro n v most w hm; have := wt_pos n; omega
 | succ m ih =>
   intro n v most w hm hn hm0 hm1 hv
   obtain ⟨l, ps, t, ks⟩ := n
   obtain ⟨ap, cp, at_, ct, ak, ck, css, rfl, hp, ht, hk, hc⟩ := hv.open
   have IH := Lib.hid ih
   have hwt : 1 + propsWt ps + t.length + wtAll ks = (NodeD.mk l ps t ks).wt := rfl
   have hw2 : wtAll ks <= 100000000 := by omega
   have hw3 : wtAll ks <= m := by omega
   have hw4 : propsWt ps <= 100000000 := by omega
   have hkl := wtAll_len ks
   have htl : t.length <= 100000000 := by omega
   have hpl := propsWt_len ps
   have Hl := fun z (hz : z = most - (1 + t.length + ps.length : Nat) - (propsQ ps : Nat)) => Lib.hid (left_eq (l := l) (ks := ks) hz)
   clear ih hv hwt hm hn ht
   go_enter Tryz.func93, Tryz.ntmps93
   go_wp2_with fail
   go_loopw [1, 22] (fun s i wr => ∃ k : Nat, k <= ps.length /\ i = .int .i64 k /\ s = .int .i64 (most - (1 + t.length + ps.length : Nat) - (propsQ (ps.take k) : Nat)) /\ Below (w.heap.size + 1) (w.alloc (Obj.cells #[.bool l, .slice ap ps.length cp, .slice at_ t.length ct, .slice ak ks.length ck] 35)) wr) (fun _ i _ => ps.length - (intOf i).toNat)
   case atStart => exact ⟨0, Nat.zero_le _, rfl, by simp [propsQ], Below.refl _ _⟩
   case round =>
    obtain ⟨k, hkn, rfl, rfl, hbel⟩ := hrel
    have hr2 := hp.keep (below_unbox hbel) (below_unbox hbel).size
    have hcl := propsQ_le (ps.take k)
    have hck := propsWt_take ps k
    by_cases hlt : k < ps.length
    . have Hb := Lib.hid hbel
      have Hss := Lib.hid (propsQ_succ hlt)
      have hcw := propsWt_mem (List.getElem_mem hlt)
      obtain ⟨b, off, rfl, hb, g0, g1⟩ := hr2.prop_at k hlt
      generalize ps[k] = p at hcw g0 g1 Hss
      obtain ⟨p1, p2⟩ := p
      simp only at hcw g0 g1 Hss
      generalize propsQ (ps.take k) = T at hcl Hss ⊢
      have hTl : T <= 100000000 := by omega
      have hl1 : p1.length <= 100000000 := by omega
      have hl2 : p2.length <= 100000000 := by omega
      have hb2 : (⟨p1.toArray⟩ : ByteArray).size = p1.length := rfl
      clear hbel hcl hck hcw
      go_wp2_with fail
      go_roundw
      case rel => exact ⟨k + 1, by omega, by go_num, by rw [Hss.out]; go_num, below_box_more Hb.out⟩
      case measure => simp [intOf]; omega
    . obtain rfl : k = ps.length := by omega
      rw [List.take_length] at hcl ⊢
      obtain ⟨x0, x1, x2, x3⟩ := box_keep hbel
      have Hb := Lib.hid (below_unbox hbel)
      have Hl1 := Hl _ rfl
      have hz1 : most - (1 + t.length + ps.length : Nat) - (propsQ ps : Nat) <= 1000000 := by omega
      generalize most - (1 + t.length + ps.length : Nat) - (propsQ ps : Nat) = z at Hl1 hz1 ⊢
      clear hbel hcl hck Hl
      by_cases hz : z < 0
      . go_wp2_with fail
        go_ret
        exact ⟨ret_int (by rw [Hl1.out, if_pos hz]), Hb.out⟩
      . have Hl2 : Hid (leftN (.mk l ps t ks) most = leftK ks z) := by
         show leftN _ _ = _
         rw [Hl1.out, if_neg hz]
        have hz0 : 0 <= z := by omega
        clear hz Hl1
        go_wp2_with fail
        go_loopw [1, 43] (fun s i wr => ∃ (k : Nat) (y : Int), k <= ks.length /\ 0 <= y /\ y <= 1000000 /\ i = .int .i64 k /\ s = .int .i64 y /\ leftK (ks.drop k) y = leftK ks z /\ Below w.heap.size w wr) (fun _ i _ => ks.length - (intOf i).toNat)
        case atStart => exact ⟨0, z, Nat.zero_le _, hz0, hz1, rfl, rfl, by simp, Hb.out⟩
        case round =>
         obtain ⟨k, y, hkn, hy0, hy1, rfl, rfl, hke, hbel⟩ := hrel
         have hr2 := hk.keep hbel hbel.size
         have hc2 := KidsC.keep hbel hbel.size ks css hc
         have Hb2 := Lib.hid hbel
         have Hke := Lib.hid hke
         clear hbel hke x0 x1 x2 x3
         by_cases hlt : k < ks.length
         . have Hss := Lib.hid (leftK_step (m := y) hlt)
           have hkw := wtAll_mem (List.getElem_mem hlt)
           obtain ⟨b, off, l', a1, n1, c1, a2, n2, c2, a3, n3, c3, rfl, hb, hnc, g0, g1, g2, g3⟩ := hr2.kid_at hc2 k hlt
           generalize ks[k] = q at hnc hkw Hss
           have hB := (((Below.refl wr.heap.size wr).alloc (Nat.le_refl _) (Obj.cells #[.bool l', .slice a1 n1 c1, .slice a2 n2 c2, .slice a3 n3 c3] 35)))
           have HC := Lib.hid (IH.out q (.agg #[.bool l', .slice a1 n1 c1, .slice a2 n2 c2, .slice a3 n3 c3]) y _ (by omega) (by omega) hy0 hy1 ⟨_, rfl, NodeC.keep hB hB.size _ _ hnc⟩)
           have hql := leftN_le q y hy0
           generalize leftN q y = x at HC Hss hql
           obtain ⟨hq0, hq1⟩ := hql
           by_cases hx : x < 0
           . have Hr : Hid (leftN (.mk l ps t ks) most = -1) := by
              show leftN _ _ = _
              rw [Hl2.out, <- Hke.out, Hss.out, if_pos hx]
             go_wp2_with fail
             refine HC.out.mono ?_
             rintro e w2 ⟨rfl, hbel⟩
             have Hb3 := Lib.hid ((Hb2.out.alloc Hb2.out.size _).trans (hbel.mono (by simp; have := Hb2.out.size; omega)))
             clear hbel
             go_wp2_with fail
             go_ret
             exact ⟨ret_int Hr.out.symm, Hb3.out⟩
           . have Hr : Hid (leftK (ks.drop (k + 1)) x = leftK ks z) := by
              show leftK _ _ = _
              rw [<- Hke.out, Hss.out, if_neg hx]
             go_wp2_with fail
             refine HC.out.mono ?_
             rintro e w2 ⟨rfl, hbel⟩
             have Hb3 := Lib.hid ((Hb2.out.alloc Hb2.out.size _).trans (hbel.mono (by simp; have := Hb2.out.size; omega)))
             clear hbel
             go_wp2_with fail
             go_roundw
             case rel => exact ⟨k + 1, x, by omega, by omega, by omega, by go_num, rfl, Hr.out, Hb3.out⟩
             case measure => simp [intOf]; omega
         . obtain rfl : k = ks.length := by omega
           go_wp2_with fail
           go_ret
           exact ⟨ret_int (by rw [Hl2.out, <- Hke.out, List.drop_length]; rfl), Hb2.out⟩
theorem rfew_c (n : NodeD) (v : Value) (most : Int) (w : World) (hn : n.wt <= 100000000) (h0 : 0 <= most) (h1 : most <= 1000000) (hv : NodeV w w.heap.size n v) :
 Calls Tryz.prog 39 #[v, .int .i64 most] w fun e w' => e = .returned (.bool (fewB n most)) /\ Below w.heap.size w w' := by
 have hv0 := hv
 obtain ⟨l, ps, t, ks⟩ := n
 obtain ⟨ap, cp, at_, ct, ak, ck, css, rfl, -, -, -, -⟩ := hv0.open
 generalize NodeD.mk l ps t ks = n at hv hn ⊢
 have hB0 := ((Below.refl w.heap.size w).alloc (Nat.le_refl _) (Obj.cells #[.bool l, .slice ap ps.length cp, .slice at_ t.length ct, .slice ak ks.length ck] 35))
 have HS := Lib.hid (rleft_c _ n _ most _ (Nat.le_refl _) hn h0 h1 (hv.keep hB0 hB0.size))
 have Hf : Hid (fewB n most = decide (0 <= leftN n most)) := rfl
 generalize leftN n most = x at HS Hf
 clear hv0 hv hB0 hn
 go_enter Tryz.func39, Tryz.ntmps39
 go_wp2_with fail
 refine HS.out.mono ?_
 rintro e w1 ⟨rfl, hbel⟩
 have Hb1 := Lib.hid (below_unbox (below_box hbel))
 clear hbel HS
 go_wp2_with fail
 go_ret
 exact ⟨ret_bool Hf.out.symm, Hb1.out⟩
end Go.Proofs.YtbommcakcmhalaaGreatDoor
/- Plain laws: a repair's operation that can be done, as the walks ask it; how great trees grow. -/
namespace Go.Proofs.YtbommcakcmhalaaGreatDoor
open Go.RowKit Go.Redl
/-- The four kinds that repairs have. -/
def KindR (kd : Int) : Prop := kd = 1 ∨ kd = 2 ∨ kd = 3 ∨ kd = 5
theorem fields_has {kd : Int} (hk : KindR kd) : ∃ fs, fieldsOf kd = some fs /\ askM hasLst kd (.string ⟨#[]⟩) = (.string ⟨fs.toArray⟩, true) /\ fs.length <= 1000 := by
 rcases hk with rfl | rfl | rfl | rfl
 . exact ⟨[112, 110], rfl, rfl, by decide⟩
 . exact ⟨[112, 110], rfl, rfl, by decide⟩
 . exact ⟨[112, 97, 111], rfl, rfl, by decide⟩
 . exact ⟨[112, 116], rfl, rfl, by decide⟩
theorem setF_on (o : OpD) : setF o.full = onB (setL9 o.path o.dest o.pos o.node o.old) := by
 unfold setF onB setL9
 simp only [selZ, List.filter_cons, List.filter_nil]
 by_cases h1 : 0 < o.path.length <;> by_cases h2 : 0 < o.dest.length <;> by_cases h3 : o.pos = 0 <;> cases h4 : sameN o.node zeroN <;> by_cases h5 : 0 < o.old.length <;> simp [h1, h2, h3, h5]
theorem form_within {o : OpD} {fs : List UInt8} (h : formN o.full = 0) (hf : fieldsOf o.kind = some fs) : ∀ c ∈ onB (setL9 o.path o.dest o.pos o.node o.old), c ∈ fs := by
 intro c hc
 rw [<- setF_on] at hc
 unfold formN at h
 rw [show o.full.kind = o.kind from rfl, hf] at h
 simp only [] at h
 split at h
 . rename_i h2
   have := List.all_eq_true.1 h2 c hc
   simpa using this
 . cases h
theorem cutN_some {n R k : NodeD} {p : List Int} (h : cutN n p = (R, k, 0)) : p ≠ [] /\ atN n p = some k /\ ∃ u, atN n p.dropLast = some u /\ R = putN n p.dropLast (setKids u ((kidsOf u).eraseIdx (lastN p).toNat)) := by
 unfold cutN at h
 split at h
 . simp at h
 . rename_i hp
   split at h
   . rename_i m u hm hu
     simp only [Prod.mk.injEq, and_true] at h
     exact ⟨hp, by rw [hm, h.2], u, hu, h.1.symm⟩
   . simp at h
theorem path_last {p : List Int} (hp : p ≠ []) : p.dropLast ++ [lastN p] = p := by
 rcases List.eq_nil_or_concat p with rfl | ⟨q, i, h⟩
 . exact absurd rfl hp
 . rw [h, List.concat_eq_append]; simp [lastN]
theorem wtAll_erase {ks : List NodeD} {j : Nat} (hj : j < ks.length) : wtAll (ks.eraseIdx j) + ks[j].wt = wtAll ks := by
 have h := wtAll_append (ks.take j) (ks.drop j)
 rw [List.take_append_drop, List.drop_eq_getElem_cons hj] at h
 rw [List.eraseIdx_eq_take_drop_succ, wtAll_append, h]
 simp only [wtAll]; omega
theorem wtAll_ins {ks : List NodeD} {i : Nat} {m : NodeD} : wtAll (insK ks i m) = wtAll ks + m.wt := by
 have h := wtAll_append (ks.take i) (ks.drop i)
 rw [List.take_append_drop] at h
 unfold insK
 rw [wtAll_append, h]
 simp only [wtAll]; omega
theorem cut_wt {n R k : NodeD} {p : List Int} (h : cutN n p = (R, k, 0)) : R.wt + k.wt = n.wt := by
 obtain ⟨hp, hk, u, hu, rfl⟩ := cutN_some h
 rw [<- path_last hp] at hk
 obtain ⟨u', j, hu', hj, hjl, hkk⟩ := atN_up hk
 rw [hu] at hu'; injection hu' with hu'; subst hu'
 have h1 := wt_put p.dropLast n u (setKids u ((kidsOf u).eraseIdx (lastN p).toNat)) hu
 have h2 := wt_setKids u ((kidsOf u).eraseIdx (lastN p).toNat)
 rw [hj, Int.toNat_natCast] at h1 h2 ⊢
 have h3 := wtAll_erase hjl
 rw [hkk] at h3
 omega
theorem add_wt {n X m : NodeD} {p : List Int} (h : addN n p m = (X, 0)) : p ≠ [] /\ X.wt = n.wt + m.wt := by
 unfold addN at h
 split at h
 . simp at h
 . rename_i hp
   split at h
   . simp at h
   . rename_i k hk
     split at h
     . simp at h
     . split at h
       . simp at h
       . simp only [Prod.mk.injEq, and_true] at h
         subst h
         have h1 := wt_put p.dropLast n k (setKids k (insK (kidsOf k) (lastN p).toNat m)) hk
         have h2 := wt_setKids k (insK (kidsOf k) (lastN p).toNat m)
         rw [wtAll_ins] at h2
         exact ⟨hp, by omega⟩
theorem join_wt (a b : NodeD) : (joinN a b).wt <= a.wt + b.wt := by
 obtain ⟨l, ps, t, ks⟩ := a
 obtain ⟨l', ps', t', ks'⟩ := b
 simp only [joinN, NodeD.wt, wtAll_append, List.length_append]
 omega
/-- An operation that can be done: what each kind asks. -/
theorem apply_parts {n X : NodeD} {o : OpD} (hk : KindR o.kind) (hw : n.wt <= 100000000) (h : applyN n o.full = (X, 0)) :
 nodeE n = 0 /\ leafOf n = false /\ o.path ≠ [] /\ formN o.full = 0 /\ ((o.kind = 1 /\ nodeE o.node = 0 /\ addN n o.path o.node = (X, 0)) ∨ (o.kind ≠ 1 /\ ∃ R k, cutN n o.path = (R, k, 0) /\ CutDoes o.kind o.pos o.path o.dest o.node o.old R k X /\ X.wt <= n.wt /\ (o.kind = 3 -> 0 < lastN o.path) /\ (o.kind = 5 -> o.dest ≠ []))) := by
 unfold applyN at h
 split at h
 . rename_i h0; simp at h; exact absurd h.2 h0
 rename_i h0
 split at h
 . simp at h
 rename_i hl
 split at h
 . rename_i h1; simp at h; exact absurd h.2 h1
 rename_i hf
 refine ⟨by simpa using h0, by simpa using hl, ?_, by simpa using hf, ?_⟩
 . unfold shapedN at h
   intro hp
   have hp' : o.full.path = [] := hp
   split at h
   . split at h
     . rename_i h1; simp at h; exact absurd h.2 h1
     . unfold addN at h; rw [hp'] at h; simp at h
   . have hc : (cutN n o.full.path).2.2 = 6 := by rw [hp']; rfl
     rw [if_pos (by rw [hc]; decide), hc] at h
     simp at h
 unfold shapedN at h
 split at h
 . rename_i hk1
   split at h
   . rename_i h1; simp at h; exact absurd h.2 h1
   . rename_i h1
     exact .inl ⟨hk1, by simpa using h1, h⟩
 . rename_i hk1
   right
   refine ⟨hk1, ?_⟩
   obtain ⟨R, k, e, hc⟩ : ∃ R k e, cutN n o.path = (R, k, e) := ⟨_, _, _, rfl⟩
   have hc' : cutN n o.full.path = (R, k, e) := hc
   rw [hc'] at h
   by_cases he : e = 0
   . subst he
     have hwt := cut_wt hc
     have hkp := wt_pos k
     simp only [ne_eq, not_true_eq_false, if_false] at h
     have hk' : o.full.kind = o.kind := rfl
     refine ⟨R, k, hc, ?_⟩
     rcases hk with hk | hk | hk | hk
     . exact absurd hk hk1
     . rw [if_pos (hk'.trans hk)] at h
       split at h
       . rename_i hs
         simp only [Prod.mk.injEq, and_true] at h
         subst h
         exact ⟨.inl ⟨hk, hs, rfl⟩, by omega, by omega, by omega⟩
       . simp at h
     . rw [if_neg (by omega), if_pos (hk'.trans hk)] at h
       unfold mergedN at h
       split at h
       . simp at h
       . rename_i h1
         split at h
         . simp at h
         . rename_i into hinto
           split at h
           . simp at h
           . rename_i h2
             split at h
             . simp at h
             . rename_i h3
               split at h
               . simp at h
               . rename_i h4
                 simp only [Prod.mk.injEq, and_true] at h
                 have h5 := atN_wt _ _ _ hinto
                 have h6 := join_wt into k
                 have h7 := wt_put (backP o.full.path) R into (joinN into k) hinto
                 have hpos : 0 < lastN o.path := by
                  have : ¬ lastN o.full.path <= 0 := fun e => h1 (.inr e)
                  have e : lastN o.full.path = lastN o.path := rfl
                  omega
                 have h8 : X.wt <= n.wt := by
                  rw [<- h]
                  show (putN R (backP o.full.path) (joinN into k)).wt <= n.wt
                  omega
                 refine ⟨.inr (.inl ⟨hk, into, hpos, hinto, by simpa using h2, by simpa using h3, by simpa using h4, by omega, h.symm⟩), h8, fun _ => hpos, by omega⟩
     . rw [if_neg (by omega), if_neg (by omega)] at h
       obtain ⟨hd, hX⟩ := add_wt h
       exact ⟨.inr (.inr ⟨hk, h⟩), by omega, by omega, fun _ => hd⟩
   . rw [if_pos he] at h
     simp at h
     exact absurd h.2 he
theorem apply_wt {n X : NodeD} {o : OpD} (hk : KindR o.kind) (hw : n.wt <= 100000000) (h : applyN n o.full = (X, 0)) : X.wt <= n.wt + (if o.kind = 1 then o.node.wt else 0) := by
 obtain ⟨-, -, -, -, ⟨h1, -, h2⟩ | ⟨h1, R, k, -, -, h2, -, -⟩⟩ := apply_parts hk hw h
 . rw [if_pos h1, (add_wt h2).2]; omega
 . rw [if_neg h1]; exact h2
/-- A tree that is small in number is small. -/
theorem propsWt_few (ps : List PropD) : propsWt ps <= 128 * ps.length + 64 * propsQ ps := by
 induction ps with
 | nil => simp [propsWt]
 | cons p ps ih => simp only [propsWt, propsQ, List.length_cons]; omega
mutual
theorem wt_leftN : ∀ (n : NodeD) (m : Int), 0 <= leftN n m -> (n.wt : Int) <= 128 * (m - leftN n m)
 | .mk l ps t ks, m, h => by
   simp only [leftN] at h ⊢
   split at h
   . omega
   . rename_i h0
     rw [if_neg h0]
     have h1 := wt_leftK ks _ h
     have h2 := propsWt_few ps
     simp only [NodeD.wt]
     push_cast at h1 ⊢
     omega
theorem wt_leftK : ∀ (ks : List NodeD) (m : Int), 0 <= leftK ks m -> (wtAll ks : Int) <= 128 * (m - leftK ks m)
 | [], m, h => by simp [leftK, wtAll]
 | k :: ks, m, h => by
   simp only [leftK] at h ⊢
   split at h
   . omega
   . rename_i h0
     rw [if_neg h0]
     have h1 := wt_leftN k m (by omega)
     have h2 := wt_leftK ks _ h
     simp only [wtAll]
     push_cast
     omega
end
theorem wt_few {n : NodeD} {m : Int} (h : fewB n m = true) : (n.wt : Int) <= 128 * m := by
 unfold fewB at h
 have h1 := of_decide_eq_true h
 have := wt_leftN n m h1
 omega
end Go.Proofs.YtbommcakcmhalaaGreatDoor
