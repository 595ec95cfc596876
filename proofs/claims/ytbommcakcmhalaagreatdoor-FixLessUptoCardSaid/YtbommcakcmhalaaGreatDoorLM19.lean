/- Parts of the proof, one behind the other: RTP. -/
import Derived.Test.YtbommcakcmhalaaGreatDoorLM18
/- Walks: back.Inverse, of what repairs have. -/
set_option linter.unusedVariables false
set_option linter.unusedSimpArgs false
set_option maxHeartbeats 4000000
set_option maxRecDepth 100000
namespace Go.Proofs.YtbommcakcmhalaaGreatDoor
open Go.RowKit Go.Redl
theorem run_ask1 {P : Program} {w : World} {b T K E : Nat} {l : List (Int × Value)} (h : MapAt w b l) (hT : P.underlying T = some (.map K E)) (hK : P.underlying K = some (.int .i64)) (z : Value) (hz : ∀ w : World, (zeroValue E).run P w = .ok z w) (k : Int)
 (hnd : (l.map (·.1)).Nodup) :
 (Instr.lookup T (.map (some b)) (.int .i64 k) false).run P w = .ok (askM l k z).1 w := by
 obtain ⟨es, ck, hb, he⟩ := h
 have hkey : MapKept.IsKey (.int .i64) (.int .i64 k) := rfl
 have hks := MapAt.keys (w := w) (b := b) he
 rcases MapKept.findNow_spec hkey es.toList 0 hks with ⟨h1, h2⟩ | ⟨j, e0, h1, h2, h3⟩
 . have hn : askM l k z = (z, false) := by
    unfold askM
    rw [List.find?_eq_none.2 ?_]
    intro p hp
    have hm : ((Value.int .i64 p.1), p.2) ∈ l.map (fun p => (Value.int .i64 p.1, p.2)) := List.mem_map.2 ⟨p, hp, rfl⟩
    rw [<- he] at hm
    obtain ⟨x, hx, hxe⟩ := List.mem_map.1 hm
    injection hxe with e1 e2
    have := h2 x hx
    rw [e1] at this
    simpa using fun e => this (by rw [e])
   rw [hn]
   simp [Instr.lookup, run_underlying hT, MapKept.run_getObj_map hb, MapKept.run_checkKey hK hkey, MapKept.run_findKey hK h1, Result.andThen, hz]
 . have hj : (es.toList.map (fun e => (e.key, e.val)))[j]? = some (e0.key, e0.val) := by rw [List.getElem?_map, h2]; rfl
   rw [he, List.getElem?_map] at hj
   obtain ⟨p, hp, hpe⟩ := Option.map_eq_some_iff.1 hj
   injection hpe with e1 e2
   rw [h3] at e1
   injection e1 with e3 e4
   have hf : l.find? (fun p => decide (p.1 = k)) = some p := by
    obtain ⟨hjl, hpj⟩ := List.getElem?_eq_some_iff.1 hp
    rw [List.find?_eq_some_iff_getElem]
    refine ⟨by simpa using e4, j, hjl, hpj, fun i hi => ?_⟩
    have hne := List.pairwise_iff_getElem.1 hnd i j (by simp; omega) (by simpa using hjl) hi
    simp only [List.getElem_map, hpj, e4] at hne
    simpa using hne
   have hn : askM l k z = (p.2, true) := by unfold askM; rw [hf]
   rw [hn, e2]
   simp [Instr.lookup, run_underlying hT, MapKept.run_getObj_map hb, MapKept.run_checkKey hK hkey, MapKept.run_findKey hK h1, Result.andThen]
abbrev undLst : List (Int × Value) := [(1, .int .i64 2), (2, .int .i64 1), (3, .int .i64 4), (4, .int .i64 3), (7, .int .i64 8), (8, .int .i64 7), (5, .int .i64 5), (6, .int .i64 6), (9, .int .i64 9)]
theorem und_ent : ∀ args w, (callFunc 196 args).run Tryz.prog w = .ok (.enter 196 args) w := by intro args w; kernel_rfl
theorem und_of {kd : Int} (hk : KindR kd) : ∃ k2 : Int, askM undLst kd (.int .i64 0) = (.int .i64 k2, true) /\ (k2 = 1 ∨ k2 = 2 ∨ k2 = 3 ∨ k2 = 4 ∨ k2 = 5) := by
 rcases hk with rfl | rfl | rfl | rfl
 . exact ⟨2, rfl, by omega⟩
 . exact ⟨1, rfl, by omega⟩
 . exact ⟨4, rfl, by omega⟩
 . exact ⟨5, rfl, by omega⟩
theorem At.setAll {w : World} {N : Nat} {cs cs' : List Value} {T : TypeId} (h : At w N cs T) (hl : cs'.length = cs.length) : At (w.setCells N 0 cs') N cs' T := by
 obtain ⟨cur', g1, g2, g3⟩ := heap_setCells N cs' 0 w cs.toArray T (0, 0) h (by simp [hl])
 unfold At
 rw [g1]
 have : cur' = cs'.toArray := by
  apply Array.toList_inj.1
  rw [g3]
  simp [<- hl]
 rw [this]
/-- A whole box, loaded or stored, as one operation of a plain region: its cells are never told one by one. -/
theorem wpList_loadA {P : Program} {ops : Array Oper} {rest : List Oper} {o : Oper} {a : Act} {w : World} {Q : Exit -> Act -> World -> Prop} (hg : o.guard = none) (ty : TypeId) (x : Operand) (ho : o.op = .load ty x)
 (N : Nat) (vs : Array Value) (hx : a.eval x = .pointer (some ⟨N, 0, none⟩)) (h : At w N vs.toList ty) (d : TypeDesc) (hu : P.underlying ty = some d) (hd : d.isRow = true) (hi : (P.info? ty).map (·.size) = some vs.size)
 (hk : wpList P ops Q rest (a.put o.dst (.agg vs)) w) : wpList P ops Q (o :: rest) a w :=
 wpList_load_mid hg ty x ho N 0 hx vs.toList d (fun j v hj => by rw [Nat.zero_add]; exact h.cell j hj) hu hd (by simpa using hi) (by simpa using hk)
theorem wpList_storeA {P : Program} {ops : Array Oper} {rest : List Oper} {o : Oper} {a : Act} {w : World} {Q : Exit -> Act -> World -> Prop} (hg : o.guard = none) (ty : TypeId) (x y : Operand) (ho : o.op = .store ty x y) (hdst : o.dst = none)
 (N : Nat) (cs : List Value) (vs : Array Value) (hx : a.eval x = .pointer (some ⟨N, 0, none⟩)) (hy : a.eval y = .agg vs) (h : At w N cs ty) (hl : vs.size = cs.length) (h1 : vs.toList.all (·.oneCell') = true) (hi : (P.info? ty).map (·.size) = some vs.size)
 (hk : ∀ w', At w' N vs.toList ty -> w.grownBy w' (some N) -> wpList P ops Q rest a w') : wpList P ops Q (o :: rest) a w := by
 refine wpList_store_mid hg ty x y ho N 0 vs hx hy (fun j hj => ⟨?_, ?_⟩) hi (by simpa using h1) ?_
 . rw [Nat.zero_add, h.cell j (List.getElem?_eq_getElem (by omega))]; rfl
 . rw [Nat.zero_add]; exact Lib.frozen_of_heap h j
 . rw [hdst]; exact hk _ (At.setAll h (by simpa using hl)) (grown_setCells vs.toList 0 w)
/-- Some operation of the kinds that change a tree's shape, whose paths can be read. -/
def InvP (W : World) (e : Ending) (w' : World) : Prop := Below W.heap.size W w' /\ ∃ (kd2 : Int) (q r : List Int) (pos2 : Int) (qa : Option Addr) (qc : Nat) (ra : Option Addr) (rc : Nat) (v4 v5 v6 v7 v8 v9 v10 v11 v12 v13 v14 v15 v16 v17 v18 v19 v20 : Value),
 e = .returned (.tuple #[.agg #[.int .i64 kd2, .slice qa q.length qc, .slice ra r.length rc, .int .i64 pos2, v4, v5, v6, v7, v8, v9, v10, v11, v12, v13, v14, v15, v16, v17, v18, v19, v20], .int .i64 0]) /\ (kd2 = 1 ∨ kd2 = 2 ∨ kd2 = 3 ∨ kd2 = 4 ∨ kd2 = 5) /\ q ≠ [] /\ q.length <= 1000000 /\ r.length <= 1000000 /\ RowQ w' (fun _ => True) 1 qa q.length qc (q.map (Value.int .i64)) /\ RowQ w' (fun _ => True) 1 ra r.length rc (r.map (Value.int .i64)) /\ [.int .i64 kd2, .slice qa q.length qc, .slice ra r.length rc, .int .i64 pos2, v4, v5, v6, v7, v8, v9, v10, v11, v12, v13, v14, v15, v16, v17, v18, v19, v20].all (·.oneCell') = true
theorem binv_c (p d : List Int) (kd pos : Int) (nd : NodeD) (ol : List PropD) (pa ta oa : Option Addr) (pc tc oc : Nat) (l0 : Bool) (a1 a2 a3 : Option Addr) (m1 m2 m3 c1 c2 c3 : Nat) (W : World)
 (hbig : nd.wt <= 100000000) (hn : NodeV W W.heap.size nd (.agg #[.bool l0, .slice a1 m1 c1, .slice a2 m2 c2, .slice a3 m3 c3])) (hne : p ≠ [])
 (fs : List UInt8) (hfs : askM hasLst kd (.string ⟨#[]⟩) = (.string ⟨fs.toArray⟩, true)) (hfl : fs.length <= 1000) (hall : ∀ c ∈ onB (setL9 p d pos nd ol), c ∈ fs)
 (hp : RowA W W.heap.size 1 pa p.length pc (p.map (Value.int .i64))) (hpl : p.length <= 1000000) (hd : RowA W W.heap.size 1 ta d.length tc (d.map (Value.int .i64))) (hdl : d.length <= 1000000) (ho : RowA W W.heap.size 2 oa ol.length oc (propCells ol)) (hol : ol.length <= 100000000)
 (hk : KindR kd) (h3 : kd = 3 -> 0 < lastN p) (h5 : kd = 5 -> d ≠ []) (hpw : ∀ z ∈ p, -9223372036854775807 <= z /\ z <= 9223372036854775807) :
 Calls Tryz.prog 134 #[.agg #[.int .i64 kd, .slice pa p.length pc, .slice ta d.length tc, .int .i64 pos, .bool l0, .slice a1 m1 c1, .slice a2 m2 c2, .slice a3 m3 c3, .slice oa ol.length oc, .slice none 0 0, .slice none 0 0, .bool false, .slice none 0 0, .int .i64 0, .slice none 0 0, .int .i64 0, .bool false, .slice none 0 0, .int .i64 0, .slice none 0 0, .int .i64 0]] W (InvP W) := by
 obtain ⟨w0, hw0⟩ : ∃ w0, w0 = (W.alloc (Obj.cells #[.int .i64 kd, .slice pa p.length pc, .slice ta d.length tc, .int .i64 pos, .bool l0, .slice a1 m1 c1, .slice a2 m2 c2, .slice a3 m3 c3, .slice oa ol.length oc, .slice none 0 0, .slice none 0 0, .bool false, .slice none 0 0, .int .i64 0, .slice none 0 0, .int .i64 0, .bool false, .slice none 0 0, .int .i64 0, .slice none 0 0, .int .i64 0] 63)).alloc (Obj.cells #[.int .i64 0, .slice none 0 0, .slice none 0 0, .int .i64 0, .bool false, .slice none 0 0, .slice none 0 0, .slice none 0 0, .slice none 0 0, .slice none 0 0, .slice none 0 0, .bool false, .slice none 0 0, .int .i64 0, .slice none 0 0, .int .i64 0, .bool false, .slice none 0 0, .int .i64 0, .slice none 0 0, .int .i64 0] 63) := ⟨_, rfl⟩
 have hb0 : Below W.heap.size W w0 := by rw [hw0]; exact (one_below _ _).alloc (by simp) _
 have hs0 : w0.heap.size = W.heap.size + 2 := by rw [hw0]; simp
 have hA : At w0 W.heap.size [.int .i64 kd, .slice pa p.length pc, .slice ta d.length tc, .int .i64 pos, .bool l0, .slice a1 m1 c1, .slice a2 m2 c2, .slice a3 m3 c3, .slice oa ol.length oc, .slice none 0 0, .slice none 0 0, .bool false, .slice none 0 0, .int .i64 0, .slice none 0 0, .int .i64 0, .bool false, .slice none 0 0, .int .i64 0, .slice none 0 0, .int .i64 0] 63 := by rw [hw0]; exact (At.fresh W _ _).alloc _
 have hB : At w0 (W.heap.size + 1) [.int .i64 0, .slice none 0 0, .slice none 0 0, .int .i64 0, .bool false, .slice none 0 0, .slice none 0 0, .slice none 0 0, .slice none 0 0, .slice none 0 0, .slice none 0 0, .bool false, .slice none 0 0, .int .i64 0, .slice none 0 0, .int .i64 0, .bool false, .slice none 0 0, .int .i64 0, .slice none 0 0, .int .i64 0] 63 := by rw [hw0]; exact At.second W _ _ _
 have hnk : ∀ w', Below w0.heap.size w0 w' -> NodeV w' w'.heap.size nd (.agg #[.bool l0, .slice a1 m1 c1, .slice a2 m2 c2, .slice a3 m3 c3]) := fun w' hb => by
  obtain ⟨cs, he, hc⟩ := hn
  exact ⟨cs, he, NodeC.keep (hb0.trans (hb.mono hb0.size)) (hb0.trans (hb.mono hb0.size)).size _ _ hc⟩
 have hrk : ∀ {sz : Nat} {a : Option Addr} {n c : Nat} {cs : List Value} (w' : World), Below w0.heap.size w0 w' -> RowA W W.heap.size sz a n c cs -> RowA w' w'.heap.size sz a n c cs := fun w' hb hr => hr.keep (hb0.trans (hb.mono hb0.size)) (hb0.trans (hb.mono hb0.size)).size
 have HF := Lib.hid (form_ok p d kd pos nd ol pa ta oa pc tc oc l0 a1 a2 a3 m1 m2 m3 c1 c2 c3 w0 hbig (hnk w0 (Below.refl _ _)) hne fs hfs hfl hall)
 have HO := Lib.hid (fun (w' : World) (hb : Below w0.heap.size w0 w') => bown_c p d kd pos nd ol pa ta oa pc tc oc l0 a1 a2 a3 m1 m2 m3 c1 c2 c3 w' hbig (hnk w' hb) (hrk w' hb hp) hpl (hrk w' hb hd) hdl (hrk w' hb ho) hol)
 have HK := Lib.hid (fun (w' : World) (hb : Below W.heap.size W w') => back_c p pa pc w'.heap.size w' (hp.keep hb hb.size) (Nat.le_refl _) hpl hpw)
 obtain ⟨kd2, hu, hk2⟩ := und_of hk
 have HU := Lib.hid (fun (w : World) (b : Nat) (hm : MapAt w b undLst) => run_ask1 (P := Tryz.prog) (K := 3) hm Tryz.underlying224 Tryz.underlying3 (.int .i64 0) (fun w => by kernel_rfl) kd (by decide))
 rw [hu] at HU
 have HK2 := Lib.hid hk2
 have HA := Lib.hid hA; have HB := Lib.hid hB; have Hb0 := Lib.hid hb0; have Hs0 := Lib.hid hs0; have Hw0 := Lib.hid hw0
 have H3 := Lib.hid h3; have H5 := Lib.hid h5; have Hne := Lib.hid hne; have Hpl := Lib.hid hpl; have Hdl := Lib.hid hdl
 clear hA hB hb0 hs0 hw0 hn hp hd ho hnk hrk hfs hall h3 h5 hne hk2 hu hpw
 go_enter Tryz.func134, Tryz.ntmps134
 go_upto_region 1 with fail
 rw [<- Hw0.out]
 clear Hw0
 go_wp2_with (refine wpList_loadA rfl _ _ rfl W.heap.size #[.int .i64 kd, .slice pa p.length pc, .slice ta d.length tc, .int .i64 pos, .bool l0, .slice a1 m1 c1, .slice a2 m2 c2, .slice a3 m3 c3, .slice oa ol.length oc, .slice none 0 0, .slice none 0 0, .bool false, .slice none 0 0, .int .i64 0, .slice none 0 0, .int .i64 0, .bool false, .slice none 0 0, .int .i64 0, .slice none 0 0, .int .i64 0] rfl HA.out _ Tryz.underlying63 rfl (by kernel_rfl) ?_)
 refine HF.out.mono ?_
 rintro e w1 ⟨rfl, hbel⟩
 have Hb1 := Lib.hid hbel
 have HA1 := Lib.hid (HA.out.kept hbel)
 clear HF hbel
 go_wp2_with (refine wpList_loadA rfl _ _ rfl W.heap.size #[.int .i64 kd, .slice pa p.length pc, .slice ta d.length tc, .int .i64 pos, .bool l0, .slice a1 m1 c1, .slice a2 m2 c2, .slice a3 m3 c3, .slice oa ol.length oc, .slice none 0 0, .slice none 0 0, .bool false, .slice none 0 0, .int .i64 0, .slice none 0 0, .int .i64 0, .bool false, .slice none 0 0, .int .i64 0, .slice none 0 0, .int .i64 0] rfl HA1.out _ Tryz.underlying63 rfl (by kernel_rfl) ?_)
 refine (HO.out w1 Hb1.out).mono ?_
 rintro e w2 ⟨⟨qa, qc, ra, rc, xa, xc, v4, v5, v6, v7, v8, v9, g1, g2, g3, g4, h1, h2, h3, h4, rfl, hq, hr, hone, ⟨s8, n8, k8, rfl⟩, ⟨s9, n9, k9, rfl⟩⟩, hbel⟩
 have Hb2 := Lib.hid (below_and Hb1.out hbel)
 have Hone8 : Hid ([.int .i64 kd, .slice qa p.length qc, .slice ra d.length rc, .int .i64 pos, v4, v5, v6, v7, .slice s8 n8 k8, .slice s9 n9 k9, .slice xa 0 xc, .bool false, .slice g1 0 h1, .int .i64 0, .slice g2 0 h2, .int .i64 0, .bool false, .slice g3 0 h3, .int .i64 0, .slice g4 0 h4, .int .i64 0].all (·.oneCell') = true) := by
  show _ = true
  simp only [List.all_cons, List.all_nil, Bool.and_true, Bool.and_eq_true] at hone ⊢
  exact ⟨rfl, rfl, rfl, rfl, hone.1, hone.2.1, hone.2.2.1, hone.2.2.2.1, rfl, rfl, rfl, rfl, rfl, rfl, rfl, rfl, rfl, rfl, rfl, rfl, rfl⟩
 have Hone := Lib.hid hone
 have Hs1 := Lib.hid (show W.heap.size + 2 <= w1.heap.size by have h1 := Hb1.out.size; have h2 := Hs0.out; omega)
 have Hq := Lib.hid hq; have Hr := Lib.hid hr
 clear hbel hone hq hr HO HA1 Hb1
 go_wp2_with (refine wpList_storeA rfl _ _ _ rfl rfl w2.heap.size [.int .i64 0, .slice none 0 0, .slice none 0 0, .int .i64 0, .bool false, .slice none 0 0, .slice none 0 0, .slice none 0 0, .slice none 0 0, .slice none 0 0, .slice none 0 0, .bool false, .slice none 0 0, .int .i64 0, .slice none 0 0, .int .i64 0, .bool false, .slice none 0 0, .int .i64 0, .slice none 0 0, .int .i64 0] #[.int .i64 kd, .slice qa p.length qc, .slice ra d.length rc, .int .i64 pos, v4, v5, v6, v7, .slice s8 n8 k8, .slice s9 n9 k9, .slice xa 0 xc, .bool false, .slice g1 0 h1, .int .i64 0, .slice g2 0 h2, .int .i64 0, .bool false, .slice g3 0 h3, .int .i64 0, .slice g4 0 h4, .int .i64 0] rfl rfl (At.fresh w2 _ _) rfl Hone8.out (by kernel_rfl) ?_)
 intro w3 hC3 hg3
 have hg : w2.grownBy w3 (some w2.heap.size) := grownBy_trans (grown_of_below (one_below w2 _)) hg3
 have Hb23 := Lib.hid (hg.old (M := w2.heap.size) (Nat.le_refl _) (fun k hk => by cases hk; exact Nat.le_refl _))
 have Hs23 := Lib.hid (show w2.heap.size + 1 <= w3.heap.size by have := hC3.lt; omega)
 have Hq3 := Lib.hid (show RowQ w3 (fun b => W.heap.size + 2 <= b /\ b < w2.heap.size) 1 qa p.length qc (p.map (Value.int .i64)) from Hq.out.keep Hb23.out.size (fun b _ hlt => Hb23.out.block b hlt) (fun b hb hlt => ⟨by have := Hs1.out; omega, hlt⟩))
 have Hr3 := Lib.hid (show RowQ w3 (fun b => W.heap.size + 2 <= b /\ b < w2.heap.size) 1 ra d.length rc (d.map (Value.int .i64)) from Hr.out.keep Hb23.out.size (fun b _ hlt => Hb23.out.block b hlt) (fun b hb hlt => ⟨by have := Hs1.out; omega, hlt⟩))
 have HC3 := Lib.hid hC3
 have Hb3 := Lib.hid (below_and Hb2.out (Hb23.out))
 clear hC3 hg3 hg Hone8 Hq Hr
 have Hs2 := Lib.hid (show W.heap.size + 2 <= w2.heap.size by have h1 := Hb2.out.size; have h2 := Hs0.out; omega)
 have HA3 := Lib.hid (HA.out.kept Hb3.out)
 have HS3 := Lib.hid (fun (w' : World) (hb : Below (W.heap.size + 1) w3 w') => (HA3.out.keep hb).cell 0 rfl)
 go_upto_region 5 with fail
 go_cut [] (fun wx => At wx W.heap.size [.int .i64 kd, .slice pa p.length pc, .slice ta d.length tc, .int .i64 pos, .bool l0, .slice a1 m1 c1, .slice a2 m2 c2, .slice a3 m3 c3, .slice oa ol.length oc, .slice none 0 0, .slice none 0 0, .bool false, .slice none 0 0, .int .i64 0, .slice none 0 0, .int .i64 0, .bool false, .slice none 0 0, .int .i64 0, .slice none 0 0, .int .i64 0] 63 /\ At wx (W.heap.size + 1) [.int .i64 0, .slice none 0 0, .slice none 0 0, .int .i64 0, .bool false, .slice none 0 0, .slice none 0 0, .slice none 0 0, .slice none 0 0, .slice none 0 0, .slice none 0 0, .bool false, .slice none 0 0, .int .i64 0, .slice none 0 0, .int .i64 0, .bool false, .slice none 0 0, .int .i64 0, .slice none 0 0, .int .i64 0] 63 /\ At wx w2.heap.size [.int .i64 kd2, .slice qa p.length qc, .slice ra d.length rc, .int .i64 pos, v4, v5, v6, v7, .slice s8 n8 k8, .slice s9 n9 k9, .slice xa 0 xc, .bool false, .slice g1 0 h1, .int .i64 0, .slice g2 0 h2, .int .i64 0, .bool false, .slice g3 0 h3, .int .i64 0, .slice g4 0 h4, .int .i64 0] 63 /\ RowQ wx (fun b => W.heap.size + 2 <= b /\ b < w2.heap.size) 1 qa p.length qc (p.map (Value.int .i64)) /\ RowQ wx (fun b => W.heap.size + 2 <= b /\ b < w2.heap.size) 1 ra d.length rc (d.map (Value.int .i64)) /\ Below W.heap.size W wx)
 case first =>
  have hs2 := Hs2.out
  have hs23 : w2.heap.size + 1 <= w3.heap.size := Hs23.out
  go_region_held3 (fun w' => w'.cell? ⟨W.heap.size, 0, none⟩ = some (.int .i64 kd)) (refine HS3.out _ (by ((repeat (first | with_reducible exact Hb4b.out | with_reducible exact Below.refl _ _ | with_reducible refine Below.drew ?_ | with_reducible refine Below.alloc ?_ ?_ _ | with_reducible refine Below.setCell ?_ ?_ _)) <;> (first | with_reducible exact Nat.le_refl _ | with_reducible exact Hb4b.out.size | (have hsz := Hb4b.out.size; simp [World.setCell]; omega) | (simp; done) | (simp; omega) | omega))))
   (first
   | (refine step_call rfl 196 _ _ rfl und_ent [] ?_ _ (undoes_c _) ?_
      . go_simp
      rintro e w4 ⟨rfl, hm, hbel⟩
      refine ⟨_, rfl, ?_⟩
      have ha : (Instr.lookup 224 (.map (some w3.heap.size)) (.int .i64 kd) false).run Tryz.prog w4 = .ok (.int .i64 kd2) w4 := HU.out _ _ hm
      have Hb4 := Lib.hid (Below.and (w0 := w3) (by ((repeat (first | with_reducible exact Below.refl _ _ | with_reducible refine Below.drew ?_ | with_reducible refine Below.alloc ?_ ?_ _ | with_reducible refine Below.setCell ?_ ?_ _)) <;> (first | with_reducible exact Nat.le_refl _ | (simp; done) | (simp; omega) | omega))) hbel)
      have Hb4b := Lib.hid (Hb4.out.mono (show W.heap.size + 1 <= w3.heap.size by omega))
      have HC4 := Lib.hid (HC3.out.kept Hb4.out)
      have t0 := HC4.out.cell 0 rfl; have tl := HC4.out.lt
      have tf := fun j => Lib.frozen_of_heap HC4.out j
      clear hbel hm))
  all_goals
   go_wp2_with fail
   go_meet
   case rel =>
    have hs2 := Hs2.out
    have hne1 : W.heap.size ≠ w2.heap.size := by omega
    have hne2 : W.heap.size + 1 ≠ w2.heap.size := by omega
    have hA4 := HA.out.kept (below_and Hb3.out Hb4.out)
    have hB4 := HB.out.kept (below_and Hb3.out Hb4.out)
    have hlt : ¬ (W.heap.size + 2 <= w2.heap.size /\ w2.heap.size < w2.heap.size) := by omega
    have hb4 := Hb0.out.trans ((below_and Hb3.out Hb4.out).mono Hb0.out.size)
    exact ⟨hA4.set_ne hne1 _, hB4.set_ne hne2 _, HC4.out.set 0 _, rowq_set (rowq_since Hq3.out Hb4.out) hlt, rowq_set (rowq_since Hr3.out Hb4.out) hlt, hb4.setCell (p := ⟨w2.heap.size, 0, none⟩) (by show W.heap.size <= w2.heap.size; omega) _⟩
 case rest =>
 obtain ⟨hA, hB, hC, hq, hr, hbel⟩ := hcut
 clear HA HB HC3 Hq3 Hr3 HS3 HU Hb0 Hb3
 have HA := Lib.hid hA; have HB := Lib.hid hB; have HC := Lib.hid hC; have Hq := Lib.hid hq; have Hr := Lib.hid hr; have Hbel := Lib.hid hbel
 have t8 := hC.cell 8 rfl; have t9 := hC.cell 9 rfl; have tl := hC.lt
 have tf := fun j => Lib.frozen_of_heap hC j
 clear hA hB hC hq hr hbel
 go_upto_region 6 with fail
 go_cut [] (fun wx => At wx W.heap.size [.int .i64 kd, .slice pa p.length pc, .slice ta d.length tc, .int .i64 pos, .bool l0, .slice a1 m1 c1, .slice a2 m2 c2, .slice a3 m3 c3, .slice oa ol.length oc, .slice none 0 0, .slice none 0 0, .bool false, .slice none 0 0, .int .i64 0, .slice none 0 0, .int .i64 0, .bool false, .slice none 0 0, .int .i64 0, .slice none 0 0, .int .i64 0] 63 /\ At wx (W.heap.size + 1) [.int .i64 0, .slice none 0 0, .slice none 0 0, .int .i64 0, .bool false, .slice none 0 0, .slice none 0 0, .slice none 0 0, .slice none 0 0, .slice none 0 0, .slice none 0 0, .bool false, .slice none 0 0, .int .i64 0, .slice none 0 0, .int .i64 0, .bool false, .slice none 0 0, .int .i64 0, .slice none 0 0, .int .i64 0] 63 /\ At wx w2.heap.size [.int .i64 kd2, .slice qa p.length qc, .slice ra d.length rc, .int .i64 pos, v4, v5, v6, v7, .slice s9 n9 k9, .slice s8 n8 k8, .slice xa 0 xc, .bool false, .slice g1 0 h1, .int .i64 0, .slice g2 0 h2, .int .i64 0, .bool false, .slice g3 0 h3, .int .i64 0, .slice g4 0 h4, .int .i64 0] 63 /\ RowQ wx (fun b => W.heap.size + 2 <= b /\ b < w2.heap.size) 1 qa p.length qc (p.map (Value.int .i64)) /\ RowQ wx (fun b => W.heap.size + 2 <= b /\ b < w2.heap.size) 1 ra d.length rc (d.map (Value.int .i64)) /\ Below W.heap.size W wx)
 case first =>
  go_wp2_with fail
  go_meet
  case rel =>
   have hs2 := Hs2.out
   have hne1 : W.heap.size ≠ w2.heap.size := by omega
   have hne2 : W.heap.size + 1 ≠ w2.heap.size := by omega
   have hlt : ¬ (W.heap.size + 2 <= w2.heap.size /\ w2.heap.size < w2.heap.size) := by omega
   have hle : W.heap.size <= w2.heap.size := by omega
   exact ⟨(HA.out.set_ne hne1 _).set_ne hne1 _, (HB.out.set_ne hne2 _).set_ne hne2 _, (HC.out.set 8 _).set 9 _, rowq_set (rowq_set Hq.out hlt) hlt, rowq_set (rowq_set Hr.out hlt) hlt, (Hbel.out.setCell (p := ⟨w2.heap.size, 8, none⟩) hle _).setCell (p := ⟨w2.heap.size, 9, none⟩) hle _⟩
 case rest =>
 obtain ⟨hA, hB, hC, hq, hr, hbel⟩ := hcut
 clear HA HB HC Hq Hr Hbel t8 t9 tl tf
 have HA := Lib.hid hA; have HB := Lib.hid hB; have HC := Lib.hid hC; have Hq := Lib.hid hq; have Hr := Lib.hid hr; have Hbel := Lib.hid hbel
 have t11 := hC.cell 11 rfl; have t12 := hC.cell 12 rfl; have t13 := hC.cell 13 rfl; have t14 := hC.cell 14 rfl; have t15 := hC.cell 15 rfl
 have t16 := hC.cell 16 rfl; have t17 := hC.cell 17 rfl; have t18 := hC.cell 18 rfl; have t19 := hC.cell 19 rfl; have t20 := hC.cell 20 rfl; have tl := hC.lt
 have tf := fun j => Lib.frozen_of_heap hC j
 clear hA hB hC hq hr hbel
 go_upto_region 7 with fail
 go_cut [] (fun wx => At wx W.heap.size [.int .i64 kd, .slice pa p.length pc, .slice ta d.length tc, .int .i64 pos, .bool l0, .slice a1 m1 c1, .slice a2 m2 c2, .slice a3 m3 c3, .slice oa ol.length oc, .slice none 0 0, .slice none 0 0, .bool false, .slice none 0 0, .int .i64 0, .slice none 0 0, .int .i64 0, .bool false, .slice none 0 0, .int .i64 0, .slice none 0 0, .int .i64 0] 63 /\ At wx (W.heap.size + 1) [.int .i64 0, .slice none 0 0, .slice none 0 0, .int .i64 0, .bool false, .slice none 0 0, .slice none 0 0, .slice none 0 0, .slice none 0 0, .slice none 0 0, .slice none 0 0, .bool false, .slice none 0 0, .int .i64 0, .slice none 0 0, .int .i64 0, .bool false, .slice none 0 0, .int .i64 0, .slice none 0 0, .int .i64 0] 63 /\ At wx w2.heap.size [.int .i64 kd2, .slice qa p.length qc, .slice ra d.length rc, .int .i64 pos, v4, v5, v6, v7, .slice s9 n9 k9, .slice s8 n8 k8, .slice xa 0 xc, .bool false, .slice g3 0 h3, .int .i64 0, .slice g4 0 h4, .int .i64 0, .bool false, .slice g1 0 h1, .int .i64 0, .slice g2 0 h2, .int .i64 0] 63 /\ RowQ wx (fun b => W.heap.size + 2 <= b /\ b < w2.heap.size) 1 qa p.length qc (p.map (Value.int .i64)) /\ RowQ wx (fun b => W.heap.size + 2 <= b /\ b < w2.heap.size) 1 ra d.length rc (d.map (Value.int .i64)) /\ Below W.heap.size W wx)
 case first =>
  go_wp2_with fail
  go_meet
  case rel =>
   have hs2 := Hs2.out
   have hne1 : W.heap.size ≠ w2.heap.size := by omega
   have hne2 : W.heap.size + 1 ≠ w2.heap.size := by omega
   have hlt : ¬ (W.heap.size + 2 <= w2.heap.size /\ w2.heap.size < w2.heap.size) := by omega
   have hle : W.heap.size <= w2.heap.size := by omega
   exact ⟨((((((((((HA.out.set_ne hne1 _).set_ne hne1 _).set_ne hne1 _).set_ne hne1 _).set_ne hne1 _).set_ne hne1 _).set_ne hne1 _).set_ne hne1 _).set_ne hne1 _).set_ne hne1 _), ((((((((((HB.out.set_ne hne2 _).set_ne hne2 _).set_ne hne2 _).set_ne hne2 _).set_ne hne2 _).set_ne hne2 _).set_ne hne2 _).set_ne hne2 _).set_ne hne2 _).set_ne hne2 _), ((((((((((HC.out.set 11 _).set 12 _).set 13 _).set 14 _).set 15 _).set 16 _).set 17 _).set 18 _).set 19 _).set 20 _), rowq_set (rowq_set (rowq_set (rowq_set (rowq_set (rowq_set (rowq_set (rowq_set (rowq_set (rowq_set Hq.out hlt) hlt) hlt) hlt) hlt) hlt) hlt) hlt) hlt) hlt, rowq_set (rowq_set (rowq_set (rowq_set (rowq_set (rowq_set (rowq_set (rowq_set (rowq_set (rowq_set Hr.out hlt) hlt) hlt) hlt) hlt) hlt) hlt) hlt) hlt) hlt, (((((((((Hbel.out.setCell (p := ⟨w2.heap.size, 11, none⟩) hle _).setCell (p := ⟨w2.heap.size, 12, none⟩) hle _).setCell (p := ⟨w2.heap.size, 13, none⟩) hle _).setCell (p := ⟨w2.heap.size, 14, none⟩) hle _).setCell (p := ⟨w2.heap.size, 15, none⟩) hle _).setCell (p := ⟨w2.heap.size, 16, none⟩) hle _).setCell (p := ⟨w2.heap.size, 17, none⟩) hle _).setCell (p := ⟨w2.heap.size, 18, none⟩) hle _).setCell (p := ⟨w2.heap.size, 19, none⟩) hle _).setCell (p := ⟨w2.heap.size, 20, none⟩) hle _⟩
 case rest =>
 obtain ⟨hA, hB, hC, hq, hr, hbel⟩ := hcut
 clear HA HB HC Hq Hr Hbel t11 t12 t13 t14 t15 t16 t17 t18 t19 t20 tl tf
 have HA := Lib.hid hA; have HB := Lib.hid hB; have HC := Lib.hid hC; have Hq := Lib.hid hq; have Hr := Lib.hid hr; have Hbel := Lib.hid hbel
 have y0 := hA.cell 0 rfl; have yl := hA.lt
 have honeT : [v4, v5, v6, v7].all (·.oneCell') = true := by
  have h := Hone.out
  simp only [List.all_cons, List.all_nil, Bool.and_true, Bool.and_eq_true] at h ⊢
  exact ⟨h.1, h.2.1, h.2.2.1, h.2.2.2.1⟩
 have HoneT := Lib.hid honeT
 clear hA hB hC hq hr hbel honeT Hone
 go_upto_region 9 with fail
 unfold InvP
 rcases hk with rfl | rfl | rfl | rfl
 ·
   have Hone5 : Hid ([.int .i64 kd2, .slice qa p.length qc, .slice ra d.length rc, .int .i64 pos, v4, v5, v6, v7, .slice s9 n9 k9, .slice s8 n8 k8, .slice xa 0 xc, .bool false, .slice g3 0 h3, .int .i64 0, .slice g4 0 h4, .int .i64 0, .bool false, .slice g1 0 h1, .int .i64 0, .slice g2 0 h2, .int .i64 0].all (·.oneCell') = true) := by
    show _ = true
    have h := HoneT.out
    simp only [List.all_cons, List.all_nil, Bool.and_true, Bool.and_eq_true] at h ⊢
    exact ⟨rfl, rfl, rfl, rfl, h.1, h.2.1, h.2.2.1, h.2.2.2, rfl, rfl, rfl, rfl, rfl, rfl, rfl, rfl, rfl, rfl, rfl, rfl, rfl⟩
   go_wp2_with (first
    | (refine wpList_loadA rfl _ _ rfl w2.heap.size #[.int .i64 kd2, .slice qa p.length qc, .slice ra d.length rc, .int .i64 pos, v4, v5, v6, v7, .slice s9 n9 k9, .slice s8 n8 k8, .slice xa 0 xc, .bool false, .slice g3 0 h3, .int .i64 0, .slice g4 0 h4, .int .i64 0, .bool false, .slice g1 0 h1, .int .i64 0, .slice g2 0 h2, .int .i64 0] rfl HC.out _ Tryz.underlying63 rfl (by kernel_rfl) ?_)
    | (refine wpList_storeA rfl _ _ _ rfl rfl (W.heap.size + 1) [.int .i64 0, .slice none 0 0, .slice none 0 0, .int .i64 0, .bool false, .slice none 0 0, .slice none 0 0, .slice none 0 0, .slice none 0 0, .slice none 0 0, .slice none 0 0, .bool false, .slice none 0 0, .int .i64 0, .slice none 0 0, .int .i64 0, .bool false, .slice none 0 0, .int .i64 0, .slice none 0 0, .int .i64 0] #[.int .i64 kd2, .slice qa p.length qc, .slice ra d.length rc, .int .i64 pos, v4, v5, v6, v7, .slice s9 n9 k9, .slice s8 n8 k8, .slice xa 0 xc, .bool false, .slice g3 0 h3, .int .i64 0, .slice g4 0 h4, .int .i64 0, .bool false, .slice g1 0 h1, .int .i64 0, .slice g2 0 h2, .int .i64 0] rfl rfl HB.out rfl Hone5.out (by kernel_rfl) ?_))
   intro w5 hB5 hg5
   have HB5 := Lib.hid hB5; have Hg5 := Lib.hid hg5
   clear hB5 hg5
   go_wp2_with fail
   have hlr := At.load (P := Tryz.prog) HB5.out Tryz.underlying63 rfl (by kernel_rfl)
   simp [go_sem] at hlr
   refine bodyPost_ret (v := .tuple #[.agg #[.int .i64 kd2, .slice qa p.length qc, .slice ra d.length rc, .int .i64 pos, v4, v5, v6, v7, .slice s9 n9 k9, .slice s8 n8 k8, .slice xa 0 xc, .bool false, .slice g3 0 h3, .int .i64 0, .slice g4 0 h4, .int .i64 0, .bool false, .slice g1 0 h1, .int .i64 0, .slice g2 0 h2, .int .i64 0], .int .i64 0]) (by simp [results, Tryz.results134, go_sem, hlr]) rfl ?_
   have hs2 := Hs2.out
   exact ⟨(Hbel.out).grown Hg5.out (Hbel.out).size (fun k e => by cases e; omega), kd2, p, d, pos, _, _, _, _, _, _, _, _, _, _, _, _, _, _, _, _, _, _, _, _, _, rfl, HK2.out, Hne.out, Hpl.out, Hdl.out, (Hq.out).keep Hg5.out.size (fun b hb hlt => Hg5.out.block b hlt (fun e => by have e := Option.some.inj e; omega)) (fun _ _ _ => trivial), (Hr.out).keep Hg5.out.size (fun b hb hlt => Hg5.out.block b hlt (fun e => by have e := Option.some.inj e; omega)) (fun _ _ _ => trivial), Hone5.out⟩
 ·
   have Hone5 : Hid ([.int .i64 kd2, .slice qa p.length qc, .slice ra d.length rc, .int .i64 pos, v4, v5, v6, v7, .slice s9 n9 k9, .slice s8 n8 k8, .slice xa 0 xc, .bool false, .slice g3 0 h3, .int .i64 0, .slice g4 0 h4, .int .i64 0, .bool false, .slice g1 0 h1, .int .i64 0, .slice g2 0 h2, .int .i64 0].all (·.oneCell') = true) := by
    show _ = true
    have h := HoneT.out
    simp only [List.all_cons, List.all_nil, Bool.and_true, Bool.and_eq_true] at h ⊢
    exact ⟨rfl, rfl, rfl, rfl, h.1, h.2.1, h.2.2.1, h.2.2.2, rfl, rfl, rfl, rfl, rfl, rfl, rfl, rfl, rfl, rfl, rfl, rfl, rfl⟩
   go_wp2_with (first
    | (refine wpList_loadA rfl _ _ rfl w2.heap.size #[.int .i64 kd2, .slice qa p.length qc, .slice ra d.length rc, .int .i64 pos, v4, v5, v6, v7, .slice s9 n9 k9, .slice s8 n8 k8, .slice xa 0 xc, .bool false, .slice g3 0 h3, .int .i64 0, .slice g4 0 h4, .int .i64 0, .bool false, .slice g1 0 h1, .int .i64 0, .slice g2 0 h2, .int .i64 0] rfl HC.out _ Tryz.underlying63 rfl (by kernel_rfl) ?_)
    | (refine wpList_storeA rfl _ _ _ rfl rfl (W.heap.size + 1) [.int .i64 0, .slice none 0 0, .slice none 0 0, .int .i64 0, .bool false, .slice none 0 0, .slice none 0 0, .slice none 0 0, .slice none 0 0, .slice none 0 0, .slice none 0 0, .bool false, .slice none 0 0, .int .i64 0, .slice none 0 0, .int .i64 0, .bool false, .slice none 0 0, .int .i64 0, .slice none 0 0, .int .i64 0] #[.int .i64 kd2, .slice qa p.length qc, .slice ra d.length rc, .int .i64 pos, v4, v5, v6, v7, .slice s9 n9 k9, .slice s8 n8 k8, .slice xa 0 xc, .bool false, .slice g3 0 h3, .int .i64 0, .slice g4 0 h4, .int .i64 0, .bool false, .slice g1 0 h1, .int .i64 0, .slice g2 0 h2, .int .i64 0] rfl rfl HB.out rfl Hone5.out (by kernel_rfl) ?_))
   intro w5 hB5 hg5
   have HB5 := Lib.hid hB5; have Hg5 := Lib.hid hg5
   clear hB5 hg5
   go_wp2_with fail
   have hlr := At.load (P := Tryz.prog) HB5.out Tryz.underlying63 rfl (by kernel_rfl)
   simp [go_sem] at hlr
   refine bodyPost_ret (v := .tuple #[.agg #[.int .i64 kd2, .slice qa p.length qc, .slice ra d.length rc, .int .i64 pos, v4, v5, v6, v7, .slice s9 n9 k9, .slice s8 n8 k8, .slice xa 0 xc, .bool false, .slice g3 0 h3, .int .i64 0, .slice g4 0 h4, .int .i64 0, .bool false, .slice g1 0 h1, .int .i64 0, .slice g2 0 h2, .int .i64 0], .int .i64 0]) (by simp [results, Tryz.results134, go_sem, hlr]) rfl ?_
   have hs2 := Hs2.out
   exact ⟨(Hbel.out).grown Hg5.out (Hbel.out).size (fun k e => by cases e; omega), kd2, p, d, pos, _, _, _, _, _, _, _, _, _, _, _, _, _, _, _, _, _, _, _, _, _, rfl, HK2.out, Hne.out, Hpl.out, Hdl.out, (Hq.out).keep Hg5.out.size (fun b hb hlt => Hg5.out.block b hlt (fun e => by have e := Option.some.inj e; omega)) (fun _ _ _ => trivial), (Hr.out).keep Hg5.out.size (fun b hb hlt => Hg5.out.block b hlt (fun e => by have e := Option.some.inj e; omega)) (fun _ _ _ => trivial), Hone5.out⟩
 ·
   have hl3 := H3.out rfl
   have Hbn : Hid (besideN p (-1) = (backP p, 0)) := by
    show _ = _
    unfold besideN backP
    rw [if_neg Hne.out, if_neg (by omega)]
    rfl
   have hpx := HA.out.cell 1 rfl
   have HK3 := Lib.hid (HK.out wc Hbel.out)
   clear HK
   go_wp2_with fail
   refine HK3.out.mono ?_
   rw [Hbn.out]
   rintro e w6 ⟨hbel, v, rfl, hown⟩
   obtain ⟨ba, bc, rfl, hqb⟩ := RowQ.of_own hown (by intro u hu; obtain ⟨z, -, rfl⟩ := List.mem_map.1 hu; rfl)
   have HC6 := Lib.hid (HC.out.kept hbel); have HB6 := Lib.hid (HB.out.kept hbel)
   have Hqb := Lib.hid (show RowQ w6 (fun b => wc.heap.size <= b) 1 ba (backP p).length bc ((backP p).map (Value.int .i64)) from hqb.keep (Nat.le_refl _) (fun _ _ _ => rfl) (fun b hb _ => (hown.lt b hb).1)); have Hb6 := Lib.hid (Hbel.out.trans (hbel.mono Hbel.out.size))
   have Hr6 := Lib.hid (rowq_since Hr.out hbel)
   have tl := HC6.out.lt; have t1 := HC6.out.cell 1 rfl
   have tf := fun j => Lib.frozen_of_heap HC6.out j
   have Hsz6 := Lib.hid (show w2.heap.size + 1 <= wc.heap.size from HC.out.lt)
   have Hne1 := Lib.hid (show W.heap.size + 1 ≠ w2.heap.size by have h := Hs2.out; omega)
   have Hnl : Hid (¬ wc.heap.size <= w2.heap.size) := by have h := Hsz6.out; show ¬ _; omega
   clear HK3 hbel hown hqb hpx y0 yl
   have Hone5 : Hid ([.int .i64 kd2, .slice ba (backP p).length bc, .slice ra d.length rc, .int .i64 pos, v4, v5, v6, v7, .slice s9 n9 k9, .slice s8 n8 k8, .slice xa 0 xc, .bool false, .slice g3 0 h3, .int .i64 0, .slice g4 0 h4, .int .i64 0, .bool false, .slice g1 0 h1, .int .i64 0, .slice g2 0 h2, .int .i64 0].all (·.oneCell') = true) := by
    show _ = true
    have h := HoneT.out
    simp only [List.all_cons, List.all_nil, Bool.and_true, Bool.and_eq_true] at h ⊢
    exact ⟨rfl, rfl, rfl, rfl, h.1, h.2.1, h.2.2.1, h.2.2.2, rfl, rfl, rfl, rfl, rfl, rfl, rfl, rfl, rfl, rfl, rfl, rfl, rfl⟩
   go_wp2_with (first
    | (refine wpList_loadA rfl _ _ rfl w2.heap.size #[.int .i64 kd2, .slice ba (backP p).length bc, .slice ra d.length rc, .int .i64 pos, v4, v5, v6, v7, .slice s9 n9 k9, .slice s8 n8 k8, .slice xa 0 xc, .bool false, .slice g3 0 h3, .int .i64 0, .slice g4 0 h4, .int .i64 0, .bool false, .slice g1 0 h1, .int .i64 0, .slice g2 0 h2, .int .i64 0] rfl (HC6.out.set 1 (Value.slice ba (backP p).length bc)) _ Tryz.underlying63 rfl (by kernel_rfl) ?_)
    | (refine wpList_storeA rfl _ _ _ rfl rfl (W.heap.size + 1) [.int .i64 0, .slice none 0 0, .slice none 0 0, .int .i64 0, .bool false, .slice none 0 0, .slice none 0 0, .slice none 0 0, .slice none 0 0, .slice none 0 0, .slice none 0 0, .bool false, .slice none 0 0, .int .i64 0, .slice none 0 0, .int .i64 0, .bool false, .slice none 0 0, .int .i64 0, .slice none 0 0, .int .i64 0] #[.int .i64 kd2, .slice ba (backP p).length bc, .slice ra d.length rc, .int .i64 pos, v4, v5, v6, v7, .slice s9 n9 k9, .slice s8 n8 k8, .slice xa 0 xc, .bool false, .slice g3 0 h3, .int .i64 0, .slice g4 0 h4, .int .i64 0, .bool false, .slice g1 0 h1, .int .i64 0, .slice g2 0 h2, .int .i64 0] rfl rfl (HB6.out.set_ne Hne1.out _) rfl Hone5.out (by kernel_rfl) ?_))
   intro w5 hB5 hg5
   have HB5 := Lib.hid hB5; have Hg5 := Lib.hid hg5
   clear hB5 hg5
   go_wp2_with fail
   have hlr := At.load (P := Tryz.prog) HB5.out Tryz.underlying63 rfl (by kernel_rfl)
   simp [go_sem] at hlr
   refine bodyPost_ret (v := .tuple #[.agg #[.int .i64 kd2, .slice ba (backP p).length bc, .slice ra d.length rc, .int .i64 pos, v4, v5, v6, v7, .slice s9 n9 k9, .slice s8 n8 k8, .slice xa 0 xc, .bool false, .slice g3 0 h3, .int .i64 0, .slice g4 0 h4, .int .i64 0, .bool false, .slice g1 0 h1, .int .i64 0, .slice g2 0 h2, .int .i64 0], .int .i64 0]) (by simp [results, Tryz.results134, go_sem, hlr]) rfl ?_
   have hs2 := Hs2.out
   have hnl := Hnl.out
   have hb7 := Hb6.out.setCell (p := ⟨w2.heap.size, 1, none⟩) (by show W.heap.size <= w2.heap.size; omega) (Value.slice ba (backP p).length bc)
   have hsz6 := Hsz6.out
   exact ⟨(hb7).grown Hg5.out (hb7).size (fun k e => by cases e; omega), kd2, backP p, d, pos, _, _, _, _, _, _, _, _, _, _, _, _, _, _, _, _, _, _, _, _, _, rfl, HK2.out, by unfold backP; simp, by unfold backP; have := Hpl.out; simp; omega, Hdl.out, (rowq_set (u := Value.slice ba (backP p).length bc) (o := 1) Hqb.out hnl).keep Hg5.out.size (fun b hb hlt => Hg5.out.block b hlt (fun e => by have e := Option.some.inj e; omega)) (fun _ _ _ => trivial), (rowq_set (u := Value.slice ba (backP p).length bc) (o := 1) Hr6.out (by omega)).keep Hg5.out.size (fun b hb hlt => Hg5.out.block b hlt (fun e => by have e := Option.some.inj e; omega)) (fun _ _ _ => trivial), Hone5.out⟩
 ·
   have hd5 := H5.out rfl
   have Hd5 := Lib.hid hd5
   have tl := HC.out.lt; have t1 := HC.out.cell 1 rfl; have t2 := HC.out.cell 2 rfl
   have tf := fun j => Lib.frozen_of_heap HC.out j
   have Hne1 := Lib.hid (show W.heap.size + 1 ≠ w2.heap.size by have h := Hs2.out; omega)
   clear hd5
   have Hone5 : Hid ([.int .i64 kd2, .slice ra d.length rc, .slice qa p.length qc, .int .i64 pos, v4, v5, v6, v7, .slice s9 n9 k9, .slice s8 n8 k8, .slice xa 0 xc, .bool false, .slice g3 0 h3, .int .i64 0, .slice g4 0 h4, .int .i64 0, .bool false, .slice g1 0 h1, .int .i64 0, .slice g2 0 h2, .int .i64 0].all (·.oneCell') = true) := by
    show _ = true
    have h := HoneT.out
    simp only [List.all_cons, List.all_nil, Bool.and_true, Bool.and_eq_true] at h ⊢
    exact ⟨rfl, rfl, rfl, rfl, h.1, h.2.1, h.2.2.1, h.2.2.2, rfl, rfl, rfl, rfl, rfl, rfl, rfl, rfl, rfl, rfl, rfl, rfl, rfl⟩
   go_wp2_with (first
    | (refine wpList_loadA rfl _ _ rfl w2.heap.size #[.int .i64 kd2, .slice ra d.length rc, .slice qa p.length qc, .int .i64 pos, v4, v5, v6, v7, .slice s9 n9 k9, .slice s8 n8 k8, .slice xa 0 xc, .bool false, .slice g3 0 h3, .int .i64 0, .slice g4 0 h4, .int .i64 0, .bool false, .slice g1 0 h1, .int .i64 0, .slice g2 0 h2, .int .i64 0] rfl ((HC.out.set 1 (Value.slice ra d.length rc)).set 2 (Value.slice qa p.length qc)) _ Tryz.underlying63 rfl (by kernel_rfl) ?_)
    | (refine wpList_storeA rfl _ _ _ rfl rfl (W.heap.size + 1) [.int .i64 0, .slice none 0 0, .slice none 0 0, .int .i64 0, .bool false, .slice none 0 0, .slice none 0 0, .slice none 0 0, .slice none 0 0, .slice none 0 0, .slice none 0 0, .bool false, .slice none 0 0, .int .i64 0, .slice none 0 0, .int .i64 0, .bool false, .slice none 0 0, .int .i64 0, .slice none 0 0, .int .i64 0] #[.int .i64 kd2, .slice ra d.length rc, .slice qa p.length qc, .int .i64 pos, v4, v5, v6, v7, .slice s9 n9 k9, .slice s8 n8 k8, .slice xa 0 xc, .bool false, .slice g3 0 h3, .int .i64 0, .slice g4 0 h4, .int .i64 0, .bool false, .slice g1 0 h1, .int .i64 0, .slice g2 0 h2, .int .i64 0] rfl rfl ((HB.out.set_ne Hne1.out _).set_ne Hne1.out _) rfl Hone5.out (by kernel_rfl) ?_))
   intro w5 hB5 hg5
   have HB5 := Lib.hid hB5; have Hg5 := Lib.hid hg5
   clear hB5 hg5
   go_wp2_with fail
   have hlr := At.load (P := Tryz.prog) HB5.out Tryz.underlying63 rfl (by kernel_rfl)
   simp [go_sem] at hlr
   refine bodyPost_ret (v := .tuple #[.agg #[.int .i64 kd2, .slice ra d.length rc, .slice qa p.length qc, .int .i64 pos, v4, v5, v6, v7, .slice s9 n9 k9, .slice s8 n8 k8, .slice xa 0 xc, .bool false, .slice g3 0 h3, .int .i64 0, .slice g4 0 h4, .int .i64 0, .bool false, .slice g1 0 h1, .int .i64 0, .slice g2 0 h2, .int .i64 0], .int .i64 0]) (by simp [results, Tryz.results134, go_sem, hlr]) rfl ?_
   have hs2 := Hs2.out
   have hle : W.heap.size <= w2.heap.size := by omega
   have hb7 := (Hbel.out.setCell (p := ⟨w2.heap.size, 1, none⟩) hle (Value.slice ra d.length rc)).setCell (p := ⟨w2.heap.size, 2, none⟩) hle (Value.slice qa p.length qc)
   have hlt : ¬ (W.heap.size + 2 <= w2.heap.size /\ w2.heap.size < w2.heap.size) := by omega
   exact ⟨(hb7).grown Hg5.out (hb7).size (fun k e => by cases e; omega), kd2, d, p, pos, _, _, _, _, _, _, _, _, _, _, _, _, _, _, _, _, _, _, _, _, _, rfl, HK2.out, Hd5.out, Hdl.out, Hpl.out, (rowq_set (u := Value.slice qa p.length qc) (o := 2) (rowq_set (u := Value.slice ra d.length rc) (o := 1) Hr.out hlt) hlt).keep Hg5.out.size (fun b hb hlt => Hg5.out.block b hlt (fun e => by have e := Option.some.inj e; omega)) (fun _ _ _ => trivial), (rowq_set (u := Value.slice qa p.length qc) (o := 2) (rowq_set (u := Value.slice ra d.length rc) (o := 1) Hq.out hlt) hlt).keep Hg5.out.size (fun b hb hlt => Hg5.out.block b hlt (fun e => by have e := Option.some.inj e; omega)) (fun _ _ _ => trivial), Hone5.out⟩
end Go.Proofs.YtbommcakcmhalaaGreatDoor
