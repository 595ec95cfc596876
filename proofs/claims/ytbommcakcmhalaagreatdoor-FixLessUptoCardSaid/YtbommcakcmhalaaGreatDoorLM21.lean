/- Parts of the proof, one behind the other: RTS, RHS, RHT. -/
import Derived.Test.YtbommcakcmhalaaGreatDoorLM20
import Derived.Test.YtbommcakcmhalaaGreatDoorLM15
/- Walks: a law's done: operations done one behind the other. -/
set_option linter.unusedVariables false
set_option linter.unusedSimpArgs false
set_option maxHeartbeats 4000000
set_option maxRecDepth 100000
namespace Go.Proofs.YtbommcakcmhalaaGreatDoor
open Go.RowKit Go.Redl
theorem wpList_loadR {P : Program} {ops : Array Oper} {rest : List Oper} {o : Oper} {a : Act} {w : World} {Q : Exit -> Act -> World -> Prop} (hg : o.guard = none) (ty : TypeId) (x : Operand) (ho : o.op = .load ty x)
 (N off : Nat) (vs : Array Value) (hx : a.eval x = .pointer (some ⟨N, off, none⟩)) (h : w.rangeAt N off vs.toList) (d : TypeDesc) (hu : P.underlying ty = some d) (hd : d.isRow = true) (hi : (P.info? ty).map (·.size) = some vs.size)
 (hk : wpList P ops Q rest (a.put o.dst (.agg vs)) w) : wpList P ops Q (o :: rest) a w :=
 wpList_load_mid hg ty x ho N off hx vs.toList d h hu hd (by simpa using hi) (by simpa using hk)
/-- An operation of a list, loaded whole. -/
theorem OpsV.load2 {w : World} {l : List OpD} {a : Option Addr} {n c : Nat} (h : OpsV w l (.slice a n c)) (i : Nat) (hi : i < l.length) :
 ∃ b off pa pc ta tc n0 n1 n2 n3 oa oc, a = some ⟨b, off, none⟩ /\ b < w.heap.size /\ PathQ w (fun _ => True) pa pc l[i].path /\ PathQ w (fun _ => True) ta tc l[i].dest /\ NodeQ w (fun _ => True) l[i].node [n0, n1, n2, n3] /\ RowQ w (fun _ => True) 2 oa l[i].old.length oc (propCells l[i].old) /\
   w.rangeAt b (off + i * 21) (opCells l[i] pa pc ta tc n0 n1 n2 n3 oa oc) := by
 obtain ⟨b, off, pa, pc, ta, tc, n0, n1, n2, n3, oa, oc, h1, h2, h3, h4, h5, h6, h7⟩ := h.at_ i hi
 exact ⟨b, off, pa, pc, ta, tc, n0, n1, n2, n3, oa, oc, h1, h2, h3, h4, h5, h6, fun j v hj => h7 j v hj⟩
theorem nodeq_leaf {w : World} {ok : Nat -> Prop} {n : NodeD} {b : Bool} {r : List Value} (h : NodeQ w ok n (.bool b :: r)) : b = leafOf n := by
 obtain ⟨l, ps, t, ks⟩ := n
 unfold NodeQ at h
 obtain ⟨_, _, _, _, _, _, _, he, -⟩ := h
 injection he with e1 _
 injection e1
/-- What the operations that put a node in bring. -/
def insWt : List OpD -> Nat
 | [] => 0
 | o :: l => (if o.kind = 1 then o.node.wt else 0) + insWt l
theorem playN_split {n X : NodeD} {o : OpF} {l : List OpF} (h : playN n (o :: l) = some X) : ∃ T, applyN n o = (T, 0) /\ playN T l = some X := by
 rw [playN_step] at h
 split at h
 . rename_i h0
   exact ⟨(applyN n o).1, by rw [<- h0], h⟩
 . cases h
/-- What a law's done answers. -/
def DoneP (W : World) (X : NodeD) (e : Ending) (w' : World) : Prop := Below W.heap.size W w' /\ ∃ (x0 : Bool) (x1 x2 x3 : Option Addr) (y1 y2 y3 z1 z2 z3 : Nat),
 e = .returned (.tuple #[.agg #[.bool x0, .slice x1 y1 z1, .slice x2 y2 z2, .slice x3 y3 z3], .bool true]) /\ NodeQ w' (fun _ => True) X [.bool x0, .slice x1 y1 z1, .slice x2 y2 z2, .slice x3 y3 z3]
theorem done_c (n X : NodeD) (L : List OpD) (v : Value) (la : Option Addr) (lc : Nat) (W : World) (hw : n.wt + insWt L <= 1000000) (hv : NodeV W W.heap.size n v) (hL : OpsV W L (.slice la L.length lc)) (hlen : L.length <= 100000000)
 (hks : ∀ o ∈ L, KindR o.kind /\ o.node.wt <= 1000000 /\ o.dest.length <= 1000000 /\ o.old.length <= 100000000) (hpl : playN n (L.map OpD.full) = some X) :
 Calls Tryz.prog 15 #[v, .slice la L.length lc] W (DoneP W X) := by
 obtain ⟨csn, rfl, hc⟩ := hv
 obtain ⟨t0, t1, u1, r1, t2, u2, r2, t3, u3, r3, rfl⟩ := hc.form
 obtain ⟨w0, hw0⟩ : ∃ w0, w0 = (W.alloc (Obj.cells #[.bool t0, .slice t1 u1 r1, .slice t2 u2 r2, .slice t3 u3 r3] 35)).alloc (Obj.cells #[.bool false, .slice none 0 0, .slice none 0 0, .slice none 0 0] 35) := ⟨_, rfl⟩
 have hb0 : Below W.heap.size W w0 := by rw [hw0]; exact two_below _ _ _
 have hs0 : w0.heap.size = W.heap.size + 2 := by rw [hw0]; simp
 have HA0 := Lib.hid (show At w0 W.heap.size [.bool t0, .slice t1 u1 r1, .slice t2 u2 r2, .slice t3 u3 r3] 35 by rw [hw0]; exact (At.fresh W _ _).alloc _)
 have HB0 := Lib.hid (show At w0 (W.heap.size + 1) [.bool false, .slice none 0 0, .slice none 0 0, .slice none 0 0] 35 by rw [hw0]; exact At.second W _ _ _)
 have HQ0 := Lib.hid (show NodeQ w0 (fun b => b ≠ W.heap.size /\ b ≠ W.heap.size + 1) n [.bool t0, .slice t1 u1 r1, .slice t2 u2 r2, .slice t3 u3 r3] from NodeQ.keep hb0.size (fun b hb _ => hb0.block b hb) (fun b hb _ => by omega) _ _ (NodeC.q (Nat.le_refl _) _ _ hc))
 have HL := Lib.hid hL; have Hks := Lib.hid hks; have Hb0 := Lib.hid hb0; have Hw0 := Lib.hid hw0; have Hs0 := Lib.hid hs0
 have Hw := Lib.hid hw; have Hpl := Lib.hid hpl
 clear hL hks hb0 hw0 hc hs0 hw hpl
 go_enter Tryz.func15, Tryz.ntmps15
 go_upto_region 1 with fail
 rw [<- Hw0.out]
 clear Hw0
 go_wp2_with fail
 go_loopg [13, 7, 8, 9, 10] L.length (fun g i _ _ _ _ wr => ∃ (k : Nat) (T : NodeD) (t0 : Bool) (t1 t2 t3 : Option Addr) (u1 u2 u3 r1 r2 r3 : Nat), i = .int .i64 k /\ k + g = L.length /\ Hid (playN T ((L.drop k).map OpD.full) = some X) /\ Hid (T.wt + insWt (L.drop k) <= 1000000) /\
  Hid (At wr W.heap.size [.bool t0, .slice t1 u1 r1, .slice t2 u2 r2, .slice t3 u3 r3] 35) /\ Hid (At wr (W.heap.size + 1) [.bool false, .slice none 0 0, .slice none 0 0, .slice none 0 0] 35) /\ Hid (NodeQ wr (fun b => b ≠ W.heap.size /\ b ≠ W.heap.size + 1) T [.bool t0, .slice t1 u1 r1, .slice t2 u2 r2, .slice t3 u3 r3]) /\ Hid (Below W.heap.size W wr) /\ Hid (W.heap.size + 2 <= wr.heap.size))
 case atStart => exact ⟨0, n, t0, t1, t2, t3, u1, u2, u3, r1, r2, r3, rfl, by omega, Hpl, Hw, HA0, HB0, HQ0, Hb0, Lib.hid (by have := Hs0.out; omega)⟩
 case round =>
  obtain ⟨k, T, t0, t1, t2, t3, u1, u2, u3, r1, r2, r3, rfl, hg, hpl, hw, hA, hB, hQ, hbr, hsr⟩ := hrel
  clear HA0 HB0 HQ0 Hpl Hw
  by_cases hlt : k < L.length
  . have hlti : (k : Int) < L.length := by omega
    have hdr := List.drop_eq_getElem_cons hlt
    obtain ⟨b, off, pa, pc, ta, tc, n0, n1, n2, n3, oa, oc, rfl, hb, h1, h2, h3, h4, h5⟩ := (HL.out.keep hbr.out).load2 k hlt
    have hko := Hks.out L[k] (List.getElem_mem hlt)
    have hpl2 := hpl.out
    have hw2 := hw.out
    rw [hdr] at hpl2 hw2
    generalize L[k] = o at h1 h2 h3 h4 h5 hko hpl2 hw2
    clear hdr hpl hw
    obtain ⟨kd, p, d, pos, nd, ol⟩ := o
    simp only [List.map_cons] at hpl2
    obtain ⟨T2, hap, hpl3⟩ := playN_split hpl2
    obtain ⟨l0, a1, m1, c1, a2, m2, c2, a3, m3, c3, hn4⟩ := h3.form
    injection hn4 with e0 hn4; injection hn4 with e1 hn4; injection hn4 with e2 hn4; injection hn4 with e3 hn4
    subst e0; subst e1; subst e2; subst e3
    obtain ⟨hk, hnw, hdl, hol⟩ := hko
    simp only at h1 h2 h3 h4 hk hnw hdl hol
    have hTw : T.wt <= 1000000 := by omega
    have hT2 := apply_wt (o := ⟨kd, p, d, pos, nd, ol⟩) hk (by omega) hap
    have hT2w : T2.wt + insWt (L.drop (k + 1)) <= 1000000 := by
     simp only [insWt] at hw2
     simp only at hT2
     omega
    have hlf := (apply_parts (o := ⟨kd, p, d, pos, nd, ol⟩) hk (by omega) hap).2.1
    have hl0 := nodeq_leaf hQ.out
    rw [hlf] at hl0
    subst hl0
    have HR := Lib.hid (show wr.rangeAt b (off + k * 21) [.int .i64 kd, .slice pa p.length pc, .slice ta d.length tc, .int .i64 pos, .bool l0, .slice a1 m1 c1, .slice a2 m2 c2, .slice a3 m3 c3, .slice oa ol.length oc, .slice none 0 0, .slice none 0 0, .bool false, .slice none 0 0, .int .i64 0, .slice none 0 0, .int .i64 0, .bool false, .slice none 0 0, .int .i64 0, .slice none 0 0, .int .i64 0] from h5)
    have HP := Lib.hid (fun (w' : World) (hb' : Below wr.heap.size wr w') => apply_c T T2 p d kd pos nd ol t1 t2 t3 u1 u2 u3 r1 r2 r3 pa ta oa pc tc oc l0 a1 a2 a3 m1 m2 m3 c1 c2 c3 w' hTw ⟨_, rfl, NodeC.keep hb' hb'.size _ _ (NodeQ.node _ _ hQ.out)⟩ hnw
     ⟨_, rfl, NodeC.keep hb' hb'.size _ _ (NodeQ.node _ _ h3)⟩ (h1.row.keep hb' hb'.size) (h2.row.keep hb' hb'.size) hdl (h4.row.keep hb' hb'.size) hol hk hap)
    have HT2w := Lib.hid hT2w; have Hpl3 := Lib.hid hpl3
    clear h1 h2 h3 h4 h5 hpl2 hw2 hpl3 hT2w hT2 hTw hap hk hnw hdl hol hlf
    go_wp2_with (first
     | (refine wpList_loadR rfl _ _ rfl b (off + k * 21) #[.int .i64 kd, .slice pa p.length pc, .slice ta d.length tc, .int .i64 pos, .bool l0, .slice a1 m1 c1, .slice a2 m2 c2, .slice a3 m3 c3, .slice oa ol.length oc, .slice none 0 0, .slice none 0 0, .bool false, .slice none 0 0, .int .i64 0, .slice none 0 0, .int .i64 0, .bool false, .slice none 0 0, .int .i64 0, .slice none 0 0, .int .i64 0] rfl HR.out _ Tryz.underlying63 rfl (by kernel_rfl) ?_)
     | (refine wpList_storeA rfl _ _ _ rfl rfl wr.heap.size [.int .i64 0, .slice none 0 0, .slice none 0 0, .int .i64 0, .bool false, .slice none 0 0, .slice none 0 0, .slice none 0 0, .slice none 0 0, .slice none 0 0, .slice none 0 0, .bool false, .slice none 0 0, .int .i64 0, .slice none 0 0, .int .i64 0, .bool false, .slice none 0 0, .int .i64 0, .slice none 0 0, .int .i64 0] #[.int .i64 kd, .slice pa p.length pc, .slice ta d.length tc, .int .i64 pos, .bool l0, .slice a1 m1 c1, .slice a2 m2 c2, .slice a3 m3 c3, .slice oa ol.length oc, .slice none 0 0, .slice none 0 0, .bool false, .slice none 0 0, .int .i64 0, .slice none 0 0, .int .i64 0, .bool false, .slice none 0 0, .int .i64 0, .slice none 0 0, .int .i64 0] rfl rfl (At.fresh wr _ _) rfl rfl (by kernel_rfl) ?_))
    intro w1 h1 g1
    have hgg := grownBy_trans (grown_of_below (one_below wr (Obj.cells #[.int .i64 0, .slice none 0 0, .slice none 0 0, .int .i64 0, .bool false, .slice none 0 0, .slice none 0 0, .slice none 0 0, .slice none 0 0, .slice none 0 0, .slice none 0 0, .bool false, .slice none 0 0, .int .i64 0, .slice none 0 0, .int .i64 0, .bool false, .slice none 0 0, .int .i64 0, .slice none 0 0, .int .i64 0] 63))) g1
    have Hb1 := Lib.hid (hgg.old (M := wr.heap.size) (Nat.le_refl _) (fun k hk => by cases hk; exact Nat.le_refl _))
    have HO1 := Lib.hid h1
    have HA1 := Lib.hid (hA.out.kept Hb1.out); have HB1 := Lib.hid (hB.out.kept Hb1.out)
    obtain ⟨⟨f0, f1, f2, f3⟩, -, fl⟩ := HA1.out.f4
    have HP1 := Lib.hid (HP.out w1 Hb1.out)
    clear h1 g1 hgg HP HR
    go_wp2_with (refine wpList_loadA rfl _ _ rfl wr.heap.size #[.int .i64 kd, .slice pa p.length pc, .slice ta d.length tc, .int .i64 pos, .bool l0, .slice a1 m1 c1, .slice a2 m2 c2, .slice a3 m3 c3, .slice oa ol.length oc, .slice none 0 0, .slice none 0 0, .bool false, .slice none 0 0, .int .i64 0, .slice none 0 0, .int .i64 0, .bool false, .slice none 0 0, .int .i64 0, .slice none 0 0, .int .i64 0] rfl HO1.out _ Tryz.underlying63 rfl (by kernel_rfl) ?_)
    refine HP1.out.mono ?_
    rintro e w2 ⟨hbel, x0, x1, x2, x3, y1, y2, y3, z1, z2, z3, sa, sb, sc, sd, rfl, hX⟩
    have HA2 := Lib.hid (HA1.out.kept hbel); have HB2 := Lib.hid (HB1.out.kept hbel)
    have Hb2 := Lib.hid (below_and Hb1.out hbel)
    have hs12 : wr.heap.size <= w1.heap.size := Hb1.out.size
    have HX2 := Lib.hid (show NodeQ w2 (fun b => b ≠ W.heap.size /\ b ≠ W.heap.size + 1) T2 [.bool x0, .slice x1 y1 z1, .slice x2 y2 z2, .slice x3 y3 z3] from NodeQ.keep (Nat.le_refl _) (fun _ _ _ => rfl) (fun b hb _ => by have := hsr.out; omega) _ _ hX)
    clear f0 f1 f2 f3 fl HP1 hX hbel HA1 HB1 HO1 hs12
    obtain ⟨w3, hw3⟩ : ∃ w3, w3 = (w2.alloc (Obj.cells #[.bool x0, .slice x1 y1 z1, .slice x2 y2 z2, .slice x3 y3 z3] 35)).alloc (Obj.cells #[.bool false, .slice sa 0 sc, .int .i64 0, .slice sb 0 sd, .int .i64 0] 61) := ⟨_, rfl⟩
    have hb23 : Below w2.heap.size w2 w3 := by rw [hw3]; exact two_below _ _ _
    have HA3 := Lib.hid (HA2.out.kept hb23); have HB3 := Lib.hid (HB2.out.kept hb23)
    have HX3 := Lib.hid (nodeq_since HX2.out hb23)
    have Hb3 := Lib.hid (hbr.out.trans ((below_and Hb2.out hb23).mono hbr.out.size))
    have Hs3 := Lib.hid (show W.heap.size + 2 <= w3.heap.size by have h1 := hsr.out; have h2 := (below_and Hb2.out hb23).size; omega)
    have HC3 := Lib.hid (show At w3 w2.heap.size [.bool x0, .slice x1 y1 z1, .slice x2 y2 z2, .slice x3 y3 z3] 35 by rw [hw3]; exact (At.fresh _ _ _).alloc _)
    have Hw3 := Lib.hid hw3
    clear hw3 hb23 HX2 HA2 HB2
    go_upto_region 5 with fail
    rw [<- Hw3.out]
    clear Hw3
    obtain ⟨⟨f0, f1, f2, f3⟩, ff, fl⟩ := HA3.out.f4
    obtain ⟨⟨e0, e1, e2, e3⟩, -, el⟩ := HC3.out.f4
    go_wp2_with fail
    go_roundg (L.length - (k + 1))
    case measure => omega
    case rel =>
     have hle : ∀ j, W.heap.size <= (⟨W.heap.size, j, none⟩ : Addr).block := fun j => Nat.le_refl _
     have hne : W.heap.size + 1 ≠ W.heap.size := by omega
     refine ⟨k + 1, T2, x0, x1, x2, x3, y1, y2, y3, z1, z2, z3, by go_num, by omega, Hpl3, HT2w, ?_, ?_, ?_, ?_, ?_⟩
     . exact Lib.hid ((((HA3.out.set 0 _).set 1 _).set 2 _).set 3 _)
     . exact Lib.hid ((((HB3.out.set_ne hne _).set_ne hne _).set_ne hne _).set_ne hne _)
     . exact Lib.hid (nodeq_set4 HX3.out (by omega) _ _ _ _)
     . exact Lib.hid ((((Hb3.out.setCell (hle 0) _).setCell (hle 1) _).setCell (hle 2) _).setCell (hle 3) _)
     . exact Lib.hid (show W.heap.size + 2 <= _ by simpa [World.setCell] using Hs3.out)
  . obtain rfl : k = L.length := by omega
    have hpl2 := hpl.out
    rw [List.drop_length] at hpl2
    injection hpl2 with hpl2
    subst hpl2
    obtain ⟨⟨f0, f1, f2, f3⟩, ff, fl⟩ := hA.out.f4
    obtain ⟨⟨g0, g1, g2, g3⟩, gf, gl⟩ := hB.out.f4
    clear hpl hw
    go_wp2_with fail
    refine bodyPost_ret (v := .tuple #[.agg #[.bool t0, .slice t1 u1 r1, .slice t2 u2 r2, .slice t3 u3 r3], .bool true]) (by simp [results, Tryz.results15, go_sem, g0, g1, g2, g3, gf, gl]) rfl ?_
    refine ⟨((((hbr.out.setCell (p := ⟨W.heap.size + 1, 0, none⟩) (by show W.heap.size <= W.heap.size + 1; omega) _).setCell (p := ⟨W.heap.size + 1, 1, none⟩) (by show W.heap.size <= W.heap.size + 1; omega) _).setCell (p := ⟨W.heap.size + 1, 2, none⟩) (by show W.heap.size <= W.heap.size + 1; omega) _).setCell (p := ⟨W.heap.size + 1, 3, none⟩) (by show W.heap.size <= W.heap.size + 1; omega) _), t0, t1, t2, t3, u1, u2, u3, r1, r2, r3, rfl, ?_⟩
    exact NodeQ.keep (Nat.le_refl _) (fun _ _ _ => rfl) (fun _ _ _ => trivial) _ _ (nodeq_set4 hQ.out (by omega) _ _ _ _)
end Go.Proofs.YtbommcakcmhalaaGreatDoor
/- Walks: fix's fill, merge. -/
namespace Go.Proofs.YtbommcakcmhalaaGreatDoor
open Go.RowKit Go.Redl
theorem field_props (l : Bool) (a : Option Addr) (n c : Nat) (b : Option Addr) (m d : Nat) (e : Option Addr) (k f : Nat) (w : World) : (Instr.field 35 (.agg #[.bool l, .slice a n c, .slice b m d, .slice e k f]) 1).run Tryz.prog w = .ok (.slice a n c) w := by kernel_rfl
theorem leafz_q (w : World) (ok : Nat -> Prop) : NodeQ w ok (.mk true [] [] []) [.bool true, .slice none 0 0, .slice none 0 0, .slice none 0 0] := by
 unfold NodeQ
 exact ⟨none, 0, none, 0, none, 0, [], rfl, RowQ.empty _ _ _, RowQ.empty _ _ _, by simp, RowQ.empty _ _ _, by unfold KidsQ; rfl⟩
theorem fixfill_c (p : List Int) (pa : Option Addr) (pc : Nat) (ks : List NodeD) (ak : Option Addr) (ck : Nat) (css : List Value) (v1 v2 v3 v5 v6 v7 v8 v9 v10 v13 v15 : Value) (fl : Int) (ft : List UInt8) (j : Nat) (W : World)
 (hJ : JobAt W p pa pc ks ak ck css j) :
 Calls Tryz.prog 62 #[.agg #[.slice pa p.length pc, v1, v2, v3, .slice ak ks.length ck, v5, v6, v7, v8, v9, v10, .int .i64 fl, strV ft, v13, .int .i64 j, v15]] W (OpsP W [⟨1, p ++ [(j : Int)], [], 0, if fl = 1 then .mk true [] [] [] else elemN ft, []⟩]) := by
 obtain ⟨Q, hQ⟩ : ∃ Q, Q = (if fl = 1 then NodeD.mk true [] [] [] else elemN ft) := ⟨_, rfl⟩
 rw [<- hQ]
 have HQ := Lib.hid hQ
 clear hQ
 obtain ⟨w0, hw0⟩ : ∃ w0, w0 = (W.alloc (Obj.cells #[.slice pa p.length pc, v1, v2, v3, .slice ak ks.length ck, v5, v6, v7, v8, v9, v10, .int .i64 fl, strV ft, v13, .int .i64 j, v15] 101)).alloc (Obj.cells #[.bool true, .slice none 0 0, .slice none 0 0, .slice none 0 0] 35) := ⟨_, rfl⟩
 have hb0 : Below W.heap.size W w0 := by rw [hw0]; exact two_below _ _ _
 have hB : At w0 W.heap.size [.slice pa p.length pc, v1, v2, v3, .slice ak ks.length ck, v5, v6, v7, v8, v9, v10, .int .i64 fl, strV ft, v13, .int .i64 j, v15] 101 := by rw [hw0]; exact (At.fresh _ _ _).alloc _
 have hN : At w0 (W.heap.size + 1) [.bool true, .slice none 0 0, .slice none 0 0, .slice none 0 0] 35 := by rw [hw0]; exact At.second _ _ _ _
 have hAt := fun (w1 : World) (hb : Below W.heap.size W w1) => jat_c p pa pc v1 v2 v3 (.slice ak ks.length ck) v5 v6 v7 v8 v9 v10 (.int .i64 fl) (strV ft) v13 v15 j 0 w1 (hJ.keep hb).path hJ.pl hJ.at_ (by omega) (by omega)
 rw [Int.add_zero] at hAt
 generalize p ++ [(j : Int)] = zs at hAt ⊢
 have HAt := Lib.hid hAt
 have HT := Lib.hid (fun (w1 : World) => ftyped_c ft w1)
 have hld := fun (w' : World) (h : At w' W.heap.size [.slice pa p.length pc, v1, v2, v3, .slice ak ks.length ck, v5, v6, v7, v8, v9, v10, .int .i64 fl, strV ft, v13, .int .i64 j, v15] 101) => At.load (P := Tryz.prog) h Tryz.underlying101 rfl (by kernel_rfl)
 simp [go_sem] at hld
 have Hw0 := Lib.hid hw0; have Hb0 := Lib.hid hb0; have HB := Lib.hid hB; have HN := Lib.hid hN
 have x11 := hB.cell 11 rfl
 have xl := hB.lt
 obtain ⟨⟨n0, n1, n2, n3⟩, nf, nl⟩ := hN.f4
 clear hw0 hb0 hB hN hAt hJ
 go_enter Tryz.func62, Tryz.ntmps62
 go_upto_region 2 with fail
 rw [<- Hw0.out]
 clear Hw0
 go_upto_if 8 with fail
 go_cut [] (fun wx => ∃ l a1 m1 k1 a2 m2 k2 a3 m3 k3, At wx (W.heap.size + 1) [.bool l, .slice a1 m1 k1, .slice a2 m2 k2, .slice a3 m3 k3] 35 /\ At wx W.heap.size [.slice pa p.length pc, v1, v2, v3, .slice ak ks.length ck, v5, v6, v7, v8, v9, v10, .int .i64 fl, strV ft, v13, .int .i64 j, v15] 101 /\ NodeQ wx (fun b => w0.heap.size <= b) Q [.bool l, .slice a1 m1 k1, .slice a2 m2 k2, .slice a3 m3 k3] /\ Below W.heap.size W wx)
 case first =>
  by_cases h1 : fl = 1
  . subst h1
    have HQ1 := Lib.hid (show Q = .mk true [] [] [] by rw [HQ.out, if_pos rfl])
    go_wp2_with fail
    go_meet
    case rel =>
     refine ⟨_, _, _, _, _, _, _, _, _, _, HN.out, HB.out, ?_, Hb0.out⟩
     rw [HQ1.out]; exact leafz_q _ _
  . have h1I : (fl != 1) = true := by simpa using h1
    have HQ1 := Lib.hid (show Q = elemN ft by rw [HQ.out, if_neg h1])
    have x12 := HB.out.cell 12 rfl
    have HT1 := Lib.hid (HT.out w0)
    clear h1 hld
    go_wp2_with fail
    refine HT1.out.mono ?_
    rintro e w1 ⟨cs, rfl, hn, hbel⟩
    obtain ⟨l, a1, m1, k1, a2, m2, k2, a3, m3, k3, rfl⟩ := hn.form
    have Hn := Lib.hid hn; have Hb1 := Lib.hid (Hb0.out.trans (hbel.mono Hb0.out.size))
    have HN1 := Lib.hid (HN.out.kept hbel); have HB1 := Lib.hid (HB.out.kept hbel)
    clear hbel hn n0 n1 n2 n3 nf nl x11 x12 HT1
    obtain ⟨⟨n0, n1, n2, n3⟩, nf, nl⟩ := HN1.out.f4
    go_wp2_with fail
    go_meet
    case rel =>
     have hcl : W.heap.size <= W.heap.size + 1 := by omega
     have hn0 : ¬ w0.heap.size <= W.heap.size + 1 := by have := HN.out.lt; omega
     refine ⟨_, _, _, _, _, _, _, _, _, _, HN1.out.s4 _ _ _ _, HB1.out.n4 (by omega) _ _ _ _, ?_, below_all Hb1.out hcl _ _ _ _⟩
     rw [HQ1.out]
     exact nodeq_set (nodeq_set (nodeq_set (nodeq_set Hn.out hn0) hn0) hn0) hn0
 case rest =>
  obtain ⟨l, a1, m1, k1, a2, m2, k2, a3, m3, k3, hN2, hB2, hq2, hb2⟩ := hcut
  have HN2 := Lib.hid hN2; have HB2 := Lib.hid hB2; have Hq2 := Lib.hid hq2; have HbW := Lib.hid hb2
  have HAt2 := Lib.hid (fun (w1 : World) (hb : Below wc.heap.size wc w1) => HAt.out w1 (HbW.out.trans (hb.mono HbW.out.size)))
  have HS0 := Lib.hid (fun (w' : World) (hb : Below wc.heap.size wc w') => And.intro (HB2.out.kept hb) (HN2.out.kept hb))
  have hln := fun (w' : World) (h : At w' (W.heap.size + 1) [.bool l, .slice a1 m1 k1, .slice a2 m2 k2, .slice a3 m3 k3] 35) => At.load (P := Tryz.prog) h Tryz.underlying35 rfl (by kernel_rfl)
  simp [go_sem] at hln
  clear hN2 hB2 hq2 hb2 n0 n1 n2 n3 nf nl x11 HN HB HT HAt
  go_upto_region 4 with fail
  go_region_held3 (fun w' => At w' W.heap.size [.slice pa p.length pc, v1, v2, v3, .slice ak ks.length ck, v5, v6, v7, v8, v9, v10, .int .i64 fl, strV ft, v13, .int .i64 j, v15] 101 /\ At w' (W.heap.size + 1) [.bool l, .slice a1 m1 k1, .slice a2 m2 k2, .slice a3 m3 k3] 35) (refine HS0.out _ (by ((repeat (first | with_reducible exact Hb1.out | with_reducible exact Below.refl _ _ | with_reducible refine Below.drew ?_ | with_reducible refine Below.alloc ?_ ?_ _ | with_reducible refine Below.setCell ?_ ?_ _)) <;> (first | with_reducible exact Nat.le_refl _ | with_reducible exact Hb1.out.size | (have hsz := Hb1.out.size; simp [World.setCell]; omega) | (simp; done) | (simp; omega) | omega))))
   (first
   | (refine step_call rfl 112 _ _ rfl jat_ent [.agg #[.slice pa p.length pc, v1, v2, v3, .slice ak ks.length ck, v5, v6, v7, v8, v9, v10, .int .i64 fl, strV ft, v13, .int .i64 j, v15], .int .i64 0] ?_ _ (HAt2.out _ (by ((repeat (first | with_reducible exact Below.refl _ _ | with_reducible refine Below.drew ?_ | with_reducible refine Below.alloc ?_ ?_ _ | with_reducible refine Below.setCell ?_ ?_ _)) <;> (first | with_reducible exact Nat.le_refl _ | (simp; done) | (simp; omega) | omega)))) ?_
      . go_simp
      rintro e w1 ⟨za, zc, rfl, hq, hbel⟩
      refine ⟨_, rfl, ?_⟩
      have Hb1 := Lib.hid (Below.and (w0 := wc) (by ((repeat (first | with_reducible exact Below.refl _ _ | with_reducible refine Below.drew ?_ | with_reducible refine Below.alloc ?_ ?_ _ | with_reducible refine Below.setCell ?_ ?_ _)) <;> (first | with_reducible exact Nat.le_refl _ | (simp; done) | (simp; omega) | omega))) hbel)
      have Hz := Lib.hid (RowQ.imp hq (fun b hb => (show W.heap.size <= b from Nat.le_trans (Nat.le_trans HbW.out.size (by (first | exact Nat.le_refl _ | (simp; done) | (simp; omega) | omega))) hb)))
      clear hbel hq))
  all_goals
   go_wp2_with fail
   go_ret
   refine ⟨_, rfl, ops_oneF (o := ⟨1, zs, [], 0, Q, []⟩) ⟨za, zc, none, 0, _, _, _, _, none, 0, rfl, Hz.out, RowQ.empty _ _ _, NodeQ.keep (Nat.le_refl _) (fun _ _ _ => rfl) (fun b hb _ => Nat.le_trans Hb0.out.size hb) _ _ (Hq2.out.since Hb1.out), RowQ.empty _ _ _⟩ (Nat.le_trans HbW.out.size Hb1.out.size), HbW.out.trans ((Hb1.out.alloc Hb1.out.size _).mono HbW.out.size)⟩
theorem fixmerge_c (p : List Int) (pa : Option Addr) (pc : Nat) (ks : List NodeD) (ak : Option Addr) (ck : Nat) (css : List Value) (v1 v2 v3 v5 v6 v7 v8 v9 v10 v11 v12 v13 v15 : Value) (j : Nat) (W : World)
 (hJ : JobAt W p pa pc ks ak ck css j) (hj : j < ks.length) (hj0 : 0 < j) :
 Calls Tryz.prog 61 #[.agg #[.slice pa p.length pc, v1, v2, v3, .slice ak ks.length ck, v5, v6, v7, v8, v9, v10, v11, v12, v13, .int .i64 j, v15]] W (OpsP W [⟨3, p ++ [(j : Int)], [], (textOf (kidAt ks (j - 1))).length, zeroN, propsOf (kidAt ks j)⟩]) := by
 have hkl : ks.length <= 100000000 := by have := wtAll_len ks; have := hJ.kl; omega
 have hqw : (kidAt ks j).wt <= 100000000 := by rw [kid_get hj]; have := wtAll_mem (List.getElem_mem hj); have := hJ.kl; omega
 have hpl : (propsOf (kidAt ks j)).length <= 100000000 := by
  generalize kidAt ks j = q at hqw
  obtain ⟨l, ps, t, kk⟩ := q
  have := propsWt_len ps
  simp only [NodeD.wt] at hqw
  simp only [propsOf]; omega
 obtain ⟨w0, hw0⟩ : ∃ w0, w0 = W.alloc (Obj.cells #[.slice pa p.length pc, v1, v2, v3, .slice ak ks.length ck, v5, v6, v7, v8, v9, v10, v11, v12, v13, .int .i64 j, v15] 101) := ⟨_, rfl⟩
 have hb0 : Below W.heap.size W w0 := by rw [hw0]; exact one_below _ _
 have hB : At w0 W.heap.size [.slice pa p.length pc, v1, v2, v3, .slice ak ks.length ck, v5, v6, v7, v8, v9, v10, v11, v12, v13, .int .i64 j, v15] 101 := by rw [hw0]; exact At.fresh _ _ _
 have hAt := fun (w1 : World) (hb : Below W.heap.size W w1) => jat_c p pa pc v1 v2 v3 (.slice ak ks.length ck) v5 v6 v7 v8 v9 v10 v11 v12 v13 v15 j 0 w1 (hJ.keep hb).path hJ.pl hJ.at_ (by omega) (by omega)
 rw [Int.add_zero] at hAt
 generalize p ++ [(j : Int)] = zs at hAt ⊢
 have HAt := Lib.hid (fun (w1 : World) (hb : Below w0.heap.size w0 w1) => hAt w1 (hb0.trans (hb.mono hb0.size)))
 have HKd := Lib.hid (fun (w1 : World) (hb : Below w0.heap.size w0 w1) => jkid_c ks ak ck css (.slice pa p.length pc) v1 v2 v3 v5 v6 v7 v8 v9 v10 v11 v12 v13 v15 j w1 (hJ.keep (hb0.trans (hb.mono hb0.size))).kids (hJ.keep (hb0.trans (hb.mono hb0.size))).kids' hj hkl)
 have hld := fun (w' : World) (h : At w' W.heap.size [.slice pa p.length pc, v1, v2, v3, .slice ak ks.length ck, v5, v6, v7, v8, v9, v10, v11, v12, v13, .int .i64 j, v15] 101) => At.load (P := Tryz.prog) h Tryz.underlying101 rfl (by kernel_rfl)
 simp [go_sem] at hld
 have Hld := Lib.hid hld
 obtain ⟨kb, ko, a1, c1, a2, c2, a3, c3, hak, hkb, -, -, g0, g1, g2, g3⟩ := kidO hJ.kids hJ.kids' (j - 1) (by omega)
 have f0 := (hb0.cell (p := ⟨kb, ko + (j - 1) * 4, none⟩) hkb).trans g0
 have f1 := (hb0.cell (p := ⟨kb, ko + (j - 1) * 4 + 1, none⟩) hkb).trans g1
 have f2 := (hb0.cell (p := ⟨kb, ko + (j - 1) * 4 + 2, none⟩) hkb).trans g2
 have f3 := (hb0.cell (p := ⟨kb, ko + (j - 1) * 4 + 3, none⟩) hkb).trans g3
 rw [<- kid_get (show j - 1 < ks.length by omega)] at f0 f1 f2 f3
 have hjI : (j : Int) <= ks.length := by omega
 have hwr : IntKind.i64.wrap ((j : Int) - 1) = ((j - 1 : Nat) : Int) := by rw [show ((j : Int) - 1) = ((j - 1 : Nat) : Int) by omega]; exact IntWalk.i64_in _ (by omega)
 have hj1 : ((j - 1 : Nat) : Int) < ks.length := by omega
 generalize kidAt ks j = q at HKd hpl ⊢
 generalize kidAt ks (j - 1) = qa at f0 f1 f2 f3 ⊢
 have hHB := Lib.hid hB; have Hb0 := Lib.hid hb0; have Hw0 := Lib.hid hw0
 have x4 := hB.cell 4 rfl; have x14 := hB.cell 14 rfl; have xl := hB.lt
 rw [hak] at x4
 have Hak := Lib.hid hak
 clear hw0 hb0 hB hAt hJ hj hqw g0 g1 g2 g3 hld hak
 go_enter Tryz.func61, Tryz.ntmps61
 go_upto_region 1 with fail
 rw [<- Hw0.out]
 clear Hw0
 go_upto_region 2 with fail
 obtain ⟨w1, hw1⟩ : ∃ w1, w1 = w0.alloc (Obj.cells #[.bool (leafOf qa), .slice a1 (propsOf qa).length c1, .slice a2 (textOf qa).length c2, .slice a3 (kidsOf qa).length c3] 35) := ⟨_, rfl⟩
 rw [<- hw1]
 have hb1 : Below w0.heap.size w0 w1 := by rw [hw1]; exact one_below _ _
 have hN1 : At w1 w0.heap.size [.bool (leafOf qa), .slice a1 (propsOf qa).length c1, .slice a2 (textOf qa).length c2, .slice a3 (kidsOf qa).length c3] 35 := by rw [hw1]; exact At.fresh _ _ _
 have hB1 := hHB.out.kept hb1
 have HB := Lib.hid hB1; have HN := Lib.hid hN1; have Hb1 := Lib.hid hb1
 have HS0 := Lib.hid (fun (w' : World) (hb : Below w1.heap.size w1 w') => And.intro (HB.out.kept hb) ((HN.out.kept hb).cell 2 rfl))
 have HAt2 := Lib.hid (fun (w' : World) (hb : Below w1.heap.size w1 w') => HAt.out w' (Hb1.out.trans (hb.mono Hb1.out.size)))
 have HKd2 := Lib.hid (fun (w' : World) (hb : Below w1.heap.size w1 w') => HKd.out w' (Hb1.out.trans (hb.mono Hb1.out.size)))
 have hld := Hld.out
 have hfp := field_props
 clear hw1 hb1 hN1 hB1 hHB f0 f1 f2 f3 x4 x14 HAt HKd
 go_region_held3 (fun w' => At w' W.heap.size [.slice pa p.length pc, v1, v2, v3, .slice ak ks.length ck, v5, v6, v7, v8, v9, v10, v11, v12, v13, .int .i64 j, v15] 101 /\ w'.cell? ⟨w0.heap.size, 2, none⟩ = some (.slice a2 (textOf qa).length c2)) (refine HS0.out _ (by ((repeat (first | with_reducible exact Hb4.out | with_reducible exact Hb3.out | with_reducible exact Hb2.out | with_reducible exact Below.refl _ _ | with_reducible refine Below.drew ?_ | with_reducible refine Below.alloc ?_ ?_ _ | with_reducible refine Below.setCell ?_ ?_ _)) <;> (first | with_reducible exact Nat.le_refl _ | with_reducible exact Hb4.out.size | with_reducible exact Hb3.out.size | with_reducible exact Hb2.out.size | (have hsz := Hb4.out.size; simp [World.setCell]; omega) | (have hsz := Hb3.out.size; simp [World.setCell]; omega) | (have hsz := Hb2.out.size; simp [World.setCell]; omega) | (simp; done) | (simp; omega) | omega))))
  (first
  | (refine step_call rfl 112 _ _ rfl jat_ent [.agg #[.slice pa p.length pc, v1, v2, v3, .slice ak ks.length ck, v5, v6, v7, v8, v9, v10, v11, v12, v13, .int .i64 j, v15], .int .i64 0] ?_ _ (HAt2.out _ (by ((repeat (first | with_reducible exact Below.refl _ _ | with_reducible refine Below.drew ?_ | with_reducible refine Below.alloc ?_ ?_ _ | with_reducible refine Below.setCell ?_ ?_ _)) <;> (first | with_reducible exact Nat.le_refl _ | (simp; done) | (simp; omega) | omega)))) ?_
     . go_simp
     rintro e w2 ⟨za, zc, rfl, hq, hbel⟩
     refine ⟨_, rfl, ?_⟩
     have Hb2 := Lib.hid (Below.and (w0 := w1) (by ((repeat (first | with_reducible exact Below.refl _ _ | with_reducible refine Below.drew ?_ | with_reducible refine Below.alloc ?_ ?_ _ | with_reducible refine Below.setCell ?_ ?_ _)) <;> (first | with_reducible exact Nat.le_refl _ | (simp; done) | (simp; omega) | omega))) hbel)
     have Hz := Lib.hid (RowQ.imp hq (fun b hb => (show W.heap.size <= b from Nat.le_trans (Nat.le_trans Hb0.out.size (Nat.le_trans Hb1.out.size (by (first | exact Nat.le_refl _ | (simp; done) | (simp; omega) | omega)))) hb)))
     clear hbel hq)
  | (refine step_call rfl 113 _ _ rfl jkid_ent [.agg #[.slice pa p.length pc, v1, v2, v3, .slice ak ks.length ck, v5, v6, v7, v8, v9, v10, v11, v12, v13, .int .i64 j, v15]] ?_ _ (HKd2.out _ (by ((repeat (first | with_reducible exact Hb2.out | with_reducible exact Below.refl _ _ | with_reducible refine Below.drew ?_ | with_reducible refine Below.alloc ?_ ?_ _ | with_reducible refine Below.setCell ?_ ?_ _)) <;> (first | with_reducible exact Nat.le_refl _ | with_reducible exact Hb2.out.size | (have hsz := Hb2.out.size; simp [World.setCell]; omega) | (simp; done) | (simp; omega) | omega)))) ?_
     . go_simp
     rintro e w3 ⟨kv, rfl, hkv, hbel⟩
     obtain ⟨lq, pq, tq, kq⟩ := q
     obtain ⟨aq, cq, bq, dq, eq_, fq, gq, rfl, hpr, -, -, -⟩ := hkv.open
     refine ⟨_, rfl, ?_⟩
     have Hb3 := Lib.hid (Below.and (w0 := w1) (by ((repeat (first | with_reducible exact Hb2.out | with_reducible exact Below.refl _ _ | with_reducible refine Below.drew ?_ | with_reducible refine Below.alloc ?_ ?_ _ | with_reducible refine Below.setCell ?_ ?_ _)) <;> (first | with_reducible exact Nat.le_refl _ | with_reducible exact Hb2.out.size | (have hsz := Hb2.out.size; simp [World.setCell]; omega) | (simp; done) | (simp; omega) | omega))) hbel)
     have Hs3 := Lib.hid hbel
     have Hpr := Lib.hid hpr
     clear hbel hkv hpr)
  | (refine step_call rfl 116 _ _ rfl prop_cl_ent [.slice aq pq.length cq] ?_ _ (clone_prop _ pq.length aq cq _ _ Hpr.out (Nat.le_refl _) hpl) ?_
     . go_simp
     rintro e w4 ⟨ov, rfl, hown, hbel⟩
     obtain ⟨oa, oc, rfl, hoq⟩ := rowq_own hown (propCells_one _)
     refine ⟨_, rfl, ?_⟩
     have Hb4 := Lib.hid (Below.and (w0 := w1) (by ((repeat (first | with_reducible exact Hb3.out | with_reducible exact Below.refl _ _ | with_reducible refine Below.drew ?_ | with_reducible refine Below.alloc ?_ ?_ _ | with_reducible refine Below.setCell ?_ ?_ _)) <;> (first | with_reducible exact Nat.le_refl _ | with_reducible exact Hb3.out.size | (have hsz := Hb3.out.size; simp [World.setCell]; omega) | (simp; done) | (simp; omega) | omega))) hbel)
     have Hs4 := Lib.hid hbel
     have Hoq := Lib.hid (RowQ.imp hoq (fun b hb => (show W.heap.size <= b from Nat.le_trans (Nat.le_trans Hb0.out.size (Nat.le_trans Hb1.out.size (by (first | exact Hb3.out.size | (have hsz := Hb3.out.size; simp; omega) | exact Nat.le_refl _ | (simp; done) | (simp; omega) | omega)))) hb)))
     clear hbel hown hoq))
 all_goals
  go_wp2_with fail
  go_ret
  refine ⟨_, rfl, ops_oneF (o := ⟨3, zs, [], (textOf qa).length, zeroN, pq⟩) ⟨za, zc, none, 0, _, _, _, _, oa, oc, rfl, (Hz.out.since Hs3.out).since Hs4.out, RowQ.empty _ _ _, zero_q _ _, Hoq.out⟩ (Nat.le_trans Hb0.out.size (Nat.le_trans Hb1.out.size Hb4.out.size)), Hb0.out.trans ((Below.and Hb1.out (Hb4.out.alloc Hb4.out.size _)).mono Hb0.out.size)⟩
end Go.Proofs.YtbommcakcmhalaaGreatDoor
/- Walks: fix's lift. -/
namespace Go.Proofs.YtbommcakcmhalaaGreatDoor
open Go.RowKit Go.Redl
/-- The moves that lift an element's Kids. -/
def liftOps (p : List Int) (j n : Nat) : List OpD := (List.range n).map (fun i : Nat => (⟨5, p ++ [(j : Int), 0], p ++ [(j : Int) + (1 + (i : Int))], 0, zeroN, []⟩ : OpD))
theorem liftOps_len (p : List Int) (j n : Nat) : (liftOps p j n).length = n := by simp [liftOps]
theorem liftOps_succ (p : List Int) (j n : Nat) : liftOps p j (n + 1) = liftOps p j n ++ [⟨5, p ++ [(j : Int), 0], p ++ [(j : Int) + (1 + (n : Int))], 0, zeroN, []⟩] := by
 simp [liftOps, List.range_succ]
theorem lift_c (p : List Int) (pa : Option Addr) (pc : Nat) (ks : List NodeD) (ak : Option Addr) (ck : Nat) (css : List Value) (v1 v2 v3 v5 v6 v7 v8 v9 v10 v11 v12 v13 v15 : Value) (j : Nat) (W : World)
 (hJ : JobAt W p pa pc ks ak ck css j) (hj : j < ks.length) :
 Calls Tryz.prog 59 #[.agg #[.slice pa p.length pc, v1, v2, v3, .slice ak ks.length ck, v5, v6, v7, v8, v9, v10, v11, v12, v13, .int .i64 j, v15]] W (OpsP W (liftOps p j (kidsOf (kidAt ks j)).length ++ [⟨2, p ++ [(j : Int)], [], 0, noKids (kidAt ks j), []⟩])) := by
 have hkl : ks.length <= 100000000 := by have := wtAll_len ks; have := hJ.kl; omega
 have hqw : (kidAt ks j).wt <= 100000000 := by rw [kid_get hj]; have := wtAll_mem (List.getElem_mem hj); have := hJ.kl; omega
 have hpl := hJ.pl
 have hAt := Lib.hid (fun (d : Int) (h0 : 0 <= d) (h1 : d <= 100000000) (w1 : World) (hb : Below W.heap.size W w1) => jat_c p pa pc v1 v2 v3 (.slice ak ks.length ck) v5 v6 v7 v8 v9 v10 v11 v12 v13 v15 j d w1 (hJ.keep hb).path hJ.pl hJ.at_ h0 h1)
 have hK := fun (w1 : World) (hb : Below W.heap.size W w1) => jkid_c ks ak ck css (.slice pa p.length pc) v1 v2 v3 v5 v6 v7 v8 v9 v10 v11 v12 v13 v15 j w1 (hJ.keep hb).kids (hJ.keep hb).kids' hj hkl
 have hld := fun (w' : World) (h : At w' W.heap.size [.slice pa p.length pc, v1, v2, v3, .slice ak ks.length ck, v5, v6, v7, v8, v9, v10, v11, v12, v13, .int .i64 j, v15] 101) => At.load (P := Tryz.prog) h Tryz.underlying101 rfl (by kernel_rfl)
 simp [go_sem] at hld
 have Hld := Lib.hid hld
 generalize kidAt ks j = q at hK hqw ⊢
 have HC := Lib.hid (fun (v : Value) (w1 : World) (hv : NodeV w1 w1.heap.size q v) => copy_c _ q v w1 (Nat.le_refl _) hqw hv)
 obtain ⟨lq, pq, tq, kq⟩ := q
 simp only [kidsOf, noKids]
 have hkq : kq.length <= 100000000 := by have := wtAll_len kq; simp only [NodeD.wt] at hqw; omega
 obtain ⟨w0, hw0⟩ : ∃ w0, w0 = W.alloc (Obj.cells #[.slice pa p.length pc, v1, v2, v3, .slice ak ks.length ck, v5, v6, v7, v8, v9, v10, v11, v12, v13, .int .i64 j, v15] 101) := ⟨_, rfl⟩
 have hb0 : Below W.heap.size W w0 := by rw [hw0]; exact one_below _ _
 have hB : At w0 W.heap.size [.slice pa p.length pc, v1, v2, v3, .slice ak ks.length ck, v5, v6, v7, v8, v9, v10, v11, v12, v13, .int .i64 j, v15] 101 := by rw [hw0]; exact At.fresh _ _ _
 have HKd := Lib.hid (hK w0 hb0)
 have Hw0 := Lib.hid hw0; have Hb0 := Lib.hid hb0; have HB := Lib.hid hB
 have hB0 := hB
 clear hw0 hb0 hB hJ hj hqw hK
 go_enter Tryz.func59, Tryz.ntmps59
 go_upto_region 1 with fail
 rw [<- Hw0.out]
 clear Hw0
 go_wp2_with fail
 refine HKd.out.mono ?_
 rintro e w1 ⟨kv, rfl, hkv, hbel⟩
 have Hb1 := Lib.hid (Hb0.out.trans (hbel.mono Hb0.out.size))
 have HB1 := Lib.hid (HB.out.kept hbel)
 have HC1 := Lib.hid (HC.out kv w1 hkv)
 clear hbel hB0 HKd hkv hld
 go_wp2_with fail
 refine HC1.out.mono ?_
 rintro e w2 ⟨cs, rfl, hn, hbel⟩
 obtain ⟨ap, cp, at_, ct, aq, cq, cqs, rfl, hqp, hqt, hqf, hqk, hqkk⟩ : ∃ ap cp at_ ct aq cq cqs, cs = [.bool lq, .slice ap pq.length cp, .slice at_ tq.length ct, .slice aq kq.length cq] /\ RowQ w2 (fun b => w1.heap.size <= b) 2 ap pq.length cp (propCells pq) /\ RowQ w2 (fun b => w1.heap.size <= b) 1 at_ tq.length ct (tq.map (Value.int .i32)) /\ (∀ z ∈ tq, (Lit.int .i32 z).wf = true) /\ RowQ w2 (fun b => w1.heap.size <= b) 4 aq kq.length cq cqs /\ KidsQ w2 (fun b => w1.heap.size <= b) kq cqs := by
  unfold NodeQ at hn; exact hn
 have Hq0 := Lib.hid (show NodeQ w2 (fun b => W.heap.size <= b /\ b < w2.heap.size) (.mk lq pq tq []) [.bool lq, .slice ap pq.length cp, .slice at_ tq.length ct, .slice none 0 0] by
  unfold NodeQ
  exact ⟨ap, cp, at_, ct, none, 0, [], rfl, hqp.keep (Nat.le_refl _) (fun _ _ _ => rfl) (fun b hb hlt => ⟨Nat.le_trans Hb1.out.size hb, hlt⟩), hqt.keep (Nat.le_refl _) (fun _ _ _ => rfl) (fun b hb hlt => ⟨Nat.le_trans Hb1.out.size hb, hlt⟩), hqf, RowQ.empty _ _ _, by unfold KidsQ; rfl⟩)
 have Hb2 := Lib.hid (Hb1.out.trans (hbel.mono Hb1.out.size))
 have HB2 := Lib.hid (HB1.out.kept hbel)
 clear hbel hn hqp hqt hqf hqk hqkk HC1 HC HB1 HB
 obtain ⟨w3, hw3⟩ : ∃ w3, w3 = w2.alloc (Obj.cells #[.bool lq, .slice ap pq.length cp, .slice at_ tq.length ct, .slice aq kq.length cq] 35) := ⟨_, rfl⟩
 have hb3 : Below w2.heap.size w2 w3 := by rw [hw3]; exact one_below _ _
 have hN3 : At w3 w2.heap.size [.bool lq, .slice ap pq.length cp, .slice at_ tq.length ct, .slice aq kq.length cq] 35 := by rw [hw3]; exact At.fresh _ _ _
 have hs3 : w3.heap.size = w2.heap.size + 1 := by rw [hw3]; simp
 have Hb3 := Lib.hid (Hb2.out.trans (hb3.mono Hb2.out.size))
 have HB3 := Lib.hid (HB2.out.kept hb3); have HN3 := Lib.hid hN3
 have Hq3 := Lib.hid (Hq0.out.since hb3)
 have Hw3 := Lib.hid hw3
 have HA3 := Lib.hid (fun (d : Int) (h0 : 0 <= d) (h1 : d <= 100000000) (w1 : World) (hb : Below w3.heap.size w3 w1) => hAt.out d h0 h1 w1 (Hb3.out.trans (hb.mono Hb3.out.size)))
 obtain ⟨⟨n0, n1, n2, n3⟩, nf, nl⟩ := hN3.f4
 have hBl := HB3.out.lt
 have hB2l := HB2.out.lt
 have hAt0 := Lib.hid (fun (w1 : World) (hb : Below W.heap.size W w1) => hAt.out 0 (Int.le_refl _) (by omega) w1 hb)
 clear hw3 hb3 hN3 hAt Hq0 HB2
 go_upto_region 2 with fail
 rw [<- Hw3.out]
 clear Hw3
 go_wp2_with fail
 obtain ⟨zs, hzs⟩ : ∃ zs, zs = p ++ [(j : Int)] := ⟨_, rfl⟩
 obtain ⟨ys, hys⟩ : ∃ ys, ys = p ++ [(j : Int), 0] := ⟨_, rfl⟩
 have HZ := Lib.hid (fun (w1 : World) (hb : Below w3.heap.size w3 w1) => (show Calls Tryz.prog 112 #[.agg #[.slice pa p.length pc, v1, v2, v3, .slice ak ks.length ck, v5, v6, v7, v8, v9, v10, v11, v12, v13, .int .i64 j, v15], .int .i64 0] w1 (PathP w1 zs) by
  have h := HA3.out 0 (Int.le_refl _) (by omega) w1 hb
  rw [Int.add_zero, <- hzs] at h
  exact h))
 have HU := Lib.hid (fun (za : Option Addr) (zc : Nat) (la : Option Addr) (w1 : World) (h1 : RowA w1 w1.heap.size 1 za zs.length zc (zs.map (Value.int .i64))) (h2 : RowA w1 w1.heap.size 1 la 1 1 [.int .i64 0]) => (show Calls Tryz.prog 114 #[.slice za zs.length zc, .slice la 1 1] w1 (PathP w1 ys) by
  have h := under_c zs [0] za zc la 1 w1 h1 h2 (by rw [hzs]; simp; omega)
  rw [show zs ++ [0] = ys by rw [hzs, hys]; simp] at h
  exact h))
 have Hzs := Lib.hid hzs; have Hys := Lib.hid hys
 clear hzs hys n0 n1 n2 n3 nf nl
 go_loopg [4, 12] kq.length (fun g v c wr => ∃ i : Nat, c = .int .i64 i /\ i + g = kq.length /\ OpsO w3.heap.size w3.heap.size wr v (liftOps p j i) /\ Below w3.heap.size w3 wr)
 case atStart => exact ⟨0, rfl, by omega, OpsO.nil _ _ _, Below.refl _ _⟩
 case round =>
  obtain ⟨i, rfl, hg, hO, hbr⟩ := hrel
  have HO := Lib.hid hO; have Hbr := Lib.hid hbr
  have HBr := Lib.hid (HB3.out.kept hbr)
  have hwr3 := hbr.size
  clear hO hbr
  by_cases hlt : i < kq.length
  . --<1
    have hlti : (i : Int) < kq.length := by omega
    have hwr : IntKind.i64.wrap (1 + (i : Int)) = 1 + (i : Int) := IntWalk.i64_in _ (by omega)
    have HX := Lib.hid (fun (w1 : World) (hb : Below wr.heap.size wr w1) => HA3.out (1 + (i : Int)) (by omega) (by omega) w1 (Hbr.out.trans (hb.mono hwr3)))
    have HZr := Lib.hid (fun (w1 : World) (hb : Below wr.heap.size wr w1) => HZ.out w1 (Hbr.out.trans (hb.mono hwr3)))
    have HV := Lib.hid HO.out.lt
    obtain ⟨xs, hxs⟩ : ∃ xs, xs = p ++ [(j : Int) + (1 + (i : Int))] := ⟨_, rfl⟩
    rw [<- hxs] at HX
    have Hsucc := Lib.hid (show liftOps p j (i + 1) = liftOps p j i ++ [⟨5, ys, xs, 0, zeroN, []⟩] by rw [liftOps_succ, hxs, Hys.out])
    have hll : (liftOps p j i).length <= 100000000 := by rw [liftOps_len]; omega
    have hld := Hld.out
    generalize liftOps p j i = L1 at HO Hsucc hll
    clear hxs
    go_upto_region 6 with fail
    go_region_held3 (fun w' => At w' W.heap.size [.slice pa p.length pc, v1, v2, v3, .slice ak ks.length ck, v5, v6, v7, v8, v9, v10, v11, v12, v13, .int .i64 j, v15] 101) ((repeat (first | with_reducible exact HB8.out | with_reducible exact HB6.out | with_reducible exact HB5.out | with_reducible exact HB4.out | with_reducible exact HBr.out | with_reducible exact At.second _ _ _ _ | with_reducible exact At.fresh _ _ _ | with_reducible refine At.drew ?_ | with_reducible refine At.alloc ?_ _)))
     (first
     | (refine step_call rfl 112 _ _ rfl jat_ent [.agg #[.slice pa p.length pc, v1, v2, v3, .slice ak ks.length ck, v5, v6, v7, v8, v9, v10, v11, v12, v13, .int .i64 j, v15], .int .i64 0] ?_ _ (HZr.out _ (by ((repeat (first | with_reducible exact Below.refl _ _ | with_reducible refine Below.drew ?_ | with_reducible refine Below.alloc ?_ ?_ _ | with_reducible refine Below.setCell ?_ ?_ _)) <;> (first | with_reducible exact Nat.le_refl _ | (simp; done) | (simp; omega) | omega)))) ?_
        . go_simp
        rintro e w4 ⟨za, zc, rfl, hq, hbel⟩
        refine ⟨_, rfl, ?_⟩
        have Hb4 := Lib.hid (Below.and (w0 := wr) (by ((repeat (first | with_reducible exact Below.refl _ _ | with_reducible refine Below.drew ?_ | with_reducible refine Below.alloc ?_ ?_ _ | with_reducible refine Below.setCell ?_ ?_ _)) <;> (first | with_reducible exact Nat.le_refl _ | (simp; done) | (simp; omega) | omega))) hbel)
        first
         | (refine At.lay (N := ?_) (cs := [.int .i64 0]) (T := 3) (At.kept ?_ hbel) ?_
            rotate_left
            . (repeat (first | with_reducible exact At.second _ _ _ _ | with_reducible exact At.fresh _ _ _ | with_reducible refine At.drew ?_ | with_reducible refine At.alloc ?_ _))
            intro HL4)
         | skip
        have HB4 := Lib.hid (HBr.out.kept Hb4.out)
        have Hz := Lib.hid hq.any
        clear hbel hq)
     | (refine step_call rfl 114 _ _ rfl under_ent [.slice za zs.length zc, .slice (some ⟨w4.heap.size, 0, none⟩) 1 1] ?_ _ (HU.out _ _ _ _ (RowQ.row (ok := fun _ => True) (by (repeat (first | with_reducible exact Hz.out | with_reducible refine rowq_alloc ?_ _)))) (RowQ.row (ok := fun _ => True) (rowq_at (T := 3) (by (repeat (first | with_reducible exact HL4.out | with_reducible exact At.second _ _ _ _ | with_reducible exact At.fresh _ _ _ | with_reducible refine At.drew ?_ | with_reducible refine At.alloc ?_ _))) 1 1 rfl (by omega) (ints_one [0]) trivial))) ?_
        . go_simp
        rintro e w5 ⟨ya, yc, rfl, hq, hbel⟩
        refine ⟨_, rfl, ?_⟩
        have Hb5 := Lib.hid (Below.and (w0 := wr) (by ((repeat (first | with_reducible exact Hb4.out | with_reducible exact Below.refl _ _ | with_reducible refine Below.drew ?_ | with_reducible refine Below.alloc ?_ ?_ _ | with_reducible refine Below.setCell ?_ ?_ _)) <;> (first | with_reducible exact Nat.le_refl _ | with_reducible exact Hb4.out.size | (have hsz := Hb4.out.size; simp [World.setCell]; omega) | (simp; done) | (simp; omega) | omega))) hbel)
        have HB5 := Lib.hid (HBr.out.kept Hb5.out)
        have Hy := Lib.hid (RowQ.imp hq (fun b hb => (show wr.heap.size <= b from Nat.le_trans (by (first | exact Hb4.out.size | (have hsz := Hb4.out.size; simp; omega) | exact Nat.le_refl _ | (simp; done) | (simp; omega) | omega)) hb)))
        clear hbel hq)
     | (refine step_call rfl 114 _ _ rfl under_ent [.slice za zs.length zc, .slice (some ⟨wr.heap.size, 0, none⟩) 1 1] ?_ _ (HU.out _ _ _ _ (RowQ.row (ok := fun _ => True) (by (repeat (first | with_reducible exact Hz.out | with_reducible refine rowq_alloc ?_ _)))) (RowQ.row (ok := fun _ => True) (rowq_at (T := 3) (by (repeat (first | with_reducible exact HL4.out | with_reducible exact At.second _ _ _ _ | with_reducible exact At.fresh _ _ _ | with_reducible refine At.drew ?_ | with_reducible refine At.alloc ?_ _))) 1 1 rfl (by omega) (ints_one [0]) trivial))) ?_
        . go_simp
        rintro e w5 ⟨ya, yc, rfl, hq, hbel⟩
        refine ⟨_, rfl, ?_⟩
        have Hb5 := Lib.hid (Below.and (w0 := wr) (by ((repeat (first | with_reducible exact Hb4.out | with_reducible exact Below.refl _ _ | with_reducible refine Below.drew ?_ | with_reducible refine Below.alloc ?_ ?_ _ | with_reducible refine Below.setCell ?_ ?_ _)) <;> (first | with_reducible exact Nat.le_refl _ | with_reducible exact Hb4.out.size | (have hsz := Hb4.out.size; simp [World.setCell]; omega) | (simp; done) | (simp; omega) | omega))) hbel)
        have HB5 := Lib.hid (HBr.out.kept Hb5.out)
        have Hy := Lib.hid (RowQ.imp hq (fun b hb => (show wr.heap.size <= b from Nat.le_trans (by (first | exact Hb4.out.size | (have hsz := Hb4.out.size; simp; omega) | exact Nat.le_refl _ | (simp; done) | (simp; omega) | omega)) hb)))
        clear hbel hq)
     | (refine step_call rfl 112 _ _ rfl jat_ent [.agg #[.slice pa p.length pc, v1, v2, v3, .slice ak ks.length ck, v5, v6, v7, v8, v9, v10, v11, v12, v13, .int .i64 j, v15], .int .i64 (1 + (i : Int))] ?_ _ (HX.out _ (by ((repeat (first | with_reducible exact Hb5.out | with_reducible exact Hb4.out | with_reducible exact Below.refl _ _ | with_reducible refine Below.drew ?_ | with_reducible refine Below.alloc ?_ ?_ _ | with_reducible refine Below.setCell ?_ ?_ _)) <;> (first | with_reducible exact Nat.le_refl _ | with_reducible exact Hb5.out.size | with_reducible exact Hb4.out.size | (have hsz := Hb5.out.size; simp [World.setCell]; omega) | (have hsz := Hb4.out.size; simp [World.setCell]; omega) | (simp; done) | (simp; omega) | omega)))) ?_
        . go_simp
        rintro e w6 ⟨xa, xc, rfl, hq, hbel⟩
        refine ⟨_, rfl, ?_⟩
        have Hb6 := Lib.hid (Below.and (w0 := wr) (by ((repeat (first | with_reducible exact Hb5.out | with_reducible exact Hb4.out | with_reducible exact Below.refl _ _ | with_reducible refine Below.drew ?_ | with_reducible refine Below.alloc ?_ ?_ _ | with_reducible refine Below.setCell ?_ ?_ _)) <;> (first | with_reducible exact Nat.le_refl _ | with_reducible exact Hb5.out.size | with_reducible exact Hb4.out.size | (have hsz := Hb5.out.size; simp [World.setCell]; omega) | (have hsz := Hb4.out.size; simp [World.setCell]; omega) | (simp; done) | (simp; omega) | omega))) hbel)
        have Hs6 := Lib.hid hbel
        have HB6 := Lib.hid (HBr.out.kept Hb6.out)
        have Hx := Lib.hid (RowQ.imp hq (fun b hb => (show wr.heap.size <= b from Nat.le_trans (by (first | exact Hb5.out.size | (have hsz := Hb5.out.size; simp; omega) | exact Nat.le_refl _ | (simp; done) | (simp; omega) | omega)) hb)))
        clear hbel hq)
     | (refine step_push rfl _ _ rfl Tryz.underlying42 info_op w3.heap.size w3.heap.size _ L1 ?_ (HO.out.below Hb6.out) ⟨5, ys, xs, 0, zeroN, []⟩ (opCells ⟨5, ys, xs, 0, zeroN, []⟩ ya yc xa xc (.bool false) (.slice none 0 0) (.slice none 0 0) (.slice none 0 0) none 0) rfl ?_ ?_ hll ?_ ?_
        . go_simp
        . go_simp
        . exact ⟨ya, yc, xa, xc, _, _, _, _, none, 0, rfl, (Hy.out.since Hs6.out).imp (fun b hb => ⟨Nat.le_trans hwr3 hb, HV.out b hb⟩), Hx.out.imp (fun b hb => ⟨Nat.le_trans hwr3 hb, HV.out b hb⟩), zero_q _ _, RowQ.empty _ _ _⟩
        . exact Nat.le_trans hwr3 Hb6.out.size
        intro v' w8 hO8 hb8
        have HO8 := Lib.hid hO8
        have Hb8 := Lib.hid ((Hbr.out.trans (Hb6.out.mono hwr3)).trans hb8)
        have HB8 := Lib.hid (HB6.out.keep (hb8.mono hBl))
        clear hO8 hb8))
    all_goals
     clear hld
     go_wp2_with fail
     go_roundg (kq.length - (i + 1))
     case measure => omega
     case rel => exact ⟨i + 1, by go_num, by omega, by rw [Hsucc.out]; exact HO8.out, Hb8.out⟩
  . --<2
    obtain rfl : i = kq.length := by omega
    have hN := HN3.out.kept Hbr.out
    have hlr := hN.lt
    obtain ⟨⟨n0, n1, n2, n3⟩, nf, nl⟩ := hN.f4
    have HNr := Lib.hid hN
    clear hN
    obtain ⟨va, vc, hv⟩ := HO.out.form
    subst hv
    have hll := liftOps_len p j kq.length
    go_upto_region 9 with fail
    obtain ⟨w5, hw5⟩ : ∃ w5, w5 = wr.setCell ⟨w2.heap.size, 3, none⟩ (.slice none 0 0) := ⟨_, rfl⟩
    rw [<- hw5]
    have HO5 := Lib.hid (show OpsO w3.heap.size w3.heap.size w5 _ (liftOps p j kq.length) by rw [hw5]; exact HO.out.set (by omega) (by omega) _)
    have HN5 := Lib.hid (show At w5 w2.heap.size [.bool lq, .slice ap pq.length cp, .slice at_ tq.length ct, .slice none 0 0] 35 by rw [hw5]; exact HNr.out.set 3 _)
    have HB5 := Lib.hid (show At w5 W.heap.size [.slice pa p.length pc, v1, v2, v3, .slice ak ks.length ck, v5, v6, v7, v8, v9, v10, v11, v12, v13, .int .i64 j, v15] 101 by rw [hw5]; exact HBr.out.set_ne (by omega) _)
    have Hq5 := Lib.hid (show NodeQ w5 (fun b => W.heap.size <= b /\ b < w2.heap.size) (.mk lq pq tq []) [.bool lq, .slice ap pq.length cp, .slice at_ tq.length ct, .slice none 0 0] by rw [hw5]; exact nodeq_set ((Hq3.out).since Hbr.out) (by omega))
    have Hb5 := Lib.hid (show Below W.heap.size W w5 by rw [hw5]; exact (Hb3.out.trans (Hbr.out.mono Hb3.out.size)).setCell (p := ⟨w2.heap.size, 3, none⟩) (by show W.heap.size <= w2.heap.size; omega) _)
    have hs5 : w5.heap.size = wr.heap.size := by rw [hw5]; simp [World.setCell]
    have HZ5 := Lib.hid (fun (w1 : World) (hb : Below w5.heap.size w5 w1) => (show Calls Tryz.prog 112 #[.agg #[.slice pa p.length pc, v1, v2, v3, .slice ak ks.length ck, v5, v6, v7, v8, v9, v10, v11, v12, v13, .int .i64 j, v15], .int .i64 0] w1 (PathP w1 zs) by
     have h := hAt0.out w1 (Hb5.out.trans (hb.mono Hb5.out.size))
     rw [Int.add_zero, <- Hzs.out] at h
     exact h))
    have HS0 := Lib.hid (fun (w' : World) (hb : Below w5.heap.size w5 w') => And.intro (HB5.out.kept hb) (HN5.out.kept hb))
    have hln := fun (w' : World) (h : At w' w2.heap.size [.bool lq, .slice ap pq.length cp, .slice at_ tq.length ct, .slice none 0 0] 35) => At.load (P := Tryz.prog) h Tryz.underlying35 rfl (by kernel_rfl)
    simp [go_sem] at hln
    have hld := Hld.out
    clear hw5 n0 n1 n2 n3 nf nl HB3 HN3 HBr HNr HO Hq3 HZ HU
    go_region_held3 (fun w' => At w' W.heap.size [.slice pa p.length pc, v1, v2, v3, .slice ak ks.length ck, v5, v6, v7, v8, v9, v10, v11, v12, v13, .int .i64 j, v15] 101 /\ At w' w2.heap.size [.bool lq, .slice ap pq.length cp, .slice at_ tq.length ct, .slice none 0 0] 35) (first | with_reducible exact HS8.out | (refine HS0.out _ (by ((repeat (first | with_reducible exact Hb6.out | with_reducible exact Below.refl _ _ | with_reducible refine Below.drew ?_ | with_reducible refine Below.alloc ?_ ?_ _ | with_reducible refine Below.setCell ?_ ?_ _)) <;> (first | with_reducible exact Nat.le_refl _ | with_reducible exact Hb6.out.size | (have hsz := Hb6.out.size; simp [World.setCell]; omega) | (simp; done) | (simp; omega) | omega)))))
     (first
     | (refine step_call rfl 112 _ _ rfl jat_ent [.agg #[.slice pa p.length pc, v1, v2, v3, .slice ak ks.length ck, v5, v6, v7, v8, v9, v10, v11, v12, v13, .int .i64 j, v15], .int .i64 0] ?_ _ (HZ5.out _ (by ((repeat (first | with_reducible exact Below.refl _ _ | with_reducible refine Below.drew ?_ | with_reducible refine Below.alloc ?_ ?_ _ | with_reducible refine Below.setCell ?_ ?_ _)) <;> (first | with_reducible exact Nat.le_refl _ | (simp; done) | (simp; omega) | omega)))) ?_
        . go_simp
        rintro e w6 ⟨za, zc, rfl, hq, hbel⟩
        refine ⟨_, rfl, ?_⟩
        have Hb6 := Lib.hid (Below.and (w0 := w5) (by ((repeat (first | with_reducible exact Below.refl _ _ | with_reducible refine Below.drew ?_ | with_reducible refine Below.alloc ?_ ?_ _ | with_reducible refine Below.setCell ?_ ?_ _)) <;> (first | with_reducible exact Nat.le_refl _ | (simp; done) | (simp; omega) | omega))) hbel)
        have Hz := Lib.hid hq
        clear hbel hq)
     | (refine step_push rfl _ _ rfl Tryz.underlying42 info_op W.heap.size w3.heap.size _ (liftOps p j kq.length) ?_ ((HO5.out.below Hb6.out).from Hb3.out.size) ⟨2, zs, [], 0, .mk lq pq tq [], []⟩ (opCells ⟨2, zs, [], 0, .mk lq pq tq [], []⟩ za zc none 0 (.bool lq) (.slice ap pq.length cp) (.slice at_ tq.length ct) (.slice none 0 0) none 0) rfl ?_ ?_ (by omega) ?_ ?_
        . go_simp
        . go_simp
        . exact ⟨za, zc, none, 0, _, _, _, _, none, 0, rfl, Hz.out.imp (fun b hb => ⟨Nat.le_trans Hb5.out.size hb, HO5.out.lt b hb⟩), RowQ.empty _ _ _, NodeQ.keep (Nat.le_refl _) (fun _ _ _ => rfl) (fun b hb _ => ⟨hb.1, fun e => by have := HO5.out.ge b e; have := hb.2; omega⟩) _ _ (Hq5.out.since Hb6.out), RowQ.empty _ _ _⟩
        . exact Nat.le_trans (by omega) Hb6.out.size
        intro v' w8 hO8 hb8
        have HO8 := Lib.hid hO8
        have Hb8 := Lib.hid ((Hb5.out.trans (Hb6.out.mono Hb5.out.size)).trans (hb8.mono (by omega)))
        have HS8 := Lib.hid (And.intro ((HB5.out.kept Hb6.out).keep (hb8.mono hBl)) ((HN5.out.kept Hb6.out).keep (hb8.mono (by omega))))
        clear hO8 hb8))
    all_goals
     go_wp2_with fail
     go_ret
     refine ⟨_, rfl, ?_, Hb8.out⟩
     rw [<- Hzs.out]
     exact HO8.out.opsF (Nat.le_refl _) Hb3.out.size
end Go.Proofs.YtbommcakcmhalaaGreatDoor
