/- Parts of the proof, one behind the other: RHU. -/
import Derived.Test.YtbommcakcmhalaaGreatDoorLM15
/- Walks: fix's wrap. -/
set_option linter.unusedVariables false
set_option linter.unusedSimpArgs false
set_option maxHeartbeats 4000000
set_option maxRecDepth 100000
namespace Go.Proofs.YtbommcakcmhalaaGreatDoor
open Go.RowKit Go.Redl
/-- A part of a box, loaded whole. -/
theorem At.part {P : Program} {w : World} {N : Nat} {cs : List Value} {T U : TypeId} {d : TypeDesc} (h : At w N cs T) (o : Nat) (ds : List Value) (hds : (cs.drop o).take ds.length = ds) (hu : P.underlying U = some d) (hd : d.isRow = true) (hi : (P.info? U).map (·.size) = some ds.length) :
 (Instr.loadAt U (.pointer (some ⟨N, o, none⟩))).run P w = .ok (.agg ds.toArray) w :=
 run_loadAt_mid w N o U ds d (fun j v hj => h.cell (o + j) (by
  rw [<- hds, List.getElem?_take] at hj
  split at hj
  . rw [List.getElem?_drop] at hj; exact hj
  . cases hj)) hu hd hi
/-- A literal of one operation, as a list that may grow. -/
theorem OpsO.lit {L M : Nat} {w : World} {o : OpD} {c : List Value} (h : OpQ w (fun b => L <= b) o c) (hM : M <= w.heap.size) : OpsO L M (w.alloc (.cells c.toArray 63)) (.slice (some ⟨w.heap.size, 0, none⟩) 1 1) [o] := by
 have hat := At.fresh w c 63
 have hl := h.len
 refine ⟨c, ⟨by rw [hl]; rfl, .inr ⟨w.heap.size, 1, c.toArray, rfl, hM, hat, Nat.le_refl _, by unfold maxLen; omega, by simp [hl], ?_⟩⟩, OpsQ.single (h.stay ⟨by simp, fun b _ hlt => Lib.alloc_old _ _ _ hlt, fun b hb hlt => ⟨hb, ?_⟩⟩)⟩
 . show List.take (1 * 21) c = c
   exact List.take_of_length_le (by omega)
 . intro e
   injection e with e
   simp at e; omega
theorem field_type (d : Int) (t : ByteArray) (w : World) : (Instr.field 24 (.agg #[.int .i64 d, .string t]) 1).run Tryz.prog w = .ok (.string t) w := by kernel_rfl
/-- The moves that wrap Kids. -/
def wrapOps (p : List Int) (j n : Nat) : List OpD := (List.range n).map (fun i : Nat => (⟨5, p ++ [(j : Int) + 1], p ++ [(j : Int), (i : Int)], 0, zeroN, []⟩ : OpD))
theorem wrapOps_len (p : List Int) (j n : Nat) : (wrapOps p j n).length = n := by simp [wrapOps]
theorem wrapOps_succ (p : List Int) (j n : Nat) : wrapOps p j (n + 1) = wrapOps p j n ++ [⟨5, p ++ [(j : Int) + 1], p ++ [(j : Int), (n : Int)], 0, zeroN, []⟩] := by
 simp [wrapOps, List.range_succ]
theorem wrap_c (p : List Int) (pa : Option Addr) (pc : Nat) (ks : List NodeD) (ak : Option Addr) (ck : Nat) (css : List Value) (R : RuleD) (ra : Option Addr) (rc : Nat) (v1 v2 v3 v13 : Value) (j mk : Nat) (W : World)
 (hJ : JobAt W p pa pc ks ak ck css j) (hj : j < ks.length) (hR : RowA W W.heap.size 3 ra R.kids.length rc (pairCells R.kids)) (hRk : R.kids.length <= 100000000) (hmk : mk <= 100000000) :
 Calls Tryz.prog 60 #[.agg #[.slice pa p.length pc, v1, v2, v3, .slice ak ks.length ck, strV R.type, .int .i64 R.text.1, strV R.text.2, .int .i64 R.other.1, strV R.other.2, .slice ra R.kids.length rc, .int .i64 R.fill, strV R.fillT, v13, .int .i64 j, .int .i64 mk]] W (OpsP W (⟨1, p ++ [(j : Int)], [], 0, elemN (actOf R (kidAt ks j)).2, []⟩ :: wrapOps p j mk)) := by
 have hkl : ks.length <= 100000000 := by have := wtAll_len ks; have := hJ.kl; omega
 have hqw : (kidAt ks j).wt <= 100000000 := by rw [kid_get hj]; have := wtAll_mem (List.getElem_mem hj); have := hJ.kl; omega
 have hpl := hJ.pl
 obtain ⟨w0, hw0⟩ : ∃ w0, w0 = W.alloc (Obj.cells #[.slice pa p.length pc, v1, v2, v3, .slice ak ks.length ck, strV R.type, .int .i64 R.text.1, strV R.text.2, .int .i64 R.other.1, strV R.other.2, .slice ra R.kids.length rc, .int .i64 R.fill, strV R.fillT, v13, .int .i64 j, .int .i64 mk] 101) := ⟨_, rfl⟩
 have hb0 : Below W.heap.size W w0 := by rw [hw0]; exact one_below _ _
 have hB : At w0 W.heap.size [.slice pa p.length pc, v1, v2, v3, .slice ak ks.length ck, strV R.type, .int .i64 R.text.1, strV R.text.2, .int .i64 R.other.1, strV R.other.2, .slice ra R.kids.length rc, .int .i64 R.fill, strV R.fillT, v13, .int .i64 j, .int .i64 mk] 101 := by rw [hw0]; exact At.fresh _ _ _
 have HAt := Lib.hid (fun (d : Int) (h0 : 0 <= d) (h1 : d <= 100000000) (w1 : World) (hb : Below w0.heap.size w0 w1) => jat_c p pa pc v1 v2 v3 (.slice ak ks.length ck) (strV R.type) (.int .i64 R.text.1) (strV R.text.2) (.int .i64 R.other.1) (strV R.other.2) (.slice ra R.kids.length rc) (.int .i64 R.fill) (strV R.fillT) v13 (.int .i64 mk) j d w1 (hJ.keep (hb0.trans (hb.mono hb0.size))).path hJ.pl hJ.at_ h0 h1)
 have HKd := Lib.hid (fun (w1 : World) (hb : Below w0.heap.size w0 w1) => jkid_c ks ak ck css (.slice pa p.length pc) v1 v2 v3 (strV R.type) (.int .i64 R.text.1) (strV R.text.2) (.int .i64 R.other.1) (strV R.other.2) (.slice ra R.kids.length rc) (.int .i64 R.fill) (strV R.fillT) v13 (.int .i64 mk) j w1 (hJ.keep (hb0.trans (hb.mono hb0.size))).kids (hJ.keep (hb0.trans (hb.mono hb0.size))).kids' hj hkl)
 have HAc := Lib.hid (fun (kv : Value) (w1 : World) (hb : Below w0.heap.size w0 w1) (hv : NodeV w1 w1.heap.size (kidAt ks j) kv) => (show Calls Tryz.prog 65 #[.agg #[strV R.type, .int .i64 R.text.1, strV R.text.2, .int .i64 R.other.1, strV R.other.2, .slice ra R.kids.length rc, .int .i64 R.fill, strV R.fillT], kv] w1 (ActP w1 (actOf R (kidAt ks j))) from actOf_c R ra rc (kidAt ks j) kv w1 (hR.keep (hb0.trans (hb.mono hb0.size)) (hb0.trans (hb.mono hb0.size)).size) hRk hv hqw))
 have HTy := Lib.hid (fun (k : List UInt8) (w1 : World) => ftyped_c k w1)
 have hld := fun (w' : World) (h : At w' W.heap.size [.slice pa p.length pc, v1, v2, v3, .slice ak ks.length ck, strV R.type, .int .i64 R.text.1, strV R.text.2, .int .i64 R.other.1, strV R.other.2, .slice ra R.kids.length rc, .int .i64 R.fill, strV R.fillT, v13, .int .i64 j, .int .i64 mk] 101) => At.load (P := Tryz.prog) h Tryz.underlying101 rfl (by kernel_rfl)
 simp [go_sem] at hld
 have hlr := fun (w' : World) (h : At w' W.heap.size [.slice pa p.length pc, v1, v2, v3, .slice ak ks.length ck, strV R.type, .int .i64 R.text.1, strV R.text.2, .int .i64 R.other.1, strV R.other.2, .slice ra R.kids.length rc, .int .i64 R.fill, strV R.fillT, v13, .int .i64 j, .int .i64 mk] 101) => At.part (P := Tryz.prog) h 5 [strV R.type, .int .i64 R.text.1, strV R.text.2, .int .i64 R.other.1, strV R.other.2, .slice ra R.kids.length rc, .int .i64 R.fill, strV R.fillT] rfl Tryz.underlying27 rfl (by kernel_rfl)
 simp [go_sem] at hlr
 obtain ⟨zs, hzs⟩ : ∃ zs, zs = p ++ [(j : Int)] := ⟨_, rfl⟩
 rw [<- hzs]
 generalize kidAt ks j = q at HKd HAc ⊢
 generalize actOf R q = A at HAc ⊢
 have HZ := Lib.hid (fun (w1 : World) (hb : Below w0.heap.size w0 w1) => (show Calls Tryz.prog 112 #[.agg #[.slice pa p.length pc, v1, v2, v3, .slice ak ks.length ck, strV R.type, .int .i64 R.text.1, strV R.text.2, .int .i64 R.other.1, strV R.other.2, .slice ra R.kids.length rc, .int .i64 R.fill, strV R.fillT, v13, .int .i64 j, .int .i64 mk], .int .i64 0] w1 (PathP w1 zs) by
  have h := HAt.out 0 (Int.le_refl _) (by omega) w1 hb
  rw [Int.add_zero, <- hzs] at h
  exact h))
 have HU := Lib.hid (fun (i : Nat) (za : Option Addr) (zc : Nat) (la : Option Addr) (w1 : World) (h1 : RowA w1 w1.heap.size 1 za zs.length zc (zs.map (Value.int .i64))) (h2 : RowA w1 w1.heap.size 1 la 1 1 [.int .i64 i]) => (show Calls Tryz.prog 114 #[.slice za zs.length zc, .slice la 1 1] w1 (PathP w1 (p ++ [(j : Int), (i : Int)])) by
  have h := under_c zs [(i : Int)] za zc la 1 w1 h1 h2 (by rw [hzs]; simp; omega)
  rw [show zs ++ [(i : Int)] = p ++ [(j : Int), (i : Int)] by rw [hzs]; simp] at h
  exact h))
 have Hw0 := Lib.hid hw0; have Hb0 := Lib.hid hb0; have HB := Lib.hid hB; have Hld := Lib.hid hld
 have hBl := hB.lt
 have hft := field_type
 clear hw0 hb0 hB hJ hj hqw hzs
 go_enter Tryz.func60, Tryz.ntmps60
 go_upto_region 1 with fail
 rw [<- Hw0.out]
 clear Hw0
 go_cut [3] (fun v wx => OpsO w0.heap.size w0.heap.size wx v [⟨1, zs, [], 0, elemN A.2, []⟩] /\ Below w0.heap.size w0 wx)
 case first =>
  go_region_held3 (fun w' => At w' W.heap.size [.slice pa p.length pc, v1, v2, v3, .slice ak ks.length ck, strV R.type, .int .i64 R.text.1, strV R.text.2, .int .i64 R.other.1, strV R.other.2, .slice ra R.kids.length rc, .int .i64 R.fill, strV R.fillT, v13, .int .i64 j, .int .i64 mk] 101) ((repeat (first | with_reducible exact HB4.out | with_reducible exact HB3.out | with_reducible exact HB2.out | with_reducible exact HB1.out | with_reducible exact HB.out | with_reducible exact At.second _ _ _ _ | with_reducible exact At.fresh _ _ _ | with_reducible refine At.drew ?_ | with_reducible refine At.alloc ?_ _)))
   (first
   | (refine step_call rfl 112 _ _ rfl jat_ent [.agg #[.slice pa p.length pc, v1, v2, v3, .slice ak ks.length ck, strV R.type, .int .i64 R.text.1, strV R.text.2, .int .i64 R.other.1, strV R.other.2, .slice ra R.kids.length rc, .int .i64 R.fill, strV R.fillT, v13, .int .i64 j, .int .i64 mk], .int .i64 0] ?_ _ (HZ.out _ (by ((repeat (first | with_reducible exact Below.refl _ _ | with_reducible refine Below.drew ?_ | with_reducible refine Below.alloc ?_ ?_ _ | with_reducible refine Below.setCell ?_ ?_ _)) <;> (first | with_reducible exact Nat.le_refl _ | (simp; done) | (simp; omega) | omega)))) ?_
      . go_simp
      rintro e w1 ⟨za, zc, rfl, hq, hbel⟩
      refine ⟨_, rfl, ?_⟩
      have Hb1 := Lib.hid (Below.and (w0 := w0) (by ((repeat (first | with_reducible exact Below.refl _ _ | with_reducible refine Below.drew ?_ | with_reducible refine Below.alloc ?_ ?_ _ | with_reducible refine Below.setCell ?_ ?_ _)) <;> (first | with_reducible exact Nat.le_refl _ | (simp; done) | (simp; omega) | omega))) hbel)
      have HB1 := Lib.hid (HB.out.kept Hb1.out)
      have Hz := Lib.hid (RowQ.imp hq (fun b hb => (show w0.heap.size <= b from Nat.le_trans (by (first | exact Nat.le_refl _ | (simp; done) | (simp; omega) | omega)) hb)))
      clear hbel hq)
   | (refine step_call rfl 113 _ _ rfl jkid_ent [.agg #[.slice pa p.length pc, v1, v2, v3, .slice ak ks.length ck, strV R.type, .int .i64 R.text.1, strV R.text.2, .int .i64 R.other.1, strV R.other.2, .slice ra R.kids.length rc, .int .i64 R.fill, strV R.fillT, v13, .int .i64 j, .int .i64 mk]] ?_ _ (HKd.out _ (by ((repeat (first | with_reducible exact Hb1.out | with_reducible exact Below.refl _ _ | with_reducible refine Below.drew ?_ | with_reducible refine Below.alloc ?_ ?_ _ | with_reducible refine Below.setCell ?_ ?_ _)) <;> (first | with_reducible exact Nat.le_refl _ | with_reducible exact Hb1.out.size | (have hsz := Hb1.out.size; simp [World.setCell]; omega) | (simp; done) | (simp; omega) | omega)))) ?_
      . go_simp
      rintro e w2 ⟨kv, rfl, hkv, hbel⟩
      refine ⟨_, rfl, ?_⟩
      have Hb2 := Lib.hid (Below.and (w0 := w0) (by ((repeat (first | with_reducible exact Hb1.out | with_reducible exact Below.refl _ _ | with_reducible refine Below.drew ?_ | with_reducible refine Below.alloc ?_ ?_ _ | with_reducible refine Below.setCell ?_ ?_ _)) <;> (first | with_reducible exact Nat.le_refl _ | with_reducible exact Hb1.out.size | (have hsz := Hb1.out.size; simp [World.setCell]; omega) | (simp; done) | (simp; omega) | omega))) hbel)
      have Hs2 := Lib.hid hbel
      have HB2 := Lib.hid (HB.out.kept Hb2.out)
      have Hkv := Lib.hid hkv
      clear hbel hkv)
   | (refine step_call rfl 65 _ _ rfl actOf_ent [.agg #[strV R.type, .int .i64 R.text.1, strV R.text.2, .int .i64 R.other.1, strV R.other.2, .slice ra R.kids.length rc, .int .i64 R.fill, strV R.fillT], kv] ?_ _ (HAc.out kv _ Hb2.out Hkv.out) ?_
      . go_simp
      rintro e w3 ⟨rfl, hbel⟩
      refine ⟨_, rfl, ?_⟩
      have Hb3 := Lib.hid (Below.and (w0 := w0) (by ((repeat (first | with_reducible exact Hb2.out | with_reducible exact Below.refl _ _ | with_reducible refine Below.drew ?_ | with_reducible refine Below.alloc ?_ ?_ _ | with_reducible refine Below.setCell ?_ ?_ _)) <;> (first | with_reducible exact Nat.le_refl _ | with_reducible exact Hb2.out.size | (have hsz := Hb2.out.size; simp [World.setCell]; omega) | (simp; done) | (simp; omega) | omega))) hbel)
      have Hs3 := Lib.hid hbel
      have HB3 := Lib.hid (HB.out.kept Hb3.out)
      clear hbel)
   | (refine step_call rfl 115 _ _ rfl ftyped_ent [strV A.2] ?_ _ (HTy.out A.2 _) ?_
      . go_simp
      rintro e w4 ⟨cs, rfl, hn, hbel⟩
      obtain ⟨l, a1, m1, k1, a2, m2, k2, a3, m3, k3, rfl⟩ := hn.form
      refine ⟨_, rfl, ?_⟩
      have Hb4 := Lib.hid (Below.and (w0 := w0) (by ((repeat (first | with_reducible exact Hb3.out | with_reducible exact Below.refl _ _ | with_reducible refine Below.drew ?_ | with_reducible refine Below.alloc ?_ ?_ _ | with_reducible refine Below.setCell ?_ ?_ _)) <;> (first | with_reducible exact Nat.le_refl _ | with_reducible exact Hb3.out.size | (have hsz := Hb3.out.size; simp [World.setCell]; omega) | (simp; done) | (simp; omega) | omega))) hbel)
      have Hs4 := Lib.hid hbel
      have HB4 := Lib.hid (HB.out.kept Hb4.out)
      have Hn := Lib.hid (NodeQ.keep (ok' := fun b => w0.heap.size <= b) (Nat.le_refl _) (fun _ _ _ => rfl) (fun b hb _ => Nat.le_trans (by (first | exact Hb3.out.size | (have hsz := Hb3.out.size; simp; omega) | exact Nat.le_refl _ | (simp; done) | (simp; omega) | omega)) hb) _ _ hn)
      clear hbel hn))
  all_goals
   go_wp2_with fail
   go_meet
   case rel =>
    refine ⟨OpsO.lit (o := ⟨1, zs, [], 0, elemN A.2, []⟩) ⟨za, zc, none, 0, _, _, _, _, none, 0, rfl, (((Hz.out.since Hs2.out).since Hs3.out).since Hs4.out), RowQ.empty _ _ _, Hn.out, RowQ.empty _ _ _⟩ Hb4.out.size, Hb4.out.alloc Hb4.out.size _⟩
 case rest =>
  obtain ⟨hO, hbc⟩ := hcut
  have HBc := Lib.hid (HB.out.kept hbc)
  have HO0 := Lib.hid hO; have Hbc := Lib.hid hbc
  have hBc := HBc.out
  have x15 := hBc.cell 15 rfl
  have xl := hBc.lt
  clear hO hbc hBc
  go_wp2_with fail
  clear x15
  go_loopg [3, 19] mk (fun g v c wr => ∃ i : Nat, c = .int .i64 i /\ i + g = mk /\ OpsO w0.heap.size w0.heap.size wr v (⟨1, zs, [], 0, elemN A.2, []⟩ :: wrapOps p j i) /\ Below w0.heap.size w0 wr)
  case atStart => exact ⟨0, rfl, by omega, HO0.out, Hbc.out⟩
  case round =>
   obtain ⟨i, rfl, hg, hO, hbr⟩ := hrel
   have HO := Lib.hid hO; have Hbr := Lib.hid hbr
   have HBr := Lib.hid (HB.out.kept hbr)
   have hwr3 := hbr.size
   clear hO hbr
   by_cases hlt : i < mk
   . have hlti : (i : Int) < mk := by omega
     have HX := Lib.hid (fun (w1 : World) (hb : Below wr.heap.size wr w1) => HAt.out 1 (by omega) (by omega) w1 (Hbr.out.trans (hb.mono hwr3)))
     have HZr := Lib.hid (fun (w1 : World) (hb : Below wr.heap.size wr w1) => HZ.out w1 (Hbr.out.trans (hb.mono hwr3)))
     have HV := Lib.hid HO.out.lt
     have hll : ((⟨1, zs, [], 0, elemN A.2, []⟩ : OpD) :: wrapOps p j i).length <= 100000000 := by rw [List.length_cons, wrapOps_len]; omega
     have Hsucc := Lib.hid (show (⟨1, zs, [], 0, elemN A.2, []⟩ : OpD) :: wrapOps p j (i + 1) = (⟨1, zs, [], 0, elemN A.2, []⟩ :: wrapOps p j i) ++ [⟨5, p ++ [(j : Int) + 1], p ++ [(j : Int), (i : Int)], 0, zeroN, []⟩] by rw [wrapOps_succ]; rfl)
     generalize (⟨1, zs, [], 0, elemN A.2, []⟩ : OpD) :: wrapOps p j i = L1 at HO Hsucc hll
     have HUi := Lib.hid (HU.out i)
     generalize p ++ [(j : Int) + 1] = xs at HX Hsucc
     generalize p ++ [(j : Int), (i : Int)] = ys at HUi Hsucc
     go_upto_region 5 with fail
     go_region_held3 (fun w' => At w' W.heap.size [.slice pa p.length pc, v1, v2, v3, .slice ak ks.length ck, strV R.type, .int .i64 R.text.1, strV R.text.2, .int .i64 R.other.1, strV R.other.2, .slice ra R.kids.length rc, .int .i64 R.fill, strV R.fillT, v13, .int .i64 j, .int .i64 mk] 101) ((repeat (first | with_reducible exact HB8.out | with_reducible exact HB7.out | with_reducible exact HB6.out | with_reducible exact HB5.out | with_reducible exact HBr.out | with_reducible exact At.second _ _ _ _ | with_reducible exact At.fresh _ _ _ | with_reducible refine At.drew ?_ | with_reducible refine At.alloc ?_ _)))
      (first
     | (refine step_call rfl 112 _ _ rfl jat_ent [.agg #[.slice pa p.length pc, v1, v2, v3, .slice ak ks.length ck, strV R.type, .int .i64 R.text.1, strV R.text.2, .int .i64 R.other.1, strV R.other.2, .slice ra R.kids.length rc, .int .i64 R.fill, strV R.fillT, v13, .int .i64 j, .int .i64 mk], .int .i64 1] ?_ _ (HX.out _ (by ((repeat (first | with_reducible exact Below.refl _ _ | with_reducible refine Below.drew ?_ | with_reducible refine Below.alloc ?_ ?_ _ | with_reducible refine Below.setCell ?_ ?_ _)) <;> (first | with_reducible exact Nat.le_refl _ | (simp; done) | (simp; omega) | omega)))) ?_
        . go_simp
        rintro e w5 ⟨xa, xc, rfl, hq, hbel⟩
        refine ⟨_, rfl, ?_⟩
        have Hb5 := Lib.hid (Below.and (w0 := wr) (by ((repeat (first | with_reducible exact Below.refl _ _ | with_reducible refine Below.drew ?_ | with_reducible refine Below.alloc ?_ ?_ _ | with_reducible refine Below.setCell ?_ ?_ _)) <;> (first | with_reducible exact Nat.le_refl _ | (simp; done) | (simp; omega) | omega))) hbel)
        first
         | (refine At.lay (N := ?_) (cs := [.int .i64 i]) (T := 3) (At.kept ?_ hbel) ?_
            rotate_left
            . (repeat (first | with_reducible exact At.second _ _ _ _ | with_reducible exact At.fresh _ _ _ | with_reducible refine At.drew ?_ | with_reducible refine At.alloc ?_ _))
            intro HL5)
         | skip
        have HB5 := Lib.hid (HBr.out.kept Hb5.out)
        have Hx := Lib.hid (RowQ.imp hq (fun b hb => (show wr.heap.size <= b from Nat.le_trans (by (first | exact Nat.le_refl _ | (simp; done) | (simp; omega) | omega)) hb)))
        clear hbel hq)
     | (refine step_call rfl 112 _ _ rfl jat_ent [.agg #[.slice pa p.length pc, v1, v2, v3, .slice ak ks.length ck, strV R.type, .int .i64 R.text.1, strV R.text.2, .int .i64 R.other.1, strV R.other.2, .slice ra R.kids.length rc, .int .i64 R.fill, strV R.fillT, v13, .int .i64 j, .int .i64 mk], .int .i64 0] ?_ _ (HZr.out _ (by ((repeat (first | with_reducible exact Hb5.out | with_reducible exact Below.refl _ _ | with_reducible refine Below.drew ?_ | with_reducible refine Below.alloc ?_ ?_ _ | with_reducible refine Below.setCell ?_ ?_ _)) <;> (first | with_reducible exact Nat.le_refl _ | with_reducible exact Hb5.out.size | (have hsz := Hb5.out.size; simp [World.setCell]; omega) | (simp; done) | (simp; omega) | omega)))) ?_
        . go_simp
        rintro e w6 ⟨za, zc, rfl, hq, hbel⟩
        refine ⟨_, rfl, ?_⟩
        have Hb6 := Lib.hid (Below.and (w0 := wr) (by ((repeat (first | with_reducible exact Hb5.out | with_reducible exact Below.refl _ _ | with_reducible refine Below.drew ?_ | with_reducible refine Below.alloc ?_ ?_ _ | with_reducible refine Below.setCell ?_ ?_ _)) <;> (first | with_reducible exact Nat.le_refl _ | with_reducible exact Hb5.out.size | (have hsz := Hb5.out.size; simp [World.setCell]; omega) | (simp; done) | (simp; omega) | omega))) hbel)
        have Hs6 := Lib.hid (Below.and (w0 := w5) (by ((repeat (first | with_reducible exact Below.refl _ _ | with_reducible refine Below.drew ?_ | with_reducible refine Below.alloc ?_ ?_ _ | with_reducible refine Below.setCell ?_ ?_ _)) <;> (first | with_reducible exact Nat.le_refl _ | (simp; done) | (simp; omega) | omega))) hbel)
        first
         | (refine At.lay (N := ?_) (cs := [.int .i64 i]) (T := 3) (At.kept ?_ hbel) ?_
            rotate_left
            . (repeat (first | with_reducible exact HL5.out | with_reducible exact At.second _ _ _ _ | with_reducible exact At.fresh _ _ _ | with_reducible refine At.drew ?_ | with_reducible refine At.alloc ?_ _))
            intro HL6)
         | skip
        have HB6 := Lib.hid (HBr.out.kept Hb6.out)
        have Hz := Lib.hid hq.any
        clear hbel hq)
     | (refine step_call rfl 114 _ _ rfl under_ent [.slice za zs.length zc, .slice (some ⟨w6.heap.size, 0, none⟩) 1 1] ?_ _ (HUi.out _ _ _ _ (RowQ.row (ok := fun _ => True) (by (repeat (first | with_reducible exact Hz.out | with_reducible refine rowq_alloc ?_ _)))) (RowQ.row (ok := fun _ => True) (rowq_at (T := 3) (by (repeat (first | with_reducible exact HL6.out | with_reducible exact At.second _ _ _ _ | with_reducible exact At.fresh _ _ _ | with_reducible refine At.drew ?_ | with_reducible refine At.alloc ?_ _))) 1 1 rfl (by omega) (ints_one [(i : Int)]) trivial))) ?_
        . go_simp
        rintro e w7 ⟨ya, yc, rfl, hq, hbel⟩
        refine ⟨_, rfl, ?_⟩
        have Hb7 := Lib.hid (Below.and (w0 := wr) (by ((repeat (first | with_reducible exact Hb6.out | with_reducible exact Below.refl _ _ | with_reducible refine Below.drew ?_ | with_reducible refine Below.alloc ?_ ?_ _ | with_reducible refine Below.setCell ?_ ?_ _)) <;> (first | with_reducible exact Nat.le_refl _ | with_reducible exact Hb6.out.size | (have hsz := Hb6.out.size; simp [World.setCell]; omega) | (simp; done) | (simp; omega) | omega))) hbel)
        have Hs7 := Lib.hid (Below.and (w0 := w6) (by ((repeat (first | with_reducible exact Below.refl _ _ | with_reducible refine Below.drew ?_ | with_reducible refine Below.alloc ?_ ?_ _ | with_reducible refine Below.setCell ?_ ?_ _)) <;> (first | with_reducible exact Nat.le_refl _ | (simp; done) | (simp; omega) | omega))) hbel)
        have HB7 := Lib.hid (HBr.out.kept Hb7.out)
        have Hy := Lib.hid (RowQ.imp hq (fun b hb => (show wr.heap.size <= b from Nat.le_trans (by (first | exact Hb6.out.size | (have hsz := Hb6.out.size; simp; omega) | exact Nat.le_refl _ | (simp; done) | (simp; omega) | omega)) hb)))
        clear hbel hq)
     | (refine step_call rfl 114 _ _ rfl under_ent [.slice za zs.length zc, .slice (some ⟨w5.heap.size, 0, none⟩) 1 1] ?_ _ (HUi.out _ _ _ _ (RowQ.row (ok := fun _ => True) (by (repeat (first | with_reducible exact Hz.out | with_reducible refine rowq_alloc ?_ _)))) (RowQ.row (ok := fun _ => True) (rowq_at (T := 3) (by (repeat (first | with_reducible exact HL6.out | with_reducible exact At.second _ _ _ _ | with_reducible exact At.fresh _ _ _ | with_reducible refine At.drew ?_ | with_reducible refine At.alloc ?_ _))) 1 1 rfl (by omega) (ints_one [(i : Int)]) trivial))) ?_
        . go_simp
        rintro e w7 ⟨ya, yc, rfl, hq, hbel⟩
        refine ⟨_, rfl, ?_⟩
        have Hb7 := Lib.hid (Below.and (w0 := wr) (by ((repeat (first | with_reducible exact Hb6.out | with_reducible exact Below.refl _ _ | with_reducible refine Below.drew ?_ | with_reducible refine Below.alloc ?_ ?_ _ | with_reducible refine Below.setCell ?_ ?_ _)) <;> (first | with_reducible exact Nat.le_refl _ | with_reducible exact Hb6.out.size | (have hsz := Hb6.out.size; simp [World.setCell]; omega) | (simp; done) | (simp; omega) | omega))) hbel)
        have Hs7 := Lib.hid (Below.and (w0 := w6) (by ((repeat (first | with_reducible exact Below.refl _ _ | with_reducible refine Below.drew ?_ | with_reducible refine Below.alloc ?_ ?_ _ | with_reducible refine Below.setCell ?_ ?_ _)) <;> (first | with_reducible exact Nat.le_refl _ | (simp; done) | (simp; omega) | omega))) hbel)
        have HB7 := Lib.hid (HBr.out.kept Hb7.out)
        have Hy := Lib.hid (RowQ.imp hq (fun b hb => (show wr.heap.size <= b from Nat.le_trans (by (first | exact Hb6.out.size | (have hsz := Hb6.out.size; simp; omega) | exact Nat.le_refl _ | (simp; done) | (simp; omega) | omega)) hb)))
        clear hbel hq)
     | (refine step_call rfl 114 _ _ rfl under_ent [.slice za zs.length zc, .slice (some ⟨wr.heap.size, 0, none⟩) 1 1] ?_ _ (HUi.out _ _ _ _ (RowQ.row (ok := fun _ => True) (by (repeat (first | with_reducible exact Hz.out | with_reducible refine rowq_alloc ?_ _)))) (RowQ.row (ok := fun _ => True) (rowq_at (T := 3) (by (repeat (first | with_reducible exact HL6.out | with_reducible exact At.second _ _ _ _ | with_reducible exact At.fresh _ _ _ | with_reducible refine At.drew ?_ | with_reducible refine At.alloc ?_ _))) 1 1 rfl (by omega) (ints_one [(i : Int)]) trivial))) ?_
        . go_simp
        rintro e w7 ⟨ya, yc, rfl, hq, hbel⟩
        refine ⟨_, rfl, ?_⟩
        have Hb7 := Lib.hid (Below.and (w0 := wr) (by ((repeat (first | with_reducible exact Hb6.out | with_reducible exact Below.refl _ _ | with_reducible refine Below.drew ?_ | with_reducible refine Below.alloc ?_ ?_ _ | with_reducible refine Below.setCell ?_ ?_ _)) <;> (first | with_reducible exact Nat.le_refl _ | with_reducible exact Hb6.out.size | (have hsz := Hb6.out.size; simp [World.setCell]; omega) | (simp; done) | (simp; omega) | omega))) hbel)
        have Hs7 := Lib.hid (Below.and (w0 := w6) (by ((repeat (first | with_reducible exact Below.refl _ _ | with_reducible refine Below.drew ?_ | with_reducible refine Below.alloc ?_ ?_ _ | with_reducible refine Below.setCell ?_ ?_ _)) <;> (first | with_reducible exact Nat.le_refl _ | (simp; done) | (simp; omega) | omega))) hbel)
        have HB7 := Lib.hid (HBr.out.kept Hb7.out)
        have Hy := Lib.hid (RowQ.imp hq (fun b hb => (show wr.heap.size <= b from Nat.le_trans (by (first | exact Hb6.out.size | (have hsz := Hb6.out.size; simp; omega) | exact Nat.le_refl _ | (simp; done) | (simp; omega) | omega)) hb)))
        clear hbel hq)
     | (refine step_push rfl _ _ rfl Tryz.underlying42 info_op w0.heap.size w0.heap.size _ L1 ?_ (HO.out.below Hb7.out) ⟨5, xs, ys, 0, zeroN, []⟩ (opCells ⟨5, xs, ys, 0, zeroN, []⟩ xa xc ya yc (.bool false) (.slice none 0 0) (.slice none 0 0) (.slice none 0 0) none 0) rfl ?_ ?_ hll ?_ ?_
        . go_simp
        . go_simp
        . exact ⟨xa, xc, ya, yc, _, _, _, _, none, 0, rfl, ((Hx.out.since Hs6.out).since Hs7.out).imp (fun b hb => ⟨Nat.le_trans hwr3 hb, HV.out b hb⟩), Hy.out.imp (fun b hb => ⟨Nat.le_trans hwr3 hb, HV.out b hb⟩), zero_q _ _, RowQ.empty _ _ _⟩
        . exact Nat.le_trans hwr3 Hb7.out.size
        intro v' w8 hO8 hb8
        have HO8 := Lib.hid hO8
        have Hb8 := Lib.hid ((Hbr.out.trans (Hb7.out.mono hwr3)).trans hb8)
        have HB8 := Lib.hid (HB7.out.keep (hb8.mono hBl))
        clear hO8 hb8))
     all_goals
      clear hld hlr
      go_wp2_with fail
      go_roundg (mk - (i + 1))
      case measure => omega
      case rel => exact ⟨i + 1, by go_num, by omega, by rw [Hsucc.out]; exact HO8.out, Hb8.out⟩
   . obtain rfl : i = mk := by omega
     clear hld hlr
     go_wp2_with fail
     go_ret
     exact ⟨_, rfl, HO.out.opsF Hb0.out.size Hb0.out.size, Hb0.out.trans (Hbr.out.mono Hb0.out.size)⟩
end Go.Proofs.YtbommcakcmhalaaGreatDoor
