/- Parts of the proof, one behind the other: RW2, RW3, RW4, RW5, ROA, RTH, RTI. -/
import Derived.Test.YtbommcakcmhalaaGreatDoorLM2
import Derived.Test.YtbommcakcmhalaaGreatDoorLM7
import Derived.Test.YtbommcakcmhalaaGreatDoorLM1
import Derived.Test.YtbommcakcmhalaaGreatDoorLM3
import Derived.Test.YtbommcakcmhalaaGreatDoorLM4
import Derived.Test.YtbommcakcmhalaaGreatDoorLM6
/- Walks: prop.Check. -/
set_option linter.unusedVariables false
set_option linter.unusedSimpArgs false
set_option maxHeartbeats 2000000
set_option maxRecDepth 100000
namespace Go.Proofs.YtbommcakcmhalaaGreatDoor
open Go.RowKit Go.Redl
theorem pcheck_c (v : Value) (B : Nat) (ps : List PropD) (w : World) (hv : ∃ a cap, v = .slice a ps.length cap /\ RowA w B 2 a ps.length cap (propCells ps)) (hB : B <= w.heap.size) (hn : propsWt ps <= 1000000000) :
 Calls Tryz.prog 107 #[v] w fun e w' => e = .returned (.int .i64 (propsE ps)) /\ Below w.heap.size w w' := by
 obtain ⟨a, cap, rfl, hr⟩ := hv
 have hm := props_len hr
 by_cases h16 : 16 < ps.length
 . have He : Hid (propsE ps = if 16 < ps.length then 2 else propsGo [] ps) := rfl
   go_enter Tryz.func107, Tryz.ntmps107
   go_wp2_with fail
   go_ret
   exact ⟨ret_int (by rw [He.out, if_pos h16]), Below.refl _ _⟩
 . have He : Hid (propsE ps = propsGo [] ps) := by
    show propsE ps = _
    unfold propsE; rw [if_neg h16]
   go_enter Tryz.func107, Tryz.ntmps107
   go_wp2_with fail
   go_loopw [3, 11] (fun s i wr => ∃ (k : Nat) (q : List UInt8), k <= ps.length /\ i = .int .i64 k /\ s = .string ⟨q.toArray⟩ /\ q = lastK ps k /\ propsGo q (ps.drop k) = propsE ps /\ Below w.heap.size w wr) (fun _ i _ => ps.length - (intOf i).toNat)
   case atStart => exact ⟨0, [], Nat.zero_le _, rfl, rfl, rfl, by rw [He.out]; rfl, Below.refl _ _⟩
   case round =>
    obtain ⟨k, q, hk, rfl, rfl, hq, hp, hbel⟩ := hrel
    have hr2 := hr.keep (hbel.mono hB) (Nat.le_refl _)
    have Hp := Lib.hid hp
    have Hb := Lib.hid hbel
    have Hq := Lib.hid hq
    clear hp hbel hq
    by_cases hlt : k < ps.length
    . have Hstep := Lib.hid (propsGo_step hlt)
      rw [<- Hq.out] at Hstep
      obtain ⟨b, off, rfl, hb, hc0, hc1⟩ := hr2.prop_at k hlt
      have hmem := propsWt_mem (List.getElem_mem hlt)
      have HK := Lib.hid (key_c ps[k].1)
      have HV := Lib.hid (val_c ps[k].2)
      have hla : Hid (lastK ps (k + 1) = ps[k].1) := by show (ps.getD k ([], [])).1 = _; rw [getD_of_lt hlt]
      generalize ps[k] = p at hc0 hc1 hmem HK HV Hstep hla
      obtain ⟨p1, p2⟩ := p
      simp only at hc0 hc1 hmem HK HV Hstep hla
      have hl1 : p1.length <= 1000000000 := by omega
      have hl2 : p2.length <= 1000000000 := by omega
      have HK1 := fun W => Lib.hid (HK.out W hl1)
      have HV1 := fun W => Lib.hid (HV.out W hl2)
      clear HK HV hmem
      cases hkey : keyB p1
      . simp only [hkey] at HK1
        go_wp2_with fail
        refine (HK1 _).out.mono ?_
        rintro e w1 ⟨rfl, hbel⟩
        have Hb1 := Lib.hid (below_then Hb.out (below_unbox (below_box hbel)) (Nat.le_refl _))
        clear hbel
        go_wp2_with fail
        go_ret
        exact ⟨ret_int (by rw [<- Hp.out, Hstep.out, hkey]; simp), Hb1.out⟩
      . simp only [hkey] at HK1
        cases hval : valB p2
        . simp only [hval] at HV1
          go_wp2_with fail
          refine (HK1 _).out.mono ?_
          rintro e w1 ⟨rfl, hbel⟩
          obtain ⟨x0, x1⟩ := box2_keep (below_box hbel)
          have Hb1 := Lib.hid (below_then Hb.out (below_unbox (below_box hbel)) (Nat.le_refl _))
          clear hbel
          go_wp2_with fail
          refine (HV1 _).out.mono ?_
          rintro e w2 ⟨rfl, hbel⟩
          have Hb2 := Lib.hid (below_then Hb1.out hbel (Nat.le_refl _))
          clear hbel x0 x1
          go_wp2_with fail
          go_ret
          exact ⟨ret_int (by rw [<- Hp.out, Hstep.out, hkey, hval]; simp), Hb2.out⟩
        . simp only [hval] at HV1
          have Hkv : Hid (propsE ps = if leB p1 q = true then 1 else propsGo (lastK ps (k + 1)) (ps.drop (k + 1))) := by
           show propsE ps = _
           rw [<- Hp.out, Hstep.out, hkey, hval]; simp
          have Hle : Hid (leB p1 q = (Op.bytesLess p1 q || p1 == q)) := rfl
          clear hkey hval
          cases hx : Op.bytesLess p1 q
          . cases hy : (p1 == q)
            . have Hlb : Hid (leB p1 q = false) := by show leB p1 q = false; rw [Hle.out, hx, hy]; rfl
              go_wp2_with fail
              refine (HK1 _).out.mono ?_
              rintro e w1 ⟨rfl, hbel⟩
              obtain ⟨x0, x1⟩ := box2_keep (below_box hbel)
              have Hb1 := Lib.hid (below_then Hb.out (below_unbox (below_box hbel)) (Nat.le_refl _))
              have Hbx := Lib.hid (below_box hbel)
              clear hbel
              go_wp2_with fail
              refine (HV1 _).out.mono ?_
              rintro e w2 ⟨rfl, hbel⟩
              obtain ⟨y0, y1⟩ := box2_keep (below_then Hbx.out hbel (by simp))
              have Hb2 := Lib.hid (below_then Hb1.out hbel (Nat.le_refl _))
              clear hbel x0 x1
              go_wp2_with fail
              go_roundw
              case rel => exact ⟨k + 1, p1, by omega, by go_num, rfl, hla.out.symm, by rw [Hkv.out, hla.out, Hlb.out]; simp, Hb2.out⟩
              case measure => simp [intOf]; omega
            . have Hlb : Hid (leB p1 q = true) := by show leB p1 q = true; rw [Hle.out, hx, hy]; rfl
              go_wp2_with fail
              refine (HK1 _).out.mono ?_
              rintro e w1 ⟨rfl, hbel⟩
              obtain ⟨x0, x1⟩ := box2_keep (below_box hbel)
              have Hb1 := Lib.hid (below_then Hb.out (below_unbox (below_box hbel)) (Nat.le_refl _))
              have Hbx := Lib.hid (below_box hbel)
              clear hbel
              go_wp2_with fail
              refine (HV1 _).out.mono ?_
              rintro e w2 ⟨rfl, hbel⟩
              obtain ⟨y0, y1⟩ := box2_keep (below_then Hbx.out hbel (by simp))
              have Hb2 := Lib.hid (below_then Hb1.out hbel (Nat.le_refl _))
              clear hbel x0 x1
              go_wp2_with fail
              go_ret
              exact ⟨ret_int (by rw [Hkv.out, Hlb.out]; simp), Hb2.out⟩
          . have Hlb : Hid (leB p1 q = true) := by show leB p1 q = true; rw [Hle.out, hx]; rfl
            go_wp2_with fail
            refine (HK1 _).out.mono ?_
            rintro e w1 ⟨rfl, hbel⟩
            obtain ⟨x0, x1⟩ := box2_keep (below_box hbel)
            have Hb1 := Lib.hid (below_then Hb.out (below_unbox (below_box hbel)) (Nat.le_refl _))
            have Hbx := Lib.hid (below_box hbel)
            clear hbel
            go_wp2_with fail
            refine (HV1 _).out.mono ?_
            rintro e w2 ⟨rfl, hbel⟩
            obtain ⟨y0, y1⟩ := box2_keep (below_then Hbx.out hbel (by simp))
            have Hb2 := Lib.hid (below_then Hb1.out hbel (Nat.le_refl _))
            clear hbel x0 x1
            go_wp2_with fail
            go_ret
            exact ⟨ret_int (by rw [Hkv.out, Hlb.out]; simp), Hb2.out⟩
    . obtain rfl : k = ps.length := by omega
      go_wp2_with fail
      go_ret
      exact ⟨ret_int (by rw [<- Hp.out, propsGo_end]), Hb.out⟩
end Go.Proofs.YtbommcakcmhalaaGreatDoor
/- Walks: node's own. -/
namespace Go.Proofs.YtbommcakcmhalaaGreatDoor
open Go.RowKit Go.Redl
theorem own_c (l : Bool) (ps : List PropD) (t : List Int) (ks : List NodeD) (v : Value) (B : Nat) (w : World) (hB : B <= w.heap.size) (hn : (NodeD.mk l ps t ks).wt <= 100000000) (hv : NodeV w B (.mk l ps t ks) v) :
 Calls Tryz.prog 55 #[v] w fun e w' => e = .returned (.int .i64 (ownE l ps t ks.length)) /\ Below w.heap.size w w' := by
 obtain ⟨ap, cp, at_, ct, ak, ck, css, rfl, hp, ht, hk, hc⟩ := hv.open
 have hwt : 1 + propsWt ps + t.length + wtAll ks = (NodeD.mk l ps t ks).wt := rfl
 have hw4 : propsWt ps <= 1000000000 := by omega
 have hkl := wtAll_len ks
 have htl : t.length <= 100000000 := by omega
 have hkl2 : ks.length <= 100000000 := by omega
 have hB0 := ((Below.refl w.heap.size w).alloc (Nat.le_refl _) (Obj.cells #[.bool l, .slice ap ps.length cp, .slice at_ t.length ct, .slice ak ks.length ck] 35))
 have HP := Lib.hid (pcheck_c (.slice ap ps.length cp) w.heap.size ps (w.alloc (Obj.cells #[.bool l, .slice ap ps.length cp, .slice at_ t.length ct, .slice ak ks.length ck] 35)) ⟨ap, cp, rfl, hp.keep (hB0.mono hB) hB⟩ (by simp) hw4)
 have HT := fun W (hW : Below w.heap.size w W) => Lib.hid (check_c _ _ t W (ht.keep (hW.mono hB) (Nat.le_refl _)))
 have Ho := Lib.hid (ownE_cases l ps t ks.length)
 clear hv hp ht hwt hn hB0 hk hc
 by_cases hpe : propsE ps ≠ 0
 . have Hr : Hid (ownE l ps t ks.length = propsE ps) := by
    show ownE l ps t ks.length = _
    rw [Ho.out, if_pos hpe]
   have hne : (propsE ps != 0) = true := by simpa using hpe
   clear hpe
   go_enter Tryz.func55, Tryz.ntmps55
   go_wp2_with fail
   refine HP.out.mono ?_
   rintro e w1 ⟨rfl, hbel⟩
   have Hb := Lib.hid (below_unbox (below_box hbel))
   clear hbel HP
   go_wp2_with fail
   go_ret
   exact ⟨ret_int Hr.out.symm, Hb.out⟩
 . have hpe : propsE ps = 0 := by simpa using hpe
   rw [hpe] at HP
   cases hbad : (l && decide (0 < ks.length)) || (!l && decide (0 < t.length)) with
   | true =>
     have Hr : Hid (ownE l ps t ks.length = 7) := by
      show ownE l ps t ks.length = _
      rw [Ho.out, hpe, hbad]; rfl
     clear hpe
     cases l with
     | true =>
       have hb2 : 0 < ks.length := by simpa using hbad
       clear hbad
       go_enter Tryz.func55, Tryz.ntmps55
       go_wp2_with fail
       refine HP.out.mono ?_
       rintro e w1 ⟨rfl, hbel⟩
       obtain ⟨x0, x1, x2, x3⟩ := box_keep (below_box hbel)
       have Hb := Lib.hid (below_unbox (below_box hbel))
       clear hbel HP
       go_wp2_with fail
       go_ret
       exact ⟨ret_int Hr.out.symm, Hb.out⟩
     | false =>
       have hb2 : 0 < t.length := by simpa using hbad
       clear hbad
       go_enter Tryz.func55, Tryz.ntmps55
       go_wp2_with fail
       refine HP.out.mono ?_
       rintro e w1 ⟨rfl, hbel⟩
       obtain ⟨x0, x1, x2, x3⟩ := box_keep (below_box hbel)
       have Hb := Lib.hid (below_unbox (below_box hbel))
       clear hbel HP
       go_wp2_with fail
       go_ret
       exact ⟨ret_int Hr.out.symm, Hb.out⟩
   | false =>
     have Hr : Hid (ownE l ps t ks.length = checkE t) := by
      show ownE l ps t ks.length = _
      rw [Ho.out, hpe, hbad]; rfl
     clear hpe
     cases l with
     | true =>
       have hb2 : ks.length <= 0 := by simp at hbad; simp [hbad]
       clear hbad
       go_enter Tryz.func55, Tryz.ntmps55
       go_wp2_with fail
       refine HP.out.mono ?_
       rintro e w1 ⟨rfl, hbel⟩
       obtain ⟨x0, x1, x2, x3⟩ := box_keep (below_box hbel)
       have Hb := Lib.hid (below_unbox (below_box hbel))
       clear hbel HP
       go_wp2_with fail
       refine (HT _ Hb.out).out.mono ?_
       rintro e w2 ⟨rfl, rfl⟩
       go_wp2_with fail
       go_ret
       exact ⟨ret_int Hr.out.symm, Hb.out⟩
     | false =>
       have hb2 : t.length <= 0 := by simp at hbad; simp [hbad]
       clear hbad
       go_enter Tryz.func55, Tryz.ntmps55
       go_wp2_with fail
       refine HP.out.mono ?_
       rintro e w1 ⟨rfl, hbel⟩
       obtain ⟨x0, x1, x2, x3⟩ := box_keep (below_box hbel)
       have Hb := Lib.hid (below_unbox (below_box hbel))
       clear hbel HP
       go_wp2_with fail
       refine (HT _ Hb.out).out.mono ?_
       rintro e w2 ⟨rfl, rfl⟩
       go_wp2_with fail
       go_ret
       exact ⟨ret_int Hr.out.symm, Hb.out⟩
end Go.Proofs.YtbommcakcmhalaaGreatDoor
/- Walks: node's walk: a function asked at each node, in order, till it says no. -/
namespace Go.Proofs.YtbommcakcmhalaaGreatDoor
open Go.RowKit Go.Redl
section
variable {S : Type} (go : NodeD -> Bool) (st : NodeD -> S -> S)
mutual
/-- What such a walk answers, and the state that it leaves. -/
def eachS : NodeD -> S -> Bool × S
 | .mk l ps t ks, s => if go (.mk l ps t ks) then kidsS ks (st (.mk l ps t ks) s) else (false, st (.mk l ps t ks) s)
def kidsS : List NodeD -> S -> Bool × S
 | [], s => (true, s)
 | k :: ks, s => if (eachS k s).1 then kidsS ks (eachS k s).2 else (false, (eachS k s).2)
end
theorem kidsS_step {ks : List NodeD} {k : Nat} {s : S} (h : k < ks.length) : kidsS go st (ks.drop k) s = if (eachS go st ks[k] s).1 then kidsS go st (ks.drop (k + 1)) (eachS go st ks[k] s).2 else (false, (eachS go st ks[k] s).2) := by
 conv => lhs; rw [List.drop_eq_getElem_cons h]
 simp only [kidsS]
end
/-- The asked function's contract. -/
def AskC {S : Type} (Φ : S -> World -> Prop) (bad : TypeId -> Bool) (B cb : Nat) (caps : Array Value) (go : NodeD -> Bool) (st : NodeD -> S -> S) (M : Nat) : Prop :=
 ∀ (n : NodeD) (v : Value) (s : S) (W : World), n.wt <= M -> NodeV W B n v -> B <= W.heap.size -> Φ s W ->
   Calls Tryz.prog cb (#[v] ++ caps) W fun e w' => e = .returned (.bool (go n)) /\ Φ (st n s) w' /\ Spares bad B W w'
/-- The walk's two variables. -/
def EnvAt (W : World) (tb eb cb : Nat) (caps : Array Value) : Prop :=
 W.heap[tb]? = some (Obj.cells #[.func (.func cb) #[] caps] 97 (0, 0)) /\ W.heap[eb]? = some (Obj.cells #[.func (.func 105) #[] #[.pointer (some ⟨tb, 0, none⟩), .pointer (some ⟨eb, 0, none⟩)]] 97 (0, 0))
theorem EnvAt.keep {W W' : World} {tb eb cb B : Nat} {caps : Array Value} {bad : TypeId -> Bool} (h : EnvAt W tb eb cb caps) (hs : Spares bad B W W') (hb : bad 97 = false) : EnvAt W' tb eb cb caps :=
 ⟨hs.block _ _ _ _ h.1 hb, hs.block _ _ _ _ h.2 hb⟩
theorem EnvAt.cells {W : World} {tb eb cb : Nat} {caps : Array Value} (h : EnvAt W tb eb cb caps) :
 W.cell? ⟨tb, 0, none⟩ = some (.func (.func cb) #[] caps) /\ W.cell? ⟨eb, 0, none⟩ = some (.func (.func 105) #[] #[.pointer (some ⟨tb, 0, none⟩), .pointer (some ⟨eb, 0, none⟩)]) /\ tb < W.heap.size /\ eb < W.heap.size :=
 ⟨by rw [cell_of_row _ _ _ _ _ _ h.1]; rfl, by rw [cell_of_row _ _ _ _ _ _ h.2]; rfl, (Array.getElem?_eq_some_iff.1 h.1).1, (Array.getElem?_eq_some_iff.1 h.2).1⟩
/-- What a call of the walk's own function leaves. -/
def EachP {S : Type} (Φ : S -> World -> Prop) (bad : TypeId -> Bool) (B : Nat) (W : World) (b : Bool) (s : S) (e : Ending) (w' : World) : Prop := e = .returned (.bool b) /\ Φ s w' /\ Spares bad B W w'
/-- What IndexFunc leaves there. -/
def IdxP {S : Type} (Φ : S -> World -> Prop) (bad : TypeId -> Bool) (B : Nat) (W : World) (b : Bool) (s : S) (e : Ending) (w' : World) : Prop := ∃ i : Int, e = .returned (.int .i64 i) /\ decide (0 <= i) = !b /\ Φ s w' /\ Spares bad B W w'
section
variable {S : Type} {Φ : S -> World -> Prop} {bad : TypeId -> Bool} {B tb eb cb : Nat} {caps : Array Value} {go : NodeD -> Bool} {st : NodeD -> S -> S} {M : Nat}
theorem kid_c (hΦ : ∀ s W W', Φ s W -> Below W.heap.size W W' -> Φ s W') (hbad : bad 97 = false) (q : NodeD) (v : Value) (s : S) (W : World) (hE : EnvAt W tb eb cb caps) (hv : NodeV W B q v) (hB : B <= W.heap.size) (hs : Φ s W)
 (hC : ∀ W', NodeV W' B q v -> B <= W'.heap.size -> EnvAt W' tb eb cb caps -> Φ s W' -> Calls Tryz.prog 105 #[v, .pointer (some ⟨tb, 0, none⟩), .pointer (some ⟨eb, 0, none⟩)] W' (EachP Φ bad B W' (eachS go st q s).1 (eachS go st q s).2)) :
 Calls Tryz.prog 106 #[v, .pointer (some ⟨eb, 0, none⟩)] W (EachP Φ bad B W (!(eachS go st q s).1) (eachS go st q s).2) := by
 have hv0 := hv
 obtain ⟨l, ps, t, ks⟩ := q
 obtain ⟨ap, cp, at_, ct, ak, ck, css, rfl, -, -, -, -⟩ := hv0.open
 generalize NodeD.mk l ps t ks = q at hv hC ⊢
 generalize eachS go st q s = r at hC ⊢
 obtain ⟨b, s'⟩ := r
 have hS0 : Spares bad B W (W.alloc (Obj.cells #[.bool l, .slice ap ps.length cp, .slice at_ t.length ct, .slice ak ks.length ck] 35)) := (Spares.refl hB).alloc hB _
 have HC := Lib.hid (hC _ (hv.keep hS0.below (Nat.le_refl _)) (Nat.le_trans hB hS0.size) (hE.keep hS0 hbad) (hΦ _ _ _ hs ((Below.refl _ _).alloc (Nat.le_refl _) _)))
 obtain ⟨e1, e2, l1, l2⟩ := hE.cells
 have HS0 := Lib.hid hS0
 clear hC hv0 hv hE hs hS0 e1
 go_enter Tryz.func106, Tryz.ntmps106
 go_wp2_with fail
 refine HC.out.mono ?_
 rintro e w1 ⟨rfl, hφ, hsp⟩
 have Hφ := Lib.hid hφ
 have HS := Lib.hid (HS0.out.trans hsp)
 clear hφ hsp HC
 go_wp2_with fail
 go_ret
 exact ⟨rfl, Hφ.out, HS.out⟩
theorem idxKids_c (ks : List NodeD) (a : Option Addr) (cap : Nat) (css : List Value) (s : S) (W : World) (hE : EnvAt W tb eb cb caps) (hbad : bad 97 = false) (hr : RowA W B 4 a ks.length cap css) (hk : KidsC W B ks css) (hB : B <= W.heap.size) (hs : Φ s W)
 (hC : ∀ (q : NodeD) (v : Value) (s : S) (W' : World), q ∈ ks -> NodeV W' B q v -> B <= W'.heap.size -> EnvAt W' tb eb cb caps -> Φ s W' -> Calls Tryz.prog 106 #[v, .pointer (some ⟨eb, 0, none⟩)] W' (EachP Φ bad B W' (!(eachS go st q s).1) (eachS go st q s).2)) :
 Calls Tryz.prog 163 #[.slice a ks.length cap, .func (.func 106) #[] #[.pointer (some ⟨eb, 0, none⟩)]] W (IdxP Φ bad B W (kidsS go st ks s).1 (kidsS go st ks s).2) := by
 have HC := Lib.hid hC; have HE := Lib.hid hE
 have hm := props_len hr
 have Hst := fun (s' : S) (W' : World) (h : Φ s' W') => h
 have Hs := Lib.hid hs
 obtain ⟨R, hR⟩ : ∃ R, R = kidsS go st ks s := ⟨_, rfl⟩
 rw [<- hR]
 have HR := Lib.hid hR
 clear hC hE hs Hst hR
 go_enter Tryz.func163, Tryz.ntmps163
 go_wp2_with fail
 go_loopw [8] (fun i wr => ∃ (k : Nat) (s' : S), k <= ks.length /\ i = .int .i64 k /\ kidsS go st (ks.drop k) s' = R /\ Φ s' wr /\ Spares bad B W wr) (fun i _ => ks.length - (intOf i).toNat)
 case atStart => exact ⟨0, s, Nat.zero_le _, rfl, HR.out.symm, Hs.out, Spares.refl hB⟩
 case round =>
  obtain ⟨k, s', hkn, rfl, hke, hφ, hsp⟩ := hrel
  have hr2 := hr.keep hsp.below (Nat.le_refl _)
  have hc2 := KidsC.keep hsp.below (Nat.le_refl _) ks css hk
  have Hke := Lib.hid hke; have Hφ := Lib.hid hφ; have Hsp := Lib.hid hsp
  clear hke hφ hsp
  by_cases hlt : k < ks.length
  . have Hss := Lib.hid (kidsS_step go st (s := s') hlt)
    have hmem := List.getElem_mem hlt
    obtain ⟨b, off, l', a1, n1, c1, a2, n2, c2, a3, n3, c3, rfl, hb, hnc, g0, g1, g2, g3⟩ := hr2.kid_at hc2 k hlt
    generalize ks[k] = q at hnc hmem Hss
    have HC1 := Lib.hid (HC.out q (.agg #[.bool l', .slice a1 n1 c1, .slice a2 n2 c2, .slice a3 n3 c3]) s' wr hmem ⟨_, rfl, hnc⟩ (Nat.le_trans hB Hsp.out.size) (HE.out.keep Hsp.out hbad) Hφ.out)
    have he : ∀ args w, (callFunc 106 args).run Tryz.prog w = .ok (.enter 106 args) w := by intro args w; kernel_rfl
    generalize eachS go st q s' = r at HC1 Hss
    obtain ⟨b', s2⟩ := r
    clear hmem hnc hr2 hc2
    cases b' with
    | true =>
      have HR2 : Hid (kidsS go st (ks.drop (k + 1)) s2 = R) := by
       show kidsS go st _ _ = R
       rw [<- Hke.out, Hss.out]; rfl
      go_wp2_with fail
      refine HC1.out.mono ?_
      rintro e w1 ⟨rfl, hφ, hsp⟩
      have Hφ2 := Lib.hid hφ; have Hsp2 := Lib.hid (Hsp.out.trans hsp)
      clear hφ hsp
      go_wp2_with fail
      go_roundw
      case rel => exact ⟨k + 1, s2, by omega, by go_num, HR2.out, Hφ2.out, Hsp2.out⟩
      case measure => simp [intOf]; omega
    | false =>
      have HR2 : Hid ((false, s2) = R) := by
       show _ = R
       rw [<- Hke.out, Hss.out]; rfl
      go_wp2_with fail
      refine HC1.out.mono ?_
      rintro e w1 ⟨rfl, hφ, hsp⟩
      have Hφ2 := Lib.hid hφ; have Hsp2 := Lib.hid (Hsp.out.trans hsp)
      clear hφ hsp
      go_wp2_with fail
      go_ret
      refine ⟨(k : Int), rfl, ?_, ?_, Hsp2.out⟩
      . rw [<- HR2.out]; simp
      . rw [<- HR2.out]; exact Hφ2.out
  . obtain rfl : k = ks.length := by omega
    have HR2 : Hid ((true, s') = R) := by
     show _ = R
     rw [<- Hke.out, List.drop_length]; rfl
    go_wp2_with fail
    go_ret
    refine ⟨-1, rfl, ?_, ?_, Hsp.out⟩
    . rw [<- HR2.out]; rfl
    . rw [<- HR2.out]; exact Hφ.out
theorem hasKids_c (a : Option Addr) (n cap : Nat) (b : Bool) (s' : S) (W : World) (f : Value)
 (hC : Calls Tryz.prog 163 #[.slice a n cap, f] W (IdxP Φ bad B W b s')) :
 Calls Tryz.prog 88 #[.slice a n cap, f] W (EachP Φ bad B W (!b) s') := by
 have HC := Lib.hid hC
 clear hC
 go_enter Tryz.func88, Tryz.ntmps88
 go_wp2_with fail
 refine HC.out.mono ?_
 rintro e w1 ⟨i, rfl, hi, hφ, hsp⟩
 have Hφ := Lib.hid hφ; have Hsp := Lib.hid hsp; have Hi := Lib.hid hi
 clear hφ hsp hi HC
 go_wp2_with fail
 go_ret
 exact ⟨ret_bool Hi.out, Hφ.out, Hsp.out⟩
theorem each_c (hΦ : ∀ s W W', Φ s W -> Below W.heap.size W W' -> Φ s W') (hb1 : bad 97 = false) (hb2 : bad 35 = false) (hcb : ∀ args w, (callFunc cb args).run Tryz.prog w = .ok (.enter cb args) w) (hA : AskC Φ bad B cb caps go st M) (m : Nat) :
 ∀ (n : NodeD) (v : Value) (s : S) (W : World), n.wt <= m -> n.wt <= M -> NodeV W B n v -> B <= W.heap.size -> EnvAt W tb eb cb caps -> Φ s W ->
   Calls Tryz.prog 105 #[v, .pointer (some ⟨tb, 0, none⟩), .pointer (some ⟨eb, 0, none⟩)] W (EachP Φ bad B W (eachS go st n s).1 (eachS go st n s).2) := by
 induction m with
 | zero => intro n v s W hm; have := wt_pos n; omega
 | succ m ih =>
   intro n v s W hm hM hv hB hE hs
   have IH := Lib.hid ih
   have hv0 := hv
   obtain ⟨l, ps, t, ks⟩ := n
   obtain ⟨ap, cp, at_, ct, ak, ck, css, rfl, hp, ht, hk, hc⟩ := hv0.open
   have hwt : 1 + propsWt ps + t.length + wtAll ks = (NodeD.mk l ps t ks).wt := rfl
   have hw3 : ∀ q ∈ ks, q.wt <= m /\ q.wt <= M := fun q hq => by have := wtAll_mem hq; omega
   have Hw3 := Lib.hid hw3
   have hR : Hid (eachS go st (.mk l ps t ks) s = if go (.mk l ps t ks) then kidsS go st ks (st (.mk l ps t ks) s) else (false, st (.mk l ps t ks) s)) := rfl
   have hS0 : Spares bad B W (W.alloc (Obj.cells #[.bool l, .slice ap ps.length cp, .slice at_ t.length ct, .slice ak ks.length ck] 35)) := (Spares.refl hB).alloc hB _
   have HA := Lib.hid (hA (.mk l ps t ks) _ s _ hM (hv.keep hS0.below (Nat.le_refl _)) (Nat.le_trans hB hS0.size) (hΦ _ _ _ hs ((Below.refl _ _).alloc (Nat.le_refl _) _)))
   obtain ⟨e1, e2, l1, l2⟩ := hE.cells
   have HS0 := Lib.hid hS0; have HE := Lib.hid hE
   have Hk := Lib.hid hk; have Hc := Lib.hid hc
   generalize st (.mk l ps t ks) s = s1 at HA hR
   obtain ⟨R, hRR⟩ : ∃ R, R = eachS go st (.mk l ps t ks) s := ⟨_, rfl⟩
   rw [<- hRR]
   have HR : Hid (R = if go (.mk l ps t ks) then kidsS go st ks s1 else (false, s1)) := by
    show R = _
    rw [hRR, hR.out]
   clear hv0 hv hE hs hS0 hp ht hk hc hwt hw3 hm hM hR hRR ih hA
   cases hgo : go (.mk l ps t ks) with
   | false =>
     rw [hgo] at HA HR
     go_enter Tryz.func105, Tryz.ntmps105
     go_wp2_with fail
     refine HA.out.mono ?_
     rintro e w1 ⟨rfl, hφ, hsp⟩
     have Hφ := Lib.hid hφ; have HS := Lib.hid (HS0.out.trans hsp)
     clear hφ hsp HA
     go_wp2_with fail
     go_ret
     refine ⟨?_, ?_, HS.out⟩
     . rw [HR.out]; rfl
     . rw [HR.out]; exact Hφ.out
   | true =>
     rw [hgo] at HA HR
     have HK := fun (w1 : World) (hφ : Φ s1 w1) (hs : Spares bad B W w1) => Lib.hid (hasKids_c _ _ _ _ _ _ _ (idxKids_c (go := go) (st := st) ks ak ck css s1 w1 (HE.out.keep hs hb1) hb1 (Hk.out.keep hs.below (Nat.le_refl _)) (KidsC.keep hs.below (Nat.le_refl _) ks css Hc.out) (Nat.le_trans hB hs.size) hφ
      (fun q v s W' hq hv hB' hE' hφ' => kid_c hΦ hb1 q v s W' hE' hv hB' hφ' (fun W2 hv2 hB2 hE2 hφ2 => IH.out q v s W2 (Hw3.out q hq).1 (Hw3.out q hq).2 hv2 hB2 hE2 hφ2))))
     have HR2 : Hid (R = kidsS go st ks s1) := by
      show R = _
      rw [HR.out]; rfl
     generalize kidsS go st ks s1 = r at HK HR2
     obtain ⟨b, s2⟩ := r
     clear HR Hw3 IH Hk Hc HE
     have hmf : ∀ (fn : Fn) (first cap : Array Value) (w : World), (Instr.makeFunc fn first cap).run Tryz.prog w = .ok (.func fn first cap) w := fun _ _ _ _ => rfl
     go_enter Tryz.func105, Tryz.ntmps105
     go_wp2_with fail
     refine HA.out.mono ?_
     rintro e w1 ⟨rfl, hφ, hsp⟩
     obtain ⟨x0, x1, x2, x3⟩ := hsp.box4 hb2
     have HS := Lib.hid (HS0.out.trans hsp)
     have HK1 := HK w1 hφ HS.out
     clear hφ hsp HA HK
     go_wp2_with fail
     refine HK1.out.mono ?_
     rintro e w2 ⟨rfl, hφ, hsp⟩
     have Hφ := Lib.hid hφ; have HS2 := Lib.hid (HS.out.trans hsp)
     clear hφ hsp HK1 x0 x1 x2 x3
     cases b <;> (
      go_wp2_with fail
      go_ret
      refine ⟨?_, ?_, HS2.out⟩
      . rw [HR2.out]; rfl
      . rw [HR2.out]; exact Hφ.out)
end
end Go.Proofs.YtbommcakcmhalaaGreatDoor
/- Walks: node's walk, Size, Check. -/
namespace Go.Proofs.YtbommcakcmhalaaGreatDoor
open Go.RowKit Go.Redl
theorem env_new (W : World) (o : Obj) (cb : Nat) (caps : Array Value) : EnvAt (((W.alloc o).alloc (Obj.cells #[.func (.func cb) #[] caps] 97)).alloc (Obj.cells #[.func (.func 105) #[] #[.pointer (some ⟨W.heap.size + 1, 0, none⟩), .pointer (some ⟨W.heap.size + 1 + 1, 0, none⟩)]] 97))
 (W.heap.size + 1) (W.heap.size + 1 + 1) cb caps := by
 constructor
 . rw [Below.heap_alloc _ _ _ (by simp)]
   have h := heap_alloc_new (W.alloc o) (Obj.cells #[.func (.func cb) #[] caps] 97)
   simpa using h
 . have h := heap_alloc_new ((W.alloc o).alloc (Obj.cells #[.func (.func cb) #[] caps] 97)) (Obj.cells #[.func (.func 105) #[] #[.pointer (some ⟨W.heap.size + 1, 0, none⟩), .pointer (some ⟨W.heap.size + 1 + 1, 0, none⟩)]] 97)
   simpa using h
theorem below_three (W : World) (o1 o2 o3 : Obj) : Below W.heap.size W (((W.alloc o1).alloc o2).alloc o3) :=
 (((Below.refl _ _).alloc (Nat.le_refl _) o1).alloc (by simp) o2).alloc (by simp; omega) o3
section
variable {S : Type} {Φ : S -> World -> Prop} {bad : TypeId -> Bool} {B cb : Nat} {caps : Array Value} {go : NodeD -> Bool} {st : NodeD -> S -> S} {M : Nat}
theorem walk_c (hΦ : ∀ s W W', Φ s W -> Below W.heap.size W W' -> Φ s W') (hb1 : bad 97 = false) (hb2 : bad 35 = false) (hcb : ∀ args w, (callFunc cb args).run Tryz.prog w = .ok (.enter cb args) w) (hA : AskC Φ bad B cb caps go st M)
 (n : NodeD) (v : Value) (s : S) (W : World) (hM : n.wt <= M) (hv : NodeV W B n v) (hB : B <= W.heap.size) (hs : Φ s W) :
   Calls Tryz.prog 53 #[v, .func (.func cb) #[] caps] W (EachP Φ bad B W (eachS go st n s).1 (eachS go st n s).2) := by
 have hv0 := hv
 obtain ⟨l, ps, t, ks⟩ := n
 obtain ⟨ap, cp, at_, ct, ak, ck, css, rfl, -, -, -, -⟩ := hv0.open
 generalize NodeD.mk l ps t ks = n at hv hM ⊢
 have HE := fun (tb eb : Nat) (W' : World) (hE : EnvAt W' tb eb cb caps) (hW : Below W.heap.size W W') => Lib.hid (each_c (tb := tb) (eb := eb) hΦ hb1 hb2 hcb hA _ n _ s W' (Nat.le_refl _) hM (hv.keep (hW.mono hB) (Nat.le_refl _)) (Nat.le_trans hB hW.size) hE (hΦ _ _ _ hs hW))
 have HS := fun (W' w' : World) (hW : Below W.heap.size W W') (hS : Spares bad B W' w') => (Spares.of_below (bad := bad) hW hB).trans hS
 generalize eachS go st n s = r at HE ⊢
 obtain ⟨b, s'⟩ := r
 have HE := Lib.hid HE
 have HS := Lib.hid HS
 have hmf : ∀ (fn : Fn) (first cap : Array Value) (w : World), (Instr.makeFunc fn first cap).run Tryz.prog w = .ok (.func fn first cap) w := fun _ _ _ _ => rfl
 have hst := fun (W : World) (a : Addr) (fn : Fn) (first cap : Array Value) (m : Mode) => run_store Tryz.prog W a (.func fn first cap) m rfl
 clear hv0 hv hA hs hM
 go_enter Tryz.func53, Tryz.ntmps53
 go_wp2_with fail
 refine (HE.out _ _ _ (env_new W _ cb caps) (below_three _ _ _ _)).out.mono ?_
 rintro e w1 ⟨rfl, hφ, hsp⟩
 have Hφ := Lib.hid hφ; have HSp := Lib.hid (HS.out _ _ (below_three _ _ _ _) hsp)
 clear hφ hsp
 go_wp2_with fail
 go_ret
 exact ⟨rfl, Hφ.out, HSp.out⟩
end
/-- A cell of a number. -/
def CellI (T : TypeId) (b : Nat) (x : Int) (W : World) : Prop := W.heap[b]? = some (Obj.cells #[.int .i64 x] T (0, 0))
theorem CellI.keep {T : TypeId} {b : Nat} {x : Int} {W W' : World} (h : CellI T b x W) (hb : Below W.heap.size W W') : CellI T b x W' := by
 unfold CellI at *
 rw [hb.block b (Array.getElem?_eq_some_iff.1 h).1]; exact h
theorem CellI.cell {T : TypeId} {b : Nat} {x : Int} {W : World} (h : CellI T b x W) : W.cell? ⟨b, 0, none⟩ = some (.int .i64 x) /\ W.frozen? ⟨b, 0, none⟩ = false /\ b < W.heap.size := by
 unfold CellI at h
 exact ⟨by rw [cell_of_row _ _ _ _ _ _ h]; rfl, by simp [World.frozen?, h], (Array.getElem?_eq_some_iff.1 h).1⟩
theorem CellI.set_ {T : TypeId} {b : Nat} {x y : Int} {W : World} (h : CellI T b x W) : CellI T b y (W.setCell ⟨b, 0, none⟩ (.int .i64 y)) := by
 unfold CellI at *
 simp [World.setCell, Array.getElem?_modify, h]
/-- The sum so far. -/
def SumAt (b : Nat) (s : Nat) (W : World) : Prop := ∃ x : Int, x = wrap64 (s : Int) /\ CellI 3 b x W
def txtLen : NodeD -> Nat
 | .mk _ _ t _ => t.length
def badInt (T : TypeId) : Bool := T == 3
theorem wrap64_add (a b : Int) : wrap64 (wrap64 a + b) = wrap64 (a + b) := by
 unfold wrap64; omega
def goSize : NodeD -> Bool := fun _ => true
def stSize (n : NodeD) (s : Nat) : Nat := s + (1 + txtLen n)
theorem size1_c (b B M : Nat) (hBb : B <= b) (hM : M <= 1000000000) : AskC (SumAt b) badInt B 68 #[.pointer (some ⟨b, 0, none⟩)] goSize stSize M := by
 intro n v s W hn hv hB hs
 have hv0 := hv
 obtain ⟨l, ps, t, ks⟩ := n
 obtain ⟨ap, cp, at_, ct, ak, ck, css, rfl, -, -, -, -⟩ := hv0.open
 have hwt : 1 + propsWt ps + t.length + wtAll ks = (NodeD.mk l ps t ks).wt := rfl
 have htl : t.length <= 1000000000 := by omega
 obtain ⟨x, hx, hc⟩ := hs
 obtain ⟨c1, c2, c3⟩ := hc.cell
 have Hx := Lib.hid hx
 have Hc := Lib.hid hc
 have Hst : Hid (txtLen (.mk l ps t ks) = t.length) := rfl
 clear hv0 hv hx hc hwt hn
 show Calls Tryz.prog 68 #[_, _] W _
 go_enter Tryz.func68, Tryz.ntmps68
 go_wp2_with fail
 go_ret
 refine ⟨rfl, ⟨_, ?_, (Hc.out.set_).keep ((Below.refl _ _).alloc (Nat.le_refl _) _)⟩, ?_⟩
 . show _ = wrap64 ((s + (1 + txtLen (.mk l ps t ks)) : Nat) : Int)
   rw [Hst.out, Hx.out, wrap64_add, Int.natCast_add, Int.natCast_add]; rfl
 . exact ((Spares.refl hB).setCell Hc.out rfl hBb _).alloc hB _
def badErr (T : TypeId) : Bool := T == 39
def ownN : NodeD -> Int
 | .mk l ps t ks => ownE l ps t ks.length
def goCheck (n : NodeD) : Bool := ownN n == 0
def stCheck (n : NodeD) (_ : Int) : Int := ownN n
theorem ask_c (b B M : Nat) (hBb : B <= b) (hM : M <= 100000000) : AskC (CellI 39 b) badErr B 54 #[.pointer (some ⟨b, 0, none⟩)] goCheck stCheck M := by
 intro n v s W hn hv hB hs
 have hv0 := hv
 obtain ⟨l, ps, t, ks⟩ := n
 obtain ⟨ap, cp, at_, ct, ak, ck, css, rfl, -, -, -, -⟩ := hv0.open
 have hW1 : Below W.heap.size W (W.alloc (Obj.cells #[.bool l, .slice ap ps.length cp, .slice at_ t.length ct, .slice ak ks.length ck] 35)) := (Below.refl _ _).alloc (Nat.le_refl _) _
 have HO := Lib.hid (own_c l ps t ks _ B _ (Nat.le_trans hB hW1.size) (by omega) (hv.keep (hW1.mono hB) (Nat.le_refl _)))
 have Hst : Hid (goCheck (.mk l ps t ks) = (ownE l ps t ks.length == 0)) := rfl
 have Hst2 : Hid (stCheck (.mk l ps t ks) s = ownE l ps t ks.length) := rfl
 have HW1 := Lib.hid hW1
 have Hs := Lib.hid hs
 generalize NodeD.mk l ps t ks = n at Hst Hst2 ⊢
 show Calls Tryz.prog 54 #[.agg #[.bool l, .slice ap ps.length cp, .slice at_ t.length ct, .slice ak ks.length ck], .pointer (some ⟨b, 0, none⟩)] W _
 rw [Hst.out, Hst2.out]
 generalize ownE l ps t ks.length = x at HO ⊢
 clear hv0 hv hn hs hW1
 by_cases hx : x = 0
 . subst hx
   go_enter Tryz.func54, Tryz.ntmps54
   go_wp2_with fail
   refine HO.out.mono ?_
   rintro e w1 ⟨rfl, hbel⟩
   have Hb := Lib.hid (below_then HW1.out hbel (Nat.le_refl _))
   have Hc := Lib.hid (Hs.out.keep Hb.out)
   obtain ⟨c1, c2, c3⟩ := Hc.out.cell
   clear hbel HO
   go_wp2_with fail
   go_ret
   exact ⟨rfl, Hc.out.set_, (Spares.of_below Hb.out hB).setCell Hc.out rfl hBb _⟩
 . have hxb : (x == 0) = false := by simpa using hx
   have Hxb := Lib.hid hxb
   clear hx
   go_enter Tryz.func54, Tryz.ntmps54
   go_wp2_with fail
   refine HO.out.mono ?_
   rintro e w1 ⟨rfl, hbel⟩
   have Hb := Lib.hid (below_then HW1.out hbel (Nat.le_refl _))
   have Hc := Lib.hid (Hs.out.keep Hb.out)
   obtain ⟨c1, c2, c3⟩ := Hc.out.cell
   clear hbel HO
   go_wp2_with fail
   go_ret
   exact ⟨ret_bool Hxb.out.symm, Hc.out.set_, (Spares.of_below Hb.out hB).setCell Hc.out rfl hBb _⟩
theorem eachS_mk {S : Type} (go : NodeD -> Bool) (st : NodeD -> S -> S) (l : Bool) (ps : List PropD) (t : List Int) (ks : List NodeD) (s : S) : eachS go st (.mk l ps t ks) s = if go (.mk l ps t ks) then kidsS go st ks (st (.mk l ps t ks) s) else (false, st (.mk l ps t ks) s) := by
 rw [eachS]
theorem kidsS_cons {S : Type} (go : NodeD -> Bool) (st : NodeD -> S -> S) (k : NodeD) (ks : List NodeD) (s : S) : kidsS go st (k :: ks) s = if (eachS go st k s).1 then kidsS go st ks (eachS go st k s).2 else (false, (eachS go st k s).2) := by
 rw [kidsS]
mutual
theorem eachS_size : ∀ (n : NodeD) (s : Nat), eachS goSize stSize n s = (true, s + sizeN n)
 | .mk l ps t ks, s => by
   have hg : goSize (.mk l ps t ks) = true := rfl
   rw [eachS_mk, hg, if_pos rfl, kidsS_size ks]
   have : sizeN (.mk l ps t ks) = 1 + t.length + sizeK ks := by rw [sizeN]
   rw [this]
   show (true, s + (1 + t.length) + sizeK ks) = _
   congr 1; omega
theorem kidsS_size : ∀ (ks : List NodeD) (s : Nat), kidsS goSize stSize ks s = (true, s + sizeK ks)
 | [], s => by simp [kidsS, sizeK]
 | k :: ks, s => by
   rw [kidsS_cons, eachS_size k, if_pos rfl, kidsS_size ks]
   have : sizeK (k :: ks) = sizeN k + sizeK ks := by rw [sizeK]
   rw [this]
   congr 1; omega
end
theorem nodeE_mk (l : Bool) (ps : List PropD) (t : List Int) (ks : List NodeD) : nodeE (.mk l ps t ks) = if ownE l ps t ks.length ≠ 0 then ownE l ps t ks.length else kidsE ks := by rw [nodeE]
theorem kidsE_cons (k : NodeD) (ks : List NodeD) : kidsE (k :: ks) = if nodeE k ≠ 0 then nodeE k else kidsE ks := by rw [kidsE]
mutual
theorem eachS_check : ∀ (n : NodeD) (s : Int), eachS goCheck stCheck n s = (nodeE n == 0, nodeE n)
 | .mk l ps t ks, s => by
   have hg : goCheck (.mk l ps t ks) = (ownE l ps t ks.length == 0) := rfl
   have hs : stCheck (.mk l ps t ks) s = ownE l ps t ks.length := rfl
   rw [eachS_mk, hg, hs, nodeE_mk]
   by_cases h : ownE l ps t ks.length = 0
   . rw [h]; simp [kidsS_check ks]
   . rw [if_neg (by simpa using h), if_pos h]
     simp [h]
theorem kidsS_check : ∀ (ks : List NodeD), kidsS goCheck stCheck ks 0 = (kidsE ks == 0, kidsE ks)
 | [] => by rw [kidsS, kidsE]; rfl
 | k :: ks => by
   rw [kidsS_cons, eachS_check k, kidsE_cons]
   by_cases h : nodeE k = 0
   . rw [h]; simp [kidsS_check ks]
   . rw [if_neg (by simpa using h), if_pos h]
     simp [h]
end
theorem nsize_c (n : NodeD) (v : Value) (B : Nat) (W : World) (hn : n.wt <= 100000000) (hv : NodeV W B n v) (hB : B <= W.heap.size) :
 Calls Tryz.prog 19 #[v] W fun e w' => e = .returned (.int .i64 (sizeN n)) /\ Below W.heap.size W w' := by
 have hv0 := hv
 obtain ⟨l, ps, t, ks⟩ := n
 obtain ⟨ap, cp, at_, ct, ak, ck, css, rfl, -, -, -, -⟩ := hv0.open
 have hsz := sizeN_le (.mk l ps t ks)
 generalize NodeD.mk l ps t ks = n at hv hn hsz ⊢
 have hW1 : Below W.heap.size W (W.alloc (Obj.cells #[.bool l, .slice ap ps.length cp, .slice at_ t.length ct, .slice ak ks.length ck] 35)) := (Below.refl _ _).alloc (Nat.le_refl _) _
 have hW2 := hW1.alloc (o := Obj.cells #[.int .i64 0] 3) (by simp)
 have hv2 := hv.keep (hW2.mono hB) hB
 have hc0 : SumAt (W.heap.size + 1) 0 ((W.alloc (Obj.cells #[.bool l, .slice ap ps.length cp, .slice at_ t.length ct, .slice ak ks.length ck] 35)).alloc (Obj.cells #[.int .i64 0] 3)) := by
  refine ⟨0, (IntWalk.wrap64_in 0 (by omega)).symm, ?_⟩
  have h := heap_alloc_new (W.alloc (Obj.cells #[.bool l, .slice ap ps.length cp, .slice at_ t.length ct, .slice ak ks.length ck] 35)) (Obj.cells #[.int .i64 0] 3)
  simpa [CellI] using h
 have HW := Lib.hid (walk_c (Φ := SumAt (W.heap.size + 1)) (bad := badInt) (M := 100000000) (fun s W W' h hb => by obtain ⟨x, h1, h2⟩ := h; exact ⟨x, h1, h2.keep hb⟩) rfl rfl (by intro args w; kernel_rfl)
  (size1_c (W.heap.size + 1) W.heap.size 100000000 (by omega) (by omega)) n _ 0 _ hn hv2 hW2.size hc0)
 rw [eachS_size, Nat.zero_add] at HW
 have hw0 : wrap64 (sizeN n : Int) = sizeN n := IntWalk.wrap64_in _ (by omega)
 have Hw0 := Lib.hid hw0
 have hmf : ∀ (fn : Fn) (first cap : Array Value) (w : World), (Instr.makeFunc fn first cap).run Tryz.prog w = .ok (.func fn first cap) w := fun _ _ _ _ => rfl
 have HW2 := Lib.hid hW2
 clear hv0 hv hsz hW1 hv2 hc0 hn hw0 hW2
 go_enter Tryz.func19, Tryz.ntmps19
 go_wp2_with fail
 refine HW.out.mono ?_
 rintro e w1 ⟨rfl, ⟨x, hx, hc⟩, hsp⟩
 rw [Hw0.out] at hx
 subst hx
 obtain ⟨c1, c2, c3⟩ := hc.cell
 have Hb := Lib.hid (HW2.out.trans hsp.below)
 clear hc hsp HW
 go_wp2_with fail
 go_ret
 exact ⟨rfl, Hb.out⟩
theorem ncheck_c (n : NodeD) (v : Value) (B : Nat) (W : World) (hn : n.wt <= 1048576) (hv : NodeV W B n v) (hB : B <= W.heap.size) :
 Calls Tryz.prog 12 #[v] W fun e w' => e = .returned (.int .i64 (nodeE n)) /\ Below W.heap.size W w' := by
 have hv0 := hv
 obtain ⟨l, ps, t, ks⟩ := n
 obtain ⟨ap, cp, at_, ct, ak, ck, css, rfl, -, -, -, -⟩ := hv0.open
 have hsz := sizeN_le (.mk l ps t ks)
 generalize NodeD.mk l ps t ks = n at hv hn hsz ⊢
 have hW1 : Below W.heap.size W (W.alloc (Obj.cells #[.bool l, .slice ap ps.length cp, .slice at_ t.length ct, .slice ak ks.length ck] 35)) := (Below.refl _ _).alloc (Nat.le_refl _) _
 have HS := Lib.hid (nsize_c n _ B _ (by omega) (hv.keep (hW1.mono hB) (Nat.le_refl _)) (Nat.le_trans hB hW1.size))
 have hs2 : sizeN n <= 1048576 := by omega
 have HK := fun (w1 : World) (hb : Below W.heap.size W w1) => Lib.hid (walk_c (Φ := CellI 39 w1.heap.size) (bad := badErr) (M := 100000000) (fun s W W' h hb => h.keep hb) rfl rfl (by intro args w; kernel_rfl)
  (ask_c w1.heap.size w1.heap.size 100000000 (by omega) (by omega)) n _ 0 (w1.alloc (Obj.cells #[.int .i64 0] 39)) (by omega) (hv.keep ((hb.alloc hb.size _).mono hB) (Nat.le_trans hB hb.size)) (by simp) (heap_alloc_new w1 _))
 simp only [eachS_check] at HK
 have hmf : ∀ (fn : Fn) (first cap : Array Value) (w : World), (Instr.makeFunc fn first cap).run Tryz.prog w = .ok (.func fn first cap) w := fun _ _ _ _ => rfl
 clear hv0 hv hsz hW1 hn
 go_enter Tryz.func12, Tryz.ntmps12
 go_wp2_with fail
 refine HS.out.mono ?_
 rintro e w1 ⟨rfl, hbel⟩
 obtain ⟨x0, x1, x2, x3⟩ := box_keep (below_box hbel)
 have Hb1 := Lib.hid (below_unbox (below_box hbel))
 have hsz1 : W.heap.size < w1.heap.size := by have := (below_box hbel).size; simp at this; omega
 have HK1 := HK w1 Hb1.out
 clear hbel HS HK
 go_wp2_with fail
 refine HK1.out.mono ?_
 rintro e w2 ⟨rfl, hc, hsp⟩
 obtain ⟨c1, c2, c3⟩ := hc.cell
 have Hb2 := Lib.hid (Hb1.out.trans (((Below.refl w1.heap.size w1).alloc (Nat.le_refl _) (Obj.cells #[.int .i64 0] 39)).trans hsp.below |>.mono Hb1.out.size))
 clear hc hsp HK1 x0 x1 x2 x3
 go_wp2_with fail
 go_ret
 exact ⟨rfl, Hb2.out⟩
end Go.Proofs.YtbommcakcmhalaaGreatDoor
/- Plain words: operations whole; what they do with a tree; where paths go. No walk yet. -/
namespace Go.Proofs.YtbommcakcmhalaaGreatDoor
open Go.RowKit Go.Redl
/-- A point; a selection; an operation, whole. -/
abbrev PtD := List Int × Int
structure SelD where
 is : Bool
 an : PtD
 fo : PtD
abbrev zeroSel : SelD := ⟨false, ([], 0), ([], 0)⟩
structure OpF where
 kind : Int
 path : List Int
 dest : List Int
 pos : Int
 node : NodeD
 old : List PropD
 new : List PropD
 text : List Int
 fr : SelD
 into : SelD
/-- An operation of a repair, whole. -/
abbrev OpD.full (o : OpD) : OpF := ⟨o.kind, o.path, o.dest, o.pos, o.node, o.old, [], [], zeroSel, zeroSel⟩
def setKids : NodeD -> List NodeD -> NodeD
 | .mk l ps t _, ks => .mk l ps t ks
/-- A Kid put in. -/
def insK (ks : List NodeD) (i : Nat) (m : NodeD) : List NodeD := ks.take i ++ m :: ks.drop i
/-- The last number of a path. -/
abbrev lastN (p : List Int) : Int := p.getLastD 0
/-- tree.Add -/
def addN (n : NodeD) (p : List Int) (m : NodeD) : NodeD × Int :=
 if p = [] then (zeroN, 6) else match atN n p.dropLast with
 | none => (zeroN, 5)
 | some k => if leafOf k then (zeroN, 7) else if lastN p < 0 ∨ ((kidsOf k).length : Int) < lastN p then (zeroN, 8) else (putN n p.dropLast (setKids k (insK (kidsOf k) (lastN p).toNat m)), 0)
/-- tree.Cut -/
def cutN (n : NodeD) (p : List Int) : NodeD × NodeD × Int :=
 if p = [] then (zeroN, zeroN, 6) else match atN n p, atN n p.dropLast with
 | some m, some k => (putN n p.dropLast (setKids k ((kidsOf k).eraseIdx (lastN p).toNat)), m, 0)
 | _, _ => (zeroN, zeroN, 5)
/-- tree.Put -/
def putE (n : NodeD) (p : List Int) (m : NodeD) : NodeD × Int := match atN n p with
 | none => (zeroN, 5)
 | some _ => (putN n p m, 0)
def lengthN (n : NodeD) : Nat := if leafOf n then (textOf n).length else (kidsOf n).length
/-- The path ahead of one. -/
def backP (p : List Int) : List Int := p.dropLast ++ [lastN p - 1]
def joinN : NodeD -> NodeD -> NodeD
 | .mk l ps t ks, .mk _ _ t' ks' => .mk l ps (t ++ t') (ks ++ ks')
/-- op.merged -/
def mergedN (rest k : NodeD) (o : OpF) : NodeD × Int :=
 if o.path = [] ∨ lastN o.path <= 0 then (zeroN, 8) else match atN rest (backP o.path) with
 | none => (zeroN, 5)
 | some into => if leafOf into ≠ leafOf k then (zeroN, 7) else if (lengthN into : Int) ≠ o.pos then (zeroN, 8) else if propsOf k ≠ o.old then (zeroN, 9) else (putN rest (backP o.path) (joinN into k), 0)
/-- op.shaped, of the kinds that repairs have. -/
def shapedN (n : NodeD) (o : OpF) : NodeD × Int :=
 if o.kind = 1 then (if nodeE o.node ≠ 0 then (zeroN, nodeE o.node) else addN n o.path o.node)
 else if (cutN n o.path).2.2 ≠ 0 then (zeroN, (cutN n o.path).2.2)
 else if o.kind = 2 then (if sameN (cutN n o.path).2.1 o.node then ((cutN n o.path).1, 0) else (zeroN, 9))
 else if o.kind = 3 then mergedN (cutN n o.path).1 (cutN n o.path).2.1 o
 else addN (cutN n o.path).1 o.dest (cutN n o.path).2.1
/-- The fields that a kind has. -/
def fieldsOf (k : Int) : Option (List UInt8) :=
 if k = 1 ∨ k = 2 then some [112, 110] else if k = 3 then some [112, 97, 111] else if k = 4 then some [112, 97, 119] else if k = 5 then some [112, 116]
 else if k = 6 then some [112, 111, 119] else if k = 7 ∨ k = 8 then some [112, 97, 120] else if k = 9 then some [115] else none
abbrev selZ (s : SelD) : Bool := !s.is && (decide (s.an = ([], 0)) && decide (s.fo = ([], 0)))
/-- The fields that are not zero. -/
def setF (o : OpF) : List UInt8 :=
 (if 0 < o.path.length then [112] else []) ++ (if 0 < o.dest.length then [116] else []) ++ (if o.pos ≠ 0 then [97] else []) ++ (if !sameN o.node zeroN then [110] else []) ++
 (if 0 < o.old.length then [111] else []) ++ (if 0 < o.new.length then [119] else []) ++ (if 0 < o.text.length then [120] else []) ++ (if !selZ o.fr then [115] else []) ++ (if !selZ o.into then [115] else [])
/-- back.Form -/
def formN (o : OpF) : Int := match fieldsOf o.kind with
 | none => 1
 | some fs => if (setF o).all (fun f => decide (f ∈ fs)) then 0 else 1
/-- op.Apply with no selection, of the kinds that repairs have. -/
def applyN (n : NodeD) (o : OpF) : NodeD × Int :=
 if nodeE n ≠ 0 then (zeroN, nodeE n) else if leafOf n then (zeroN, 7) else if formN o ≠ 0 then (zeroN, formN o) else shapedN n o
/-- How q stands to p: 1 left of it, 2 above it, 3 it; else 0. -/
def leftB (q p : List Int) : Bool := decide (alikeN q p + 1 = q.length) && (decide (alikeN q p < p.length) && decide (q.getD (alikeN q p) 0 < p.getD (alikeN q p) 0))
def standsN (q p : List Int) : Nat := if q = [] then 0 else if q = p then 3 else if aboveB q p then 2 else if leftB q p then 1 else 0
def shiftP (p : List Int) (k : Nat) (d : Int) : List Int := p.set k (p.getD k 0 + d)
def insertedP (p q : List Int) : List Int := if standsN q p = 0 then p else shiftP p (q.length - 1) 1
end Go.Proofs.YtbommcakcmhalaaGreatDoor
/- Walks: tree.Put, and what Put, Add, Cut do with the node. -/
namespace Go.Proofs.YtbommcakcmhalaaGreatDoor
open Go.RowKit Go.Redl
theorem put1_ent : ∀ args w, (callFunc 241 args).run Tryz.prog w = .ok (.enter 241 args) w := by intro args w; kernel_rfl
theorem add1_ent : ∀ args w, (callFunc 188 args).run Tryz.prog w = .ok (.enter 188 args) w := by intro args w; kernel_rfl
theorem cut1_ent : ∀ args w, (callFunc 186 args).run Tryz.prog w = .ok (.enter 186 args) w := by intro args w; kernel_rfl
theorem Cells4.facts {w : World} {b off : Nat} {cm : List Value} (h : Cells4 w b off cm) : ∃ c0 c1 c2 c3, cm = [c0, c1, c2, c3] /\ w.cell? ⟨b, off, none⟩ = some c0 /\ w.cell? ⟨b, off + 1, none⟩ = some c1 /\ w.cell? ⟨b, off + 2, none⟩ = some c2 /\ w.cell? ⟨b, off + 3, none⟩ = some c3 := by
 obtain ⟨hl, h⟩ := h
 match cm, hl with
 | [c0, c1, c2, c3], _ => exact ⟨c0, c1, c2, c3, rfl, h 0 _ rfl, h 1 _ rfl, h 2 _ rfl, h 3 _ rfl⟩
/-- Four cells put at a place. -/
theorem cells4_put {w : World} {b off : Nat} {c0 c1 c2 c3 d0 d1 d2 d3 : Value} (h0 : w.cell? ⟨b, off, none⟩ = some c0) (h1 : w.cell? ⟨b, off + 1, none⟩ = some c1) (h2 : w.cell? ⟨b, off + 2, none⟩ = some c2) (h3 : w.cell? ⟨b, off + 3, none⟩ = some c3) :
 Cells4 (w.setCells b off [d0, d1, d2, d3]) b off [d0, d1, d2, d3] := by
 refine ⟨rfl, fun j u hj => ?_⟩
 have hj4 : j < 4 := by
  rcases Nat.lt_or_ge j 4 with h | h
  . exact h
  . rw [List.getElem?_eq_none (by simpa using h)] at hj; cases hj
 have h := World.cell?_setCells_in b [d0, d1, d2, d3] off w (fun k hk => by
  match k, hk with
  | 0, _ => rw [Nat.add_zero, h0]; rfl
  | 1, _ => rw [h1]; rfl
  | 2, _ => rw [h2]; rfl
  | 3, _ => rw [h3]; rfl) j (by simpa using hj4)
 rw [h, <- List.getElem?_eq_getElem]; exact hj
theorem keeps_put {w w1 : World} {B b off lo hi : Nat} (hb : Below w.heap.size w w1) (hB : B <= b) (hBw : B <= w.heap.size) (hbw : b < w.heap.size) (vs : List Value) (hl : vs.length = 4) : Keeps w (w1.setCells b off vs) B b off lo hi := by
 refine ⟨(hb.mono hBw).grown (grown_setCells vs off w1) (Nat.le_trans hBw hb.size) (fun k e => by cases e; exact hB), fun x hx hne _ => ?_, fun o ho => ?_⟩
 . rw [(grown_setCells vs off w1).block x (Nat.lt_of_lt_of_le hx hb.size) (fun e => hne (Option.some.inj e)), hb.block x hx]
 . rw [World.cell?_setCells_out b vs off w1 ⟨b, o, none⟩ (fun _ _ => by show o < off ∨ off + vs.length <= o; omega)]
   exact hb.cell (p := ⟨b, o, none⟩) hbw
theorem nodeq_put {w : World} {ok : Nat -> Prop} {b off : Nat} {n : NodeD} {cs vs : List Value} (h : NodeQ w ok n cs) (hne : ¬ ok b) : NodeQ (w.setCells b off vs) ok n cs :=
 NodeQ.keep (grown_setCells vs off w).size (fun x hx hlt => (grown_setCells vs off w).block x hlt (fun e => hne (by rw [<- Option.some.inj e]; exact hx))) (fun _ h _ => h) n cs h
theorem put1_c (m' m : NodeD) (M : Nat) (e0 : Bool) (a1 a2 a3 : Option Addr) (n1 n2 n3 q1 q2 q3 : Nat) (W : World) (hM : At W M [.bool e0, .slice a1 n1 q1, .slice a2 n2 q2, .slice a3 n3 q3] 35) (hv : NodeV W W.heap.size m' (.agg #[.bool e0, .slice a1 n1 q1, .slice a2 n2 q2, .slice a3 n3 q3])) (hbig : m'.wt <= 100000000) :
 HowC 241 #[.pointer (some ⟨M, 0, none⟩)] W m (m', 0) := by
 intro w b off lo hi cm hbel hb hlo hhi hI hc4 hno hfz
 obtain ⟨c0, c1, c2, c3, rfl, x0, x1, x2, x3⟩ := hc4.facts
 have hMw : NodeAt w M (.bool e0) (.slice a1 n1 q1) (.slice a2 n2 q2) (.slice a3 n3 q3) := hM.kept hbel
 obtain ⟨y0, y1, y2, y3, -, -⟩ := hMw.facts
 have HC := Lib.hid (copy_c m'.wt m' _ w (Nat.le_refl _) hbig (hv.keep hbel hbel.size))
 have hbw : b < w.heap.size := World.block_lt_of_cell? w _ x0
 have f0 := hfz off; have f1 := hfz (off + 1); have f2 := hfz (off + 2); have f3 := hfz (off + 3)
 have Hx := Lib.hid (show _ /\ _ /\ _ /\ _ from ⟨x0, x1, x2, x3⟩)
 have Hf := Lib.hid hfz
 clear hI hc4 hno hfz hM hv hMw x0 x1 x2 x3 f0 f1 f2 f3
 go_enter Tryz.func241, Tryz.ntmps241
 go_wp2_with fail
 refine HC.out.mono ?_
 rintro e w1 ⟨cs, rfl, hq, hb1⟩
 obtain ⟨l', p1, o1, d1, p2, o2, d2, p3, o3, d3, rfl⟩ := hq.form
 have z0 := (hb1.cell (p := ⟨b, off, none⟩) hbw).trans Hx.out.1; have z1 := (hb1.cell (p := ⟨b, off + 1, none⟩) hbw).trans Hx.out.2.1; have z2 := (hb1.cell (p := ⟨b, off + 2, none⟩) hbw).trans Hx.out.2.2.1; have z3 := (hb1.cell (p := ⟨b, off + 3, none⟩) hbw).trans Hx.out.2.2.2
 have hfr : ∀ j, w1.frozen? ⟨b, j, none⟩ = false := fun j => (hb1.frozen (p := ⟨b, j, none⟩) hbw).trans (Hf.out j)
 have f0 := hfr off; have f1 := hfr (off + 1); have f2 := hfr (off + 2); have f3 := hfr (off + 3)
 have Hb1 := Lib.hid hb1; have Hq := Lib.hid hq
 have Hz := Lib.hid (show _ /\ _ /\ _ /\ _ from ⟨z0, z1, z2, z3⟩)
 clear HC hb1 hq hfr y0 y1 y2 y3
 go_wp2_with fail
 go_ret
 have hbw' := Hb1.out.size
 show HowP W.heap.size w b off lo hi (m', 0) _ (w1.setCells b off [.bool l', .slice p1 o1 d1, .slice p2 o2 d2, .slice p3 o3 d3])
 exact ⟨rfl, keeps_put Hb1.out hb hbel.size hbw _ rfl, fun _ => ⟨_, cells4_put Hz.out.1 Hz.out.2.1 Hz.out.2.2.1 Hz.out.2.2.2, NodeQ.keep (Nat.le_refl _) (fun _ _ _ => rfl) (fun x hx _ => .inr hx) _ _ (nodeq_put Hq.out (by omega))⟩⟩
end Go.Proofs.YtbommcakcmhalaaGreatDoor
/- Walks: what Cut does with the node above. -/
namespace Go.Proofs.YtbommcakcmhalaaGreatDoor
open Go.RowKit Go.Redl
theorem kidsq_erase {w : World} {ok : Nat -> Prop} : ∀ {ks : List NodeD} {css : List Value} {i : Nat}, KidsQ w ok ks css -> i < ks.length -> KidsQ w ok (ks.eraseIdx i) (css.take (i * 4) ++ css.drop ((i + 1) * 4))
 | [], css, i, h, hi => by simp at hi
 | k :: ks, css, 0, h, hi => by
   unfold KidsQ at h
   obtain ⟨c1, c2, rfl, h1, h2⟩ := h
   have hl : c1.length = 4 := (NodeQ.node _ _ h1).len
   simpa [List.drop_left' hl] using h2
 | k :: ks, css, i + 1, h, hi => by
   unfold KidsQ at h
   obtain ⟨c1, c2, rfl, h1, h2⟩ := h
   have hl : c1.length = 4 := (NodeQ.node _ _ h1).len
   have h3 := kidsq_erase (i := i) h2 (by simpa using hi)
   rw [List.eraseIdx_cons_succ]
   unfold KidsQ
   refine ⟨c1, c2.take (i * 4) ++ c2.drop ((i + 1) * 4), ?_, h1, h3⟩
   rw [List.take_append, List.drop_append, hl, List.take_of_length_le (by omega), List.drop_eq_nil_of_le (by omega), show (i + 1) * 4 - 4 = i * 4 by omega, show (i + 1 + 1) * 4 - 4 = (i + 1) * 4 by omega]
   simp
theorem kidsq_insert {w : World} {ok : Nat -> Prop} {m : NodeD} {c : List Value} (hm : NodeQ w ok m c) : ∀ {ks : List NodeD} {css : List Value} {i : Nat}, KidsQ w ok ks css -> i <= ks.length -> KidsQ w ok (insK ks i m) (css.take (i * 4) ++ (c ++ css.drop (i * 4)))
 | ks, css, 0, h, hi => by
   unfold insK
   simp only [Nat.zero_mul, List.take_zero, List.drop_zero, List.nil_append]
   unfold KidsQ
   exact ⟨c, css, rfl, hm, h⟩
 | [], css, i + 1, h, hi => by simp at hi
 | k :: ks, css, i + 1, h, hi => by
   unfold KidsQ at h
   obtain ⟨c1, c2, rfl, h1, h2⟩ := h
   have hl : c1.length = 4 := (NodeQ.node _ _ h1).len
   have h3 := kidsq_insert hm (i := i) h2 (by simpa using hi)
   have e : insK (k :: ks) (i + 1) m = k :: insK ks i m := by simp [insK]
   rw [e]
   unfold KidsQ
   refine ⟨c1, c2.take (i * 4) ++ (c ++ c2.drop (i * 4)), ?_, h1, h3⟩
   rw [List.take_append, List.drop_append, hl, List.take_of_length_le (by omega), List.drop_eq_nil_of_le (by omega), show (i + 1) * 4 - 4 = i * 4 by omega]
   simp
/-- A node whose row of Kids was made another one. -/
theorem kids_changed {B : Nat} {w w2 : World} {b off lo hi mid : Nat} {l : Bool} {ps : List PropD} {t : List Int} {ap at_ ak : Option Addr} {cp ct ck : Nat} {ks ks' : List NodeD} {css' : List Value} {v' : Value}
 (hB : B <= b) (hBl : B <= lo) (hhi : hi <= w.heap.size) (hmid : lo <= mid) (hmh : mid <= hi) (hno : ¬ (lo <= b /\ b < hi)) (hbw : b < w.heap.size) (hBw : B <= w.heap.size)
 (x0 : w.cell? ⟨b, off, none⟩ = some (.bool l)) (x1 : w.cell? ⟨b, off + 1, none⟩ = some (.slice ap ps.length cp)) (x2 : w.cell? ⟨b, off + 2, none⟩ = some (.slice at_ t.length ct)) (x3 : w.cell? ⟨b, off + 3, none⟩ = some (.slice ak ks.length ck))
 (h3 : RowQ w (fun x => lo <= x /\ x < mid /\ (Value.slice ak ks.length ck).ownBlock ≠ some x) 2 ap ps.length cp (propCells ps)) (h4 : RowQ w (fun x => lo <= x /\ x < mid /\ (Value.slice ak ks.length ck).ownBlock ≠ some x) 1 at_ t.length ct (t.map (Value.int .i32))) (h5 : ∀ z ∈ t, (Lit.int .i32 z).wf = true)
 (hk7 : ∀ g, (Value.slice ak ks.length ck).ownBlock = some g -> lo <= g /\ g < mid)
 (hown : w2.ownsRow lo 35 4 v' ks'.length css') (hq : KidsQ w2 (fun x => lo <= x /\ x < hi ∨ w.heap.size <= x) ks' css') (hg : w.grownBy w2 (Value.slice ak ks.length ck).ownBlock) (hv' : v'.ownBlock = (Value.slice ak ks.length ck).ownBlock ∨ ∀ k, v'.ownBlock = some k -> w.heap.size <= k)
 (hqb : ∀ x, (lo <= x /\ x < hi ∨ w.heap.size <= x) -> x ≠ b) :
 HowP B w b off lo hi (.mk l ps t ks', 0) (.returned (.int .i64 0)) (w2.setCell ⟨b, off + 3, none⟩ v') := by
 have hKb : (Value.slice ak ks.length ck).ownBlock ≠ some b := fun e => by have := hk7 b e; omega
 have hblk : ∀ x, x < w.heap.size -> (Value.slice ak ks.length ck).ownBlock ≠ some x -> w2.heap[x]? = w.heap[x]? := fun x hx hne => hg.block x hx (fun e => hne e.symm)
 have hcellb : ∀ o, w2.cell? ⟨b, o, none⟩ = w.cell? ⟨b, o, none⟩ := fun o => World.cell?_of_block (a := ⟨b, o, none⟩) (hblk b hbw hKb)
 refine ⟨rfl, ⟨?_, fun x hx hne hnot => ?_, fun o ho => ?_⟩, fun _ => ?_⟩
 . exact ((Below.refl B w).grown hg hBw (fun k hk => by have := hk7 k hk; omega)).setCell (p := ⟨b, off + 3, none⟩) hB _
 . rw [Below.heap_setCell w2 ⟨b, off + 3, none⟩ v' x (by show x ≠ b; exact hne)]
   refine hblk x hx (fun e => ?_)
   have := hk7 x e
   omega
 . rw [World.cell?_setCell_other _ _ _ _ (fun e => by injection e with e1 e2; omega)]
   exact hcellb o
 . obtain ⟨a', c', rfl, hr⟩ := RowQ.of_own hown hq.onec
   refine ⟨[.bool l, .slice ap ps.length cp, .slice at_ t.length ct, .slice a' ks'.length c'], ⟨rfl, fun j u hj => ?_⟩, ?_⟩
   . have hoth : ∀ o, o ≠ off + 3 -> (w2.setCell ⟨b, off + 3, none⟩ (.slice a' ks'.length c')).cell? ⟨b, o, none⟩ = w.cell? ⟨b, o, none⟩ := fun o ho => by
      rw [World.cell?_setCell_other _ _ _ _ (fun e => by injection e with e1 e2; omega)]
      exact hcellb o
     match j with
     | 0 => simp at hj; subst hj; rw [hoth _ (by omega)]; exact x0
     | 1 => simp at hj; subst hj; rw [hoth _ (by omega)]; exact x1
     | 2 => simp at hj; subst hj; rw [hoth _ (by omega)]; exact x2
     | 3 =>
       simp at hj; subst hj
       exact World.cell?_setCell_same _ _ _ ((hcellb (off + 3)).trans x3)
     | j + 4 => simp at hj
   . have hset : ∀ x, x ≠ b -> (w2.setCell ⟨b, off + 3, none⟩ (.slice a' ks'.length c')).heap[x]? = w2.heap[x]? := fun x hne => Below.heap_setCell w2 ⟨b, off + 3, none⟩ _ x (by show x ≠ b; exact hne)
     have hsz : w2.heap.size <= (w2.setCell ⟨b, off + 3, none⟩ (.slice a' ks'.length c')).heap.size := by simp [World.setCell]
     unfold NodeQ
     refine ⟨ap, cp, at_, ct, a', c', css', rfl, ?_, ?_, h5, ?_, ?_⟩
     . refine h3.keep (Nat.le_trans hg.size hsz) (fun x hx hlt => ?_) (fun x hx _ => .inl ⟨hx.1, by omega⟩)
       rw [hset x (by omega), hblk x hlt hx.2.2]
     . refine h4.keep (Nat.le_trans hg.size hsz) (fun x hx hlt => ?_) (fun x hx _ => .inl ⟨hx.1, by omega⟩)
       rw [hset x (by omega), hblk x hlt hx.2.2]
     . have hok : ∀ x, (Value.slice a' ks'.length c').ownBlock = some x -> (lo <= x /\ x < hi ∨ w.heap.size <= x) := fun x hx => by
        rcases hv' with e | e
        . rw [e] at hx; have := hk7 x hx; omega
        . exact .inr (e x hx)
       exact hr.keep hsz (fun x hx _ => hset x (hqb x (hok x hx))) (fun x hx _ => hok x hx)
     . exact KidsQ.keep hsz (fun x hx _ => hset x (hqb x hx)) (fun _ hx _ => hx) _ _ hq
end Go.Proofs.YtbommcakcmhalaaGreatDoor
