/- Parts of the proof, one behind the other: RYE, RFN, RYG. -/
import Derived.Test.YtaopoincbigjhaaGreatDoorFC1
import Derived.Test.YtaopoincbigjhaaGreatDoorFC2
import Derived.Test.YtaopoincbigjhaaGreatDoorFC3
import Derived.Test.YtaopoincbigjhaaGreatDoorFC4
import Derived.Test.YtaopoincbigjhaaGreatDoorFC5
import Derived.Test.YtaopoincbigjhaaGreatDoorFC6
import Derived.Test.YtaopoincbigjhaaGreatDoorFC7
import Derived.Test.YtaopoincbigjhaaGreatDoorFC8
import Derived.Test.YtaopoincbigjhaaGreatDoorFC9
import Derived.Test.YtaopoincbigjhaaGreatDoorFC10
import Derived.Test.YtaopoincbigjhaaGreatDoorFC11
import Derived.Test.YtaopoincbigjhaaGreatDoorFC12
import Derived.Test.YtaopoincbigjhaaGreatDoorFC13
import Derived.Test.YtaopoincbigjhaaGreatDoorFC14
import Derived.Test.YtaopoincbigjhaaGreatDoorFC15
import Derived.Test.YtaopoincbigjhaaGreatDoorFC16
import Derived.Test.YtaopoincbigjhaaGreatDoorFC17
import Derived.Test.YtaopoincbigjhaaGreatDoorFC18
import Derived.Test.YtaopoincbigjhaaGreatDoorFC19
import Derived.Test.YtaopoincbigjhaaGreatDoorFC20
import Derived.Test.YtaopoincbigjhaaGreatDoorFC21
import Derived.Test.YtaopoincbigjhaaGreatDoorFC22
import Derived.Test.YtaopoincbigjhaaGreatDoorFC23
import Derived.Test.YtaopoincbigjhaaGreatDoorFC24
import Derived.Test.YtaopoincbigjhaaGreatDoorFC25
import Derived.Test.YtaopoincbigjhaaGreatDoorFC26
import Derived.Test.YtaopoincbigjhaaGreatDoorFC27
import Derived.Test.YtaopoincbigjhaaGreatDoorFH1
import Derived.Test.YtaopoincbigjhaaGreatDoorRows
import Derived.WalkKit
import Derived.ProofKit
import Derived.LaidMore
import Derived.OpenShut
import Derived.ChangeOld
import Derived.Below
import Derived.Stop.Joined
import Derived.Deep.DeepHandedRow
import Derived.Deep.DeepWitnessRowRef
import Derived.JoinedCond
import Derived.Test.YtaopoincbigjhaaGreatDoorCards
import Derived.Test.YtaopoincbigjhaaGreatDoorTie
import Derived.ShutString
import Derived.Lib.LaidTab
import Derived.Stop.LaidErr
import Derived.Lay
import Derived.SevenTiedAt
namespace Go.Proofs.YtaopoincbigjhaaGreatDoor
open Go.RowKit Go.Redl
set_option linter.unusedVariables false
set_option linter.unusedSimpArgs false

theorem above_iff2 {a b : List Int} : aboveB a b = true ↔ a.length < b.length ∧ a <+: b := by
  unfold aboveB
  rw [Bool.and_eq_true, decide_eq_true_eq, decide_eq_true_eq, alikeN_pre]
theorem apart_of {p q : List Int} (h1 : aboveB p q = false) (h2 : aboveB q p = false) (h3 : p ≠ q) : ¬ p <+: q ∧ ¬ q <+: p := by
  have key : ∀ {a b : List Int}, aboveB a b = false → a ≠ b → ¬ a <+: b := fun {a b} h hne hp => by
    rcases Nat.lt_or_ge a.length b.length with hl | hl
    · rw [above_iff2.2 ⟨hl, hp⟩] at h; cases h
    · exact hne (hp.eq_of_length (Nat.le_antisymm hp.length_le hl))
  exact ⟨key h1 h3, key h2 (Ne.symm h3)⟩
/-- What tree.Get answers, told alike whether there is such a node or not. -/
def errG (R : Option NodeD) : Int := match R with | none => 5 | some _ => 0
theorem GetP.alike {W : World} {R : Option NodeD} {e : Ending} {w' : World} (h : GetP W R e w') : Below W.heap.size W w' ∧ ∃ (x0 : Bool) (x1 x2 x3 : Option Addr) (y1 y2 y3 z1 z2 z3 : Nat),
    e = .returned (.tuple #[.agg #[.bool x0, .slice x1 y1 z1, .slice x2 y2 z2, .slice x3 y3 z3], .int .i64 (errG R)]) ∧ NodeQ w' (fun b => W.heap.size ≤ b) (R.getD zeroN) [.bool x0, .slice x1 y1 z1, .slice x2 y2 z2, .slice x3 y3 z3] := by
  cases R with
  | none =>
    obtain ⟨rfl, hb⟩ := h
    exact ⟨hb, _, _, _, _, _, _, _, _, _, _, rfl, zero_q _ _⟩
  | some m =>
    obtain ⟨cs, rfl, hq, hb⟩ := h
    obtain ⟨x0, x1, y1, z1, x2, y2, z2, x3, y3, z3, rfl⟩ := hq.form
    exact ⟨hb, x0, x1, x2, x3, y1, y2, y3, z1, z2, z3, rfl, hq⟩
/-- A node's properties alone. -/
theorem nodeq_props {w : World} {ok : Nat → Prop} {k : NodeD} {l : Bool} {a : Option Addr} {n c : Nat} {s2 s3 : Value} (h : NodeQ w ok k [.bool l, .slice a n c, s2, s3]) :
    NodeQ w ok (.mk false (propsOf k) [] []) [.bool false, .slice a n c, .slice none 0 0, .slice none 0 0] := by
  obtain ⟨lk, ps, t, ks⟩ := k
  unfold NodeQ at h ⊢
  obtain ⟨ap, cp, at_, ct, ak, ck, css, he, h1, -⟩ := h
  injection he with _ he; injection he with e1 _
  injection e1 with e2 e3 e4; subst e2; subst e3; subst e4
  exact ⟨a, c, none, 0, none, 0, [], rfl, h1, RowQ.empty _ _ _, (by simp), RowQ.empty _ _ _, by unfold KidsQ; rfl⟩
theorem propsOf_setKids (k : NodeD) (L : List NodeD) : propsOf (setKids k L) = propsOf k := by cases k; rfl
set_option maxRecDepth 100000 in
set_option maxHeartbeats 4000000 in
theorem fixhere_walk (s : SchemaD) (n : NodeD) (u v : Value) (p q : List Int) (pa qa : Option Addr) (pc qc : Nat) (W : World) (hs : s.wt ≤ 1048576) (hn : n.wt ≤ 1048576) (hpl : p.length ≤ 1048576) (hql : q.length ≤ 1048576) (hu : SchemaV W W.heap.size s u) (hv : NodeV W W.heap.size n v) (hp : RowA W W.heap.size 1 pa p.length pc (p.map (Value.int .i64))) (hq0 : RowA W W.heap.size 1 qa q.length qc (q.map (Value.int .i64))) :
    Calls Tryz.prog 4 #[u, v, .slice pa p.length pc, .slice qa q.length qc] W (fun e w' => e = .returned (.bool true) ∧ Below W.heap.size W w') := by
  have Hq0 := Lib.hid hq0
  clear hq0
  have hu0 := hu
  obtain ⟨csn, rfl, hc⟩ := hv
  obtain ⟨l, b1, m1, d1, b2, m2, d2, b3, m3, d3, rfl⟩ := hc.form
  have hleaf := nodeq_leaf (NodeC.q (Nat.le_refl _) _ _ hc)
  obtain ⟨a, c, css, ea, ec, o0, o1, o2, o3, o4, o5, rfl, -, -, -, -⟩ := hu0.open
  obtain ⟨w0, hw0⟩ : ∃ w0, w0 = (W.alloc (Obj.cells #[.slice a s.rules.length c, strV s.els.type, .int .i64 s.els.text.1, strV s.els.text.2, .int .i64 s.els.other.1, strV s.els.other.2, .slice ea s.els.kids.length ec, .int .i64 s.els.fill, strV s.els.fillT, .int .i64 o0, .int .i64 o1, .int .i64 o2, .int .i64 o3, .int .i64 o4, .int .i64 o5, .int .i64 s.cap] 30)).alloc (Obj.cells #[.bool l, .slice b1 m1 d1, .slice b2 m2 d2, .slice b3 m3 d3] 35) := ⟨_, rfl⟩
  have hb0 : Below W.heap.size W w0 := by rw [hw0]; exact two_below _ _ _
  have HS0 := Lib.hid (show At w0 W.heap.size [.slice a s.rules.length c, strV s.els.type, .int .i64 s.els.text.1, strV s.els.text.2, .int .i64 s.els.other.1, strV s.els.other.2, .slice ea s.els.kids.length ec, .int .i64 s.els.fill, strV s.els.fillT, .int .i64 o0, .int .i64 o1, .int .i64 o2, .int .i64 o3, .int .i64 o4, .int .i64 o5, .int .i64 s.cap] 30 by rw [hw0]; exact (At.fresh W _ _).alloc _)
  have HN0 := Lib.hid (show At w0 (W.heap.size + 1) [.bool l, .slice b1 m1 d1, .slice b2 m2 d2, .slice b3 m3 d3] 35 by rw [hw0]; exact At.second W _ _ _)
  have huk : ∀ w', Below w0.heap.size w0 w' → SchemaV w' w'.heap.size s (.agg #[.slice a s.rules.length c, strV s.els.type, .int .i64 s.els.text.1, strV s.els.text.2, .int .i64 s.els.other.1, strV s.els.other.2, .slice ea s.els.kids.length ec, .int .i64 s.els.fill, strV s.els.fillT, .int .i64 o0, .int .i64 o1, .int .i64 o2, .int .i64 o3, .int .i64 o4, .int .i64 o5, .int .i64 s.cap]) := fun w' hb => hu.keep (hb0.trans (hb.mono hb0.size)) (hb0.trans (hb.mono hb0.size)).size
  have hvk : ∀ w', Below w0.heap.size w0 w' → NodeV w' w'.heap.size n (.agg #[.bool l, .slice b1 m1 d1, .slice b2 m2 d2, .slice b3 m3 d3]) := fun w' hb => ⟨_, rfl, NodeC.keep (hb0.trans (hb.mono hb0.size)) (hb0.trans (hb.mono hb0.size)).size _ _ hc⟩
  have hpk : ∀ w', Below w0.heap.size w0 w' → RowA w' w'.heap.size 1 pa p.length pc (p.map (Value.int .i64)) := fun w' hb => hp.keep (hb0.trans (hb.mono hb0.size)) (hb0.trans (hb.mono hb0.size)).size
  have HF := Lib.hid (fun (w' : World) (hb : Below w0.heap.size w0 w') => lawfew_c s n _ _ p pa pc w' (by omega) (by omega) (by omega) (huk w' hb) (hvk w' hb))
  have HL := Lib.hid (live_c w0)
  have HT := Lib.hid (fun (w' : World) (hb : Below w0.heap.size w0 w') => tcheck_c s _ w' (by omega) (huk w' hb))
  have HK := Lib.hid (fun (w' : World) (hb : Below w0.heap.size w0 w') => ncheck_c n _ w'.heap.size w' hn (hvk w' hb) (Nat.le_refl _))
  have HSN := Lib.hid hleaf; have Hu := Lib.hid huk; have Hv := Lib.hid hvk; have Hp := Lib.hid hpk
  have Hb0 := Lib.hid hb0; have Hw0 := Lib.hid hw0
  have hld := fun (w' : World) (h : At w' W.heap.size [.slice a s.rules.length c, strV s.els.type, .int .i64 s.els.text.1, strV s.els.text.2, .int .i64 s.els.other.1, strV s.els.other.2, .slice ea s.els.kids.length ec, .int .i64 s.els.fill, strV s.els.fillT, .int .i64 o0, .int .i64 o1, .int .i64 o2, .int .i64 o3, .int .i64 o4, .int .i64 o5, .int .i64 s.cap] 30) => At.load (P := Tryz.prog) h Tryz.underlying30 rfl (by kernel_rfl)
  simp [go_sem] at hld
  have Hld := Lib.hid hld
  have Hsw := Lib.hid hs; have Hnw := Lib.hid hn
  clear hu0 hc hw0 hb0 hu hp huk hvk hpk hleaf hld hs hn
  go_enter Tryz.func4, Tryz.ntmps4
  go_upto_region 1 with fail
  rw [← Hw0.out]
  clear Hw0
  go_wp2_with fail
  refine HL.out.mono ?_
  rintro e w1 ⟨rfl, hbel⟩
  have Hb1 := Lib.hid hbel
  have HF1 := Lib.hid (HF.out w1 hbel)
  have HS1 := Lib.hid (HS0.out.kept hbel); have HN1 := Lib.hid (HN0.out.kept hbel)
  obtain ⟨⟨y0, y1, y2, y3⟩, -, yl⟩ := HN1.out.f4
  clear hbel HL HF
  go_upto_region 3 with fail
  go_cut [42] (fun r wx => ∃ R : Bool, r = .bool R ∧ Hid (R = false → (smallB s n p = true ∧ q.length ≤ 40 ∧ checkS s = 0 ∧ nodeE n = 0 ∧ l = false)) ∧ Hid (Below w0.heap.size w0 wx))
  case first =>
    --<h1
    obtain ⟨B1, hB1⟩ : ∃ B1, B1 = smallB s n p := ⟨_, rfl⟩
    have HB1 := Lib.hid hB1
    rw [← hB1] at HF1
    clear hB1
    go_wp2_with (refine wpList_loadA rfl _ _ rfl W.heap.size #[.slice a s.rules.length c, strV s.els.type, .int .i64 s.els.text.1, strV s.els.text.2, .int .i64 s.els.other.1, strV s.els.other.2, .slice ea s.els.kids.length ec, .int .i64 s.els.fill, strV s.els.fillT, .int .i64 o0, .int .i64 o1, .int .i64 o2, .int .i64 o3, .int .i64 o4, .int .i64 o5, .int .i64 s.cap] rfl HS1.out _ Tryz.underlying30 rfl (by kernel_rfl) ?_)
    refine HF1.out.mono ?_
    rintro e w2 ⟨rfl, hbel⟩
    have Hb2 := Lib.hid (below_and Hb1.out hbel)
    clear HF1 hbel y0 y1 y2 y3 yl
    cases B1 with
    | false =>
      go_wp2_with fail
      go_meet
      case rel => exact ⟨true, rfl, Lib.hid (fun h => by cases h), Hb2⟩
    | true =>
      by_cases hq : (40 : Int) < q.length
      · have hqd : decide ((40 : Int) < q.length) = true := decide_eq_true hq
        go_wp2_with fail
        go_meet
        case rel => exact ⟨true, rfl, Lib.hid (fun h => by cases h), Hb2⟩
      have hqd : decide ((40 : Int) < q.length) = false := decide_eq_false hq
      have Hq := Lib.hid (show q.length ≤ 40 by omega)
      clear hq
      have hS := Hld.out w2 (HS0.out.kept Hb2.out)
      have HT1 := HT.out w2 Hb2.out
      obtain ⟨z1, hz1⟩ : ∃ z1, z1 = checkS s := ⟨_, rfl⟩
      rw [← hz1] at HT1
      have HT1 := Lib.hid HT1
      have HZ1 := Lib.hid hz1
      clear hz1
      go_wp2_with fail
      refine HT1.out.mono ?_
      rintro e w3 ⟨rfl, hbel⟩
      have Hb3 := Lib.hid (below_and Hb2.out hbel)
      clear HT1 hbel hS
      by_cases hz : z1 = 0
      · subst hz
        have HK1 := HK.out w3 Hb3.out
        obtain ⟨z2, hz2⟩ : ∃ z2, z2 = nodeE n := ⟨_, rfl⟩
        rw [← hz2] at HK1
        have HK1 := Lib.hid HK1
        have HZ2 := Lib.hid hz2
        obtain ⟨⟨y0, y1, y2, y3⟩, -, yl⟩ := (HN0.out.kept Hb3.out).f4
        clear hz2
        go_wp2_with fail
        refine HK1.out.mono ?_
        rintro e w4 ⟨rfl, hbel⟩
        have Hb4 := Lib.hid (below_and Hb3.out hbel)
        clear HK1 hbel y0 y1 y2 y3 yl
        by_cases hz : z2 = 0
        · subst hz
          obtain ⟨⟨y0, y1, y2, y3⟩, -, yl⟩ := (HN0.out.kept Hb4.out).f4
          go_wp2_with fail
          go_meet
          case rel => exact ⟨l, rfl, Lib.hid (fun h => ⟨HB1.out.symm, Hq.out, HZ1.out.symm, HZ2.out.symm, h⟩), Hb4⟩
        · have hzb : (z2 != 0) = true := by simpa using hz
          go_wp2_with fail
          go_meet
          case rel => exact ⟨true, rfl, Lib.hid (fun h => by cases h), Hb4⟩
      · have hzb : (z1 != 0) = true := by simpa using hz
        go_wp2_with fail
        go_meet
        case rel => exact ⟨true, rfl, Lib.hid (fun h => by cases h), Hb3⟩
    -->h1
  case rest =>
  obtain ⟨R, rfl, HR, Hbc⟩ := hcut
  clear HF1 HT HK y0 y1 y2 y3 yl Hb1 HS1 HN1
  cases R with
  | true =>
    have HbW := Lib.hid (Hb0.out.trans (Hbc.out.mono Hb0.out.size))
    go_wp2_with fail
    go_ret
    exact ⟨rfl, HbW.out⟩
  | false =>
  obtain ⟨hsm, hq40, hcs, hE, rfl⟩ := HR.out rfl
  have hlf := HSN.out.symm
  have hnw := small_node hsm
  have hpl40 := small_path2 s n p hsm
  have HSc := Lib.hid (HS0.out.kept Hbc.out); have HNc := Lib.hid (HN0.out.kept Hbc.out)
  have HO := Lib.hid (fixops_c s _ n _ p pa pc wc (by have := Hsw.out; omega) (by omega) (Hu.out wc Hbc.out) (Hv.out wc Hbc.out) (Hp.out wc Hbc.out) (by omega))
  have HLen := Lib.hid (fixN_len2 s n p (by omega))
  obtain ⟨⟨y0, y1, y2, y3⟩, -, yl⟩ := HNc.out.f4
  go_wp2_with (refine wpList_loadA rfl _ _ rfl W.heap.size #[.slice a s.rules.length c, strV s.els.type, .int .i64 s.els.text.1, strV s.els.text.2, .int .i64 s.els.other.1, strV s.els.other.2, .slice ea s.els.kids.length ec, .int .i64 s.els.fill, strV s.els.fillT, .int .i64 o0, .int .i64 o1, .int .i64 o2, .int .i64 o3, .int .i64 o4, .int .i64 o5, .int .i64 s.cap] rfl HSc.out _ Tryz.underlying30 rfl (by kernel_rfl) ?_)
  refine HO.out.mono ?_
  rintro e w5 ⟨lv, rfl, hlv, hbel⟩
  have Hb5 := Lib.hid (below_and Hbc.out hbel)
  clear HO hbel y0 y1 y2 y3 yl HSc HNc
  rcases fix_case hsm hcs hE hlf with ⟨her, hnil⟩ | ⟨k, hat, hkl, hfn, her, hplay, hne, hops, hins, hXE, hXs, hXw, hLeq⟩
  · rw [hnil] at hlv
    obtain ⟨la, lc, css2, rfl, -, -⟩ := hlv
    have heb : ((fixN s n p).2 != 0) = true := by simpa using her
    have HbW := Lib.hid (Hb0.out.trans (Hb5.out.mono Hb0.out.size))
    generalize (fixN s n p).2 = er at heb ⊢
    clear HLen her hnil
    go_wp2_with fail
    go_ret
    exact ⟨rfl, HbW.out⟩
  rw [her]
  generalize hL : (fixN s n p).1 = L at hlv hplay hne hops hins HLen hLeq
  obtain ⟨la, lc, css2, rfl, hla1, hla2⟩ := hlv
  have Hlv := Lib.hid (show OpsV w5 L (.slice la L.length lc) from ⟨la, lc, css2, rfl, hla1, hla2⟩)
  generalize hX : fixedN s n k p = X at hplay hXE hXs hXw
  have HX := Lib.hid hX; have HXE := Lib.hid hXE; have HXs := Lib.hid hXs; have HXw := Lib.hid hXw; have Hne := Lib.hid hne; have Hfn := Lib.hid hfn; have Hat := Lib.hid hat; have Hcs := Lib.hid hcs; have HE := Lib.hid hE; have Hkl := Lib.hid hkl; have Hlf := Lib.hid hlf; have Hnw2 := Lib.hid hnw; have Hp40 := Lib.hid hpl40; have HLeq := Lib.hid hLeq
  have HD := Lib.hid (done_c n X L _ la lc w5 hins (Hv.out w5 Hb5.out) Hlv.out HLen.out (fun o ho => hops o ho) hplay)
  have hlpos : (0 : Int) < L.length := by have := List.length_pos_iff.2 hne; omega
  obtain ⟨⟨y0, y1, y2, y3⟩, -, yl⟩ := (HN0.out.kept Hb5.out).f4
  clear hX hXE hXs hXw hne hfn hat hcs hE hkl hlf hnw hpl40 hLeq hla1 hla2 hL her hins hops hplay hsm HSN HR Hbc
  go_wp2_with fail
  refine HD.out.mono ?_
  rintro e w6 ⟨hbel, x0, x1, x2, x3, e1, e2, e3, g1, g2, g3, rfl, hXq⟩
  have Hb6 := Lib.hid (below_and Hb5.out hbel)
  have HXq := Lib.hid hXq
  clear HD hbel y0 y1 y2 y3 yl hXq

  obtain ⟨w7, hw7⟩ : ∃ w7, w7 = w6.alloc (Obj.cells #[.bool x0, .slice x1 e1 g1, .slice x2 e2 g2, .slice x3 e3 g3] 35) := ⟨_, rfl⟩
  have hb67 : Below w6.heap.size w6 w7 := by rw [hw7]; exact one_below _ _
  have HA7 := Lib.hid (show At w7 w6.heap.size [.bool x0, .slice x1 e1 g1, .slice x2 e2 g2, .slice x3 e3 g3] 35 by rw [hw7]; exact At.fresh _ _ _)
  have Hb7 := Lib.hid (below_and Hb6.out hb67)
  have HN7 := Lib.hid (HN0.out.kept Hb7.out); have HS7 := Lib.hid (HS0.out.kept Hb7.out)
  have HX7 := Lib.hid (nodeq_since HXq.out hb67)
  have HXv := Lib.hid (fun (w' : World) (hb : Below w7.heap.size w7 w') => (show NodeV w' w'.heap.size X (.agg #[.bool x0, .slice x1 e1 g1, .slice x2 e2 g2, .slice x3 e3 g3]) from ⟨_, rfl, NodeQ.node _ _ (nodeq_since HX7.out hb)⟩))
  have HNv := Lib.hid (fun (w' : World) (hb : Below w7.heap.size w7 w') => Hv.out w' (below_and Hb7.out hb))
  have Hw7 := Lib.hid hw7
  clear hw7 hb67 HXq
  go_upto_region 11 with fail
  rw [← Hw7.out]
  clear Hw7

  obtain ⟨⟨y0, y1, y2, y3⟩, -, yl⟩ := HN7.out.f4
  have hg1 := get_c n p _ pa pc w7 (by have := Hnw2.out; omega) (HNv.out w7 (Below.refl _ _)) (Hp.out w7 Hb7.out)
  rw [Hat.out] at hg1
  have HG1 := Lib.hid hg1
  clear hg1
  go_wp2_with fail
  refine HG1.out.mono ?_
  intro e w8 hg
  obtain ⟨hbel, kx, k1, k2, k3, s1, s2, s3, r1, r2, r3, rfl, hkq⟩ := GetP.alike hg
  have Hb78 := Lib.hid hbel
  have HA8 := Lib.hid (HA7.out.kept hbel)
  have HKq := Lib.hid (show NodeQ w8 (fun b => w7.heap.size ≤ b) k [.bool kx, .slice k1 s1 r1, .slice k2 s2 r2, .slice k3 s3 r3] from hkq)
  clear hg hbel hkq HG1 y0 y1 y2 y3 yl
  obtain ⟨w9, hw9⟩ : ∃ w9, w9 = w8.alloc (Obj.cells #[.bool kx, .slice k1 s1 r1, .slice k2 s2 r2, .slice k3 s3 r3] 35) := ⟨_, rfl⟩
  have hb89 : Below w8.heap.size w8 w9 := by rw [hw9]; exact one_below _ _
  have HK9 := Lib.hid (show At w9 w8.heap.size [.bool kx, .slice k1 s1 r1, .slice k2 s2 r2, .slice k3 s3 r3] 35 by rw [hw9]; exact At.fresh _ _ _)
  have Hb79 := Lib.hid (below_and Hb78.out hb89)
  have HA9 := Lib.hid (HA8.out.kept hb89)
  have HKq9 := Lib.hid (nodeq_since HKq.out hb89)
  have Hw9 := Lib.hid hw9
  have hs78 : w7.heap.size ≤ w8.heap.size := Hb78.out.size
  have Hs78 := Lib.hid hs78
  have HN9 := Lib.hid (show w8.heap.size < w9.heap.size from HK9.out.lt)
  clear hw9 hb89 hs78 HA8 HKq
  go_upto_region 12 with fail
  rw [← Hw9.out]
  clear Hw9
  obtain ⟨⟨f0, f1, f2, f3⟩, -, fl⟩ := HA9.out.f4
  have hXat : atN X p = some (setKids k (fixK (ruleOf s (typeN k)) (kidsOf k) (findN s k))) := by rw [← HX.out]; exact atN_put p n k _ Hat.out
  generalize hM : setKids k (fixK (ruleOf s (typeN k)) (kidsOf k) (findN s k)) = M at hXat
  have HMl := Lib.hid (show leafOf M = false by rw [← hM, leaf_setKids]; exact Hkl.out)
  have HMp := Lib.hid (show propsOf M = propsOf k by rw [← hM, propsOf_setKids])
  have hg2 := get_c X p (.agg #[.bool x0, .slice x1 e1 g1, .slice x2 e2 g2, .slice x3 e3 g3]) pa pc w9 (by have := HXw.out; omega) (HXv.out w9 Hb79.out) (Hp.out w9 (below_and Hb7.out Hb79.out))
  rw [hXat] at hg2
  have HG2 := Lib.hid hg2
  clear hg2 hXat hM
  go_wp2_with fail
  refine HG2.out.mono ?_
  intro e w10 hg
  obtain ⟨hbel, mx, m1', m2', m3', u1, u2, u3, v1, v2, v3, rfl, hmq⟩ := GetP.alike hg
  have Hb910 := Lib.hid hbel
  have hkx := nodeq_leaf HKq9.out
  have hmx := nodeq_leaf hmq
  rw [Hkl.out] at hkx
  rw [show (some M).getD zeroN = M from rfl, HMl.out] at hmx
  subst hkx; subst hmx
  have HMq := Lib.hid (show NodeQ w10 (fun b => w9.heap.size ≤ b) M [.bool false, .slice m1' u1 v1, .slice m2' u2 v2, .slice m3' u3 v3] from hmq)
  have HK10 := Lib.hid (HK9.out.kept hbel); have HKq10 := Lib.hid (nodeq_since HKq9.out hbel)
  clear hg hbel hmq HG2 f0 f1 f2 f3 fl
  obtain ⟨w11, hw11⟩ : ∃ w11, w11 = w10.alloc (Obj.cells #[.bool false, .slice m1' u1 v1, .slice m2' u2 v2, .slice m3' u3 v3] 35) := ⟨_, rfl⟩
  have hb1011 : Below w10.heap.size w10 w11 := by rw [hw11]; exact one_below _ _
  have HM11 := Lib.hid (show At w11 w10.heap.size [.bool false, .slice m1' u1 v1, .slice m2' u2 v2, .slice m3' u3 v3] 35 by rw [hw11]; exact At.fresh _ _ _)
  have HK11 := Lib.hid (HK10.out.kept hb1011)
  have HMq11 := Lib.hid (nodeq_since HMq.out hb1011); have HKq11 := Lib.hid (nodeq_since HKq10.out hb1011)
  have Hb911 := Lib.hid (below_and Hb910.out hb1011)
  have Hb711 := Lib.hid (below_and Hb79.out Hb911.out)
  have Hs910 := Lib.hid Hb910.out.size
  have Hw11 := Lib.hid hw11
  clear hw11 hb1011 HK10 HKq10 HMq HKq9 HK9
  go_upto_region 13 with fail
  rw [← Hw11.out]
  clear Hw11
  have hsp := rsame4_c (NodeD.mk false (propsOf k) [] []).wt (.mk false (propsOf k) [] []) (.mk false (propsOf M) [] []) (.agg #[.bool false, .slice k1 s1 r1, .slice none 0 0, .slice none 0 0]) (.agg #[.bool false, .slice m1' u1 v1, .slice none 0 0, .slice none 0 0]) w11 (Nat.le_refl _) ⟨_, rfl, NodeQ.node _ _ (nodeq_props HKq11.out)⟩ ⟨_, rfl, NodeQ.node _ _ (nodeq_props HMq11.out)⟩
  rw [HMp.out, sameN_self] at hsp
  have HSp := Lib.hid hsp
  obtain ⟨⟨f0, f1, f2, f3⟩, -, fl⟩ := HK11.out.f4
  obtain ⟨⟨g0, g1', g2', g3'⟩, -, gl⟩ := HM11.out.f4
  clear hsp
  go_wp2_with fail
  refine HSp.out.mono ?_
  rintro e w12 ⟨rfl, hbel⟩
  have Hb712 := Lib.hid (below_and Hb711.out hbel)
  have HK12 := Lib.hid (HK11.out.kept hbel); have HM12 := Lib.hid (HM11.out.kept hbel)
  have hqk : ∀ w', Below w7.heap.size w7 w' → RowA w' w'.heap.size 1 qa q.length qc (q.map (Value.int .i64)) := fun w' hb => Hq0.out.keep (Hb0.out.trans ((below_and Hb7.out hb).mono Hb0.out.size)) (Hb0.out.trans ((below_and Hb7.out hb).mono Hb0.out.size)).size
  have hpk : ∀ w', Below w7.heap.size w7 w' → RowA w' w'.heap.size 1 pa p.length pc (p.map (Value.int .i64)) := fun w' hb => Hp.out w' (below_and Hb7.out hb)
  have Hqk := Lib.hid hqk; have Hpk := Lib.hid hpk
  clear HSp hbel f0 f1 f2 f3 fl g0 g1' g2' g3' gl HK11 HM11 HKq11 HMq11 hqk hpk HMp HMl
  obtain ⟨A1, hA1⟩ : ∃ A1, A1 = aboveB p q := ⟨_, rfl⟩
  have hc1 := above_c p q pa qa pc qc w12.heap.size w12 (Hpk.out w12 Hb712.out) (Hqk.out w12 Hb712.out)
  rw [← hA1] at hc1
  have HC1 := Lib.hid hc1; have HA1 := Lib.hid hA1
  clear hc1 hA1
  go_wp2_with fail
  refine HC1.out.mono ?_
  rintro e w13 ⟨rfl, hd⟩
  have hb13 := hd.below w12.heap.size
  have Hb713 := Lib.hid (below_and Hb712.out hb13)
  have HK13 := Lib.hid (HK12.out.kept hb13); have HM13 := Lib.hid (HM12.out.kept hb13)
  clear HC1 hd hb13 HK12 HM12
  cases A1 with
  | true =>
    have HbW := Lib.hid (Hb0.out.trans ((below_and Hb7.out Hb713.out).mono Hb0.out.size))
    go_wp2_with fail
    go_ret
    exact ⟨rfl, HbW.out⟩
  | false =>
  obtain ⟨A2, hA2⟩ : ∃ A2, A2 = aboveB q p := ⟨_, rfl⟩
  have hc1 := above_c q p qa pa qc pc w13.heap.size w13 (Hqk.out w13 Hb713.out) (Hpk.out w13 Hb713.out)
  rw [← hA2] at hc1
  have HC1 := Lib.hid hc1; have HA2 := Lib.hid hA2
  clear hc1 hA2
  go_wp2_with fail
  refine HC1.out.mono ?_
  rintro e w14 ⟨rfl, hd⟩
  have hb13 := hd.below w13.heap.size
  have Hb714 := Lib.hid (below_and Hb713.out hb13)
  have HK14 := Lib.hid (HK13.out.kept hb13); have HM14 := Lib.hid (HM13.out.kept hb13)
  clear HC1 hd hb13 HK13 HM13
  cases A2 with
  | true =>
    have HbW := Lib.hid (Hb0.out.trans ((below_and Hb7.out Hb714.out).mono Hb0.out.size))
    go_wp2_with fail
    go_ret
    exact ⟨rfl, HbW.out⟩
  | false =>
  obtain ⟨A3, hA3⟩ : ∃ A3, A3 = decide (p = q) := ⟨_, rfl⟩
  have hc1 := tsame_c p q pa qa pc qc w14.heap.size w14 (Hpk.out w14 Hb714.out) (Hqk.out w14 Hb714.out)
  rw [← hA3] at hc1
  have HC1 := Lib.hid hc1; have HA3 := Lib.hid hA3
  clear hc1 hA3
  go_wp2_with fail
  refine HC1.out.mono ?_
  rintro e w15 ⟨rfl, hd⟩
  have hb13 := hd.below w14.heap.size
  have Hb715 := Lib.hid (below_and Hb714.out hb13)
  have HK15 := Lib.hid (HK14.out.kept hb13); have HM15 := Lib.hid (HM14.out.kept hb13)
  clear HC1 hd hb13 HK14 HM14
  cases A3 with
  | true =>
    have HbW := Lib.hid (Hb0.out.trans ((below_and Hb7.out Hb715.out).mono Hb0.out.size))
    go_wp2_with fail
    go_ret
    exact ⟨rfl, HbW.out⟩
  | false =>
  have hap := apart_of HA1.out.symm HA2.out.symm (of_decide_eq_false HA3.out.symm)
  have hXq : atN X q = atN n q := by rw [← HX.out]; exact atN_put_other p q n k _ Hat.out hap.1 hap.2
  have hg1 := get_c n q _ qa qc w15 (by have := Hnw2.out; omega) (HNv.out w15 Hb715.out) (Hqk.out w15 Hb715.out)
  have hg2 := fun (w' : World) (hb : Below w7.heap.size w7 w') => get_c X q (.agg #[.bool x0, .slice x1 e1 g1, .slice x2 e2 g2, .slice x3 e3 g3]) qa qc w' (by have := HXw.out; omega) (HXv.out w' hb) (Hqk.out w' hb)
  rw [hXq] at hg2
  obtain ⟨R, hR⟩ : ∃ R, R = atN n q := ⟨_, rfl⟩
  rw [← hR] at hg1 hg2
  have HRw := Lib.hid (show (R.getD zeroN).wt ≤ 1000000 by
    rw [hR]
    cases h : atN n q with
    | none => show zeroN.wt ≤ _; rw [show zeroN.wt = 1 from rfl]; omega
    | some m => have h1 := atN_wt _ _ _ h; have h2 := Hnw2.out; show m.wt ≤ _; omega)
  have HK15s := Lib.hid (show w8.heap.size < w15.heap.size from HK15.out.lt); have HM15s := Lib.hid (show w10.heap.size < w15.heap.size from HM15.out.lt)
  have HG1 := Lib.hid hg1; have HG2 := Lib.hid hg2
  obtain ⟨⟨y0, y1, y2, y3⟩, -, yl⟩ := (HN7.out.kept Hb715.out).f4
  obtain ⟨E, hE⟩ : ∃ E, E = errG R := ⟨_, rfl⟩
  have HEr := Lib.hid hE
  clear hap hXq hg1 hg2 hR HA1 HA2 HA3 hE
  go_wp2_with fail
  refine HG1.out.mono ?_
  intro e w16 hg
  obtain ⟨hbel, ex, ex1, ex2, ex3, ey1, ey2, ey3, ez1, ez2, ez3, rfl, heq⟩ := GetP.alike hg
  have Hb716 := Lib.hid (below_and Hb715.out hbel)
  have HK16 := Lib.hid (HK15.out.kept hbel); have HM16 := Lib.hid (HM15.out.kept hbel)
  have HA16 := Lib.hid (HA7.out.kept Hb716.out)
  rw [← HEr.out]
  have HEq := Lib.hid (show NodeQ w16 (fun b => w15.heap.size ≤ b) (R.getD zeroN) [.bool ex, .slice ex1 ey1 ez1, .slice ex2 ey2 ez2, .slice ex3 ey3 ez3] from heq)
  have Hs15 := Lib.hid Hb715.out.size
  clear hg hbel heq HG1 y0 y1 y2 y3 yl HK15 HM15
  obtain ⟨⟨f0, f1, f2, f3⟩, ff, fl⟩ := HK16.out.f4
  have hn1 : w6.heap.size ≠ w8.heap.size := by have h1 := HA7.out.lt; have h2 := Hs78.out; omega
  have hn2 : w10.heap.size ≠ w8.heap.size := by have h1 := Hb910.out.size; have h2 := HN9.out; omega
  have hl8 : w7.heap.size ≤ w8.heap.size := Hs78.out
  have Hn1 := Lib.hid hn1; have Hn2 := Lib.hid hn2
  go_upto_region 18 with fail
  obtain ⟨w17, hw17⟩ : ∃ w17, w17 = ((((w16.setCell ⟨w8.heap.size, 0, none⟩ (Value.bool ex)).setCell ⟨w8.heap.size, 1, none⟩ (Value.slice ex1 ey1 ez1)).setCell ⟨w8.heap.size, 2, none⟩ (Value.slice ex2 ey2 ez2)).setCell ⟨w8.heap.size, 3, none⟩ (Value.slice ex3 ey3 ez3)) := ⟨_, rfl⟩
  rw [← hw17]
  have HK17 := Lib.hid (show At w17 w8.heap.size [.bool ex, .slice ex1 ey1 ez1, .slice ex2 ey2 ez2, .slice ex3 ey3 ez3] 35 by rw [hw17]; exact (((HK16.out.set 0 _).set 1 _).set 2 _).set 3 _)
  have HM17 := Lib.hid (show At w17 w10.heap.size [.bool false, .slice m1' u1 v1, .slice m2' u2 v2, .slice m3' u3 v3] 35 by rw [hw17]; exact (((HM16.out.set_ne hn2 _).set_ne hn2 _).set_ne hn2 _).set_ne hn2 _)
  have HA17 := Lib.hid (show At w17 w6.heap.size [.bool x0, .slice x1 e1 g1, .slice x2 e2 g2, .slice x3 e3 g3] 35 by rw [hw17]; exact (((HA16.out.set_ne hn1 _).set_ne hn1 _).set_ne hn1 _).set_ne hn1 _)
  have HEq17 := Lib.hid (show NodeQ w17 (fun b => w15.heap.size ≤ b) (R.getD zeroN) [.bool ex, .slice ex1 ey1 ez1, .slice ex2 ey2 ez2, .slice ex3 ey3 ez3] by rw [hw17]; exact nodeq_set4 HEq.out (by have h1 := HK15s.out; omega) _ _ _ _)
  have Hb717 := Lib.hid (show Below w7.heap.size w7 w17 by rw [hw17]; exact (((Hb716.out.setCell (p := ⟨w8.heap.size, 0, none⟩) hl8 _).setCell (p := ⟨w8.heap.size, 1, none⟩) hl8 _).setCell (p := ⟨w8.heap.size, 2, none⟩) hl8 _).setCell (p := ⟨w8.heap.size, 3, none⟩) hl8 _)
  have HG3 := Lib.hid (HG2.out w17 Hb717.out)
  clear hw17 hn1 hn2 hl8 f0 f1 f2 f3 ff fl HK16 HM16 HA16 HEq HG2
  obtain ⟨⟨f0, f1, f2, f3⟩, -, fl⟩ := HA17.out.f4
  go_wp2_with fail
  refine HG3.out.mono ?_
  intro e w18 hg
  obtain ⟨hbel, hx, hx1, hx2, hx3, hy1, hy2, hy3, hz1, hz2, hz3, rfl, hhq⟩ := GetP.alike hg
  rw [← HEr.out]
  have Hb718 := Lib.hid (below_and Hb717.out hbel)
  have HK18 := Lib.hid (HK17.out.kept hbel); have HM18 := Lib.hid (HM17.out.kept hbel)
  have HEq18 := Lib.hid (nodeq_since HEq17.out hbel)
  have HHq := Lib.hid (show NodeQ w18 (fun b => w17.heap.size ≤ b) (R.getD zeroN) [.bool hx, .slice hx1 hy1 hz1, .slice hx2 hy2 hz2, .slice hx3 hy3 hz3] from hhq)
  have Hm17 := Lib.hid HM17.out.lt
  clear hg hbel hhq HG3 f0 f1 f2 f3 fl HK17 HM17 HA17 HEq17
  obtain ⟨⟨f0, f1, f2, f3⟩, ff, fl⟩ := HM18.out.f4
  have hn2 : w8.heap.size ≠ w10.heap.size := Ne.symm Hn2.out
  go_upto_region 19 with fail
  obtain ⟨w19, hw19⟩ : ∃ w19, w19 = ((((w18.setCell ⟨w10.heap.size, 0, none⟩ (Value.bool hx)).setCell ⟨w10.heap.size, 1, none⟩ (Value.slice hx1 hy1 hz1)).setCell ⟨w10.heap.size, 2, none⟩ (Value.slice hx2 hy2 hz2)).setCell ⟨w10.heap.size, 3, none⟩ (Value.slice hx3 hy3 hz3)) := ⟨_, rfl⟩
  rw [← hw19]
  have HM19 := Lib.hid (show At w19 w10.heap.size [.bool hx, .slice hx1 hy1 hz1, .slice hx2 hy2 hz2, .slice hx3 hy3 hz3] 35 by rw [hw19]; exact (((HM18.out.set 0 _).set 1 _).set 2 _).set 3 _)
  have HK19 := Lib.hid (show At w19 w8.heap.size [.bool ex, .slice ex1 ey1 ez1, .slice ex2 ey2 ez2, .slice ex3 ey3 ez3] 35 by rw [hw19]; exact (((HK18.out.set_ne hn2 _).set_ne hn2 _).set_ne hn2 _).set_ne hn2 _)
  have HEq19 := Lib.hid (show NodeQ w19 (fun b => w15.heap.size ≤ b) (R.getD zeroN) [.bool ex, .slice ex1 ey1 ez1, .slice ex2 ey2 ez2, .slice ex3 ey3 ez3] by rw [hw19]; exact nodeq_set4 HEq18.out (by have h1 := HM15s.out; omega) _ _ _ _)
  have HHq19 := Lib.hid (show NodeQ w19 (fun b => w17.heap.size ≤ b) (R.getD zeroN) [.bool hx, .slice hx1 hy1 hz1, .slice hx2 hy2 hz2, .slice hx3 hy3 hz3] by rw [hw19]; exact nodeq_set4 HHq.out (by have h1 := Hm17.out; omega) _ _ _ _)
  have hl10 : w7.heap.size ≤ w10.heap.size := by have h1 := Hs78.out; have h2 := Hb910.out.size; have h3 := HN9.out; omega
  have Hb719 := Lib.hid (show Below w7.heap.size w7 w19 by rw [hw19]; exact (((Hb718.out.setCell (p := ⟨w10.heap.size, 0, none⟩) hl10 _).setCell (p := ⟨w10.heap.size, 1, none⟩) hl10 _).setCell (p := ⟨w10.heap.size, 2, none⟩) hl10 _).setCell (p := ⟨w10.heap.size, 3, none⟩) hl10 _)
  clear hw19 hn2 hl10 f0 f1 f2 f3 ff fl HK18 HM18 HEq18 HHq
  obtain ⟨⟨f0, f1, f2, f3⟩, -, fl⟩ := HK19.out.f4
  obtain ⟨⟨g0, g1', g2', g3'⟩, -, gl⟩ := HM19.out.f4
  have hss := same_c (R.getD zeroN).wt (R.getD zeroN) (R.getD zeroN) (.agg #[.bool ex, .slice ex1 ey1 ez1, .slice ex2 ey2 ez2, .slice ex3 ey3 ez3]) (.agg #[.bool hx, .slice hx1 hy1 hz1, .slice hx2 hy2 hz2, .slice hx3 hy3 hz3]) w19 (Nat.le_refl _) ⟨_, rfl, NodeQ.node _ _ HEq19.out⟩ ⟨_, rfl, NodeQ.node _ _ HHq19.out⟩
  rw [sameN_self] at hss
  have HSS := Lib.hid hss
  have heq : (E == E) = true := by simp
  clear hss
  go_wp2_with fail
  refine HSS.out.mono ?_
  rintro e w20 ⟨rfl, hbel⟩
  have HbW := Lib.hid (Hb0.out.trans ((below_and Hb7.out (below_and Hb719.out hbel)).mono Hb0.out.size))
  clear HSS hbel f0 f1 f2 f3 fl g0 g1' g2' g3' gl
  go_wp2_with fail
  go_ret
  exact ⟨rfl, HbW.out⟩
end Go.Proofs.YtaopoincbigjhaaGreatDoor
namespace Go.Proofs.YtaopoincbigjhaaGreatDoor
open Go.ChangeShapes Go.WideShapes Go.ChangeAt Go.WideMaps Go.WideElems Go.RowKit Go.Redl Go.Deep
set_option linter.unusedVariables false

theorem own : ownKnob Tryz.prog.godebug = none := by kernel_rfl
theorem laidOut : laidOutB Tryz.prog = true := by kernel_rfl
def IntΦ {H : Type} (z : Int) (cs : List Value) (d : DataW H) : Prop := cs = [.int .i64 z] ∧ 1 ≤ Rows.uptoBulk d
theorem elems_path {H : Type} : ∀ {l : List Int} {css : List Value} {ds : List (DataW H)}, Elems IntΦ l css ds → css = l.map (Value.int .i64) ∧ l.length ≤ Rows.uptoBulkAll ds
  | [], css, ds, h => by obtain ⟨rfl, rfl⟩ := h; exact ⟨rfl, by simp⟩
  | z :: l, css, ds, h => by
    obtain ⟨c, cs, d, ds', rfl, rfl, ⟨rfl, hb⟩, hr⟩ := h
    obtain ⟨rfl, h3⟩ := elems_path hr
    exact ⟨rfl, by simp only [List.length_cons, Rows.uptoBulkAll]; omega⟩
theorem path_of_trod {H : Type} {enc : TypeId × Value → H} {W : World} {fuel : Nat} {cs : List Value} {x : DataW H × List MemPlace} (h : DataW.trod enc Tryz.prog W 0 (fun _ => true) true fuel 36 cs = some x) :
    ∃ a cap zs, cs = [.slice a (List.length zs) cap] ∧ RowA W W.heap.size 1 a (List.length zs) cap (zs.map (Value.int .i64)) ∧ zs.length + 1 ≤ Rows.uptoBulk x.1 := by
  obtain ⟨a, cap, ys, css, ds, rfl, hr, hel, hs⟩ := row_of_trod IntΦ Tryz.underlying36 (show Tryz.prog.cellsOf 3 = 1 by kernel_rfl) (by decide)
    (fun m cs x _ hx => by
      obtain ⟨xv, xp⟩ := x
      obtain ⟨z, e0, e1, -⟩ := DataW.trod_int Tryz.underlying3 hx
      have e2 := (Prod.mk.inj e1).1
      subst e2
      exact ⟨z, e0, by simp [Rows.uptoBulk]⟩) (fun y c d hh => by obtain ⟨rfl, -⟩ := hh; intro u hu; simp at hu; subst hu; rfl) h
  obtain ⟨rfl, hlen⟩ := elems_path hel
  have m0 := slice_bulk (n := 0) (hs.imp (fun h => ⟨h.1, rfl, h.2.2⟩) id)
  exact ⟨a, cap, ys, rfl, hr, by omega⟩
end Go.Proofs.YtaopoincbigjhaaGreatDoor
namespace Go.Proofs.YtaopoincbigjhaaGreatDoor
open Go.ChangeShapes Go.WideShapes Go.ChangeAt Go.RowKit Go.Redl
set_option linter.unusedVariables false
set_option maxRecDepth 100000

theorem fixHere_reads (os : Os) {H : Type} (enc : TypeId × Value → H) : ∃ places, DataW.whole enc Tryz.prog ((World.laidAll Tryz.prog os Rows.fixHereUptoRow.laid).forCall (fun _ _ => 0) ⟨#[], #[.agg #[.slice none 0 0, .string ⟨#[]⟩, .int .i64 0, .string ⟨#[]⟩, .int .i64 0, .string ⟨#[]⟩, .slice none 0 0, .int .i64 0, .string ⟨#[]⟩, .int .i64 0, .int .i64 0, .int .i64 0, .int .i64 0, .int .i64 0, .int .i64 0, .int .i64 0], .agg #[.bool false, .slice none 0 0, .slice none 0 0, .slice none 0 0], .slice none 0 0, .slice none 0 0], []⟩).memory Tryz.f4.params.toList Rows.fixHereSpec.vars false (#[.agg #[.slice none 0 0, .string ⟨#[]⟩, .int .i64 0, .string ⟨#[]⟩, .int .i64 0, .string ⟨#[]⟩, .slice none 0 0, .int .i64 0, .string ⟨#[]⟩, .int .i64 0, .int .i64 0, .int .i64 0, .int .i64 0, .int .i64 0, .int .i64 0, .int .i64 0], .agg #[.bool false, .slice none 0 0, .slice none 0 0, .slice none 0 0], .slice none 0 0, .slice none 0 0] : Array Value).toList 8 = some ([.agg [.nil, .agg [.lit (.string []), .agg [.lit (.int .i64 0), .lit (.string [])], .agg [.lit (.int .i64 0), .lit (.string [])], .nil, .lit (.int .i64 0), .lit (.string [])], .agg [.lit (.int .i64 0), .lit (.int .i64 0), .lit (.int .i64 0), .lit (.int .i64 0), .lit (.int .i64 0), .lit (.int .i64 0)], .lit (.int .i64 0)], .agg [.lit (.bool false), .nil, .nil, .nil], .nil, .nil], [], places) :=
  ⟨[], by kernel_rfl⟩
theorem fixHere_contract (H : Type) (enc : TypeId × Value → H) (W : World) (base : Nat) (args : Array Value) (ds gs : List (DataW H)) (before : List MemPlace)
    (hval0 : ∀ (j : Nat) t v, Tryz.f4.params[j]? = some t → args[j]? = some v → Value.okWide Tryz.prog W .any base t v)
    (hW : DataW.Whole enc Tryz.prog Tryz.f4.params.toList Rows.fixHereSpec.vars false W args.toList ds gs before) (hk : Rows.uptoSmall H (ds ++ gs) = true) (hL : laidMetH Tryz.prog Rows.fixHereUptoRow.laid W) :
    Calls Tryz.prog 4 args W fun e W' => ∃ v, e = .returned v ∧ Rows.fixHereSpec.post enc Tryz.prog Tryz.f4 false true false false W args v W' := by
  have hval : ∀ (j : Nat) t v, Tryz.f4.params[j]? = some t → args[j]? = some v → Value.okWide Tryz.prog W .any base t v := hval0
  have hW' := hW
  obtain ⟨p, q, hA0, hV, rfl, hfz, hnd⟩ := hW
  have hA : DataW.TrodAll enc Tryz.prog W 0 (fun _ => true) true Tryz.f4.params.toList args.toList ds p := hA0
  rw [Tryz.params4] at hA hval
  obtain ⟨v0, vs0, d0, ds0, p0, q0, hargs, rfl, rfl, h0, r0⟩ := trodAll_cons hA
  obtain ⟨v1, vs1, d1, ds1, p1, q1, rfl, rfl, rfl, h1, r1⟩ := trodAll_cons r0
  obtain ⟨v2, vs2, d2, ds2, p2, q2, rfl, rfl, rfl, h2, r2⟩ := trodAll_cons r1
  obtain ⟨v3, vs3, d3, ds3, p3, q3, rfl, rfl, rfl, h3, r3⟩ := trodAll_cons r2
  obtain ⟨rfl, rfl, rfl⟩ := trodAll_nil r3
  obtain rfl : args = #[v0, v1, v2, v3] := by cases args; simp_all
  obtain ⟨rfl, rfl⟩ := trodVars_none hV
  obtain ⟨cs0, rfl, hsz0⟩ := okWide_struct Tryz.underlying30 (hval 0 30 v0 rfl rfl)
  have k0 := h0
  have lt0 : ∀ x ∈ p0, x.block < W.heap.size := by obtain ⟨m, hm⟩ := k0; exact DataW.trod_lt m _ _ _ hm
  obtain ⟨n0, i0, u0⟩ : ∃ n, SchemaV W W.heap.size n (.agg cs0) ∧ n.wt ≤ Rows.uptoBulk d0 := by
    obtain ⟨fuel, hf⟩ := h0
    obtain ⟨n, h1, h2⟩ := schema_of_trod hf
    exact ⟨n, ⟨cs0.toList, by simp, h1⟩, h2⟩
  obtain ⟨cs1, rfl, hsz1⟩ := okWide_struct Tryz.underlying35 (hval 1 35 v1 rfl rfl)
  have k1 := h1
  have lt1 : ∀ x ∈ p1, x.block < W.heap.size := by obtain ⟨m, hm⟩ := k1; exact DataW.trod_lt m _ _ _ hm
  obtain ⟨n1, i1, u1⟩ : ∃ n, NodeV W W.heap.size n (.agg cs1) ∧ n.wt ≤ Rows.uptoBulk d1 := by
    obtain ⟨fuel, hf⟩ := h1
    obtain ⟨n, h1, h2⟩ := node_of_trod fuel _ _ hf
    exact ⟨n, ⟨cs1.toList, by simp, h1⟩, h2⟩
  obtain ⟨a2, len2, cap2, rfl⟩ := okWide_slice Tryz.underlying36 (hval 2 36 v2 rfl rfl)
  have k2 := h2
  have lt2 : ∀ x ∈ p2, x.block < W.heap.size := by obtain ⟨m, hm⟩ := k2; exact DataW.trod_lt m _ _ _ hm
  obtain ⟨n2, hl2, i2, u2⟩ : ∃ zs : List Int, len2 = zs.length ∧ RowA W W.heap.size 1 a2 zs.length cap2 (zs.map (Value.int .i64)) ∧ zs.length + 1 ≤ Rows.uptoBulk d2 := by
    obtain ⟨fuel, hf⟩ := h2
    obtain ⟨a, cap, zs, h0, h1, h2⟩ := path_of_trod hf
    simp [Value.cells] at h0
    obtain ⟨rfl, rfl, rfl⟩ := h0
    exact ⟨zs, rfl, h1, h2⟩
  subst hl2
  obtain ⟨a3, len3, cap3, rfl⟩ := okWide_slice Tryz.underlying36 (hval 3 36 v3 rfl rfl)
  have k3 := h3
  have lt3 : ∀ x ∈ p3, x.block < W.heap.size := by obtain ⟨m, hm⟩ := k3; exact DataW.trod_lt m _ _ _ hm
  obtain ⟨n3, hl3, i3, u3⟩ : ∃ zs : List Int, len3 = zs.length ∧ RowA W W.heap.size 1 a3 zs.length cap3 (zs.map (Value.int .i64)) ∧ zs.length + 1 ≤ Rows.uptoBulk d3 := by
    obtain ⟨fuel, hf⟩ := h3
    obtain ⟨a, cap, zs, h0, h1, h2⟩ := path_of_trod hf
    simp [Value.cells] at h0
    obtain ⟨rfl, rfl, rfl⟩ := h0
    exact ⟨zs, rfl, h1, h2⟩
  subst hl3
  have hb : Rows.uptoBulkAll _ ≤ 1048576 := of_decide_eq_true hk
  simp only [List.append_nil, Rows.uptoBulkAll, Nat.add_zero] at hb
  clear hA0 hval0
  refine (fixhere_walk n0 n1 _ _ n2 n3 _ _ _ _ W (by omega) (by omega) (by omega) (by omega) i0 i1 i2 i3).mono fun e W' ⟨he, bel⟩ => ?_
  subst he
  exact ⟨_, rfl, _, _, _, [], _, [], hW', trodAll_mk1 (shut_bool Tryz.underlying4 _), (trodAll_cons_mk (Below.trod laidOut (by kernel_rfl) (of_decide_eq_true (by kernel_rfl)) k0 bel lt0) (trodAll_cons_mk (Below.trod laidOut (by kernel_rfl) (of_decide_eq_true (by kernel_rfl)) k1 bel lt1) (trodAll_cons_mk (Below.trod laidOut (by kernel_rfl) (of_decide_eq_true (by kernel_rfl)) k2 bel lt2) (trodAll_cons_mk (Below.trod laidOut (by kernel_rfl) (of_decide_eq_true (by kernel_rfl)) k3 bel lt3) trodAll_mk0)))), rfl, bel.frame _, fun h => by cases h⟩
theorem fixHere_lifted (os : Os) (started : os.Started) (H : Type) (enc : TypeId × Value → H) (F : Stop.Interp) :
    ReturnsInHanded {} Tryz.checked os 4 .any ((Rows.OpenSpec.upto Rows.fixHereSpec).preRow enc Tryz.prog Tryz.f4 Rows.fixHereUptoRow.domain false Rows.fixHereUptoRow.laid) (((Rows.OpenSpec.upto Rows.fixHereSpec).at F).post enc Tryz.prog Tryz.f4 false true false false) := by
  obtain ⟨places, hx⟩ := fixHere_reads os enc
  refine returnsInHanded_of_row (C := Tryz.checked) (s := Rows.OpenSpec.upto Rows.fixHereSpec) own started (by kernel_rfl) Tryz.func4
    (witness_row_atRef (enc := enc) (C := Tryz.checked) false (World.laidAll Tryz.prog os Rows.fixHereUptoRow.laid) #[.agg #[.slice none 0 0, .string ⟨#[]⟩, .int .i64 0, .string ⟨#[]⟩, .int .i64 0, .string ⟨#[]⟩, .slice none 0 0, .int .i64 0, .string ⟨#[]⟩, .int .i64 0, .int .i64 0, .int .i64 0, .int .i64 0, .int .i64 0, .int .i64 0, .int .i64 0], .agg #[.bool false, .slice none 0 0, .slice none 0 0, .slice none 0 0], .slice none 0 0, .slice none 0 0] (World.laidAll_os _ _ _) (by kernel_rfl) (by kernel_rfl) (by kernel_rfl)
      (OpenSpec.preRow_of_cond 8 hx (by kernel_rfl) (fun k hk => by cases hk; kernel_rfl) (by kernel_rfl) (by rw [MakeChecks.laidMetH_plain _ _ _ (by kernel_rfl)]; exact laidMet_laidAll _ (by kernel_rfl) (by kernel_rfl)))) ?_
  intro W base args ds gs before hval hW _ hcond _ hL _ _
  exact fixHere_contract H enc W base args ds gs before hval hW (hcond _ rfl) hL
end Go.Proofs.YtaopoincbigjhaaGreatDoor
