/- Parts of the proof, one behind the other: RYK, RFN, RYL. -/
import Derived.Test.YtaopoincbigjhaaGreatDoorFC1
import Derived.Test.YtaopoincbigjhaaGreatDoorFC2
import Derived.Test.YtaopoincbigjhaaGreatDoorFC3
import Derived.Test.YtaopoincbigjhaaGreatDoorFC4
import Derived.Test.YtaopoincbigjhaaGreatDoorFC5
import Derived.Test.YtaopoincbigjhaaGreatDoorFC6
import Derived.Test.YtaopoincbigjhaaGreatDoorFC7
import Derived.Test.YtaopoincbigjhaaGreatDoorFC8
import Derived.Test.YtaopoincbigjhaaGreatDoorFC9
import Derived.Test.YtaopoincbigjhaaGreatDoorFC10
import Derived.Test.YtaopoincbigjhaaGreatDoorFC11
import Derived.Test.YtaopoincbigjhaaGreatDoorFC12
import Derived.Test.YtaopoincbigjhaaGreatDoorFC13
import Derived.Test.YtaopoincbigjhaaGreatDoorFC14
import Derived.Test.YtaopoincbigjhaaGreatDoorFC15
import Derived.Test.YtaopoincbigjhaaGreatDoorFC16
import Derived.Test.YtaopoincbigjhaaGreatDoorFC17
import Derived.Test.YtaopoincbigjhaaGreatDoorFC18
import Derived.Test.YtaopoincbigjhaaGreatDoorFC19
import Derived.Test.YtaopoincbigjhaaGreatDoorFC20
import Derived.Test.YtaopoincbigjhaaGreatDoorFC21
import Derived.Test.YtaopoincbigjhaaGreatDoorFC22
import Derived.Test.YtaopoincbigjhaaGreatDoorFC23
import Derived.Test.YtaopoincbigjhaaGreatDoorFC24
import Derived.Test.YtaopoincbigjhaaGreatDoorFC25
import Derived.Test.YtaopoincbigjhaaGreatDoorFC26
import Derived.Test.YtaopoincbigjhaaGreatDoorFC27
import Derived.Test.YtaopoincbigjhaaGreatDoorFT1
import Derived.Test.YtaopoincbigjhaaGreatDoorRows
import Derived.WalkKit
import Derived.ProofKit
import Derived.LaidMore
import Derived.OpenShut
import Derived.ChangeOld
import Derived.Below
import Derived.Stop.Joined
import Derived.Deep.DeepHandedRow
import Derived.Deep.DeepWitnessRowRef
import Derived.JoinedCond
import Derived.Test.YtaopoincbigjhaaGreatDoorCards
import Derived.Test.YtaopoincbigjhaaGreatDoorTie
import Derived.ShutString
import Derived.Lib.LaidTab
import Derived.Stop.LaidErr
import Derived.Lay
import Derived.SevenTiedAt
namespace Go.Proofs.YtaopoincbigjhaaGreatDoor
open Go.RowKit Go.Redl
set_option linter.unusedVariables false
set_option linter.unusedSimpArgs false

theorem field_class (x y z : Int) (w : World) : (Instr.field 54 (.agg #[.int .i64 x, .int .i64 y, .int .i64 z]) 0).run Tryz.prog w = .ok (.int .i64 x) w := by kernel_rfl
theorem ntext_ent : ∀ args w, (callFunc 23 args).run Tryz.prog w = .ok (.enter 23 args) w := by intro args w; kernel_rfl
set_option maxRecDepth 100000 in
set_option maxHeartbeats 4000000 in
theorem fixtext_walk (s : SchemaD) (n : NodeD) (u v : Value) (p : List Int) (pa : Option Addr) (pc : Nat) (W : World) (hs : s.wt ≤ 1048576) (hn : n.wt ≤ 1048576) (hpl : p.length ≤ 1048576) (hu : SchemaV W W.heap.size s u) (hv : NodeV W W.heap.size n v) (hp : RowA W W.heap.size 1 pa p.length pc (p.map (Value.int .i64))) :
    Calls Tryz.prog 6 #[u, v, .slice pa p.length pc] W (fun e w' => e = .returned (.bool true) ∧ Below W.heap.size W w') := by
  have hu0 := hu
  obtain ⟨csn, rfl, hc⟩ := hv
  obtain ⟨l, b1, m1, d1, b2, m2, d2, b3, m3, d3, rfl⟩ := hc.form
  have hleaf := nodeq_leaf (NodeC.q (Nat.le_refl _) _ _ hc)
  obtain ⟨a, c, css, ea, ec, o0, o1, o2, o3, o4, o5, rfl, -, -, -, -⟩ := hu0.open
  obtain ⟨w0, hw0⟩ : ∃ w0, w0 = (W.alloc (Obj.cells #[.slice a s.rules.length c, strV s.els.type, .int .i64 s.els.text.1, strV s.els.text.2, .int .i64 s.els.other.1, strV s.els.other.2, .slice ea s.els.kids.length ec, .int .i64 s.els.fill, strV s.els.fillT, .int .i64 o0, .int .i64 o1, .int .i64 o2, .int .i64 o3, .int .i64 o4, .int .i64 o5, .int .i64 s.cap] 30)).alloc (Obj.cells #[.bool l, .slice b1 m1 d1, .slice b2 m2 d2, .slice b3 m3 d3] 35) := ⟨_, rfl⟩
  have hb0 : Below W.heap.size W w0 := by rw [hw0]; exact two_below _ _ _
  have HS0 := Lib.hid (show At w0 W.heap.size [.slice a s.rules.length c, strV s.els.type, .int .i64 s.els.text.1, strV s.els.text.2, .int .i64 s.els.other.1, strV s.els.other.2, .slice ea s.els.kids.length ec, .int .i64 s.els.fill, strV s.els.fillT, .int .i64 o0, .int .i64 o1, .int .i64 o2, .int .i64 o3, .int .i64 o4, .int .i64 o5, .int .i64 s.cap] 30 by rw [hw0]; exact (At.fresh W _ _).alloc _)
  have HN0 := Lib.hid (show At w0 (W.heap.size + 1) [.bool l, .slice b1 m1 d1, .slice b2 m2 d2, .slice b3 m3 d3] 35 by rw [hw0]; exact At.second W _ _ _)
  have huk : ∀ w', Below w0.heap.size w0 w' → SchemaV w' w'.heap.size s (.agg #[.slice a s.rules.length c, strV s.els.type, .int .i64 s.els.text.1, strV s.els.text.2, .int .i64 s.els.other.1, strV s.els.other.2, .slice ea s.els.kids.length ec, .int .i64 s.els.fill, strV s.els.fillT, .int .i64 o0, .int .i64 o1, .int .i64 o2, .int .i64 o3, .int .i64 o4, .int .i64 o5, .int .i64 s.cap]) := fun w' hb => hu.keep (hb0.trans (hb.mono hb0.size)) (hb0.trans (hb.mono hb0.size)).size
  have hvk : ∀ w', Below w0.heap.size w0 w' → NodeV w' w'.heap.size n (.agg #[.bool l, .slice b1 m1 d1, .slice b2 m2 d2, .slice b3 m3 d3]) := fun w' hb => ⟨_, rfl, NodeC.keep (hb0.trans (hb.mono hb0.size)) (hb0.trans (hb.mono hb0.size)).size _ _ hc⟩
  have hpk : ∀ w', Below w0.heap.size w0 w' → RowA w' w'.heap.size 1 pa p.length pc (p.map (Value.int .i64)) := fun w' hb => hp.keep (hb0.trans (hb.mono hb0.size)) (hb0.trans (hb.mono hb0.size)).size
  have HF := Lib.hid (fun (w' : World) (hb : Below w0.heap.size w0 w') => lawfew_c s n _ _ p pa pc w' (by omega) (by omega) (by omega) (huk w' hb) (hvk w' hb))
  have HL := Lib.hid (live_c w0)
  have HT := Lib.hid (fun (w' : World) (hb : Below w0.heap.size w0 w') => tcheck_c s _ w' (by omega) (huk w' hb))
  have HK := Lib.hid (fun (w' : World) (hb : Below w0.heap.size w0 w') => ncheck_c n _ w'.heap.size w' hn (hvk w' hb) (Nat.le_refl _))
  have HSN := Lib.hid hleaf; have Hu := Lib.hid huk; have Hv := Lib.hid hvk; have Hp := Lib.hid hpk
  have Hb0 := Lib.hid hb0; have Hw0 := Lib.hid hw0
  have hld := fun (w' : World) (h : At w' W.heap.size [.slice a s.rules.length c, strV s.els.type, .int .i64 s.els.text.1, strV s.els.text.2, .int .i64 s.els.other.1, strV s.els.other.2, .slice ea s.els.kids.length ec, .int .i64 s.els.fill, strV s.els.fillT, .int .i64 o0, .int .i64 o1, .int .i64 o2, .int .i64 o3, .int .i64 o4, .int .i64 o5, .int .i64 s.cap] 30) => At.load (P := Tryz.prog) h Tryz.underlying30 rfl (by kernel_rfl)
  simp [go_sem] at hld
  have Hld := Lib.hid hld
  have Hsw := Lib.hid hs; have Hnw := Lib.hid hn
  clear hu0 hc hw0 hb0 hu hp huk hvk hpk hleaf hld hs hn
  go_enter Tryz.func6, Tryz.ntmps6
  go_upto_region 1 with fail
  rw [← Hw0.out]
  clear Hw0
  go_wp2_with fail
  refine HL.out.mono ?_
  rintro e w1 ⟨rfl, hbel⟩
  have Hb1 := Lib.hid hbel
  have HF1 := Lib.hid (HF.out w1 hbel)
  have HS1 := Lib.hid (HS0.out.kept hbel); have HN1 := Lib.hid (HN0.out.kept hbel)
  obtain ⟨⟨y0, y1, y2, y3⟩, -, yl⟩ := HN1.out.f4
  clear hbel HL HF
  go_upto_region 3 with fail
  go_cut [33] (fun r wx => ∃ R : Bool, r = .bool R ∧ Hid (R = false → (smallB s n p = true ∧ checkS s = 0 ∧ nodeE n = 0 ∧ l = false)) ∧ Hid (Below w0.heap.size w0 wx))
  case first =>
    --<h1
    obtain ⟨B1, hB1⟩ : ∃ B1, B1 = smallB s n p := ⟨_, rfl⟩
    have HB1 := Lib.hid hB1
    rw [← hB1] at HF1
    clear hB1
    go_wp2_with (refine wpList_loadA rfl _ _ rfl W.heap.size #[.slice a s.rules.length c, strV s.els.type, .int .i64 s.els.text.1, strV s.els.text.2, .int .i64 s.els.other.1, strV s.els.other.2, .slice ea s.els.kids.length ec, .int .i64 s.els.fill, strV s.els.fillT, .int .i64 o0, .int .i64 o1, .int .i64 o2, .int .i64 o3, .int .i64 o4, .int .i64 o5, .int .i64 s.cap] rfl HS1.out _ Tryz.underlying30 rfl (by kernel_rfl) ?_)
    refine HF1.out.mono ?_
    rintro e w2 ⟨rfl, hbel⟩
    have Hb2 := Lib.hid (below_and Hb1.out hbel)
    clear HF1 hbel y0 y1 y2 y3 yl
    cases B1 with
    | false =>
      go_wp2_with fail
      go_meet
      case rel => exact ⟨true, rfl, Lib.hid (fun h => by cases h), Hb2⟩
    | true =>
      have hS := Hld.out w2 (HS0.out.kept Hb2.out)
      have HT1 := HT.out w2 Hb2.out
      obtain ⟨z1, hz1⟩ : ∃ z1, z1 = checkS s := ⟨_, rfl⟩
      rw [← hz1] at HT1
      have HT1 := Lib.hid HT1
      have HZ1 := Lib.hid hz1
      clear hz1
      go_wp2_with fail
      refine HT1.out.mono ?_
      rintro e w3 ⟨rfl, hbel⟩
      have Hb3 := Lib.hid (below_and Hb2.out hbel)
      clear HT1 hbel hS
      by_cases hz : z1 = 0
      · subst hz
        have HK1 := HK.out w3 Hb3.out
        obtain ⟨z2, hz2⟩ : ∃ z2, z2 = nodeE n := ⟨_, rfl⟩
        rw [← hz2] at HK1
        have HK1 := Lib.hid HK1
        have HZ2 := Lib.hid hz2
        obtain ⟨⟨y0, y1, y2, y3⟩, -, yl⟩ := (HN0.out.kept Hb3.out).f4
        clear hz2
        go_wp2_with fail
        refine HK1.out.mono ?_
        rintro e w4 ⟨rfl, hbel⟩
        have Hb4 := Lib.hid (below_and Hb3.out hbel)
        clear HK1 hbel y0 y1 y2 y3 yl
        by_cases hz : z2 = 0
        · subst hz
          obtain ⟨⟨y0, y1, y2, y3⟩, -, yl⟩ := (HN0.out.kept Hb4.out).f4
          go_wp2_with fail
          go_meet
          case rel => exact ⟨l, rfl, Lib.hid (fun h => ⟨HB1.out.symm, HZ1.out.symm, HZ2.out.symm, h⟩), Hb4⟩
        · have hzb : (z2 != 0) = true := by simpa using hz
          go_wp2_with fail
          go_meet
          case rel => exact ⟨true, rfl, Lib.hid (fun h => by cases h), Hb4⟩
      · have hzb : (z1 != 0) = true := by simpa using hz
        go_wp2_with fail
        go_meet
        case rel => exact ⟨true, rfl, Lib.hid (fun h => by cases h), Hb3⟩
    -->h1
  case rest =>
  obtain ⟨R, rfl, HR, Hbc⟩ := hcut
  clear HF1 HT HK y0 y1 y2 y3 yl Hb1 HS1 HN1
  cases R with
  | true =>
    have HbW := Lib.hid (Hb0.out.trans (Hbc.out.mono Hb0.out.size))
    go_wp2_with fail
    go_ret
    exact ⟨rfl, HbW.out⟩
  | false =>
  obtain ⟨hsm, hcs, hE, rfl⟩ := HR.out rfl
  have hlf := HSN.out.symm
  have hnw := small_node hsm
  have hpl40 := small_path2 s n p hsm
  have HSc := Lib.hid (HS0.out.kept Hbc.out); have HNc := Lib.hid (HN0.out.kept Hbc.out)
  have HO := Lib.hid (fixops_c s _ n _ p pa pc wc (by have := Hsw.out; omega) (by omega) (Hu.out wc Hbc.out) (Hv.out wc Hbc.out) (Hp.out wc Hbc.out) (by omega))
  have HLen := Lib.hid (fixN_len2 s n p (by omega))
  obtain ⟨⟨y0, y1, y2, y3⟩, -, yl⟩ := HNc.out.f4
  go_wp2_with (refine wpList_loadA rfl _ _ rfl W.heap.size #[.slice a s.rules.length c, strV s.els.type, .int .i64 s.els.text.1, strV s.els.text.2, .int .i64 s.els.other.1, strV s.els.other.2, .slice ea s.els.kids.length ec, .int .i64 s.els.fill, strV s.els.fillT, .int .i64 o0, .int .i64 o1, .int .i64 o2, .int .i64 o3, .int .i64 o4, .int .i64 o5, .int .i64 s.cap] rfl HSc.out _ Tryz.underlying30 rfl (by kernel_rfl) ?_)
  refine HO.out.mono ?_
  rintro e w5 ⟨lv, rfl, hlv, hbel⟩
  have Hb5 := Lib.hid (below_and Hbc.out hbel)
  clear HO hbel y0 y1 y2 y3 yl HSc HNc
  have HGt := Lib.hid (get_c n p _ pa pc w5 (by omega) (Hv.out w5 Hb5.out) (Hp.out w5 Hb5.out))
  obtain ⟨⟨y0, y1, y2, y3⟩, -, yl⟩ := (HN0.out.kept Hb5.out).f4
  have Hlv5 := Lib.hid hlv
  have HEr := Lib.hid (show ∃ z : Int, z = (fixN s n p).2 from ⟨_, rfl⟩)
  generalize hLL : (fixN s n p).1 = LL at hlv
  obtain ⟨la, lc, css2, rfl, -, -⟩ := hlv
  have HLL := Lib.hid hLL
  clear hLL
  go_wp2_with fail
  refine HGt.out.mono ?_
  intro e w4 hg
  obtain ⟨hbel, kx, k1, k2, k3, s1, s2, s3, r1, r2, r3, rfl, hkq⟩ := GetP.alike hg
  have hb54 := hbel
  have Hb54 := Lib.hid hb54
  have HKq := Lib.hid (show NodeQ w4 (fun b => w5.heap.size ≤ b) ((atN n p).getD zeroN) [.bool kx, .slice k1 s1 r1, .slice k2 s2 r2, .slice k3 s3 r3] from hkq)
  clear hg hbel hkq HGt y0 y1 y2 y3 yl hb54
  obtain ⟨w3, hw3⟩ : ∃ w3, w3 = w4.alloc (Obj.cells #[.bool kx, .slice k1 s1 r1, .slice k2 s2 r2, .slice k3 s3 r3] 35) := ⟨_, rfl⟩
  have hb43 : Below w4.heap.size w4 w3 := by rw [hw3]; exact one_below _ _
  have HK3 := Lib.hid (show At w3 w4.heap.size [.bool kx, .slice k1 s1 r1, .slice k2 s2 r2, .slice k3 s3 r3] 35 by rw [hw3]; exact At.fresh _ _ _)
  have HKq3 := Lib.hid (nodeq_since HKq.out hb43)
  have hb53 := below_and Hb54.out hb43
  have hlv : OpsV w3 (fixN s n p).1 (.slice la LL.length lc) := Hlv5.out.keep hb53
  have Hb5o := Lib.hid Hb5.out
  have Hb53 := Lib.hid (below_and Hb5o.out hb53)
  have Hlt4 := Lib.hid (show W.heap.size + 1 < w4.heap.size from Nat.lt_of_lt_of_le (HN0.out.kept Hb5o.out).lt Hb54.out.size)
  have Hw3 := Lib.hid hw3
  clear hw3 hb43 hb53 HKq Hlv5 HEr Hb54 Hb5
  go_upto_region 7 with fail
  rw [← Hw3.out]
  clear Hw3
  have Hb5 := Hb53
  rw [← HLL.out] at hlv ⊢
  clear HLL Hb53 Hb5o
  rcases fix_case hsm hcs hE hlf with ⟨her, hnil⟩ | ⟨k, hat, hkl, hfn, her, hplay, hne, hops, hins, hXE, hXs, hXw, hLeq⟩
  · have hnl0 : (fixN s n p).1.length = 0 := by rw [hnil]; rfl
    skip
    have heb : ((fixN s n p).2 != 0) = true := by simpa using her
    have HbW := Lib.hid (Hb0.out.trans (Hb5.out.mono Hb0.out.size))
    generalize (fixN s n p).2 = er at heb ⊢
    clear HLen her hnil
    rw [hnl0]
    go_wp2_with fail
    go_ret
    exact ⟨rfl, HbW.out⟩
  rw [her]
  rw [hat] at HKq3 ⊢
  generalize hL : (fixN s n p).1 = L at hlv hplay hne hops hins HLen hLeq ⊢
  skip
  have Hlv := Lib.hid (show OpsV w3 L (.slice la L.length lc) from hlv)
  generalize hX : fixedN s n k p = X at hplay hXE hXs hXw
  have HX := Lib.hid hX; have HXE := Lib.hid hXE; have HXs := Lib.hid hXs; have HXw := Lib.hid hXw; have Hne := Lib.hid hne; have Hfn := Lib.hid hfn; have Hat := Lib.hid hat; have Hcs := Lib.hid hcs; have HE := Lib.hid hE; have Hkl := Lib.hid hkl; have Hlf := Lib.hid hlf; have Hnw2 := Lib.hid hnw; have Hp40 := Lib.hid hpl40; have HLeq := Lib.hid hLeq
  have HD := Lib.hid (done_c n X L _ la lc w3 hins (Hv.out w3 Hb5.out) Hlv.out HLen.out (fun o ho => hops o ho) hplay)
  have hlpos : (0 : Int) < L.length := by have := List.length_pos_iff.2 hne; omega
  obtain ⟨⟨y0, y1, y2, y3⟩, -, yl⟩ := (HN0.out.kept Hb5.out).f4
  clear hX hXE hXs hXw hne hfn hat hcs hE hkl hlf hnw hpl40 hLeq  hL her hins hops hplay hsm HSN HR Hbc
  go_wp2_with fail
  refine HD.out.mono ?_
  rintro e w6 ⟨hbel, x0, x1, x2, x3, e1, e2, e3, g1, g2, g3, rfl, hXq⟩
  have Hb6 := Lib.hid (below_and Hb5.out hbel)
  have Hbl6 := Lib.hid hbel
  have HXq := Lib.hid hXq
  clear HD hbel y0 y1 y2 y3 yl hXq

  obtain ⟨w7, hw7⟩ : ∃ w7, w7 = w6.alloc (Obj.cells #[.bool x0, .slice x1 e1 g1, .slice x2 e2 g2, .slice x3 e3 g3] 35) := ⟨_, rfl⟩
  have hb67 : Below w6.heap.size w6 w7 := by rw [hw7]; exact one_below _ _
  have HA7 := Lib.hid (show At w7 w6.heap.size [.bool x0, .slice x1 e1 g1, .slice x2 e2 g2, .slice x3 e3 g3] 35 by rw [hw7]; exact At.fresh _ _ _)
  have Hb7 := Lib.hid (below_and Hb6.out hb67)
  have Hbl7 := Lib.hid (below_and Hbl6.out hb67)
  have HN7 := Lib.hid (HN0.out.kept Hb7.out); have HS7 := Lib.hid (HS0.out.kept Hb7.out)
  have HX7 := Lib.hid (nodeq_since HXq.out hb67)
  have HXv := Lib.hid (fun (w' : World) (hb : Below w7.heap.size w7 w') => (show NodeV w' w'.heap.size X (.agg #[.bool x0, .slice x1 e1 g1, .slice x2 e2 g2, .slice x3 e3 g3]) from ⟨_, rfl, NodeQ.node _ _ (nodeq_since HX7.out hb)⟩))
  have HNv := Lib.hid (fun (w' : World) (hb : Below w7.heap.size w7 w') => Hv.out w' (below_and Hb7.out hb))
  have Hw7 := Lib.hid hw7
  clear hw7 hb67 HXq
  go_upto_region 12 with fail
  rw [← Hw7.out]
  clear Hw7

  have HK7 := Lib.hid (HK3.out.kept Hbl7.out)
  have HKv := Lib.hid (fun (w' : World) (hb : Below w7.heap.size w7 w') => (show NodeV w' w'.heap.size k (.agg #[.bool kx, .slice k1 s1 r1, .slice k2 s2 r2, .slice k3 s3 r3]) from ⟨_, rfl, NodeQ.node _ _ (nodeq_since HKq3.out (below_and Hbl7.out hb))⟩))
  have hkw : k.wt ≤ 100000000 := by have h1 := atN_wt p n k Hat.out; have h2 := Hnw2.out; omega
  have HFi := Lib.hid (fun (w' : World) (hb : Below w7.heap.size w7 w') => find_c s _ k (.agg #[.bool kx, .slice k1 s1 r1, .slice k2 s2 r2, .slice k3 s3 r3]) w' (by have := Hsw.out; omega) hkw (Hu.out w' (below_and Hb7.out hb)) (HKv.out w' hb))
  have hnx := (HN7.out.lt)
  have hld := Hld.out
  have HTX := Lib.hid (fun (w' : World) (hb : Below w7.heap.size w7 w') => ntext_c X (.agg #[.bool x0, .slice x1 e1 g1, .slice x2 e2 g2, .slice x3 e3 g3]) w' (by have := HXw.out; omega) (HXv.out w' hb))
  have HTN := Lib.hid (fun (w' : World) (hb : Below w7.heap.size w7 w') => ntext_c n (.agg #[.bool false, .slice b1 m1 d1, .slice b2 m2 d2, .slice b3 m3 d3]) w' (by have := Hnw2.out; omega) (HNv.out w' hb))
  have htx := fix_text Hcs.out HE.out Hat.out Hfn.out
  rw [show putN n p (setKids k (fixK (ruleOf s (typeN k)) (kidsOf k) (findN s k))) = X from HX.out] at htx
  clear hkw hnx
  generalize findN s k = F at HFi htx
  obtain ⟨F1, F2, F3⟩ := F
  simp only at htx HFi
  by_cases hc1 : F1 = 1
  · subst hc1
    have hS := hld w7.drew HS7.out.drew
    simp [go_sem] at hS
    have hff := field_class 1 F2 F3
    obtain ⟨⟨f0, f1, f2, f3⟩, -, fl⟩ := HK7.out.f4
    clear htx hld
    go_region_law (first
      | (refine step_call rfl 20 _ _ rfl find_ent [.agg #[.slice a s.rules.length c, strV s.els.type, .int .i64 s.els.text.1, strV s.els.text.2, .int .i64 s.els.other.1, strV s.els.other.2, .slice ea s.els.kids.length ec, .int .i64 s.els.fill, strV s.els.fillT, .int .i64 o0, .int .i64 o1, .int .i64 o2, .int .i64 o3, .int .i64 o4, .int .i64 o5, .int .i64 s.cap], .agg #[.bool kx, .slice k1 s1 r1, .slice k2 s2 r2, .slice k3 s3 r3]] ?_ _ (HFi.out _ (by ((repeat (first | with_reducible exact Below.refl _ _ | with_reducible refine Below.drew ?_ | with_reducible refine Below.alloc ?_ ?_ _ | with_reducible refine Below.setCell ?_ ?_ _)) <;> (first | with_reducible exact Nat.le_refl _ | (simp; done) | (simp; omega) | omega)))) ?_
         · go_simp
         rintro e w8 ⟨rfl, hbel⟩
         refine ⟨_, rfl, ?_⟩
         have Hb8 := Lib.hid (below_and (w0 := w7) (by ((repeat (first | with_reducible exact Below.refl _ _ | with_reducible refine Below.drew ?_ | with_reducible refine Below.alloc ?_ ?_ _ | with_reducible refine Below.setCell ?_ ?_ _)) <;> (first | with_reducible exact Nat.le_refl _ | (simp; done) | (simp; omega) | omega))) hbel)
         clear hbel))
    all_goals
      have HbW := Lib.hid (Hb0.out.trans ((below_and Hb7.out Hb8.out).mono Hb0.out.size))
      go_wp2_with fail
      go_ret
      exact ⟨rfl, HbW.out⟩
  · have hcb : (F1 == 1) = false := by simpa using hc1
    have hTe : allText X = allText n := htx.resolve_left hc1
    rw [hTe] at HTX
    generalize allText n = T at HTX HTN
    clear htx hTe hc1
    have hff := field_class F1 F2 F3
    have hbt : ((runesBytes T).toList == (runesBytes T).toList) = true := by simp
    have hS := hld w7.drew HS7.out.drew
    simp [go_sem] at hS
    obtain ⟨⟨f0, f1, f2, f3⟩, -, fl⟩ := HK7.out.f4
    clear hld
    go_region_law (first
      | (refine step_call rfl 20 _ _ rfl find_ent [.agg #[.slice a s.rules.length c, strV s.els.type, .int .i64 s.els.text.1, strV s.els.text.2, .int .i64 s.els.other.1, strV s.els.other.2, .slice ea s.els.kids.length ec, .int .i64 s.els.fill, strV s.els.fillT, .int .i64 o0, .int .i64 o1, .int .i64 o2, .int .i64 o3, .int .i64 o4, .int .i64 o5, .int .i64 s.cap], .agg #[.bool kx, .slice k1 s1 r1, .slice k2 s2 r2, .slice k3 s3 r3]] ?_ _ (HFi.out _ (by ((repeat (first | with_reducible exact Below.refl _ _ | with_reducible refine Below.drew ?_ | with_reducible refine Below.alloc ?_ ?_ _ | with_reducible refine Below.setCell ?_ ?_ _)) <;> (first | with_reducible exact Nat.le_refl _ | (simp; done) | (simp; omega) | omega)))) ?_
         · go_simp
         rintro e w8 ⟨rfl, hbel⟩
         refine ⟨_, rfl, ?_⟩
         have Hb8 := Lib.hid (below_and (w0 := w7) (by ((repeat (first | with_reducible exact Below.refl _ _ | with_reducible refine Below.drew ?_ | with_reducible refine Below.alloc ?_ ?_ _ | with_reducible refine Below.setCell ?_ ?_ _)) <;> (first | with_reducible exact Nat.le_refl _ | (simp; done) | (simp; omega) | omega))) hbel)
         obtain ⟨⟨p0, p1, p2, p3⟩, -, pl⟩ := (HA7.out.kept Hb8.out).f4
         obtain ⟨⟨q0, q1, q2, q3⟩, -, ql⟩ := (HN7.out.kept Hb8.out).f4
         clear hbel)
      | (refine step_callG ?_ 23 _ _ rfl ntext_ent [.agg #[.bool x0, .slice x1 e1 g1, .slice x2 e2 g2, .slice x3 e3 g3]] ?_ _ (HTX.out _ (by ((repeat (first | with_reducible exact Hb8.out | with_reducible exact Below.refl _ _ | with_reducible refine Below.drew ?_ | with_reducible refine Below.alloc ?_ ?_ _ | with_reducible refine Below.setCell ?_ ?_ _)) <;> (first | with_reducible exact Nat.le_refl _ | with_reducible exact Hb8.out.size | (have hsz := Hb8.out.size; simp [World.setCell]; omega) | (simp; done) | (simp; omega) | omega)))) ?_
         · go_simp
         · go_simp
         rintro e w9 ⟨hbel, ra, rc, rfl, hra⟩
         refine ⟨_, rfl, ?_⟩
         have Hb9 := Lib.hid (below_and (w0 := w7) (by ((repeat (first | with_reducible exact Hb8.out | with_reducible exact Below.refl _ _ | with_reducible refine Below.drew ?_ | with_reducible refine Below.alloc ?_ ?_ _ | with_reducible refine Below.setCell ?_ ?_ _)) <;> (first | with_reducible exact Nat.le_refl _ | with_reducible exact Hb8.out.size | (have hsz := Hb8.out.size; simp [World.setCell]; omega) | (simp; done) | (simp; omega) | omega))) hbel)
         have Hra := Lib.hid hra
         have hcv0 := conv_text hra
         obtain ⟨⟨q0, q1, q2, q3⟩, -, ql⟩ := (HN7.out.kept Hb9.out).f4
         clear hbel hra)
      | (refine step_callG ?_ 23 _ _ rfl ntext_ent [.agg #[.bool false, .slice b1 m1 d1, .slice b2 m2 d2, .slice b3 m3 d3]] ?_ _ (HTN.out _ (by ((repeat (first | with_reducible exact Hb9.out | with_reducible exact Hb8.out | with_reducible exact Below.refl _ _ | with_reducible refine Below.drew ?_ | with_reducible refine Below.alloc ?_ ?_ _ | with_reducible refine Below.setCell ?_ ?_ _)) <;> (first | with_reducible exact Nat.le_refl _ | with_reducible exact Hb9.out.size | with_reducible exact Hb8.out.size | (have hsz := Hb9.out.size; simp [World.setCell]; omega) | (have hsz := Hb8.out.size; simp [World.setCell]; omega) | (simp; done) | (simp; omega) | omega)))) ?_
         · go_simp
         · go_simp
         rintro e w10 ⟨hbel, rb, rd, rfl, hrb⟩
         refine ⟨_, rfl, ?_⟩
         have Hb10 := Lib.hid (below_and (w0 := w7) (by ((repeat (first | with_reducible exact Hb9.out | with_reducible exact Hb8.out | with_reducible exact Below.refl _ _ | with_reducible refine Below.drew ?_ | with_reducible refine Below.alloc ?_ ?_ _ | with_reducible refine Below.setCell ?_ ?_ _)) <;> (first | with_reducible exact Nat.le_refl _ | with_reducible exact Hb9.out.size | with_reducible exact Hb8.out.size | (have hsz := Hb9.out.size; simp [World.setCell]; omega) | (have hsz := Hb8.out.size; simp [World.setCell]; omega) | (simp; done) | (simp; omega) | omega))) hbel)
         have hcv2 := conv_text hrb
         have Hb9t := Lib.hid (below_and (w0 := w9) (by ((repeat (first | with_reducible exact Below.refl _ _ | with_reducible refine Below.drew ?_ | with_reducible refine Below.alloc ?_ ?_ _ | with_reducible refine Below.setCell ?_ ?_ _)) <;> (first | with_reducible exact Nat.le_refl _ | (simp; done) | (simp; omega) | omega))) hbel)
         have hcv1 := conv_text (Hra.out.keep Hb9t.out Hb9t.out.size)
         clear hbel hrb))
    all_goals
      have HbW := Lib.hid (Hb0.out.trans ((below_and Hb7.out Hb10.out).mono Hb0.out.size))
      go_wp2_with fail
      go_ret
      exact ⟨rfl, HbW.out⟩
end Go.Proofs.YtaopoincbigjhaaGreatDoor
namespace Go.Proofs.YtaopoincbigjhaaGreatDoor
open Go.ChangeShapes Go.WideShapes Go.ChangeAt Go.WideMaps Go.WideElems Go.RowKit Go.Redl Go.Deep
set_option linter.unusedVariables false

theorem own : ownKnob Tryz.prog.godebug = none := by kernel_rfl
theorem laidOut : laidOutB Tryz.prog = true := by kernel_rfl
def IntΦ {H : Type} (z : Int) (cs : List Value) (d : DataW H) : Prop := cs = [.int .i64 z] ∧ 1 ≤ Rows.uptoBulk d
theorem elems_path {H : Type} : ∀ {l : List Int} {css : List Value} {ds : List (DataW H)}, Elems IntΦ l css ds → css = l.map (Value.int .i64) ∧ l.length ≤ Rows.uptoBulkAll ds
  | [], css, ds, h => by obtain ⟨rfl, rfl⟩ := h; exact ⟨rfl, by simp⟩
  | z :: l, css, ds, h => by
    obtain ⟨c, cs, d, ds', rfl, rfl, ⟨rfl, hb⟩, hr⟩ := h
    obtain ⟨rfl, h3⟩ := elems_path hr
    exact ⟨rfl, by simp only [List.length_cons, Rows.uptoBulkAll]; omega⟩
theorem path_of_trod {H : Type} {enc : TypeId × Value → H} {W : World} {fuel : Nat} {cs : List Value} {x : DataW H × List MemPlace} (h : DataW.trod enc Tryz.prog W 0 (fun _ => true) true fuel 36 cs = some x) :
    ∃ a cap zs, cs = [.slice a (List.length zs) cap] ∧ RowA W W.heap.size 1 a (List.length zs) cap (zs.map (Value.int .i64)) ∧ zs.length + 1 ≤ Rows.uptoBulk x.1 := by
  obtain ⟨a, cap, ys, css, ds, rfl, hr, hel, hs⟩ := row_of_trod IntΦ Tryz.underlying36 (show Tryz.prog.cellsOf 3 = 1 by kernel_rfl) (by decide)
    (fun m cs x _ hx => by
      obtain ⟨xv, xp⟩ := x
      obtain ⟨z, e0, e1, -⟩ := DataW.trod_int Tryz.underlying3 hx
      have e2 := (Prod.mk.inj e1).1
      subst e2
      exact ⟨z, e0, by simp [Rows.uptoBulk]⟩) (fun y c d hh => by obtain ⟨rfl, -⟩ := hh; intro u hu; simp at hu; subst hu; rfl) h
  obtain ⟨rfl, hlen⟩ := elems_path hel
  have m0 := slice_bulk (n := 0) (hs.imp (fun h => ⟨h.1, rfl, h.2.2⟩) id)
  exact ⟨a, cap, ys, rfl, hr, by omega⟩
end Go.Proofs.YtaopoincbigjhaaGreatDoor
namespace Go.Proofs.YtaopoincbigjhaaGreatDoor
open Go.ChangeShapes Go.WideShapes Go.ChangeAt Go.RowKit Go.Redl
set_option linter.unusedVariables false
set_option maxRecDepth 100000

theorem fixText_reads (os : Os) {H : Type} (enc : TypeId × Value → H) : ∃ places, DataW.whole enc Tryz.prog ((World.laidAll Tryz.prog os Rows.fixTextUptoRow.laid).forCall (fun _ _ => 0) ⟨#[], #[.agg #[.slice none 0 0, .string ⟨#[]⟩, .int .i64 0, .string ⟨#[]⟩, .int .i64 0, .string ⟨#[]⟩, .slice none 0 0, .int .i64 0, .string ⟨#[]⟩, .int .i64 0, .int .i64 0, .int .i64 0, .int .i64 0, .int .i64 0, .int .i64 0, .int .i64 0], .agg #[.bool false, .slice none 0 0, .slice none 0 0, .slice none 0 0], .slice none 0 0], []⟩).memory Tryz.f6.params.toList Rows.fixTextSpec.vars false (#[.agg #[.slice none 0 0, .string ⟨#[]⟩, .int .i64 0, .string ⟨#[]⟩, .int .i64 0, .string ⟨#[]⟩, .slice none 0 0, .int .i64 0, .string ⟨#[]⟩, .int .i64 0, .int .i64 0, .int .i64 0, .int .i64 0, .int .i64 0, .int .i64 0, .int .i64 0], .agg #[.bool false, .slice none 0 0, .slice none 0 0, .slice none 0 0], .slice none 0 0] : Array Value).toList 8 = some ([.agg [.nil, .agg [.lit (.string []), .agg [.lit (.int .i64 0), .lit (.string [])], .agg [.lit (.int .i64 0), .lit (.string [])], .nil, .lit (.int .i64 0), .lit (.string [])], .agg [.lit (.int .i64 0), .lit (.int .i64 0), .lit (.int .i64 0), .lit (.int .i64 0), .lit (.int .i64 0), .lit (.int .i64 0)], .lit (.int .i64 0)], .agg [.lit (.bool false), .nil, .nil, .nil], .nil], [], places) :=
  ⟨[], by kernel_rfl⟩
theorem fixText_contract (H : Type) (enc : TypeId × Value → H) (W : World) (base : Nat) (args : Array Value) (ds gs : List (DataW H)) (before : List MemPlace)
    (hval0 : ∀ (j : Nat) t v, Tryz.f6.params[j]? = some t → args[j]? = some v → Value.okWide Tryz.prog W .any base t v)
    (hW : DataW.Whole enc Tryz.prog Tryz.f6.params.toList Rows.fixTextSpec.vars false W args.toList ds gs before) (hk : Rows.uptoSmall H (ds ++ gs) = true) (hL : laidMetH Tryz.prog Rows.fixTextUptoRow.laid W) :
    Calls Tryz.prog 6 args W fun e W' => ∃ v, e = .returned v ∧ Rows.fixTextSpec.post enc Tryz.prog Tryz.f6 false true false false W args v W' := by
  have hval : ∀ (j : Nat) t v, Tryz.f6.params[j]? = some t → args[j]? = some v → Value.okWide Tryz.prog W .any base t v := hval0
  have hW' := hW
  obtain ⟨p, q, hA0, hV, rfl, hfz, hnd⟩ := hW
  have hA : DataW.TrodAll enc Tryz.prog W 0 (fun _ => true) true Tryz.f6.params.toList args.toList ds p := hA0
  rw [Tryz.params6] at hA hval
  obtain ⟨v0, vs0, d0, ds0, p0, q0, hargs, rfl, rfl, h0, r0⟩ := trodAll_cons hA
  obtain ⟨v1, vs1, d1, ds1, p1, q1, rfl, rfl, rfl, h1, r1⟩ := trodAll_cons r0
  obtain ⟨v2, vs2, d2, ds2, p2, q2, rfl, rfl, rfl, h2, r2⟩ := trodAll_cons r1
  obtain ⟨rfl, rfl, rfl⟩ := trodAll_nil r2
  obtain rfl : args = #[v0, v1, v2] := by cases args; simp_all
  obtain ⟨rfl, rfl⟩ := trodVars_none hV
  obtain ⟨cs0, rfl, hsz0⟩ := okWide_struct Tryz.underlying30 (hval 0 30 v0 rfl rfl)
  have k0 := h0
  have lt0 : ∀ x ∈ p0, x.block < W.heap.size := by obtain ⟨m, hm⟩ := k0; exact DataW.trod_lt m _ _ _ hm
  obtain ⟨n0, i0, u0⟩ : ∃ n, SchemaV W W.heap.size n (.agg cs0) ∧ n.wt ≤ Rows.uptoBulk d0 := by
    obtain ⟨fuel, hf⟩ := h0
    obtain ⟨n, h1, h2⟩ := schema_of_trod hf
    exact ⟨n, ⟨cs0.toList, by simp, h1⟩, h2⟩
  obtain ⟨cs1, rfl, hsz1⟩ := okWide_struct Tryz.underlying35 (hval 1 35 v1 rfl rfl)
  have k1 := h1
  have lt1 : ∀ x ∈ p1, x.block < W.heap.size := by obtain ⟨m, hm⟩ := k1; exact DataW.trod_lt m _ _ _ hm
  obtain ⟨n1, i1, u1⟩ : ∃ n, NodeV W W.heap.size n (.agg cs1) ∧ n.wt ≤ Rows.uptoBulk d1 := by
    obtain ⟨fuel, hf⟩ := h1
    obtain ⟨n, h1, h2⟩ := node_of_trod fuel _ _ hf
    exact ⟨n, ⟨cs1.toList, by simp, h1⟩, h2⟩
  obtain ⟨a2, len2, cap2, rfl⟩ := okWide_slice Tryz.underlying36 (hval 2 36 v2 rfl rfl)
  have k2 := h2
  have lt2 : ∀ x ∈ p2, x.block < W.heap.size := by obtain ⟨m, hm⟩ := k2; exact DataW.trod_lt m _ _ _ hm
  obtain ⟨n2, hl2, i2, u2⟩ : ∃ zs : List Int, len2 = zs.length ∧ RowA W W.heap.size 1 a2 zs.length cap2 (zs.map (Value.int .i64)) ∧ zs.length + 1 ≤ Rows.uptoBulk d2 := by
    obtain ⟨fuel, hf⟩ := h2
    obtain ⟨a, cap, zs, h0, h1, h2⟩ := path_of_trod hf
    simp [Value.cells] at h0
    obtain ⟨rfl, rfl, rfl⟩ := h0
    exact ⟨zs, rfl, h1, h2⟩
  subst hl2
  have hb : Rows.uptoBulkAll _ ≤ 1048576 := of_decide_eq_true hk
  simp only [List.append_nil, Rows.uptoBulkAll, Nat.add_zero] at hb
  clear hA0 hval0
  refine (fixtext_walk n0 n1 _ _ n2 _ _ W (by omega) (by omega) (by omega) i0 i1 i2).mono fun e W' ⟨he, bel⟩ => ?_
  subst he
  exact ⟨_, rfl, _, _, _, [], _, [], hW', trodAll_mk1 (shut_bool Tryz.underlying4 _), (trodAll_cons_mk (Below.trod laidOut (by kernel_rfl) (of_decide_eq_true (by kernel_rfl)) k0 bel lt0) (trodAll_cons_mk (Below.trod laidOut (by kernel_rfl) (of_decide_eq_true (by kernel_rfl)) k1 bel lt1) (trodAll_cons_mk (Below.trod laidOut (by kernel_rfl) (of_decide_eq_true (by kernel_rfl)) k2 bel lt2) trodAll_mk0))), rfl, bel.frame _, fun h => by cases h⟩
theorem fixText_lifted (os : Os) (started : os.Started) (H : Type) (enc : TypeId × Value → H) (F : Stop.Interp) :
    ReturnsInHanded {} Tryz.checked os 6 .any ((Rows.OpenSpec.upto Rows.fixTextSpec).preRow enc Tryz.prog Tryz.f6 Rows.fixTextUptoRow.domain false Rows.fixTextUptoRow.laid) (((Rows.OpenSpec.upto Rows.fixTextSpec).at F).post enc Tryz.prog Tryz.f6 false true false false) := by
  obtain ⟨places, hx⟩ := fixText_reads os enc
  refine returnsInHanded_of_row (C := Tryz.checked) (s := Rows.OpenSpec.upto Rows.fixTextSpec) own started (by kernel_rfl) Tryz.func6
    (witness_row_atRef (enc := enc) (C := Tryz.checked) false (World.laidAll Tryz.prog os Rows.fixTextUptoRow.laid) #[.agg #[.slice none 0 0, .string ⟨#[]⟩, .int .i64 0, .string ⟨#[]⟩, .int .i64 0, .string ⟨#[]⟩, .slice none 0 0, .int .i64 0, .string ⟨#[]⟩, .int .i64 0, .int .i64 0, .int .i64 0, .int .i64 0, .int .i64 0, .int .i64 0, .int .i64 0], .agg #[.bool false, .slice none 0 0, .slice none 0 0, .slice none 0 0], .slice none 0 0] (World.laidAll_os _ _ _) (by kernel_rfl) (by kernel_rfl) (by kernel_rfl)
      (OpenSpec.preRow_of_cond 8 hx (by kernel_rfl) (fun k hk => by cases hk; kernel_rfl) (by kernel_rfl) (by rw [MakeChecks.laidMetH_plain _ _ _ (by kernel_rfl)]; exact laidMet_laidAll _ (by kernel_rfl) (by kernel_rfl)))) ?_
  intro W base args ds gs before hval hW _ hcond _ hL _ _
  exact fixText_contract H enc W base args ds gs before hval hW (hcond _ rfl) hL
end Go.Proofs.YtaopoincbigjhaaGreatDoor
