/- Parts of the proof, one behind the other: RYO, RFN. -/
import Derived.Test.YtbommcakcmhalaaGreatDoorLM28
import Derived.Test.YtbommcakcmhalaaGreatDoorLM4
import Derived.Test.YtbommcakcmhalaaGreatDoorRows
import Derived.WalkKit
import Derived.ProofKit
import Derived.LaidMore
import Derived.OpenShut
import Derived.ChangeOld
import Derived.Below
import Derived.Stop.Joined
import Derived.Deep.DeepHandedRow
import Derived.Deep.DeepWitnessRowRef
import Derived.JoinedCond
/- Walk: FixLess. -/
set_option linter.unusedVariables false
set_option linter.unusedSimpArgs false
set_option maxHeartbeats 4000000
set_option maxRecDepth 100000
namespace Go.Proofs.YtbommcakcmhalaaGreatDoor
open Go.RowKit Go.Redl
theorem lkept_ent : ∀ args w, (callFunc 16 args).run Tryz.prog w = .ok (.enter 16 args) w := by intro args w; kernel_rfl
theorem lsize_ent : ∀ args w, (callFunc 19 args).run Tryz.prog w = .ok (.enter 19 args) w := by intro args w; kernel_rfl
theorem lwith_ent : ∀ args w, (callFunc 18 args).run Tryz.prog w = .ok (.enter 18 args) w := by intro args w; kernel_rfl
theorem lget_ent : ∀ args w, (callFunc 14 args).run Tryz.prog w = .ok (.enter 14 args) w := by intro args w; kernel_rfl
theorem nodeq_kids {w : World} {ok : Nat -> Prop} {n : NodeD} {c0 c1 c2 : Value} {a : Option Addr} {m c : Nat} (h : NodeQ w ok n [c0, c1, c2, .slice a m c]) : m = (kidsOf n).length := by
 obtain ⟨l, ps, t, ks⟩ := n
 unfold NodeQ at h
 obtain ⟨_, _, _, _, _, _, _, he, -⟩ := h
 injection he with _ he; injection he with _ he; injection he with _ he; injection he with e _
 injection e with _ e2 _
theorem row_of_box {w : World} {N : Nat} {x : Int} (h : At w N [.int .i64 x] 3) : RowA w w.heap.size 1 (some ⟨N, 0, none⟩) 1 1 [.int .i64 x] := RowQ.row (ok := fun _ => True) (rowq_at (T := 3) h 1 1 rfl (by omega) (by intro u hu; simp at hu; subst hu; rfl) trivial)
theorem kept_le (s : SchemaD) (n : NodeD) : keptN s n <= (kidsOf n).length := keptL_le _ _
theorem fixless_walk (s : SchemaD) (n : NodeD) (u v : Value) (p : List Int) (pa : Option Addr) (pc : Nat) (W : World) (hs : s.wt <= 1048576) (hn : n.wt <= 1048576) (hpl : p.length <= 1048576) (hu : SchemaV W W.heap.size s u) (hv : NodeV W W.heap.size n v) (hp : RowA W W.heap.size 1 pa p.length pc (p.map (Value.int .i64))) :
 Calls Tryz.prog 3 #[u, v, .slice pa p.length pc] W (fun e w' => e = .returned (.bool true) /\ Below W.heap.size W w') := by
 have hu0 := hu
 obtain ⟨csn, rfl, hc⟩ := hv
 obtain ⟨l, b1, m1, d1, b2, m2, d2, b3, m3, d3, rfl⟩ := hc.form
 have hleaf := nodeq_leaf (NodeC.q (Nat.le_refl _) _ _ hc)
 obtain ⟨a, c, css, ea, ec, o0, o1, o2, o3, o4, o5, rfl, -, -, -, -⟩ := hu0.open
 obtain ⟨w0, hw0⟩ : ∃ w0, w0 = (W.alloc (Obj.cells #[.slice a s.rules.length c, strV s.els.type, .int .i64 s.els.text.1, strV s.els.text.2, .int .i64 s.els.other.1, strV s.els.other.2, .slice ea s.els.kids.length ec, .int .i64 s.els.fill, strV s.els.fillT, .int .i64 o0, .int .i64 o1, .int .i64 o2, .int .i64 o3, .int .i64 o4, .int .i64 o5, .int .i64 s.cap] 30)).alloc (Obj.cells #[.bool l, .slice b1 m1 d1, .slice b2 m2 d2, .slice b3 m3 d3] 35) := ⟨_, rfl⟩
 have hb0 : Below W.heap.size W w0 := by rw [hw0]; exact two_below _ _ _
 have HS0 := Lib.hid (show At w0 W.heap.size [.slice a s.rules.length c, strV s.els.type, .int .i64 s.els.text.1, strV s.els.text.2, .int .i64 s.els.other.1, strV s.els.other.2, .slice ea s.els.kids.length ec, .int .i64 s.els.fill, strV s.els.fillT, .int .i64 o0, .int .i64 o1, .int .i64 o2, .int .i64 o3, .int .i64 o4, .int .i64 o5, .int .i64 s.cap] 30 by rw [hw0]; exact (At.fresh W _ _).alloc _)
 have HN0 := Lib.hid (show At w0 (W.heap.size + 1) [.bool l, .slice b1 m1 d1, .slice b2 m2 d2, .slice b3 m3 d3] 35 by rw [hw0]; exact At.second W _ _ _)
 have huk : ∀ w', Below w0.heap.size w0 w' -> SchemaV w' w'.heap.size s (.agg #[.slice a s.rules.length c, strV s.els.type, .int .i64 s.els.text.1, strV s.els.text.2, .int .i64 s.els.other.1, strV s.els.other.2, .slice ea s.els.kids.length ec, .int .i64 s.els.fill, strV s.els.fillT, .int .i64 o0, .int .i64 o1, .int .i64 o2, .int .i64 o3, .int .i64 o4, .int .i64 o5, .int .i64 s.cap]) := fun w' hb => hu.keep (hb0.trans (hb.mono hb0.size)) (hb0.trans (hb.mono hb0.size)).size
 have hvk : ∀ w', Below w0.heap.size w0 w' -> NodeV w' w'.heap.size n (.agg #[.bool l, .slice b1 m1 d1, .slice b2 m2 d2, .slice b3 m3 d3]) := fun w' hb => ⟨_, rfl, NodeC.keep (hb0.trans (hb.mono hb0.size)) (hb0.trans (hb.mono hb0.size)).size _ _ hc⟩
 have hpk : ∀ w', Below w0.heap.size w0 w' -> RowA w' w'.heap.size 1 pa p.length pc (p.map (Value.int .i64)) := fun w' hb => hp.keep (hb0.trans (hb.mono hb0.size)) (hb0.trans (hb.mono hb0.size)).size
 have HF := Lib.hid (fun (w' : World) (hb : Below w0.heap.size w0 w') => lawfew_c s n _ _ p pa pc w' (by omega) (by omega) (by omega) (huk w' hb) (hvk w' hb))
 have HL := Lib.hid (live_c w0)
 have HT := Lib.hid (fun (w' : World) (hb : Below w0.heap.size w0 w') => tcheck_c s _ w' (by omega) (huk w' hb))
 have HK := Lib.hid (fun (w' : World) (hb : Below w0.heap.size w0 w') => ncheck_c n _ w'.heap.size w' hn (hvk w' hb) (Nat.le_refl _))
 have HSN := Lib.hid hleaf; have Hu := Lib.hid huk; have Hv := Lib.hid hvk; have Hp := Lib.hid hpk
 have Hb0 := Lib.hid hb0; have Hw0 := Lib.hid hw0
 have hld := fun (w' : World) (h : At w' W.heap.size [.slice a s.rules.length c, strV s.els.type, .int .i64 s.els.text.1, strV s.els.text.2, .int .i64 s.els.other.1, strV s.els.other.2, .slice ea s.els.kids.length ec, .int .i64 s.els.fill, strV s.els.fillT, .int .i64 o0, .int .i64 o1, .int .i64 o2, .int .i64 o3, .int .i64 o4, .int .i64 o5, .int .i64 s.cap] 30) => At.load (P := Tryz.prog) h Tryz.underlying30 rfl (by kernel_rfl)
 simp [go_sem] at hld
 have Hld := Lib.hid hld
 have Hsw := Lib.hid hs; have Hnw := Lib.hid hn
 clear hu0 hc hw0 hb0 hu hp huk hvk hpk hleaf hld hs hn
 go_enter Tryz.func3, Tryz.ntmps3
 go_upto_region 1 with fail
 rw [<- Hw0.out]
 clear Hw0
 go_wp2_with fail
 refine HL.out.mono ?_
 rintro e w1 ⟨rfl, hbel⟩
 have Hb1 := Lib.hid hbel
 have HF1 := Lib.hid (HF.out w1 hbel)
 have HS1 := Lib.hid (HS0.out.kept hbel); have HN1 := Lib.hid (HN0.out.kept hbel)
 obtain ⟨⟨y0, y1, y2, y3⟩, -, yl⟩ := HN1.out.f4
 clear hbel HL HF
 go_upto_region 3 with fail
 go_cut [40] (fun r wx => ∃ R : Bool, r = .bool R /\ Hid (R = false -> (smallB s n p = true /\ checkS s = 0 /\ nodeE n = 0 /\ l = false)) /\ Hid (Below w0.heap.size w0 wx))
 case first =>
  --<h1
  obtain ⟨B1, hB1⟩ : ∃ B1, B1 = smallB s n p := ⟨_, rfl⟩
  have HB1 := Lib.hid hB1
  rw [<- hB1] at HF1
  clear hB1
  go_wp2_with (refine wpList_loadA rfl _ _ rfl W.heap.size #[.slice a s.rules.length c, strV s.els.type, .int .i64 s.els.text.1, strV s.els.text.2, .int .i64 s.els.other.1, strV s.els.other.2, .slice ea s.els.kids.length ec, .int .i64 s.els.fill, strV s.els.fillT, .int .i64 o0, .int .i64 o1, .int .i64 o2, .int .i64 o3, .int .i64 o4, .int .i64 o5, .int .i64 s.cap] rfl HS1.out _ Tryz.underlying30 rfl (by kernel_rfl) ?_)
  refine HF1.out.mono ?_
  rintro e w2 ⟨rfl, hbel⟩
  have Hb2 := Lib.hid (below_and Hb1.out hbel)
  clear HF1 hbel y0 y1 y2 y3 yl
  cases B1 with
  | false =>
    go_wp2_with fail
    go_meet
    case rel => exact ⟨true, rfl, Lib.hid (fun h => by cases h), Hb2⟩
  | true =>
    have hS := Hld.out w2 (HS0.out.kept Hb2.out)
    have HT1 := HT.out w2 Hb2.out
    obtain ⟨z1, hz1⟩ : ∃ z1, z1 = checkS s := ⟨_, rfl⟩
    rw [<- hz1] at HT1
    have HT1 := Lib.hid HT1
    have HZ1 := Lib.hid hz1
    clear hz1
    go_wp2_with fail
    refine HT1.out.mono ?_
    rintro e w3 ⟨rfl, hbel⟩
    have Hb3 := Lib.hid (below_and Hb2.out hbel)
    clear HT1 hbel hS
    by_cases hz : z1 = 0
    . subst hz
      have HK1 := HK.out w3 Hb3.out
      obtain ⟨z2, hz2⟩ : ∃ z2, z2 = nodeE n := ⟨_, rfl⟩
      rw [<- hz2] at HK1
      have HK1 := Lib.hid HK1
      have HZ2 := Lib.hid hz2
      obtain ⟨⟨y0, y1, y2, y3⟩, -, yl⟩ := (HN0.out.kept Hb3.out).f4
      clear hz2
      go_wp2_with fail
      refine HK1.out.mono ?_
      rintro e w4 ⟨rfl, hbel⟩
      have Hb4 := Lib.hid (below_and Hb3.out hbel)
      clear HK1 hbel y0 y1 y2 y3 yl
      by_cases hz : z2 = 0
      . subst hz
        obtain ⟨⟨y0, y1, y2, y3⟩, -, yl⟩ := (HN0.out.kept Hb4.out).f4
        go_wp2_with fail
        go_meet
        case rel => exact ⟨l, rfl, Lib.hid (fun h => ⟨HB1.out.symm, HZ1.out.symm, HZ2.out.symm, h⟩), Hb4⟩
      . have hzb : (z2 != 0) = true := by simpa using hz
        go_wp2_with fail
        go_meet
        case rel => exact ⟨true, rfl, Lib.hid (fun h => by cases h), Hb4⟩
    . have hzb : (z1 != 0) = true := by simpa using hz
      go_wp2_with fail
      go_meet
      case rel => exact ⟨true, rfl, Lib.hid (fun h => by cases h), Hb3⟩
  -->h1
 case rest =>
 obtain ⟨R, rfl, HR, Hbc⟩ := hcut
 clear HF1 HT HK y0 y1 y2 y3 yl Hb1 HS1 HN1
 cases R with
 | true =>
   have HbW := Lib.hid (Hb0.out.trans (Hbc.out.mono Hb0.out.size))
   go_wp2_with fail
   go_ret
   exact ⟨rfl, HbW.out⟩
 | false =>
 obtain ⟨hsm, hcs, hE, rfl⟩ := HR.out rfl
 have hlf := HSN.out.symm
 have hnw := small_node hsm
 have hpl40 := small_path2 s n p hsm
 have HSc := Lib.hid (HS0.out.kept Hbc.out); have HNc := Lib.hid (HN0.out.kept Hbc.out)
 have HO := Lib.hid (fixops_c s _ n _ p pa pc wc (by have := Hsw.out; omega) (by omega) (Hu.out wc Hbc.out) (Hv.out wc Hbc.out) (Hp.out wc Hbc.out) (by omega))
 have HLen := Lib.hid (fixN_len2 s n p (by omega))
 obtain ⟨⟨y0, y1, y2, y3⟩, -, yl⟩ := HNc.out.f4
 go_wp2_with (refine wpList_loadA rfl _ _ rfl W.heap.size #[.slice a s.rules.length c, strV s.els.type, .int .i64 s.els.text.1, strV s.els.text.2, .int .i64 s.els.other.1, strV s.els.other.2, .slice ea s.els.kids.length ec, .int .i64 s.els.fill, strV s.els.fillT, .int .i64 o0, .int .i64 o1, .int .i64 o2, .int .i64 o3, .int .i64 o4, .int .i64 o5, .int .i64 s.cap] rfl HSc.out _ Tryz.underlying30 rfl (by kernel_rfl) ?_)
 refine HO.out.mono ?_
 rintro e w5 ⟨lv, rfl, hlv, hbel⟩
 have Hb5 := Lib.hid (below_and Hbc.out hbel)
 clear HO hbel y0 y1 y2 y3 yl HSc HNc
 have HGt := Lib.hid (get_c n p _ pa pc w5 (by omega) (Hv.out w5 Hb5.out) (Hp.out w5 Hb5.out))
 obtain ⟨⟨y0, y1, y2, y3⟩, -, yl⟩ := (HN0.out.kept Hb5.out).f4
 have Hlv5 := Lib.hid hlv
 have HEr := Lib.hid (show ∃ z : Int, z = (fixN s n p).2 from ⟨_, rfl⟩)
 generalize hLL : (fixN s n p).1 = LL at hlv
 obtain ⟨la, lc, css2, rfl, -, -⟩ := hlv
 have HLL := Lib.hid hLL
 clear hLL
 go_wp2_with fail
 refine HGt.out.mono ?_
 intro e w4 hg
 obtain ⟨hbel, kx, k1, k2, k3, s1, s2, s3, r1, r2, r3, rfl, hkq⟩ := GetP.alike hg
 have hb54 := hbel
 have Hb54 := Lib.hid hb54
 have HKq := Lib.hid (show NodeQ w4 (fun b => w5.heap.size <= b) ((atN n p).getD zeroN) [.bool kx, .slice k1 s1 r1, .slice k2 s2 r2, .slice k3 s3 r3] from hkq)
 clear hg hbel hkq HGt y0 y1 y2 y3 yl hb54
 obtain ⟨w3, hw3⟩ : ∃ w3, w3 = w4.alloc (Obj.cells #[.bool kx, .slice k1 s1 r1, .slice k2 s2 r2, .slice k3 s3 r3] 35) := ⟨_, rfl⟩
 have hb43 : Below w4.heap.size w4 w3 := by rw [hw3]; exact one_below _ _
 have HK3 := Lib.hid (show At w3 w4.heap.size [.bool kx, .slice k1 s1 r1, .slice k2 s2 r2, .slice k3 s3 r3] 35 by rw [hw3]; exact At.fresh _ _ _)
 have HKq3 := Lib.hid (nodeq_since HKq.out hb43)
 have hb53 := below_and Hb54.out hb43
 have hlv : OpsV w3 (fixN s n p).1 (.slice la LL.length lc) := Hlv5.out.keep hb53
 have Hb5o := Lib.hid Hb5.out
 have Hb53 := Lib.hid (below_and Hb5o.out hb53)
 have Hlt4 := Lib.hid (show W.heap.size + 1 < w4.heap.size from Nat.lt_of_lt_of_le (HN0.out.kept Hb5o.out).lt Hb54.out.size)
 have Hw3 := Lib.hid hw3
 clear hw3 hb43 hb53 HKq Hlv5 HEr Hb54 Hb5
 go_upto_region 7 with fail
 rw [<- Hw3.out]
 clear Hw3
 have Hb5 := Hb53
 rw [<- HLL.out] at hlv ⊢
 clear HLL Hb53 Hb5o
 rcases fix_case hsm hcs hE hlf with ⟨her, hnil⟩ | ⟨k, hat, hkl, hfn, her, hplay, hne, hops, hins, hXE, hXs, hXw, hLeq⟩
 . have hnl0 : (fixN s n p).1.length = 0 := by rw [hnil]; rfl
   skip
   have heb : ((fixN s n p).2 != 0) = true := by simpa using her
   have HbW := Lib.hid (Hb0.out.trans (Hb5.out.mono Hb0.out.size))
   generalize (fixN s n p).2 = er at heb ⊢
   clear HLen her hnil
   rw [hnl0]
   go_wp2_with fail
   go_ret
   exact ⟨rfl, HbW.out⟩
 rw [her]
 rw [hat] at HKq3 ⊢
 generalize hL : (fixN s n p).1 = L at hlv hplay hne hops hins HLen hLeq ⊢
 skip
 have Hlv := Lib.hid (show OpsV w3 L (.slice la L.length lc) from hlv)
 generalize hX : fixedN s n k p = X at hplay hXE hXs hXw
 have HX := Lib.hid hX; have HXE := Lib.hid hXE; have HXs := Lib.hid hXs; have HXw := Lib.hid hXw; have Hne := Lib.hid hne; have Hfn := Lib.hid hfn; have Hat := Lib.hid hat; have Hcs := Lib.hid hcs; have HE := Lib.hid hE; have Hkl := Lib.hid hkl; have Hlf := Lib.hid hlf; have Hnw2 := Lib.hid hnw; have Hp40 := Lib.hid hpl40; have HLeq := Lib.hid hLeq
 have HD := Lib.hid (done_c n X L _ la lc w3 hins (Hv.out w3 Hb5.out) Hlv.out HLen.out (fun o ho => hops o ho) hplay)
 have hlpos : (0 : Int) < L.length := by have := List.length_pos_iff.2 hne; omega
 obtain ⟨⟨y0, y1, y2, y3⟩, -, yl⟩ := (HN0.out.kept Hb5.out).f4
 clear hX hXE hXs hXw hne hfn hat hcs hE hkl hlf hnw hpl40 hLeq  hL her hins hops hplay hsm HSN HR Hbc
 go_wp2_with fail
 refine HD.out.mono ?_
 rintro e w6 ⟨hbel, x0, x1, x2, x3, e1, e2, e3, g1, g2, g3, rfl, hXq⟩
 have Hb6 := Lib.hid (below_and Hb5.out hbel)
 have Hbl6 := Lib.hid hbel
 have HXq := Lib.hid hXq
 clear HD hbel y0 y1 y2 y3 yl hXq
 obtain ⟨w7, hw7⟩ : ∃ w7, w7 = w6.alloc (Obj.cells #[.bool x0, .slice x1 e1 g1, .slice x2 e2 g2, .slice x3 e3 g3] 35) := ⟨_, rfl⟩
 have hb67 : Below w6.heap.size w6 w7 := by rw [hw7]; exact one_below _ _
 have HA7 := Lib.hid (show At w7 w6.heap.size [.bool x0, .slice x1 e1 g1, .slice x2 e2 g2, .slice x3 e3 g3] 35 by rw [hw7]; exact At.fresh _ _ _)
 have Hb7 := Lib.hid (below_and Hb6.out hb67)
 have Hbl7 := Lib.hid (below_and Hbl6.out hb67)
 have HN7 := Lib.hid (HN0.out.kept Hb7.out); have HS7 := Lib.hid (HS0.out.kept Hb7.out)
 have HX7 := Lib.hid (nodeq_since HXq.out hb67)
 have HXv := Lib.hid (fun (w' : World) (hb : Below w7.heap.size w7 w') => (show NodeV w' w'.heap.size X (.agg #[.bool x0, .slice x1 e1 g1, .slice x2 e2 g2, .slice x3 e3 g3]) from ⟨_, rfl, NodeQ.node _ _ (nodeq_since HX7.out hb)⟩))
 have HNv := Lib.hid (fun (w' : World) (hb : Below w7.heap.size w7 w') => Hv.out w' (below_and Hb7.out hb))
 have Hw7 := Lib.hid hw7
 clear hw7 hb67 HXq
 go_upto_region 10 with fail
 rw [<- Hw7.out]
 clear Hw7
 have HK7 := Lib.hid (HK3.out.kept Hbl7.out)
 have hless := fix_less (p := p) (n := n) Hcs.out Hat.out Hfn.out
 have hXat : atN X p = some (setKids k (fixK (ruleOf s (typeN k)) (kidsOf k) (findN s k))) := by rw [<- HX.out]; exact atN_put p n k _ Hat.out
 rw [show putN n p (setKids k (fixK (ruleOf s (typeN k)) (kidsOf k) (findN s k))) = X from HX.out] at hless
 generalize hM : setKids k (fixK (ruleOf s (typeN k)) (kidsOf k) (findN s k)) = M at hXat hless
 have hg2 := get_c X p (.agg #[.bool x0, .slice x1 e1 g1, .slice x2 e2 g2, .slice x3 e3 g3]) pa pc w7 (by have := HXw.out; omega) (HXv.out w7 (Below.refl _ _)) (Hp.out w7 Hb7.out)
 rw [hXat] at hg2
 have HG2 := Lib.hid hg2
 have HMw := Lib.hid (show M.wt <= 1000000 by have h1 := atN_wt p X M hXat; have h2 := HXw.out; omega)
 have Hless := Lib.hid hless
 obtain ⟨⟨f0, f1, f2, f3⟩, -, fl⟩ := HA7.out.f4
 clear hg2 hXat hM hless
 go_wp2_with fail
 refine HG2.out.mono ?_
 intro e w8 hg
 obtain ⟨hbel, mx, h1', h2', h3', u1, u2, u3, v1, v2, v3, rfl, hmq⟩ := GetP.alike hg
 have Hb78 := Lib.hid hbel
 have HMq := Lib.hid (show NodeQ w8 (fun b => w7.heap.size <= b) M [.bool mx, .slice h1' u1 v1, .slice h2' u2 v2, .slice h3' u3 v3] from hmq)
 clear hg hbel hmq HG2 f0 f1 f2 f3 fl
 obtain ⟨w9, hw9⟩ : ∃ w9, w9 = w8.alloc (Obj.cells #[.bool mx, .slice h1' u1 v1, .slice h2' u2 v2, .slice h3' u3 v3] 35) := ⟨_, rfl⟩
 have hb89 : Below w8.heap.size w8 w9 := by rw [hw9]; exact one_below _ _
 have HM9 := Lib.hid (show At w9 w8.heap.size [.bool mx, .slice h1' u1 v1, .slice h2' u2 v2, .slice h3' u3 v3] 35 by rw [hw9]; exact At.fresh _ _ _)
 have HMq9 := Lib.hid (nodeq_since HMq.out hb89)
 have Hb79 := Lib.hid (below_and Hb78.out hb89)
 have HK9 := Lib.hid (HK7.out.kept Hb79.out)
 have HS9 := Lib.hid (HS7.out.kept Hb79.out)
 have HKv := Lib.hid (fun (w' : World) (hb : Below w9.heap.size w9 w') => (show NodeV w' w'.heap.size k (.agg #[.bool kx, .slice k1 s1 r1, .slice k2 s2 r2, .slice k3 s3 r3]) from ⟨_, rfl, NodeQ.node _ _ (nodeq_since HKq3.out (below_and Hbl7.out (below_and Hb79.out hb)))⟩))
 have HMv := Lib.hid (fun (w' : World) (hb : Below w9.heap.size w9 w') => (show NodeV w' w'.heap.size M (.agg #[.bool mx, .slice h1' u1 v1, .slice h2' u2 v2, .slice h3' u3 v3]) from ⟨_, rfl, NodeQ.node _ _ (nodeq_since HMq9.out hb)⟩))
 have Hw9 := Lib.hid hw9
 clear hw9 hb89 HMq
 go_upto_region 13 with fail
 rw [<- Hw9.out]
 clear Hw9
 have hk3 : s3 = (kidsOf k).length := nodeq_kids HKq3.out
 have hm3 : u3 = (kidsOf M).length := nodeq_kids HMq9.out
 have hkl1 := wtAll_len (kidsOf k)
 have hkl2 := kids_wt2 k
 have hml1 := wtAll_len (kidsOf M)
 have hml2 := kids_wt2 M
 have hkw : k.wt <= 100000000 := by have h1 := atN_wt p n k Hat.out; have h2 := Hnw2.out; omega
 have hkp := kept_le s k
 have hmp := kept_le s M
 have HKp1 := Lib.hid (fun (w' : World) (hb : Below w9.heap.size w9 w') => kept_c s _ k (.agg #[.bool kx, .slice k1 s1 r1, .slice k2 s2 r2, .slice k3 s3 r3]) w' (by have := Hsw.out; omega) hkw (Hu.out w' (below_and Hb7.out (below_and Hb79.out hb))) (HKv.out w' hb))
 have HKp2 := Lib.hid (fun (w' : World) (hb : Below w9.heap.size w9 w') => kept_c s _ M (.agg #[.bool mx, .slice h1' u1 v1, .slice h2' u2 v2, .slice h3' u3 v3]) w' (by have := Hsw.out; omega) (by have := HMw.out; omega) (Hu.out w' (below_and Hb7.out (below_and Hb79.out hb))) (HMv.out w' hb))
 have HFi := Lib.hid (fun (w' : World) (hb : Below w9.heap.size w9 w') => find_c s _ k (.agg #[.bool kx, .slice k1 s1 r1, .slice k2 s2 r2, .slice k3 s3 r3]) w' (by have := Hsw.out; omega) hkw (Hu.out w' (below_and Hb7.out (below_and Hb79.out hb))) (HKv.out w' hb))
 have hlss := Hless.out
 unfold lessOk at hlss
 have hk3b : s3 <= 100000000 := by omega
 have hm3b : u3 <= 1000000 := by have := HMw.out; omega
 rw [<- hk3] at hkp; rw [<- hm3] at hmp
 rw [<- hk3, <- hm3] at hlss
 generalize keptN s k = K1 at HKp1 hkp hlss
 generalize keptN s M = K2 at HKp2 hmp hlss
 have HLess := Lib.hid hlss
 obtain ⟨I1, hI1⟩ : ∃ I1 : Int, I1 = (s3 : Int) - (K1 : Int) := ⟨_, rfl⟩
 obtain ⟨I2, hI2⟩ : ∃ I2 : Int, I2 = (u3 : Int) - (K2 : Int) := ⟨_, rfl⟩
 have HI1 := Lib.hid hI1; have HI2 := Lib.hid hI2
 have hwr1 : IntKind.i64.wrap ((s3 : Int) - (K1 : Int)) = I1 := by rw [hI1]; exact IntWalk.i64_in _ (by omega)
 have hwr2 : IntKind.i64.wrap ((u3 : Int) - (K2 : Int)) = I2 := by rw [hI2]; exact IntWalk.i64_in _ (by omega)
 have HS := Lib.hid (fun (w' : World) (hb : Below w9.heap.size w9 w') => (show At w' W.heap.size [.slice a s.rules.length c, strV s.els.type, .int .i64 s.els.text.1, strV s.els.text.2, .int .i64 s.els.other.1, strV s.els.other.2, .slice ea s.els.kids.length ec, .int .i64 s.els.fill, strV s.els.fillT, .int .i64 o0, .int .i64 o1, .int .i64 o2, .int .i64 o3, .int .i64 o4, .int .i64 o5, .int .i64 s.cap] 30 /\ w'.cell? ⟨w4.heap.size, 0, none⟩ = some (.bool kx) /\ w'.cell? ⟨w4.heap.size, 1, none⟩ = some (.slice k1 s1 r1) /\ w'.cell? ⟨w4.heap.size, 2, none⟩ = some (.slice k2 s2 r2) /\ w'.cell? ⟨w4.heap.size, 3, none⟩ = some (.slice k3 s3 r3) /\ w'.cell? ⟨w8.heap.size, 0, none⟩ = some (.bool mx) /\ w'.cell? ⟨w8.heap.size, 1, none⟩ = some (.slice h1' u1 v1) /\ w'.cell? ⟨w8.heap.size, 2, none⟩ = some (.slice h2' u2 v2) /\ w'.cell? ⟨w8.heap.size, 3, none⟩ = some (.slice h3' u3 v3) from ⟨HS9.out.kept hb, (HK9.out.kept hb).cell 0 rfl, (HK9.out.kept hb).cell 1 rfl, (HK9.out.kept hb).cell 2 rfl, (HK9.out.kept hb).cell 3 rfl, (HM9.out.kept hb).cell 0 rfl, (HM9.out.kept hb).cell 1 rfl, (HM9.out.kept hb).cell 2 rfl, (HM9.out.kept hb).cell 3 rfl⟩))
 have hld := Hld.out
 have Hk3 := Lib.hid hk3; have Hm3 := Lib.hid hm3
 clear hlss hkl1 hkl2 hml1 hml2 hkw Hless hk3 hm3 hI1 hI2
 go_cut [15, 16] (fun a b wx => a = .int .i64 I1 /\ b = .int .i64 I2 /\ Hid (Below w9.heap.size w9 wx))
 case first =>
  go_region_held3 (fun w' => At w' W.heap.size [.slice a s.rules.length c, strV s.els.type, .int .i64 s.els.text.1, strV s.els.text.2, .int .i64 s.els.other.1, strV s.els.other.2, .slice ea s.els.kids.length ec, .int .i64 s.els.fill, strV s.els.fillT, .int .i64 o0, .int .i64 o1, .int .i64 o2, .int .i64 o3, .int .i64 o4, .int .i64 o5, .int .i64 s.cap] 30 /\ w'.cell? ⟨w4.heap.size, 0, none⟩ = some (.bool kx) /\ w'.cell? ⟨w4.heap.size, 1, none⟩ = some (.slice k1 s1 r1) /\ w'.cell? ⟨w4.heap.size, 2, none⟩ = some (.slice k2 s2 r2) /\ w'.cell? ⟨w4.heap.size, 3, none⟩ = some (.slice k3 s3 r3) /\ w'.cell? ⟨w8.heap.size, 0, none⟩ = some (.bool mx) /\ w'.cell? ⟨w8.heap.size, 1, none⟩ = some (.slice h1' u1 v1) /\ w'.cell? ⟨w8.heap.size, 2, none⟩ = some (.slice h2' u2 v2) /\ w'.cell? ⟨w8.heap.size, 3, none⟩ = some (.slice h3' u3 v3)) (refine HS.out _ (by ((repeat (first | with_reducible exact Hb11.out | with_reducible exact Hb10.out | with_reducible exact Below.refl _ _ | with_reducible refine Below.drew ?_ | with_reducible refine Below.alloc ?_ ?_ _ | with_reducible refine Below.setCell ?_ ?_ _)) <;> (first | with_reducible exact Nat.le_refl _ | with_reducible exact Hb11.out.size | with_reducible exact Hb10.out.size | (have hsz := Hb11.out.size; simp [World.setCell]; omega) | (have hsz := Hb10.out.size; simp [World.setCell]; omega) | (simp; done) | (simp; omega) | omega))))
   (first
   | (refine step_call rfl 16 _ _ rfl lkept_ent [.agg #[.slice a s.rules.length c, strV s.els.type, .int .i64 s.els.text.1, strV s.els.text.2, .int .i64 s.els.other.1, strV s.els.other.2, .slice ea s.els.kids.length ec, .int .i64 s.els.fill, strV s.els.fillT, .int .i64 o0, .int .i64 o1, .int .i64 o2, .int .i64 o3, .int .i64 o4, .int .i64 o5, .int .i64 s.cap], .agg #[.bool kx, .slice k1 s1 r1, .slice k2 s2 r2, .slice k3 s3 r3]] ?_ _ (HKp1.out _ (by ((repeat (first | with_reducible exact Below.refl _ _ | with_reducible refine Below.drew ?_ | with_reducible refine Below.alloc ?_ ?_ _ | with_reducible refine Below.setCell ?_ ?_ _)) <;> (first | with_reducible exact Nat.le_refl _ | (simp; done) | (simp; omega) | omega)))) ?_
      . go_simp
      rintro e w10 ⟨rfl, hbel⟩
      refine ⟨_, rfl, ?_⟩
      have Hb10 := Lib.hid (below_and (w0 := w9) (by ((repeat (first | with_reducible exact Below.refl _ _ | with_reducible refine Below.drew ?_ | with_reducible refine Below.alloc ?_ ?_ _ | with_reducible refine Below.setCell ?_ ?_ _)) <;> (first | with_reducible exact Nat.le_refl _ | (simp; done) | (simp; omega) | omega))) hbel)
      clear hbel)
   | (refine step_call rfl 16 _ _ rfl lkept_ent [.agg #[.slice a s.rules.length c, strV s.els.type, .int .i64 s.els.text.1, strV s.els.text.2, .int .i64 s.els.other.1, strV s.els.other.2, .slice ea s.els.kids.length ec, .int .i64 s.els.fill, strV s.els.fillT, .int .i64 o0, .int .i64 o1, .int .i64 o2, .int .i64 o3, .int .i64 o4, .int .i64 o5, .int .i64 s.cap], .agg #[.bool mx, .slice h1' u1 v1, .slice h2' u2 v2, .slice h3' u3 v3]] ?_ _ (HKp2.out _ (by ((repeat (first | with_reducible exact Hb10.out | with_reducible exact Below.refl _ _ | with_reducible refine Below.drew ?_ | with_reducible refine Below.alloc ?_ ?_ _ | with_reducible refine Below.setCell ?_ ?_ _)) <;> (first | with_reducible exact Nat.le_refl _ | with_reducible exact Hb10.out.size | (have hsz := Hb10.out.size; simp [World.setCell]; omega) | (simp; done) | (simp; omega) | omega)))) ?_
      . go_simp
      rintro e w11 ⟨rfl, hbel⟩
      refine ⟨_, rfl, ?_⟩
      have Hb11 := Lib.hid (below_and (w0 := w9) (by ((repeat (first | with_reducible exact Hb10.out | with_reducible exact Below.refl _ _ | with_reducible refine Below.drew ?_ | with_reducible refine Below.alloc ?_ ?_ _ | with_reducible refine Below.setCell ?_ ?_ _)) <;> (first | with_reducible exact Nat.le_refl _ | with_reducible exact Hb10.out.size | (have hsz := Hb10.out.size; simp [World.setCell]; omega) | (simp; done) | (simp; omega) | omega))) hbel)
      clear hbel))
  all_goals
   clear hld
   go_wp2_with fail
   go_meet
   case rel => exact ⟨rfl, rfl, Hb11⟩
 case rest =>
 obtain ⟨rfl, rfl, Hb9c⟩ := hcut
 have HS10 := Lib.hid (HS9.out.kept Hb9c.out)
 have HFi1 := Lib.hid (HFi.out wc Hb9c.out)
 obtain ⟨⟨f0, f1, f2, f3⟩, -, fl⟩ := (HK9.out.kept Hb9c.out).f4
 clear HS HKp1 HKp2 hld hwr1 hwr2 HFi
 obtain ⟨F1, F2, F3, hF⟩ : ∃ F1 F2 F3, findN s k = (F1, F2, F3) := ⟨_, _, _, rfl⟩
 rw [hF] at HFi1 HLess
 have HFe := Lib.hid hF
 clear hF
 go_wp2_with (refine wpList_loadA rfl _ _ rfl W.heap.size #[.slice a s.rules.length c, strV s.els.type, .int .i64 s.els.text.1, strV s.els.text.2, .int .i64 s.els.other.1, strV s.els.other.2, .slice ea s.els.kids.length ec, .int .i64 s.els.fill, strV s.els.fillT, .int .i64 o0, .int .i64 o1, .int .i64 o2, .int .i64 o3, .int .i64 o4, .int .i64 o5, .int .i64 s.cap] rfl HS10.out _ Tryz.underlying30 rfl (by kernel_rfl) ?_)
 refine HFi1.out.mono ?_
 rintro e w10 ⟨rfl, hbel⟩
 have Hb10 := Lib.hid (below_and Hb9c.out hbel)
 clear HFi1 hbel f0 f1 f2 f3 fl HS10
 obtain ⟨w11, hw11⟩ : ∃ w11, w11 = w10.alloc (Obj.cells #[.int .i64 F1, .int .i64 F2, .int .i64 F3] 51) := ⟨_, rfl⟩
 have hb11 : Below w10.heap.size w10 w11 := by rw [hw11]; exact one_below _ _
 have HT11 := Lib.hid (show At w11 w10.heap.size [.int .i64 F1, .int .i64 F2, .int .i64 F3] 51 by rw [hw11]; exact At.fresh _ _ _)
 have Hb911 := Lib.hid (below_and Hb10.out hb11)
 have HA11 := Lib.hid (HA7.out.kept (below_and Hb79.out Hb911.out)); have HN11 := Lib.hid (HN7.out.kept (below_and Hb79.out Hb911.out))
 have HM11 := Lib.hid (HM9.out.kept Hb911.out); have HS11 := Lib.hid (HS9.out.kept Hb911.out)
 have HbW11 := Lib.hid (Hb0.out.trans ((below_and Hb7.out (below_and Hb79.out Hb911.out)).mono Hb0.out.size))
 have HSzX := Lib.hid (fun (w' : World) (hb : Below w11.heap.size w11 w') => nsize_c X (.agg #[.bool x0, .slice x1 e1 g1, .slice x2 e2 g2, .slice x3 e3 g3]) w'.heap.size w' (by have := HXw.out; omega) (HXv.out w' (below_and Hb79.out (below_and Hb911.out hb))) (Nat.le_refl _))
 have HSzN := Lib.hid (fun (w' : World) (hb : Below w11.heap.size w11 w') => nsize_c n (.agg #[.bool false, .slice b1 m1 d1, .slice b2 m2 d2, .slice b3 m3 d3]) w'.heap.size w' (by have := Hnw2.out; omega) (HNv.out w' (below_and Hb79.out (below_and Hb911.out hb))) (Nat.le_refl _))
 have hszn : sizeN n <= 15360 := Nat.le_trans (sizeN_le n) Hnw2.out
 have hszx : sizeN X <= 1000000 := Nat.le_trans (sizeN_le X) HXw.out
 have Hw11 := Lib.hid hw11
 have t0 := HT11.out.cell 0 rfl; have tl := HT11.out.lt
 clear hw11 hb11
 go_upto_region 15 with fail
 rw [<- Hw11.out]
 clear Hw11
 have hls := HLess.out
 by_cases h3 : F1 = 3
 . subst h3
   obtain ⟨Wn, hWat, hWl, hWk, hWn, hWs⟩ := hls.1 rfl
   obtain ⟨m, hF3⟩ : ∃ m : Nat, F3 = m := by
    rcases find_cases s k with h | ⟨c', j, -, -, -, -, he, -, -, -⟩
    . rw [HFe.out] at h; cases h
    . rw [HFe.out] at he; exact ⟨_, (Prod.mk.inj (Prod.mk.inj he).2).2⟩
   subst hF3
   rw [Int.toNat_natCast] at hWl hWk hWn
   obtain ⟨zs, hzs⟩ : ∃ zs, zs = p ++ [F2] := ⟨_, rfl⟩
   have hpk : ∀ w', Below w11.heap.size w11 w' -> RowA w' w'.heap.size 1 pa p.length pc (p.map (Value.int .i64)) := fun w' hb => Hp.out w' (below_and Hb7.out (below_and Hb79.out (below_and Hb911.out hb)))
   have hwc := fun (w' : World) (hb : Below w11.heap.size w11 w') (la : Option Addr) (lc : Nat) (hl : RowA w' w'.heap.size 1 la 1 lc [.int .i64 F2]) => with_c p [F2] pa pc la lc w' (hpk w' hb) hl (by have := Hp40.out; simp; omega)
   have hgc := fun (w' : World) (hb : Below w11.heap.size w11 w') (za : Option Addr) (zc : Nat) (hz : RowA w' w'.heap.size 1 za zs.length zc (zs.map (Value.int .i64))) => get_c X zs (.agg #[.bool x0, .slice x1 e1 g1, .slice x2 e2 g2, .slice x3 e3 g3]) za zc w' (by have := HXw.out; omega) (HXv.out w' (below_and Hb79.out (below_and Hb911.out hb))) hz
   rw [<- hzs] at hwc hWat
   rw [hWat] at hgc
   have HWc := Lib.hid hwc; have HGc := Lib.hid hgc
   have HWw := Lib.hid (show Wn.wt <= 1000000 by have h1 := atN_wt zs X Wn hWat; have h2 := HXw.out; omega)
   have HSa := Lib.hid (fun (w' : World) (hb : Below w11.heap.size w11 w') => (show w'.cell? ⟨w6.heap.size, 0, none⟩ = some (.bool x0) /\ w'.cell? ⟨w6.heap.size, 1, none⟩ = some (.slice x1 e1 g1) /\ w'.cell? ⟨w6.heap.size, 2, none⟩ = some (.slice x2 e2 g2) /\ w'.cell? ⟨w6.heap.size, 3, none⟩ = some (.slice x3 e3 g3) /\ w'.cell? ⟨w10.heap.size, 0, none⟩ = some (.int .i64 3) /\ w'.cell? ⟨w10.heap.size, 1, none⟩ = some (.int .i64 F2) /\ w'.cell? ⟨w10.heap.size, 2, none⟩ = some (.int .i64 (m : Nat)) from ⟨(HA11.out.kept hb).cell 0 rfl, (HA11.out.kept hb).cell 1 rfl, (HA11.out.kept hb).cell 2 rfl, (HA11.out.kept hb).cell 3 rfl, (HT11.out.kept hb).cell 0 rfl, (HT11.out.kept hb).cell 1 rfl, (HT11.out.kept hb).cell 2 rfl⟩))
   have HI1o := HI1.out; have HI2o := HI2.out
   have heq1 : (I2 == I1 - (m : Int)) = true := by simp; omega
   have hwi : IntKind.i64.wrap (I1 - (m : Int)) = I1 - (m : Int) := IntWalk.i64_in _ (by have := sizeN_pos n; omega)
   have Heq1 := Lib.hid heq1; have Hwi := Lib.hid hwi; have HWk := Lib.hid hWk; have HWn := Lib.hid hWn
   generalize sizeN X = Z1 at HSzX hszx hWs
   generalize sizeN n = Z2 at HSzN hszn hWs
   have hwz : IntKind.i64.wrap ((Z2 : Int) + 1) = (Z2 : Int) + 1 := IntWalk.i64_in _ (by omega)
   have hze : ((Z1 : Int) == (Z2 : Int) + 1) = true := by simp; omega
   have Hwz := Lib.hid hwz; have Hze := Lib.hid hze
   clear hls hWl hWk hWn hWs hzs hpk hwc hgc hWat heq1 hwi hwz hze HI1o HI2o HLess
   go_upto_region 17 with fail
   clear t0 tl
   go_cut [18, 19] (fun a b wx => ∃ (M18 : Nat) (q0 : Bool) (q1 q2 q3 : Option Addr) (y1 y2 y3 z1 z2 z3 : Nat), a = .pointer (some ⟨M18, 0, none⟩) /\ b = .int .i64 0 /\ Hid (At wx M18 [.bool q0, .slice q1 y1 z1, .slice q2 y2 z2, .slice q3 y3 z3] 35) /\ Hid (NodeQ wx (fun b => b ≠ M18) Wn [.bool q0, .slice q1 y1 z1, .slice q2 y2 z2, .slice q3 y3 z3]) /\ Hid (Below w11.heap.size w11 wx))
   case first =>
    go_region_held3 (fun w' => w'.cell? ⟨w6.heap.size, 0, none⟩ = some (.bool x0) /\ w'.cell? ⟨w6.heap.size, 1, none⟩ = some (.slice x1 e1 g1) /\ w'.cell? ⟨w6.heap.size, 2, none⟩ = some (.slice x2 e2 g2) /\ w'.cell? ⟨w6.heap.size, 3, none⟩ = some (.slice x3 e3 g3) /\ w'.cell? ⟨w10.heap.size, 0, none⟩ = some (.int .i64 3) /\ w'.cell? ⟨w10.heap.size, 1, none⟩ = some (.int .i64 F2) /\ w'.cell? ⟨w10.heap.size, 2, none⟩ = some (.int .i64 (m : Nat))) (refine HSa.out _ (by ((repeat (first | with_reducible exact Hb13.out | with_reducible exact Hb12.out | with_reducible exact Below.refl _ _ | with_reducible refine Below.drew ?_ | with_reducible refine Below.alloc ?_ ?_ _ | with_reducible refine Below.setCell ?_ ?_ _)) <;> (first | with_reducible exact Nat.le_refl _ | with_reducible exact Hb13.out.size | with_reducible exact Hb12.out.size | (have hsz := Hb13.out.size; simp [World.setCell]; omega) | (have hsz := Hb12.out.size; simp [World.setCell]; omega) | (simp; done) | (simp; omega) | omega))))
     (first
     | (refine step_call rfl 18 _ _ rfl lwith_ent [.slice pa p.length pc, .slice (some ⟨w11.heap.size, 0, none⟩) 1 1] ?_ _ (HWc.out _ (by ((repeat (first | with_reducible exact Below.refl _ _ | with_reducible refine Below.drew ?_ | with_reducible refine Below.alloc ?_ ?_ _ | with_reducible refine Below.setCell ?_ ?_ _)) <;> (first | with_reducible exact Nat.le_refl _ | (simp; done) | (simp; omega) | omega))) _ _ (row_of_box (by (repeat (first | with_reducible exact At.second _ _ _ _ | with_reducible exact At.fresh _ _ _ | with_reducible refine At.drew ?_ | with_reducible refine At.alloc ?_ _))))) ?_
        . go_simp
        rintro e w12 ⟨za, zc, rfl, hz, hbel⟩
        refine ⟨_, rfl, ?_⟩
        have Hz12 := Lib.hid hbel.size
        have Hb12 := Lib.hid (below_and (w0 := w11) (by ((repeat (first | with_reducible exact Below.refl _ _ | with_reducible refine Below.drew ?_ | with_reducible refine Below.alloc ?_ ?_ _ | with_reducible refine Below.setCell ?_ ?_ _)) <;> (first | with_reducible exact Nat.le_refl _ | (simp; done) | (simp; omega) | omega))) hbel)
        have Hzr := Lib.hid (fun (w' : World) (hb : Below w12.heap.size w12 w') => (RowQ.row hz).keep hb hb.size)
        first
         | (refine At.lay (N := ?_) (cs := [.bool false, .slice none 0 0, .slice none 0 0, .slice none 0 0]) (T := 35) (At.kept ?_ hbel) ?_
            rotate_left
            . (repeat (first | with_reducible exact At.second _ _ _ _ | with_reducible exact At.fresh _ _ _ | with_reducible refine At.drew ?_ | with_reducible refine At.alloc ?_ _))
            intro HM12)
         | skip
        clear hbel hz)
     | (refine step_call rfl 18 _ _ rfl lwith_ent [.slice pa p.length pc, .slice (some ⟨w11.heap.size + 1, 0, none⟩) 1 1] ?_ _ (HWc.out _ (by ((repeat (first | with_reducible exact Below.refl _ _ | with_reducible refine Below.drew ?_ | with_reducible refine Below.alloc ?_ ?_ _ | with_reducible refine Below.setCell ?_ ?_ _)) <;> (first | with_reducible exact Nat.le_refl _ | (simp; done) | (simp; omega) | omega))) _ _ (row_of_box (by (repeat (first | with_reducible exact At.second _ _ _ _ | with_reducible exact At.fresh _ _ _ | with_reducible refine At.drew ?_ | with_reducible refine At.alloc ?_ _))))) ?_
        . go_simp
        rintro e w12 ⟨za, zc, rfl, hz, hbel⟩
        refine ⟨_, rfl, ?_⟩
        have Hz12 := Lib.hid hbel.size
        have Hb12 := Lib.hid (below_and (w0 := w11) (by ((repeat (first | with_reducible exact Below.refl _ _ | with_reducible refine Below.drew ?_ | with_reducible refine Below.alloc ?_ ?_ _ | with_reducible refine Below.setCell ?_ ?_ _)) <;> (first | with_reducible exact Nat.le_refl _ | (simp; done) | (simp; omega) | omega))) hbel)
        have Hzr := Lib.hid (fun (w' : World) (hb : Below w12.heap.size w12 w') => (RowQ.row hz).keep hb hb.size)
        first
         | (refine At.lay (N := ?_) (cs := [.bool false, .slice none 0 0, .slice none 0 0, .slice none 0 0]) (T := 35) (At.kept ?_ hbel) ?_
            rotate_left
            . (repeat (first | with_reducible exact At.second _ _ _ _ | with_reducible exact At.fresh _ _ _ | with_reducible refine At.drew ?_ | with_reducible refine At.alloc ?_ _))
            intro HM12)
         | skip
        clear hbel hz)
     | (refine step_call rfl 14 _ _ rfl lget_ent [.agg #[.bool x0, .slice x1 e1 g1, .slice x2 e2 g2, .slice x3 e3 g3], .slice za zs.length zc] ?_ _ (HGc.out _ (by ((repeat (first | with_reducible exact Hb12.out | with_reducible exact Below.refl _ _ | with_reducible refine Below.drew ?_ | with_reducible refine Below.alloc ?_ ?_ _ | with_reducible refine Below.setCell ?_ ?_ _)) <;> (first | with_reducible exact Nat.le_refl _ | with_reducible exact Hb12.out.size | (have hsz := Hb12.out.size; simp [World.setCell]; omega) | (simp; done) | (simp; omega) | omega))) za zc (Hzr.out _ (by ((repeat (first | with_reducible exact Below.refl _ _ | with_reducible refine Below.drew ?_ | with_reducible refine Below.alloc ?_ ?_ _ | with_reducible refine Below.setCell ?_ ?_ _)) <;> (first | with_reducible exact Nat.le_refl _ | (simp; done) | (simp; omega) | omega))))) ?_
        . go_simp
        intro e w13 hg
        obtain ⟨hbel, q0, q1, q2, q3, y1, y2, y3, z1, z2, z3, rfl, hqq⟩ := GetP.alike hg
        refine ⟨_, rfl, ?_⟩
        have Hz13 := Lib.hid hbel.size
        have Hb13 := Lib.hid (below_and (w0 := w11) (by ((repeat (first | with_reducible exact Hb12.out | with_reducible exact Below.refl _ _ | with_reducible refine Below.drew ?_ | with_reducible refine Below.alloc ?_ ?_ _ | with_reducible refine Below.setCell ?_ ?_ _)) <;> (first | with_reducible exact Nat.le_refl _ | with_reducible exact Hb12.out.size | (have hsz := Hb12.out.size; simp [World.setCell]; omega) | (simp; done) | (simp; omega) | omega))) hbel)
        have Hqq := Lib.hid hqq
        first
         | (refine At.lay (N := ?_) (cs := [.bool false, .slice none 0 0, .slice none 0 0, .slice none 0 0]) (T := 35) (At.kept ?_ hbel) ?_
            rotate_left
            . (repeat (first | with_reducible exact HM12.out | with_reducible exact At.second _ _ _ _ | with_reducible exact At.fresh _ _ _ | with_reducible refine At.drew ?_ | with_reducible refine At.alloc ?_ _))
            intro HM13)
         | skip
        first
         | (obtain ⟨⟨r0, r1', r2', r3'⟩, rf, rl⟩ := HM13.out.f4)
         | skip
        clear hbel hg hqq))
    all_goals
     go_wp2_with fail
     go_meet
     case rel =>
      have hz12 := Hz12.out; have hz13 := Hz13.out
      simp at hz12 hz13
      refine ⟨_, q0, q1, q2, q3, y1, y2, y3, z1, z2, z3, rfl, rfl, Lib.hid ?_, Lib.hid ?_, Lib.hid ?_⟩
      . (repeat (first | with_reducible exact HM13.out | with_reducible exact HM13.out.s4 _ _ _ _ | with_reducible exact (HM13.out.alloc _).s4 _ _ _ _ | with_reducible exact At.second _ _ _ _ | with_reducible exact At.fresh _ _ _ | (with_reducible refine At.fresh2 ?_; (simp [World.setCell]; done)) | with_reducible refine At.drew ?_ | with_reducible refine At.alloc ?_ _ | (with_reducible refine At.n4 ?_ ?_ _ _ _ _; rotate_left; (omega))))
      . (repeat (first | with_reducible refine nodeq_set4 ?_ (by simp) _ _ _ _ | with_reducible refine nodeq_since ?_ (one_below _ _)))
        refine NodeQ.keep (Nat.le_refl _) (fun _ _ _ => rfl) (fun b hb hlt => ?_) _ _ Hqq.out
        try simp at hb
        omega
      . ((repeat (first | with_reducible exact Hb13.out | with_reducible exact Below.refl _ _ | with_reducible refine Below.drew ?_ | with_reducible refine Below.alloc ?_ ?_ _ | with_reducible refine Below.setCell ?_ ?_ _)) <;> (first | with_reducible exact Nat.le_refl _ | with_reducible exact Hb13.out.size | (have hsz := Hb13.out.size; simp [World.setCell]; omega) | (simp; done) | (simp; omega) | omega))
   case rest =>
   obtain ⟨M18, q0, q1, q2, q3, y1, y2, y3, z1, z2, z3, rfl, rfl, HQ18, HWq, Hbc⟩ := hcut
   have hy3 : y3 = (kidsOf Wn).length := nodeq_kids HWq.out
   rw [HWn.out] at hy3
   subst hy3
   have HSc := Lib.hid (HS11.out.kept Hbc.out); have HT18 := Lib.hid (HT11.out.kept Hbc.out); have HA18 := Lib.hid (HA11.out.kept Hbc.out); have HN18 := Lib.hid (HN11.out.kept Hbc.out)
   have hkc := fun (w' : World) (hb : Below wc.heap.size wc w') => kept_c s _ Wn (.agg #[.bool q0, .slice q1 y1 z1, .slice q2 y2 z2, .slice q3 y3 z3]) w' (by have := Hsw.out; omega) (by have := HWw.out; omega) (Hu.out w' (below_and Hb7.out (below_and Hb79.out (below_and Hb911.out (below_and Hbc.out hb))))) ⟨_, rfl, NodeQ.node _ _ (nodeq_since HWq.out hb)⟩
   rw [HWk.out] at hkc
   have HKc := Lib.hid hkc
   have HSz1 := Lib.hid (fun (w' : World) (hb : Below wc.heap.size wc w') => HSzX.out w' (below_and Hbc.out hb))
   have HSz2 := Lib.hid (fun (w' : World) (hb : Below wc.heap.size wc w') => HSzN.out w' (below_and Hbc.out hb))
   have HSd := Lib.hid (fun (w' : World) (hb : Below wc.heap.size wc w') => (show At w' W.heap.size [.slice a s.rules.length c, strV s.els.type, .int .i64 s.els.text.1, strV s.els.text.2, .int .i64 s.els.other.1, strV s.els.other.2, .slice ea s.els.kids.length ec, .int .i64 s.els.fill, strV s.els.fillT, .int .i64 o0, .int .i64 o1, .int .i64 o2, .int .i64 o3, .int .i64 o4, .int .i64 o5, .int .i64 s.cap] 30 /\ w'.cell? ⟨M18, 0, none⟩ = some (.bool q0) /\ w'.cell? ⟨M18, 1, none⟩ = some (.slice q1 y1 z1) /\ w'.cell? ⟨M18, 2, none⟩ = some (.slice q2 y2 z2) /\ w'.cell? ⟨M18, 3, none⟩ = some (.slice q3 y3 z3) /\ w'.cell? ⟨w10.heap.size, 0, none⟩ = some (.int .i64 3) /\ w'.cell? ⟨w10.heap.size, 1, none⟩ = some (.int .i64 F2) /\ w'.cell? ⟨w10.heap.size, 2, none⟩ = some (.int .i64 (y3 : Nat)) /\ w'.cell? ⟨w6.heap.size, 0, none⟩ = some (.bool x0) /\ w'.cell? ⟨w6.heap.size, 1, none⟩ = some (.slice x1 e1 g1) /\ w'.cell? ⟨w6.heap.size, 2, none⟩ = some (.slice x2 e2 g2) /\ w'.cell? ⟨w6.heap.size, 3, none⟩ = some (.slice x3 e3 g3) /\ w'.cell? ⟨W.heap.size + 1, 0, none⟩ = some (.bool false) /\ w'.cell? ⟨W.heap.size + 1, 1, none⟩ = some (.slice b1 m1 d1) /\ w'.cell? ⟨W.heap.size + 1, 2, none⟩ = some (.slice b2 m2 d2) /\ w'.cell? ⟨W.heap.size + 1, 3, none⟩ = some (.slice b3 m3 d3) from ⟨HSc.out.kept hb, (HQ18.out.kept hb).cell 0 rfl, (HQ18.out.kept hb).cell 1 rfl, (HQ18.out.kept hb).cell 2 rfl, (HQ18.out.kept hb).cell 3 rfl, (HT18.out.kept hb).cell 0 rfl, (HT18.out.kept hb).cell 1 rfl, (HT18.out.kept hb).cell 2 rfl, (HA18.out.kept hb).cell 0 rfl, (HA18.out.kept hb).cell 1 rfl, (HA18.out.kept hb).cell 2 rfl, (HA18.out.kept hb).cell 3 rfl, (HN18.out.kept hb).cell 0 rfl, (HN18.out.kept hb).cell 1 rfl, (HN18.out.kept hb).cell 2 rfl, (HN18.out.kept hb).cell 3 rfl⟩))
   have heq1 := Heq1.out; have hwi := Hwi.out; have hwz := Hwz.out; have hze := Hze.out
   have hld := Hld.out
   clear hkc
   go_upto_region 18 with fail
   go_region_held3 (fun w' => At w' W.heap.size [.slice a s.rules.length c, strV s.els.type, .int .i64 s.els.text.1, strV s.els.text.2, .int .i64 s.els.other.1, strV s.els.other.2, .slice ea s.els.kids.length ec, .int .i64 s.els.fill, strV s.els.fillT, .int .i64 o0, .int .i64 o1, .int .i64 o2, .int .i64 o3, .int .i64 o4, .int .i64 o5, .int .i64 s.cap] 30 /\ w'.cell? ⟨M18, 0, none⟩ = some (.bool q0) /\ w'.cell? ⟨M18, 1, none⟩ = some (.slice q1 y1 z1) /\ w'.cell? ⟨M18, 2, none⟩ = some (.slice q2 y2 z2) /\ w'.cell? ⟨M18, 3, none⟩ = some (.slice q3 y3 z3) /\ w'.cell? ⟨w10.heap.size, 0, none⟩ = some (.int .i64 3) /\ w'.cell? ⟨w10.heap.size, 1, none⟩ = some (.int .i64 F2) /\ w'.cell? ⟨w10.heap.size, 2, none⟩ = some (.int .i64 (y3 : Nat)) /\ w'.cell? ⟨w6.heap.size, 0, none⟩ = some (.bool x0) /\ w'.cell? ⟨w6.heap.size, 1, none⟩ = some (.slice x1 e1 g1) /\ w'.cell? ⟨w6.heap.size, 2, none⟩ = some (.slice x2 e2 g2) /\ w'.cell? ⟨w6.heap.size, 3, none⟩ = some (.slice x3 e3 g3) /\ w'.cell? ⟨W.heap.size + 1, 0, none⟩ = some (.bool false) /\ w'.cell? ⟨W.heap.size + 1, 1, none⟩ = some (.slice b1 m1 d1) /\ w'.cell? ⟨W.heap.size + 1, 2, none⟩ = some (.slice b2 m2 d2) /\ w'.cell? ⟨W.heap.size + 1, 3, none⟩ = some (.slice b3 m3 d3)) (refine HSd.out _ (by ((repeat (first | with_reducible exact Hw16.out | with_reducible exact Hw15.out | with_reducible exact Hw14.out | with_reducible exact Below.refl _ _ | with_reducible refine Below.drew ?_ | with_reducible refine Below.alloc ?_ ?_ _ | with_reducible refine Below.setCell ?_ ?_ _)) <;> (first | with_reducible exact Nat.le_refl _ | with_reducible exact Hw16.out.size | with_reducible exact Hw15.out.size | with_reducible exact Hw14.out.size | (have hsz := Hw16.out.size; simp [World.setCell]; omega) | (have hsz := Hw15.out.size; simp [World.setCell]; omega) | (have hsz := Hw14.out.size; simp [World.setCell]; omega) | (simp; done) | (simp; omega) | omega))))
    (first
    | (refine step_callG ?_ 16 _ _ rfl lkept_ent [.agg #[.slice a s.rules.length c, strV s.els.type, .int .i64 s.els.text.1, strV s.els.text.2, .int .i64 s.els.other.1, strV s.els.other.2, .slice ea s.els.kids.length ec, .int .i64 s.els.fill, strV s.els.fillT, .int .i64 o0, .int .i64 o1, .int .i64 o2, .int .i64 o3, .int .i64 o4, .int .i64 o5, .int .i64 s.cap], .agg #[.bool q0, .slice q1 y1 z1, .slice q2 y2 z2, .slice q3 y3 z3]] ?_ _ (HKc.out _ (by ((repeat (first | with_reducible exact Below.refl _ _ | with_reducible refine Below.drew ?_ | with_reducible refine Below.alloc ?_ ?_ _ | with_reducible refine Below.setCell ?_ ?_ _)) <;> (first | with_reducible exact Nat.le_refl _ | (simp; done) | (simp; omega) | omega)))) ?_
       . go_simp
       . go_simp
       rintro e w14 ⟨rfl, hbel⟩
       refine ⟨_, rfl, ?_⟩
       have Hw14 := Lib.hid (below_and (w0 := wc) (by ((repeat (first | with_reducible exact Below.refl _ _ | with_reducible refine Below.drew ?_ | with_reducible refine Below.alloc ?_ ?_ _ | with_reducible refine Below.setCell ?_ ?_ _)) <;> (first | with_reducible exact Nat.le_refl _ | (simp; done) | (simp; omega) | omega))) hbel)
       clear hbel)
    | (refine step_callG ?_ 19 _ _ rfl lsize_ent [.agg #[.bool x0, .slice x1 e1 g1, .slice x2 e2 g2, .slice x3 e3 g3]] ?_ _ (HSz1.out _ (by ((repeat (first | with_reducible exact Hw14.out | with_reducible exact Below.refl _ _ | with_reducible refine Below.drew ?_ | with_reducible refine Below.alloc ?_ ?_ _ | with_reducible refine Below.setCell ?_ ?_ _)) <;> (first | with_reducible exact Nat.le_refl _ | with_reducible exact Hw14.out.size | (have hsz := Hw14.out.size; simp [World.setCell]; omega) | (simp; done) | (simp; omega) | omega)))) ?_
       . go_simp
       . go_simp
       rintro e w15 ⟨rfl, hbel⟩
       refine ⟨_, rfl, ?_⟩
       have Hw15 := Lib.hid (below_and (w0 := wc) (by ((repeat (first | with_reducible exact Hw14.out | with_reducible exact Below.refl _ _ | with_reducible refine Below.drew ?_ | with_reducible refine Below.alloc ?_ ?_ _ | with_reducible refine Below.setCell ?_ ?_ _)) <;> (first | with_reducible exact Nat.le_refl _ | with_reducible exact Hw14.out.size | (have hsz := Hw14.out.size; simp [World.setCell]; omega) | (simp; done) | (simp; omega) | omega))) hbel)
       clear hbel)
    | (refine step_callG ?_ 19 _ _ rfl lsize_ent [.agg #[.bool false, .slice b1 m1 d1, .slice b2 m2 d2, .slice b3 m3 d3]] ?_ _ (HSz2.out _ (by ((repeat (first | with_reducible exact Hw15.out | with_reducible exact Hw14.out | with_reducible exact Below.refl _ _ | with_reducible refine Below.drew ?_ | with_reducible refine Below.alloc ?_ ?_ _ | with_reducible refine Below.setCell ?_ ?_ _)) <;> (first | with_reducible exact Nat.le_refl _ | with_reducible exact Hw15.out.size | with_reducible exact Hw14.out.size | (have hsz := Hw15.out.size; simp [World.setCell]; omega) | (have hsz := Hw14.out.size; simp [World.setCell]; omega) | (simp; done) | (simp; omega) | omega)))) ?_
       . go_simp
       . go_simp
       rintro e w16 ⟨rfl, hbel⟩
       refine ⟨_, rfl, ?_⟩
       have Hw16 := Lib.hid (below_and (w0 := wc) (by ((repeat (first | with_reducible exact Hw15.out | with_reducible exact Hw14.out | with_reducible exact Below.refl _ _ | with_reducible refine Below.drew ?_ | with_reducible refine Below.alloc ?_ ?_ _ | with_reducible refine Below.setCell ?_ ?_ _)) <;> (first | with_reducible exact Nat.le_refl _ | with_reducible exact Hw15.out.size | with_reducible exact Hw14.out.size | (have hsz := Hw15.out.size; simp [World.setCell]; omega) | (have hsz := Hw14.out.size; simp [World.setCell]; omega) | (simp; done) | (simp; omega) | omega))) hbel)
       clear hbel))
   all_goals
    have HbW := Lib.hid (HbW11.out.trans ((below_and Hbc.out Hw16.out).mono HbW11.out.size))
    clear hld
    go_wp2_with fail
    go_ret
    exact ⟨rfl, HbW.out⟩
 by_cases h6 : F1 = 6
 . subst h6
   obtain ⟨hm1, hk2, hsx⟩ := hls.2.1 rfl
   have hu3 : u3 = 1 := hm1
   have hI2 : I2 = 0 := by have := HI2.out; omega
   subst hu3; subst hI2
   generalize sizeN X = Z1 at HSzX hszx hsx
   generalize sizeN n = Z2 at HSzN hszn hsx
   have hwz : IntKind.i64.wrap ((Z2 : Int) + 1) = (Z2 : Int) + 1 := IntWalk.i64_in _ (by omega)
   have hze : ((Z1 : Int) == (Z2 : Int) + 1) = true := by simp; omega
   have HSc := Lib.hid (fun (w' : World) (hb : Below w11.heap.size w11 w') => (show w'.cell? ⟨w8.heap.size, 0, none⟩ = some (.bool mx) /\ w'.cell? ⟨w8.heap.size, 1, none⟩ = some (.slice h1' u1 v1) /\ w'.cell? ⟨w8.heap.size, 2, none⟩ = some (.slice h2' u2 v2) /\ w'.cell? ⟨w8.heap.size, 3, none⟩ = some (.slice h3' 1 v3) /\ w'.cell? ⟨w6.heap.size, 0, none⟩ = some (.bool x0) /\ w'.cell? ⟨w6.heap.size, 1, none⟩ = some (.slice x1 e1 g1) /\ w'.cell? ⟨w6.heap.size, 2, none⟩ = some (.slice x2 e2 g2) /\ w'.cell? ⟨w6.heap.size, 3, none⟩ = some (.slice x3 e3 g3) /\ w'.cell? ⟨W.heap.size + 1, 0, none⟩ = some (.bool false) /\ w'.cell? ⟨W.heap.size + 1, 1, none⟩ = some (.slice b1 m1 d1) /\ w'.cell? ⟨W.heap.size + 1, 2, none⟩ = some (.slice b2 m2 d2) /\ w'.cell? ⟨W.heap.size + 1, 3, none⟩ = some (.slice b3 m3 d3) from ⟨(HM11.out.kept hb).cell 0 rfl, (HM11.out.kept hb).cell 1 rfl, (HM11.out.kept hb).cell 2 rfl, (HM11.out.kept hb).cell 3 rfl, (HA11.out.kept hb).cell 0 rfl, (HA11.out.kept hb).cell 1 rfl, (HA11.out.kept hb).cell 2 rfl, (HA11.out.kept hb).cell 3 rfl, (HN11.out.kept hb).cell 0 rfl, (HN11.out.kept hb).cell 1 rfl, (HN11.out.kept hb).cell 2 rfl, (HN11.out.kept hb).cell 3 rfl⟩))
   clear hls hm1 hk2
   go_upto_region 20 with fail
   clear t0 tl
   go_region_held3 (fun w' => w'.cell? ⟨w8.heap.size, 0, none⟩ = some (.bool mx) /\ w'.cell? ⟨w8.heap.size, 1, none⟩ = some (.slice h1' u1 v1) /\ w'.cell? ⟨w8.heap.size, 2, none⟩ = some (.slice h2' u2 v2) /\ w'.cell? ⟨w8.heap.size, 3, none⟩ = some (.slice h3' 1 v3) /\ w'.cell? ⟨w6.heap.size, 0, none⟩ = some (.bool x0) /\ w'.cell? ⟨w6.heap.size, 1, none⟩ = some (.slice x1 e1 g1) /\ w'.cell? ⟨w6.heap.size, 2, none⟩ = some (.slice x2 e2 g2) /\ w'.cell? ⟨w6.heap.size, 3, none⟩ = some (.slice x3 e3 g3) /\ w'.cell? ⟨W.heap.size + 1, 0, none⟩ = some (.bool false) /\ w'.cell? ⟨W.heap.size + 1, 1, none⟩ = some (.slice b1 m1 d1) /\ w'.cell? ⟨W.heap.size + 1, 2, none⟩ = some (.slice b2 m2 d2) /\ w'.cell? ⟨W.heap.size + 1, 3, none⟩ = some (.slice b3 m3 d3)) (refine HSc.out _ (by ((repeat (first | with_reducible exact Hw13.out | with_reducible exact Hw12.out | with_reducible exact Below.refl _ _ | with_reducible refine Below.drew ?_ | with_reducible refine Below.alloc ?_ ?_ _ | with_reducible refine Below.setCell ?_ ?_ _)) <;> (first | with_reducible exact Nat.le_refl _ | with_reducible exact Hw13.out.size | with_reducible exact Hw12.out.size | (have hsz := Hw13.out.size; simp [World.setCell]; omega) | (have hsz := Hw12.out.size; simp [World.setCell]; omega) | (simp; done) | (simp; omega) | omega))))
    (first
    | (refine step_callG ?_ 19 _ _ rfl lsize_ent [.agg #[.bool x0, .slice x1 e1 g1, .slice x2 e2 g2, .slice x3 e3 g3]] ?_ _ (HSzX.out _ (by ((repeat (first | with_reducible exact Below.refl _ _ | with_reducible refine Below.drew ?_ | with_reducible refine Below.alloc ?_ ?_ _ | with_reducible refine Below.setCell ?_ ?_ _)) <;> (first | with_reducible exact Nat.le_refl _ | (simp; done) | (simp; omega) | omega)))) ?_
       . go_simp
       . go_simp
       rintro e w12 ⟨rfl, hbel⟩
       refine ⟨_, rfl, ?_⟩
       have Hw12 := Lib.hid (below_and (w0 := w11) (by ((repeat (first | with_reducible exact Below.refl _ _ | with_reducible refine Below.drew ?_ | with_reducible refine Below.alloc ?_ ?_ _ | with_reducible refine Below.setCell ?_ ?_ _)) <;> (first | with_reducible exact Nat.le_refl _ | (simp; done) | (simp; omega) | omega))) hbel)
       clear hbel)
    | (refine step_callG ?_ 19 _ _ rfl lsize_ent [.agg #[.bool false, .slice b1 m1 d1, .slice b2 m2 d2, .slice b3 m3 d3]] ?_ _ (HSzN.out _ (by ((repeat (first | with_reducible exact Hw12.out | with_reducible exact Below.refl _ _ | with_reducible refine Below.drew ?_ | with_reducible refine Below.alloc ?_ ?_ _ | with_reducible refine Below.setCell ?_ ?_ _)) <;> (first | with_reducible exact Nat.le_refl _ | with_reducible exact Hw12.out.size | (have hsz := Hw12.out.size; simp [World.setCell]; omega) | (simp; done) | (simp; omega) | omega)))) ?_
       . go_simp
       . go_simp
       rintro e w13 ⟨rfl, hbel⟩
       refine ⟨_, rfl, ?_⟩
       have Hw13 := Lib.hid (below_and (w0 := w11) (by ((repeat (first | with_reducible exact Hw12.out | with_reducible exact Below.refl _ _ | with_reducible refine Below.drew ?_ | with_reducible refine Below.alloc ?_ ?_ _ | with_reducible refine Below.setCell ?_ ?_ _)) <;> (first | with_reducible exact Nat.le_refl _ | with_reducible exact Hw12.out.size | (have hsz := Hw12.out.size; simp [World.setCell]; omega) | (simp; done) | (simp; omega) | omega))) hbel)
       clear hbel))
   all_goals
    have HbW := Lib.hid (HbW11.out.trans (Hw13.out.mono HbW11.out.size))
    go_wp2_with fail
    go_ret
    exact ⟨rfl, HbW.out⟩
 ·
   have hsx := hls.2.2 h3 h6
   have hb3 : (F1 == 3) = false := by simpa using h3
   have hb6 : (F1 == 6) = false := by simpa using h6
   generalize sizeN X = Z1 at HSzX hszx hsx
   generalize sizeN n = Z2 at HSzN hszn hsx
   have hzl : decide ((Z1 : Int) < (Z2 : Int)) = true := by simp; omega
   have HSc := Lib.hid (fun (w' : World) (hb : Below w11.heap.size w11 w') => (show w'.cell? ⟨w6.heap.size, 0, none⟩ = some (.bool x0) /\ w'.cell? ⟨w6.heap.size, 1, none⟩ = some (.slice x1 e1 g1) /\ w'.cell? ⟨w6.heap.size, 2, none⟩ = some (.slice x2 e2 g2) /\ w'.cell? ⟨w6.heap.size, 3, none⟩ = some (.slice x3 e3 g3) /\ w'.cell? ⟨W.heap.size + 1, 0, none⟩ = some (.bool false) /\ w'.cell? ⟨W.heap.size + 1, 1, none⟩ = some (.slice b1 m1 d1) /\ w'.cell? ⟨W.heap.size + 1, 2, none⟩ = some (.slice b2 m2 d2) /\ w'.cell? ⟨W.heap.size + 1, 3, none⟩ = some (.slice b3 m3 d3) from ⟨(HA11.out.kept hb).cell 0 rfl, (HA11.out.kept hb).cell 1 rfl, (HA11.out.kept hb).cell 2 rfl, (HA11.out.kept hb).cell 3 rfl, (HN11.out.kept hb).cell 0 rfl, (HN11.out.kept hb).cell 1 rfl, (HN11.out.kept hb).cell 2 rfl, (HN11.out.kept hb).cell 3 rfl⟩))
   clear hls h3 h6
   go_upto_region 21 with fail
   clear t0 tl
   go_region_held3 (fun w' => w'.cell? ⟨w6.heap.size, 0, none⟩ = some (.bool x0) /\ w'.cell? ⟨w6.heap.size, 1, none⟩ = some (.slice x1 e1 g1) /\ w'.cell? ⟨w6.heap.size, 2, none⟩ = some (.slice x2 e2 g2) /\ w'.cell? ⟨w6.heap.size, 3, none⟩ = some (.slice x3 e3 g3) /\ w'.cell? ⟨W.heap.size + 1, 0, none⟩ = some (.bool false) /\ w'.cell? ⟨W.heap.size + 1, 1, none⟩ = some (.slice b1 m1 d1) /\ w'.cell? ⟨W.heap.size + 1, 2, none⟩ = some (.slice b2 m2 d2) /\ w'.cell? ⟨W.heap.size + 1, 3, none⟩ = some (.slice b3 m3 d3)) (refine HSc.out _ (by ((repeat (first | with_reducible exact Hw13.out | with_reducible exact Hw12.out | with_reducible exact Below.refl _ _ | with_reducible refine Below.drew ?_ | with_reducible refine Below.alloc ?_ ?_ _ | with_reducible refine Below.setCell ?_ ?_ _)) <;> (first | with_reducible exact Nat.le_refl _ | with_reducible exact Hw13.out.size | with_reducible exact Hw12.out.size | (have hsz := Hw13.out.size; simp [World.setCell]; omega) | (have hsz := Hw12.out.size; simp [World.setCell]; omega) | (simp; done) | (simp; omega) | omega))))
    (first
    | (refine step_call rfl 19 _ _ rfl lsize_ent [.agg #[.bool x0, .slice x1 e1 g1, .slice x2 e2 g2, .slice x3 e3 g3]] ?_ _ (HSzX.out _ (by ((repeat (first | with_reducible exact Below.refl _ _ | with_reducible refine Below.drew ?_ | with_reducible refine Below.alloc ?_ ?_ _ | with_reducible refine Below.setCell ?_ ?_ _)) <;> (first | with_reducible exact Nat.le_refl _ | (simp; done) | (simp; omega) | omega)))) ?_
       . go_simp
       rintro e w12 ⟨rfl, hbel⟩
       refine ⟨_, rfl, ?_⟩
       have Hw12 := Lib.hid (below_and (w0 := w11) (by ((repeat (first | with_reducible exact Below.refl _ _ | with_reducible refine Below.drew ?_ | with_reducible refine Below.alloc ?_ ?_ _ | with_reducible refine Below.setCell ?_ ?_ _)) <;> (first | with_reducible exact Nat.le_refl _ | (simp; done) | (simp; omega) | omega))) hbel)
       clear hbel)
    | (refine step_call rfl 19 _ _ rfl lsize_ent [.agg #[.bool false, .slice b1 m1 d1, .slice b2 m2 d2, .slice b3 m3 d3]] ?_ _ (HSzN.out _ (by ((repeat (first | with_reducible exact Hw12.out | with_reducible exact Below.refl _ _ | with_reducible refine Below.drew ?_ | with_reducible refine Below.alloc ?_ ?_ _ | with_reducible refine Below.setCell ?_ ?_ _)) <;> (first | with_reducible exact Nat.le_refl _ | with_reducible exact Hw12.out.size | (have hsz := Hw12.out.size; simp [World.setCell]; omega) | (simp; done) | (simp; omega) | omega)))) ?_
       . go_simp
       rintro e w13 ⟨rfl, hbel⟩
       refine ⟨_, rfl, ?_⟩
       have Hw13 := Lib.hid (below_and (w0 := w11) (by ((repeat (first | with_reducible exact Hw12.out | with_reducible exact Below.refl _ _ | with_reducible refine Below.drew ?_ | with_reducible refine Below.alloc ?_ ?_ _ | with_reducible refine Below.setCell ?_ ?_ _)) <;> (first | with_reducible exact Nat.le_refl _ | with_reducible exact Hw12.out.size | (have hsz := Hw12.out.size; simp [World.setCell]; omega) | (simp; done) | (simp; omega) | omega))) hbel)
       clear hbel))
   all_goals
    have HbW := Lib.hid (HbW11.out.trans (Hw13.out.mono HbW11.out.size))
    go_wp2_with fail
    go_ret
    exact ⟨rfl, HbW.out⟩
end Go.Proofs.YtbommcakcmhalaaGreatDoor
/- The frame of the Upto laws whose rows list no table: how paths and schemas that came in are read. -/
namespace Go.Proofs.YtbommcakcmhalaaGreatDoor
open Go.ChangeShapes Go.WideShapes Go.ChangeAt Go.WideMaps Go.WideElems Go.RowKit Go.Redl Go.Deep
theorem own : ownKnob Tryz.prog.godebug = none := by kernel_rfl
theorem laidOut : laidOutB Tryz.prog = true := by kernel_rfl
def IntΦ {H : Type} (z : Int) (cs : List Value) (d : DataW H) : Prop := cs = [.int .i64 z] /\ 1 <= Rows.uptoBulk d
theorem elems_path {H : Type} : ∀ {l : List Int} {css : List Value} {ds : List (DataW H)}, Elems IntΦ l css ds -> css = l.map (Value.int .i64) /\ l.length <= Rows.uptoBulkAll ds
 | [], css, ds, h => by obtain ⟨rfl, rfl⟩ := h; exact ⟨rfl, by simp⟩
 | z :: l, css, ds, h => by
   obtain ⟨c, cs, d, ds', rfl, rfl, ⟨rfl, hb⟩, hr⟩ := h
   obtain ⟨rfl, h3⟩ := elems_path hr
   exact ⟨rfl, by simp only [List.length_cons, Rows.uptoBulkAll]; omega⟩
theorem path_of_trod {H : Type} {enc : TypeId × Value -> H} {W : World} {fuel : Nat} {cs : List Value} {x : DataW H × List MemPlace} (h : DataW.trod enc Tryz.prog W 0 (fun _ => true) true fuel 36 cs = some x) :
 ∃ a cap zs, cs = [.slice a (List.length zs) cap] /\ RowA W W.heap.size 1 a (List.length zs) cap (zs.map (Value.int .i64)) /\ zs.length + 1 <= Rows.uptoBulk x.1 := by
 obtain ⟨a, cap, ys, css, ds, rfl, hr, hel, hs⟩ := row_of_trod IntΦ Tryz.underlying36 (show Tryz.prog.cellsOf 3 = 1 by kernel_rfl) (by decide)
  (fun m cs x _ hx => by
    obtain ⟨xv, xp⟩ := x
    obtain ⟨z, e0, e1, -⟩ := DataW.trod_int Tryz.underlying3 hx
    have e2 := (Prod.mk.inj e1).1
    subst e2
    exact ⟨z, e0, by simp [Rows.uptoBulk]⟩) (fun y c d hh => by obtain ⟨rfl, -⟩ := hh; intro u hu; simp at hu; subst hu; rfl) h
 obtain ⟨rfl, hlen⟩ := elems_path hel
 have m0 := slice_bulk (n := 0) (hs.imp (fun h => ⟨h.1, rfl, h.2.2⟩) id)
 exact ⟨a, cap, ys, rfl, hr, by omega⟩
end Go.Proofs.YtbommcakcmhalaaGreatDoor
