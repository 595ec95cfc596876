/- Parts of the proof, one behind the other: RSortM, RMB, RMC, RMD, RME, RMF, RMV, RMW, RMP, RMM. -/
import Derived.Ground.SlgmProg
import Derived.Shelf.SortM.Plain
import Derived.Shelf.SortM.SortNone
import Derived.Test.YtbommcakcmhalaaGreatDoorProg
import Derived.Test.YtbommcakcmhalaaGreatDoorLM7
import Derived.Test.YtbommcakcmhalaaGreatDoorLM23
import Derived.Test.YtbommcakcmhalaaGreatDoorLM5
import Derived.Test.YtbommcakcmhalaaGreatDoorLM4
import Derived.Test.YtbommcakcmhalaaGreatDoorLM12
import Derived.RangeFuncBox
import Derived.RangeFuncNested
import Derived.RangeFuncBound
import Derived.RangeFuncCalls
import Derived.RangeFuncLeaves
import Derived.Shelf.Abstract
import Derived.Shelf.RegionOpen
import Derived.WalkKit
import Derived.OwnWalkIn
import Derived.TacticsInMore
import Derived.LoopNIn
import Derived.LoopIn
import Derived.Maps.AppendAt
import Derived.Sort.OwnSorted
import Derived.Sort.OwnSortedInts
import Derived.StringKeys
import Derived.Maps.Own
import Derived.Maps.OwnSet
import Derived.Maps.Views
import Derived.Sort.KeysCollected
import Derived.Test.YtbommcakcmhalaaGreatDoorLM1
/- slices.Sort at []int and []string: its bodies at this program, laid by the kit, in plain words. -/
set_option linter.unusedVariables false
set_option linter.unusedSimpArgs false
set_option maxHeartbeats 2000000
set_option maxRecDepth 100000
namespace Go.Proofs
open Go.Shelf
def Tryz.sortI_ren : Go.Shelf.Ren := ⟨fun | 5 => 95 | 8 => 166 | 7 => 165 | 19 => 217 | 20 => 218 | 10 => 208 | 11 => 209 | 12 => 210 | 13 => 211 | 14 => 212 | 15 => 213 | 16 => 214 | 17 => 215 | 18 => 216 | 30 => 251 | 31 => 252 | 32 => 253 | 33 => 254 | 34 => 255 | 35 => 256 | 40 => 276 | n => n, fun | 23 => 36 | 25 => 3 | 3 => 3 | 32 => 198 | 22 => 36 | 0 => 0 | 44 => 245 | 46 => 247 | 4 => 4 | 36 => 237 | 35 => 236 | 41 => 242 | 5 => 5 | 9 => 9 | 53 => 281 | 57 => 278 | 63 => 301 | 64 => 116 | n => n, fun | n => n⟩
theorem Tryz.sortI : Go.Proofs.SlLaysM.n5 Tryz.prog Tryz.sortI_ren := {
 mixed := by kernel_rfl
 f5 := ⟨Tryz.f95.name, by decide, Tryz.func95.trans (congrArg some (by kernel_rfl))⟩
 f7 := ⟨Tryz.f165.name, by decide, Tryz.func165.trans (congrArg some (by kernel_rfl))⟩
 f8 := Tryz.func166.trans (congrArg some (by kernel_rfl))
 f10 := ⟨Tryz.f208.name, by decide, Tryz.func208.trans (congrArg some (by kernel_rfl))⟩
 f11 := ⟨Tryz.f209.name, by decide, Tryz.func209.trans (congrArg some (by kernel_rfl))⟩
 f12 := ⟨Tryz.f210.name, by decide, Tryz.func210.trans (congrArg some (by kernel_rfl))⟩
 f13 := ⟨Tryz.f211.name, by decide, Tryz.func211.trans (congrArg some (by kernel_rfl))⟩
 f14 := ⟨Tryz.f212.name, by decide, Tryz.func212.trans (congrArg some (by kernel_rfl))⟩
 f15 := ⟨Tryz.f213.name, by decide, Tryz.func213.trans (congrArg some (by kernel_rfl))⟩
 f16 := ⟨Tryz.f214.name, by decide, Tryz.func214.trans (congrArg some (by kernel_rfl))⟩
 f17 := ⟨Tryz.f215.name, by decide, Tryz.func215.trans (congrArg some (by kernel_rfl))⟩
 f18 := ⟨Tryz.f216.name, by decide, Tryz.func216.trans (congrArg some (by kernel_rfl))⟩
 f19 := Tryz.func217.trans (congrArg some (by kernel_rfl))
 f20 := Tryz.func218.trans (congrArg some (by kernel_rfl))
 f30 := ⟨Tryz.f251.name, by decide, Tryz.func251.trans (congrArg some (by kernel_rfl))⟩
 f31 := Tryz.func252.trans (congrArg some (by kernel_rfl))
 f32 := Tryz.func253.trans (congrArg some (by kernel_rfl))
 f33 := ⟨Tryz.f254.name, by decide, Tryz.func254.trans (congrArg some (by kernel_rfl))⟩
 f34 := ⟨Tryz.f255.name, by decide, Tryz.func255.trans (congrArg some (by kernel_rfl))⟩
 f35 := ⟨Tryz.f256.name, by decide, Tryz.func256.trans (congrArg some (by kernel_rfl))⟩
 f40 := ⟨Tryz.f276.name, by decide, Tryz.func276.trans (congrArg some (by kernel_rfl))⟩
 t0 := Tryz.underlying0
 a0 := Tryz.isAgg0
 z0 := Tryz.sizeOf0
 v0 := Tryz.zeroValue0
 t3 := Tryz.underlying3
 a3 := Tryz.isAgg3
 z3 := Tryz.sizeOf3
 v3 := Tryz.zeroValue3
 t4 := Tryz.underlying4
 a4 := Tryz.isAgg4
 z4 := Tryz.sizeOf4
 v4 := Tryz.zeroValue4
 t5 := Tryz.underlying5
 a5 := Tryz.isAgg5
 z5 := Tryz.sizeOf5
 v5 := Tryz.zeroValue5
 t9 := Tryz.underlying9
 a9 := Tryz.isAgg9
 z9 := Tryz.sizeOf9
 v9 := Tryz.zeroValue9
 t22 := Tryz.underlying36
 a22 := Tryz.isAgg36
 z22 := Tryz.sizeOf36
 v22 := Tryz.zeroValue36
 t23 := Tryz.underlying36
 a23 := Tryz.isAgg36
 z23 := Tryz.sizeOf36
 v23 := Tryz.zeroValue36
 t25 := Tryz.underlying3
 a25 := Tryz.isAgg3
 z25 := Tryz.sizeOf3
 v25 := Tryz.zeroValue3
 t32 := Tryz.underlying198
 a32 := Tryz.isAgg198
 z32 := Tryz.sizeOf198
 v32 := Tryz.zeroValue198
 t35 := Tryz.underlying236
 a35 := Tryz.isAgg236
 z35 := Tryz.sizeOf236
 v35 := Tryz.zeroValue236
 t36 := Tryz.underlying237
 a36 := Tryz.isAgg237
 z36 := Tryz.sizeOf237
 v36 := Tryz.zeroValue237
 t41 := Tryz.underlying242
 a41 := Tryz.isAgg242
 z41 := Tryz.sizeOf242
 v41 := Tryz.zeroValue242
 t44 := Tryz.underlying245
 a44 := Tryz.isAgg245
 z44 := Tryz.sizeOf245
 v44 := Tryz.zeroValue245
 t46 := Tryz.underlying247
 a46 := Tryz.isAgg247
 z46 := Tryz.sizeOf247
 v46 := Tryz.zeroValue247
 t53 := Tryz.underlying281
 a53 := Tryz.isAgg281
 z53 := Tryz.sizeOf281
 v53 := Tryz.zeroValue281
 t57 := Tryz.underlying278
 a57 := Tryz.isAgg278
 z57 := Tryz.sizeOf278
 v57 := Tryz.zeroValue278
 t63 := Tryz.underlying301
 a63 := Tryz.isAgg301
 z63 := Tryz.sizeOf301
 v63 := Tryz.zeroValue301
 t64 := Tryz.underlying116
 a64 := Tryz.isAgg116
 z64 := Tryz.sizeOf116
 v64 := Tryz.zeroValue116 }
def Tryz.sortS_ren : Go.Shelf.Ren := ⟨fun | 6 => 103 | 8 => 166 | 9 => 168 | 19 => 217 | 20 => 218 | 21 => 226 | 22 => 227 | 23 => 228 | 24 => 229 | 25 => 230 | 26 => 231 | 27 => 232 | 28 => 233 | 29 => 234 | 36 => 261 | 31 => 252 | 32 => 253 | 37 => 262 | 38 => 263 | 39 => 264 | 41 => 280 | n => n, fun | 27 => 87 | 29 => 9 | 3 => 3 | 32 => 198 | 26 => 87 | 0 => 0 | 44 => 245 | 46 => 247 | 4 => 4 | 36 => 237 | 35 => 236 | 41 => 242 | 5 => 5 | 9 => 9 | 53 => 281 | 57 => 278 | 63 => 301 | 64 => 116 | n => n, fun | n => n⟩
theorem Tryz.sortS : Go.Proofs.SlLaysM.n6 Tryz.prog Tryz.sortS_ren := {
 mixed := by kernel_rfl
 f6 := ⟨Tryz.f103.name, by decide, Tryz.func103.trans (congrArg some (by kernel_rfl))⟩
 f8 := Tryz.func166.trans (congrArg some (by kernel_rfl))
 f9 := ⟨Tryz.f168.name, by decide, Tryz.func168.trans (congrArg some (by kernel_rfl))⟩
 f19 := Tryz.func217.trans (congrArg some (by kernel_rfl))
 f20 := Tryz.func218.trans (congrArg some (by kernel_rfl))
 f21 := ⟨Tryz.f226.name, by decide, Tryz.func226.trans (congrArg some (by kernel_rfl))⟩
 f22 := ⟨Tryz.f227.name, by decide, Tryz.func227.trans (congrArg some (by kernel_rfl))⟩
 f23 := ⟨Tryz.f228.name, by decide, Tryz.func228.trans (congrArg some (by kernel_rfl))⟩
 f24 := ⟨Tryz.f229.name, by decide, Tryz.func229.trans (congrArg some (by kernel_rfl))⟩
 f25 := ⟨Tryz.f230.name, by decide, Tryz.func230.trans (congrArg some (by kernel_rfl))⟩
 f26 := ⟨Tryz.f231.name, by decide, Tryz.func231.trans (congrArg some (by kernel_rfl))⟩
 f27 := ⟨Tryz.f232.name, by decide, Tryz.func232.trans (congrArg some (by kernel_rfl))⟩
 f28 := ⟨Tryz.f233.name, by decide, Tryz.func233.trans (congrArg some (by kernel_rfl))⟩
 f29 := ⟨Tryz.f234.name, by decide, Tryz.func234.trans (congrArg some (by kernel_rfl))⟩
 f31 := Tryz.func252.trans (congrArg some (by kernel_rfl))
 f32 := Tryz.func253.trans (congrArg some (by kernel_rfl))
 f36 := ⟨Tryz.f261.name, by decide, Tryz.func261.trans (congrArg some (by kernel_rfl))⟩
 f37 := ⟨Tryz.f262.name, by decide, Tryz.func262.trans (congrArg some (by kernel_rfl))⟩
 f38 := ⟨Tryz.f263.name, by decide, Tryz.func263.trans (congrArg some (by kernel_rfl))⟩
 f39 := ⟨Tryz.f264.name, by decide, Tryz.func264.trans (congrArg some (by kernel_rfl))⟩
 f41 := ⟨Tryz.f280.name, by decide, Tryz.func280.trans (congrArg some (by kernel_rfl))⟩
 t0 := Tryz.underlying0
 a0 := Tryz.isAgg0
 z0 := Tryz.sizeOf0
 v0 := Tryz.zeroValue0
 t3 := Tryz.underlying3
 a3 := Tryz.isAgg3
 z3 := Tryz.sizeOf3
 v3 := Tryz.zeroValue3
 t4 := Tryz.underlying4
 a4 := Tryz.isAgg4
 z4 := Tryz.sizeOf4
 v4 := Tryz.zeroValue4
 t5 := Tryz.underlying5
 a5 := Tryz.isAgg5
 z5 := Tryz.sizeOf5
 v5 := Tryz.zeroValue5
 t9 := Tryz.underlying9
 a9 := Tryz.isAgg9
 z9 := Tryz.sizeOf9
 v9 := Tryz.zeroValue9
 t26 := Tryz.underlying87
 a26 := Tryz.isAgg87
 z26 := Tryz.sizeOf87
 v26 := Tryz.zeroValue87
 t27 := Tryz.underlying87
 a27 := Tryz.isAgg87
 z27 := Tryz.sizeOf87
 v27 := Tryz.zeroValue87
 t29 := Tryz.underlying9
 a29 := Tryz.isAgg9
 z29 := Tryz.sizeOf9
 v29 := Tryz.zeroValue9
 t32 := Tryz.underlying198
 a32 := Tryz.isAgg198
 z32 := Tryz.sizeOf198
 v32 := Tryz.zeroValue198
 t35 := Tryz.underlying236
 a35 := Tryz.isAgg236
 z35 := Tryz.sizeOf236
 v35 := Tryz.zeroValue236
 t36 := Tryz.underlying237
 a36 := Tryz.isAgg237
 z36 := Tryz.sizeOf237
 v36 := Tryz.zeroValue237
 t41 := Tryz.underlying242
 a41 := Tryz.isAgg242
 z41 := Tryz.sizeOf242
 v41 := Tryz.zeroValue242
 t44 := Tryz.underlying245
 a44 := Tryz.isAgg245
 z44 := Tryz.sizeOf245
 v44 := Tryz.zeroValue245
 t46 := Tryz.underlying247
 a46 := Tryz.isAgg247
 z46 := Tryz.sizeOf247
 v46 := Tryz.zeroValue247
 t53 := Tryz.underlying281
 a53 := Tryz.isAgg281
 z53 := Tryz.sizeOf281
 v53 := Tryz.zeroValue281
 t57 := Tryz.underlying278
 a57 := Tryz.isAgg278
 z57 := Tryz.sizeOf278
 v57 := Tryz.zeroValue278
 t63 := Tryz.underlying301
 a63 := Tryz.isAgg301
 z63 := Tryz.sizeOf301
 v63 := Tryz.zeroValue301
 t64 := Tryz.underlying116
 a64 := Tryz.isAgg116
 z64 := Tryz.sizeOf116
 v64 := Tryz.zeroValue116 }
end Go.Proofs
/- Walks: table's name, acts. -/
namespace Go.Proofs.YtbommcakcmhalaaGreatDoor
open Go.RowKit Go.Redl
theorem name_c (s : List UInt8) (w : World) (hn : s.length <= 1000000000) :
 Calls Tryz.prog 97 #[.string ⟨s.toArray⟩] w fun e w' => e = .returned (.bool (nameB s)) /\ Below w.heap.size w w' := by
 have Hk : Hid (nameB s = (decide (s ≠ []) && (decide (s.length <= 32) && s.all valcB))) := rfl
 obtain ⟨hT, hF⟩ := trim_c s valSet valcB val_set (by decide) (by decide +kernel) w hn
 have HT := Lib.hid hT; have HF := Lib.hid hF
 clear hT hF
 cases s with
 | nil =>
   go_enter Tryz.func97, Tryz.ntmps97
   go_wp2_with fail
   go_ret
   exact ⟨ret_bool (by rw [Hk.out]; rfl), Below.refl _ _⟩
 | cons c r =>
   have hsz : (⟨(c :: r).toArray⟩ : ByteArray).size = r.length + 1 := rfl
   have hne : ((⟨(c :: r).toArray⟩ : ByteArray).toList.isEmpty) = false := by rw [ByteArray.toList_mk]; rfl
   have hne2 : (!(⟨(c :: r).toArray⟩ : ByteArray).toList.isEmpty) = true := by rw [ByteArray.toList_mk]; rfl
   obtain ⟨S, hS⟩ : ∃ S, S = (⟨(c :: r).toArray⟩ : ByteArray) := ⟨_, rfl⟩
   rw [<- hS] at hsz hne hne2 HT HF ⊢
   by_cases h32 : 32 < r.length + 1
   . have Hz : Hid (nameB (c :: r) = false) := by
      show nameB _ = false
      rw [Hk.out, decide_eq_false (show ¬ (c :: r).length <= 32 by simp only [List.length_cons]; omega)]; simp
     clear hS HT HF
     go_enter Tryz.func97, Tryz.ntmps97
     go_wp2_with fail
     go_ret
     exact ⟨ret_bool Hz.out.symm, Below.refl _ _⟩
   . have Hk2 : Hid (nameB (c :: r) = (c :: r).all valcB) := by
      show nameB _ = _
      rw [Hk.out, decide_eq_true (show (c :: r).length <= 32 by simp only [List.length_cons]; omega)]; simp
     cases hall : (c :: r).all valcB with
     | true =>
       have HC := Lib.hid (HT.out hall)
       rw [hall] at Hk2
       clear hS HT HF hall
       go_enter Tryz.func97, Tryz.ntmps97
       go_wp2_with fail
       refine HC.out.mono ?_
       rintro e w1 ⟨rfl, hb⟩
       have Hb := Lib.hid hb
       clear hb
       go_wp2_with fail
       go_ret
       exact ⟨ret_bool Hk2.out.symm, Hb.out⟩
     | false =>
       obtain ⟨y, ys, hC⟩ := HF.out hall
       have HC := Lib.hid hC
       rw [hall] at Hk2
       have hn2 : ((⟨(y :: ys).toArray⟩ : ByteArray).toList.isEmpty) = false := by rw [ByteArray.toList_mk]; rfl
       clear hS HT HF hall hC
       go_enter Tryz.func97, Tryz.ntmps97
       go_wp2_with fail
       refine HC.out.mono ?_
       rintro e w1 ⟨rfl, hb⟩
       have Hb := Lib.hid hb
       clear hb
       go_wp2_with fail
       go_ret
       exact ⟨ret_bool Hk2.out.symm, Hb.out⟩
theorem acts_c (x : Int) (t : List UInt8) (lift : Bool) (w : World) (hn : t.length <= 1000000000) :
 Calls Tryz.prog 100 #[.agg #[.int .i64 x, strV t], .bool lift] w fun e w' => e = .returned (.bool (actB lift (x, t))) /\ Below w.heap.size w w' := by
 obtain ⟨R, hR⟩ : ∃ R, R = actB lift (x, t) := ⟨_, rfl⟩
 have Hr := Lib.hid (show R = if x = 4 then nameB t else if x = 3 then lift && decide (t = []) else if x = 1 ∨ x = 2 then decide (t = []) else false from hR)
 rw [<- hR]
 obtain ⟨w0, hw0⟩ : ∃ w0, w0 = w.alloc (Obj.cells #[.int .i64 x, strV t] 24) := ⟨_, rfl⟩
 have hb0 : Below w.heap.size w w0 := by rw [hw0]; exact one_below _ _
 have hA : At w0 w.heap.size [.int .i64 x, strV t] 24 := by rw [hw0]; exact At.fresh w _ _
 obtain ⟨⟨x0, x1⟩, -, xl⟩ := hA.f2
 have HN := Lib.hid (name_c t w0 hn)
 have heq := str_eqb t []
 have Hb0 := Lib.hid hb0; have Hw0 := Lib.hid hw0
 clear hR hb0 hw0 hA
 by_cases h4 : x = 4
 . subst h4
   have Hr2 := Lib.hid (show R = nameB t from Hr.out)
   go_enter Tryz.func100, Tryz.ntmps100
   go_upto_region 1 with fail
   rw [<- Hw0.out]
   clear Hw0
   go_wp2_with fail
   refine HN.out.mono ?_
   rintro e w1 ⟨rfl, hbel⟩
   have Hb1 := Lib.hid (Hb0.out.trans (hbel.mono Hb0.out.size))
   clear hbel HN x0 x1 xl
   go_wp2_with fail
   go_ret
   exact ⟨ret_bool Hr2.out.symm, Hb1.out⟩
 . have h4b : (x == 4) = false := beq_eq_false_iff_ne.2 h4
   by_cases h3 : x = 3
   . subst h3
     cases lift with
     | false =>
       have Hr2 := Lib.hid (show R = false from Hr.out)
       go_enter Tryz.func100, Tryz.ntmps100
       go_upto_region 1 with fail
       rw [<- Hw0.out]
       clear Hw0
       go_wp2_with fail
       go_ret
       exact ⟨ret_bool Hr2.out.symm, Hb0.out⟩
     | true =>
       have Hr2 := Lib.hid (show R = decide (t = []) from by rw [Hr.out]; simp)
       go_enter Tryz.func100, Tryz.ntmps100
       go_upto_region 1 with fail
       rw [<- Hw0.out]
       clear Hw0
       go_wp2_with fail
       go_ret
       exact ⟨ret_bool (by rw [Hr2.out]; cases t <;> simp), Hb0.out⟩
   . have h3b : (x == 3) = false := beq_eq_false_iff_ne.2 h3
     by_cases h12 : x = 1 ∨ x = 2
     . have Hr2 := Lib.hid (show R = decide (t = []) from by rw [Hr.out, if_neg h4, if_neg h3, if_pos h12])
       rcases h12 with rfl | rfl
       . go_enter Tryz.func100, Tryz.ntmps100
         go_upto_region 1 with fail
         rw [<- Hw0.out]
         clear Hw0
         go_wp2_with fail
         go_ret
         exact ⟨ret_bool (by rw [Hr2.out]; cases t <;> simp), Hb0.out⟩
       . go_enter Tryz.func100, Tryz.ntmps100
         go_upto_region 1 with fail
         rw [<- Hw0.out]
         clear Hw0
         go_wp2_with fail
         go_ret
         exact ⟨ret_bool (by rw [Hr2.out]; cases t <;> simp), Hb0.out⟩
     . have h1b : (x == 1) = false := beq_eq_false_iff_ne.2 fun h => h12 (.inl h)
       have h2b : (x == 2) = false := beq_eq_false_iff_ne.2 fun h => h12 (.inr h)
       have Hr2 := Lib.hid (show R = false from by rw [Hr.out, if_neg h4, if_neg h3, if_neg h12])
       go_enter Tryz.func100, Tryz.ntmps100
       go_upto_region 1 with fail
       rw [<- Hw0.out]
       clear Hw0
       go_wp2_with fail
       go_ret
       exact ⟨ret_bool Hr2.out.symm, Hb0.out⟩
end Go.Proofs.YtbommcakcmhalaaGreatDoor
/- Walk: table's rising. -/
namespace Go.Proofs.YtbommcakcmhalaaGreatDoor
open Go.RowKit Go.Redl
/-- A row of texts: the k-th. -/
theorem text_at {w : World} {B : Nat} {a : Option Addr} {n c : Nat} {l : List (List UInt8)} (h : RowA w B 1 a n c (l.map strV)) (k : Nat) (hk : k < l.length) :
 ∃ b off, a = some ⟨b, off, none⟩ /\ b < B /\ w.cell? ⟨b, off + k, none⟩ = some (strV l[k]) := by
 obtain ⟨b, off, ha, hb, hc⟩ := h.some_ (by intro e; simp at e; subst e; simp at hk)
 exact ⟨b, off, ha, hb, hc k _ (by simp [List.getElem?_eq_getElem hk])⟩
/-- The one ahead of the k-th. -/
def aheadL (l : List (List UInt8)) : Nat -> Option (List UInt8)
 | 0 => none
 | k + 1 => l[k]?
theorem rise_step {l : List (List UInt8)} {k : Nat} (hk : k < l.length) : riseGo (aheadL l k) (l.drop k) = (nameB l[k] && ((match aheadL l k with | none => true | some p => !leB l[k] p) && riseGo (aheadL l (k + 1)) (l.drop (k + 1)))) := by
 rw [List.drop_eq_getElem_cons hk, show aheadL l (k + 1) = some l[k] by show l[k]? = _; exact List.getElem?_eq_getElem hk]
 cases aheadL l k with
 | none => simp [riseGo]
 | some p => simp [riseGo]
theorem rising_c (l : List (List UInt8)) (a : Option Addr) (cap : Nat) (W : World) (hr : RowA W W.heap.size 1 a l.length cap (l.map strV)) (hn : l.length <= 100000000) (hb : ∀ t ∈ l, t.length <= 1000000000) :
 Calls Tryz.prog 43 #[.slice a l.length cap] W fun e w' => e = .returned (.bool (riseB l)) /\ Below W.heap.size W w' := by
 obtain ⟨R, hR⟩ : ∃ R, R = riseB l := ⟨_, rfl⟩
 have HR := Lib.hid (show (riseGo (aheadL l 0) (l.drop 0) && decide (l.length <= 32)) = R from hR.symm)
 rw [<- hR]
 have Hr := Lib.hid hr; have HB := Lib.hid hb
 clear hR hr hb
 go_enter Tryz.func43, Tryz.ntmps43
 go_wp2_with fail
 go_loopg [7] l.length (fun g i wr => ∃ k : Nat, i = .int .i64 k /\ k + g = l.length /\ Hid ((riseGo (aheadL l k) (l.drop k) && decide (l.length <= 32)) = R) /\ Below W.heap.size W wr)
 case atStart => exact ⟨0, rfl, by omega, HR, Below.refl _ _⟩
 case round =>
  obtain ⟨k, rfl, hg, hst, hbr⟩ := hrel
  have Hbr := Lib.hid hbr
  by_cases hlt : k < l.length
  . have hlti : (k : Int) < l.length := by omega
    have hrr := Hr.out.keep hbr hbr.size
    obtain ⟨b, off, rfl, hlb, hc⟩ := text_at hrr k hlt
    have HN := Lib.hid (name_c l[k] wr (HB.out _ (List.getElem_mem hlt)))
    have Hst := Lib.hid ((congrArg (· && decide (l.length <= 32)) (rise_step hlt)).symm.trans hst.out)
    cases k with
    | zero =>
      have Hst2 := Lib.hid (show (nameB l[0] && (true && riseGo (aheadL l 1) (l.drop 1)) && decide (l.length <= 32)) = R from Hst.out)
      rw [Nat.add_zero] at hc
      generalize l[0] = t at hc HN Hst2
      clear hrr hbr hst Hst
      cases hnm : nameB t with
      | false =>
        have Hz := Lib.hid (show false = R by have h := Hst2.out; rw [hnm] at h; exact h)
        rw [hnm] at HN
        clear hnm Hst2
        go_wp2_with fail
        refine HN.out.mono ?_
        rintro e w1 ⟨rfl, hbel⟩
        have Hb1 := Lib.hid (Hbr.out.trans (hbel.mono Hbr.out.size))
        clear hbel HN hc
        go_wp2_with fail
        go_ret
        exact ⟨ret_bool Hz.out, Hb1.out⟩
      | true =>
        have HN2 := Lib.hid (show (riseGo (aheadL l 1) (l.drop 1) && decide (l.length <= 32)) = R by have h := Hst2.out; rw [hnm] at h; simpa using h)
        rw [hnm] at HN
        clear hnm Hst2
        go_wp2_with fail
        refine HN.out.mono ?_
        rintro e w1 ⟨rfl, hbel⟩
        have Hb1 := Lib.hid (Hbr.out.trans (hbel.mono Hbr.out.size))
        clear hbel HN hc
        go_wp2_with fail
        go_roundg (l.length - 1)
        case measure => omega
        case rel => exact ⟨1, by go_num, by omega, HN2, Hb1.out⟩
    | succ m =>
      have hml : m < l.length := by omega
      have hmi : (m : Int) < l.length := by omega
      have hpos : (0 : Int) < ((m + 1 : Nat) : Int) := by omega
      have hsub : IntKind.i64.wrap (((m + 1 : Nat) : Int) - 1) = (m : Int) := (IntWalk.i64_in _ (by omega)).trans (by omega)
      obtain ⟨b', off', e1, -, hc2⟩ := text_at hrr m hml
      injection e1 with e1; injection e1 with e1 e2; subst e1; subst e2
      have Hst2 := Lib.hid (show (nameB l[m + 1] && (!leB l[m + 1] l[m] && riseGo (aheadL l (m + 2)) (l.drop (m + 2))) && decide (l.length <= 32)) = R by
       have h := Hst.out
       rw [show aheadL l (m + 1) = some l[m] by show l[m]? = _; exact List.getElem?_eq_getElem hml] at h
       exact h)
      have Hlb := Lib.hid hlb
      generalize l[m + 1] = t at hc HN Hst2
      generalize l[m] = p at hc2 Hst2
      have Hle : Hid (leB t p = (Op.bytesLess t p || t == p)) := rfl
      clear hrr hbr hst Hst hlb
      cases hnm : nameB t with
      | false =>
        have Hz := Lib.hid (show false = R by have h := Hst2.out; rw [hnm] at h; exact h)
        rw [hnm] at HN
        clear hnm Hst2
        go_wp2_with fail
        refine HN.out.mono ?_
        rintro e w1 ⟨rfl, hbel⟩
        have Hb1 := Lib.hid (Hbr.out.trans (hbel.mono Hbr.out.size))
        have d2 := (hbel.cell (by exact Hlb.out)).trans hc2
        clear hbel HN hc hc2
        go_wp2_with fail
        go_ret
        exact ⟨ret_bool Hz.out, Hb1.out⟩
      | true =>
        have Hst3 := Lib.hid (show (!leB t p && riseGo (aheadL l (m + 2)) (l.drop (m + 2)) && decide (l.length <= 32)) = R by have h := Hst2.out; rw [hnm] at h; simpa using h)
        rw [hnm] at HN
        clear hnm Hst2
        cases hx : Op.bytesLess t p
        . cases hy : (t == p)
          . have HN2 := Lib.hid (show (riseGo (aheadL l (m + 1 + 1)) (l.drop (m + 1 + 1)) && decide (l.length <= 32)) = R by have h := Hst3.out; rw [show leB t p = false by rw [Hle.out, hx, hy]; rfl] at h; simpa using h)
            clear Hst3
            go_wp2_with fail
            refine HN.out.mono ?_
            rintro e w1 ⟨rfl, hbel⟩
            have Hb1 := Lib.hid (Hbr.out.trans (hbel.mono Hbr.out.size))
            have d2 := (hbel.cell (by exact Hlb.out)).trans hc2
            clear hbel HN hc hc2
            go_wp2_with fail
            go_roundg (l.length - (m + 1 + 1))
            case measure => omega
            case rel => exact ⟨m + 1 + 1, by go_num, by omega, HN2, Hb1.out⟩
          . have Hz := Lib.hid (show false = R by have h := Hst3.out; rw [show leB t p = true by rw [Hle.out, hx, hy]; rfl] at h; simpa using h)
            clear Hst3
            go_wp2_with fail
            refine HN.out.mono ?_
            rintro e w1 ⟨rfl, hbel⟩
            have Hb1 := Lib.hid (Hbr.out.trans (hbel.mono Hbr.out.size))
            have d2 := (hbel.cell (by exact Hlb.out)).trans hc2
            clear hbel HN hc hc2
            go_wp2_with fail
            go_ret
            exact ⟨ret_bool Hz.out, Hb1.out⟩
        . have Hz := Lib.hid (show false = R by have h := Hst3.out; rw [show leB t p = true by rw [Hle.out, hx]; rfl] at h; simpa using h)
          clear Hst3
          go_wp2_with fail
          refine HN.out.mono ?_
          rintro e w1 ⟨rfl, hbel⟩
          have Hb1 := Lib.hid (Hbr.out.trans (hbel.mono Hbr.out.size))
          have d2 := (hbel.cell (by exact Hlb.out)).trans hc2
          clear hbel HN hc hc2
          go_wp2_with fail
          go_ret
          exact ⟨ret_bool Hz.out, Hb1.out⟩
  . obtain rfl : k = l.length := by omega
    have Hfin := Lib.hid (show decide (l.length <= 32) = R by have h := hst.out; rw [List.drop_length] at h; cases aheadL l l.length <;> simpa [riseGo] using h)
    clear hst hbr
    by_cases h32 : l.length <= 32
    . have h32i : (l.length : Int) <= 32 := by omega
      have Hz := Lib.hid ((decide_eq_true h32).symm.trans Hfin.out)
      clear h32
      go_wp2_with fail
      go_ret
      exact ⟨ret_bool Hz.out, Hbr.out⟩
    . have h32i : ¬ (l.length : Int) <= 32 := by omega
      have Hz := Lib.hid ((decide_eq_false h32).symm.trans Hfin.out)
      clear h32
      go_wp2_with fail
      go_ret
      exact ⟨ret_bool (by rw [<- Hz.out]), Hbr.out⟩
end Go.Proofs.YtbommcakcmhalaaGreatDoor
/- Walks: table's small closures (a rule's type, a pair's type). -/
namespace Go.Proofs.YtbommcakcmhalaaGreatDoor
open Go.RowKit Go.Redl
theorem pairtype_ent : ∀ args w, (callFunc 102 args).run Tryz.prog w = .ok (.enter 102 args) w := by intro args w; kernel_rfl
theorem pairtype_c (x0 : List UInt8) (v1 v2 : Value) (W : World) : Calls Tryz.prog 102 #[.agg #[strV x0, v1, v2]] W fun e w' => e = .returned (strV x0) /\ Below W.heap.size W w' := by
 have Hb := Lib.hid (one_below W (Obj.cells #[strV x0, v1, v2] 143))
 go_enter Tryz.func102, Tryz.ntmps102
 go_wp2_with fail
 go_ret
 exact ⟨rfl, Hb.out⟩
theorem ruletype_ent : ∀ args w, (callFunc 45 args).run Tryz.prog w = .ok (.enter 45 args) w := by intro args w; kernel_rfl
theorem ruletype_c (x0 : List UInt8) (v1 v2 v3 v4 v5 v6 v7 : Value) (W : World) : Calls Tryz.prog 45 #[.agg #[strV x0, v1, v2, v3, v4, v5, v6, v7]] W fun e w' => e = .returned (strV x0) /\ Below W.heap.size W w' := by
 have Hb := Lib.hid (one_below W (Obj.cells #[strV x0, v1, v2, v3, v4, v5, v6, v7] 27))
 go_enter Tryz.func45, Tryz.ntmps45
 go_wp2_with fail
 go_ret
 exact ⟨rfl, Hb.out⟩
end Go.Proofs.YtbommcakcmhalaaGreatDoor
/- Walk: table's types at a rule's pairs. -/
namespace Go.Proofs.YtbommcakcmhalaaGreatDoor
open Go.RowKit Go.Redl
theorem info_strT : (Tryz.prog.info? 9).map (fun i => (i.zero, i.size, i.bytes)) = some (some (.string ⟨#[]⟩), 1, 16) := by kernel_rfl
theorem made_strs (n : Nat) : madeCells (#[.string ⟨#[]⟩] : Array Value) (n * 1) = (List.replicate n (strV [])).toArray := by
 apply Array.ext'
 unfold madeCells
 simp only [Array.toList_map, Array.toList_range, Nat.mul_one]
 apply List.ext_getElem
 . simp
 . intro i h1 h2
   simp [Nat.mod_one]
theorem make_strs (n : Nat) (hn : n <= 100000000) (w : World) :
 (Instr.makeSlice 87 (.int .i64 (n : Int)) (.int .i64 (n : Int))).run Tryz.prog w = .ok (.slice (some ⟨w.heap.size, 0, none⟩) n n) (w.alloc (.cells (List.replicate n (strV [])).toArray 9)) := by
 obtain ⟨i, hi, hz, hs, hb⟩ : ∃ i, Tryz.prog.info? 9 = some i /\ i.zero = some (.string ⟨#[]⟩) /\ i.size = 1 /\ i.bytes = 16 := by
  obtain ⟨i, hi, hzz⟩ := Option.map_eq_some_iff.1 info_strT
  simp only [Prod.mk.injEq] at hzz
  exact ⟨i, hi, hzz⟩
 have hr := run_make (P := Tryz.prog) w 87 9 i _ Tryz.underlying87 hi hz .i64 .i64 n n (by omega) (Int.le_refl _) (by rw [hb]; omega) (by omega)
 simp only [Int.toNat_natCast, hs, Value.cells] at hr
 rw [hr, made_strs]
abbrev pairNames (l : List PairD) : List Value := l.map fun p => strV p.1
theorem typesP_c (l : List PairD) (a : Option Addr) (cap : Nat) (W : World) (hr : RowA W W.heap.size 3 a l.length cap (pairCells l)) (hn : l.length <= 100000000) :
 Calls Tryz.prog 101 #[.slice a l.length cap, .func (.func 102) #[] #[]] W fun e w' => e = .returned (.slice (some ⟨W.heap.size, 0, none⟩) l.length l.length) /\ At w' W.heap.size (pairNames l) 9 /\ Below W.heap.size W w' := by
 obtain ⟨w0, hw0⟩ : ∃ w0, w0 = W.alloc (.cells (List.replicate l.length (strV [])).toArray 9) := ⟨_, rfl⟩
 have hb0 : Below W.heap.size W w0 := by rw [hw0]; exact one_below _ _
 have hA : At w0 W.heap.size (List.replicate l.length (strV [])) 9 := by rw [hw0]; exact At.fresh W _ _
 have hMk := make_strs l.length hn W
 rw [<- hw0] at hMk
 have Hr := Lib.hid (fun (w' : World) (hb : Below W.heap.size W w') => hr.keep hb hb.size)
 have HA := Lib.hid hA; have Hb0 := Lib.hid hb0
 have HE := pairtype_ent
 clear hr hA hb0 hw0
 go_enter Tryz.func101, Tryz.ntmps101
 go_wp2_with fail
 go_loopg [13] l.length (fun g i wr => ∃ k : Nat, i = .int .i64 k /\ k + g = l.length /\ Hid (At wr W.heap.size (pairNames (l.take k) ++ List.replicate (l.length - k) (strV [])) 9) /\ Hid (Below W.heap.size W wr))
 case atStart => exact ⟨0, rfl, by omega, (show At w0 W.heap.size (pairNames (l.take 0) ++ List.replicate (l.length - 0) (strV [])) 9 by simpa using HA.out), Hb0⟩
 case round =>
  obtain ⟨k, rfl, hg, hat, hbr⟩ := hrel
  by_cases hlt : k < l.length
  . have hlti : (k : Int) < l.length := by omega
    obtain ⟨b, off, rfl, hlb, p0, p1, p2⟩ := (Hr.out wr hbr.out).pair_at k hlt
    have Hst := Lib.hid (show l.take (k + 1) = l.take k ++ [l[k]] from List.take_succ_eq_append_getElem hlt)
    generalize l[k] = q at p0 p1 p2 Hst
    obtain ⟨q0, q1, q2⟩ := q
    simp only at p0 p1 p2
    have HC := Lib.hid (fun (w1 : World) => pairtype_c q0 (.int .i64 q1) (strV q2) w1)
    clear hlb
    go_wp2_with fail
    refine (HC.out _).mono ?_
    rintro e w2 ⟨rfl, hbel⟩
    have hb2 : Below wr.heap.size wr w2 := (one_below wr (Obj.cells #[strV q0, .int .i64 q1, strV q2] 143)).trans (hbel.mono (one_below wr _).size)
    have hA2 := hat.out.kept hb2
    have Hb2 := Lib.hid (hbr.out.trans (hb2.mono hbr.out.size))
    have cf : w2.frozen? ⟨W.heap.size, k, none⟩ = false := Lib.frozen_of_heap hA2 _
    have cc : w2.cell? ⟨W.heap.size, k, none⟩ = some (strV []) := hA2.cell k (by
     have hkl : (pairNames (l.take k)).length = k := by simp; omega
     rw [List.getElem?_append_right (by omega), List.getElem?_replicate, if_pos (by omega)])
    have HA2 := Lib.hid hA2
    clear hbel hb2 hA2 HC p0 p1 p2
    go_wp2_with fail
    go_roundg (l.length - (k + 1))
    case measure => omega
    case rel =>
     refine ⟨k + 1, by go_num, by omega, ?_, (show Below _ _ _ from Hb2.out.setCell (p := ⟨W.heap.size, k, none⟩) (Nat.le_refl _) _)⟩
     show At _ W.heap.size (pairNames (l.take (k + 1)) ++ List.replicate (l.length - (k + 1)) (strV [])) 9
     have h := HA2.out.set k (strV q0)
     rw [List.set_append_right _ _ (by simp; omega)] at h
     rw [Hst.out]
     have e : l.length - k = (l.length - (k + 1)) + 1 := by omega
     rw [e, List.replicate_succ] at h
     simpa [Nat.min_eq_left (Nat.le_of_lt hlt)] using h
  . obtain rfl : k = l.length := by omega
    have Hfin := Lib.hid (show At wr W.heap.size (pairNames l) 9 by have h := hat.out; rw [List.take_length, Nat.sub_self] at h; simpa using h)
    have hnl : ¬ (l.length : Int) < l.length := by omega
    clear hat
    go_wp2_with fail
    go_ret
    exact ⟨rfl, Hfin.out, hbr.out⟩
end Go.Proofs.YtbommcakcmhalaaGreatDoor
/- Walk: table's types at a schema's rules. -/
namespace Go.Proofs.YtbommcakcmhalaaGreatDoor
open Go.RowKit Go.Redl
abbrev ruleTypes (l : List RuleD) : List Value := l.map fun p => strV p.type
theorem typesR_c (l : List RuleD) (a : Option Addr) (cap : Nat) (css : List Value) (W : World) (hr : RowA W W.heap.size 8 a l.length cap css) (hc : RulesC W W.heap.size l css) (hn : l.length <= 100000000) :
 Calls Tryz.prog 44 #[.slice a l.length cap, .func (.func 45) #[] #[]] W fun e w' => e = .returned (.slice (some ⟨W.heap.size, 0, none⟩) l.length l.length) /\ At w' W.heap.size (ruleTypes l) 9 /\ Below W.heap.size W w' := by
 obtain ⟨w0, hw0⟩ : ∃ w0, w0 = W.alloc (.cells (List.replicate l.length (strV [])).toArray 9) := ⟨_, rfl⟩
 have hb0 : Below W.heap.size W w0 := by rw [hw0]; exact one_below _ _
 have hA : At w0 W.heap.size (List.replicate l.length (strV [])) 9 := by rw [hw0]; exact At.fresh W _ _
 have hMk := make_strs l.length hn W
 rw [<- hw0] at hMk
 have Hr := Lib.hid (fun (w' : World) (hb : Below W.heap.size W w') => hr.keep hb hb.size)
 have Hc := Lib.hid (fun (w' : World) (hb : Below W.heap.size W w') => RulesC.keep hb hb.size hc)
 have HA := Lib.hid hA; have Hb0 := Lib.hid hb0
 have HE := ruletype_ent
 clear hr hc hA hb0 hw0
 go_enter Tryz.func44, Tryz.ntmps44
 go_wp2_with fail
 go_loopg [13] l.length (fun g i wr => ∃ k : Nat, i = .int .i64 k /\ k + g = l.length /\ Hid (At wr W.heap.size (ruleTypes (l.take k) ++ List.replicate (l.length - k) (strV [])) 9) /\ Hid (Below W.heap.size W wr))
 case atStart => exact ⟨0, rfl, by omega, (show At w0 W.heap.size (ruleTypes (l.take 0) ++ List.replicate (l.length - 0) (strV [])) 9 by simpa using HA.out), Hb0⟩
 case round =>
  obtain ⟨k, rfl, hg, hat, hbr⟩ := hrel
  by_cases hlt : k < l.length
  . have hlti : (k : Int) < l.length := by omega
    obtain ⟨b, off, ra, rc, rfl, hlb, -, p0, p1, p2, p3, p4, p5, p6, p7⟩ := rule8 (Hr.out wr hbr.out) (Hc.out wr hbr.out) k hlt
    have Hst := Lib.hid (show l.take (k + 1) = l.take k ++ [l[k]] from List.take_succ_eq_append_getElem hlt)
    generalize l[k] = q at p0 p1 p2 p3 p4 p5 p6 p7 Hst
    obtain ⟨q0, ⟨q1, q2⟩, ⟨q3, q4⟩, q5, q6, q7⟩ := q
    simp only at p0 p1 p2 p3 p4 p5 p6 p7
    have HC := Lib.hid (fun (w1 : World) => ruletype_c q0 (.int .i64 q1) (strV q2) (.int .i64 q3) (strV q4) (.slice ra q5.length rc) (.int .i64 q6) (strV q7) w1)
    clear hlb
    go_wp2_with fail
    refine (HC.out _).mono ?_
    rintro e w2 ⟨rfl, hbel⟩
    have hb2 : Below wr.heap.size wr w2 := (one_below wr (Obj.cells #[strV q0, .int .i64 q1, strV q2, .int .i64 q3, strV q4, .slice ra q5.length rc, .int .i64 q6, strV q7] 27)).trans (hbel.mono (one_below wr _).size)
    have hA2 := hat.out.kept hb2
    have Hb2 := Lib.hid (hbr.out.trans (hb2.mono hbr.out.size))
    have cf : w2.frozen? ⟨W.heap.size, k, none⟩ = false := Lib.frozen_of_heap hA2 _
    have cc : w2.cell? ⟨W.heap.size, k, none⟩ = some (strV []) := hA2.cell k (by
     have hkl : (ruleTypes (l.take k)).length = k := by simp; omega
     rw [List.getElem?_append_right (by omega), List.getElem?_replicate, if_pos (by omega)])
    have HA2 := Lib.hid hA2
    clear hbel hb2 hA2 HC p0 p1 p2 p3 p4 p5 p6 p7
    go_wp2_with fail
    go_roundg (l.length - (k + 1))
    case measure => omega
    case rel =>
     refine ⟨k + 1, by go_num, by omega, ?_, (show Below _ _ _ from Hb2.out.setCell (p := ⟨W.heap.size, k, none⟩) (Nat.le_refl _) _)⟩
     show At _ W.heap.size (ruleTypes (l.take (k + 1)) ++ List.replicate (l.length - (k + 1)) (strV [])) 9
     have h := HA2.out.set k (strV q0)
     rw [List.set_append_right _ _ (by simp; omega)] at h
     rw [Hst.out]
     have e : l.length - k = (l.length - (k + 1)) + 1 := by omega
     rw [e, List.replicate_succ] at h
     simpa [Nat.min_eq_left (Nat.le_of_lt hlt)] using h
  . obtain rfl : k = l.length := by omega
    have Hfin := Lib.hid (show At wr W.heap.size (ruleTypes l) 9 by have h := hat.out; rw [List.take_length, Nat.sub_self] at h; simpa using h)
    have hnl : ¬ (l.length : Int) < l.length := by omega
    clear hat
    go_wp2_with fail
    go_ret
    exact ⟨rfl, Hfin.out, hbr.out⟩
end Go.Proofs.YtbommcakcmhalaaGreatDoor
/- slices.Values over a row of numbers in memory; slices.AppendSeq, slices.Collect over it (the worked texts on iterators over slices, turned to this program). -/
namespace Go.Proofs.YtbommcakcmhalaaGreatDoor
open Go.RowKit Go.Redl Go.Shelf
attribute [local go_sem] Oper.semAt_some
/-- What has come when k rounds are over. -/
def upTo (f : Nat -> Int) (k : Nat) : List Int := (List.range k).map f
theorem upTo_succ (f : Nat -> Int) (k : Nat) : upTo f (k + 1) = upTo f k ++ [f k] := by simp [upTo, List.range_succ]
theorem upTo_length (f : Nat -> Int) (k : Nat) : (upTo f k).length = k := by simp [upTo]
theorem upTo_take (zs : List Int) {k : Nat} (hk : k <= zs.length) : upTo (fun j => zs[j]?.getD 0) k = zs.take k := by
 apply List.ext_getElem
 . simp [upTo, hk]
 . intro i h1 h2
   have : i < zs.length := by simp [upTo] at h1; omega
   simp [upTo, this]
/-- slices.Values's closure, for every loop body that keeps what lay below n₀. -/
theorem values1_in (F : Fence) (n : Nat) (h7 : F.fn 96) (hro : F.round = none) (hn : 1 <= n) (l Bs n₀ b off len cap : Nat) (zs : List Int) (hreach : len * 8 <= 140737488351232) (hb : b < n₀) (J Jx : List Int -> World -> Prop)
 (hY : ∀ pre x W, J pre W -> pre.length < len -> YieldAt F (n - 1) Tryz.prog l #[.int .i64 x] W fun e W' =>
   (e = .returned (.bool true) /\ J (pre ++ [x]) W' /\ Below n₀ W W') ∨ (e = .returned (.bool false) /\ Jx (pre ++ [x]) W'))
 (W : World) (hBs : W.cell? ⟨Bs, 0, none⟩ = some (.slice (some ⟨b, off, none⟩) len cap)) (hc : ∀ j, j < len -> W.cell? ⟨b, off + j, none⟩ = some (.int .i64 (zs[j]?.getD 0))) (h0 : J [] W) :
 CallsIn F n Tryz.prog 96 #[.func (.yield l) #[] #[], .pointer (some ⟨Bs, 0, none⟩)] W fun e W' => (∃ v, e = .returned v) /\
  ((∃ ys, ys = upTo (fun j => zs[j]?.getD 0) len /\ J ys W') ∨ (∃ pre, (∃ k, k <= len /\ pre = upTo (fun j => zs[j]?.getD 0) k) /\ Jx pre W')) := by
 refine callsIn_of_wp Tryz.func96 rfl h7 ?_ hro
 simp only [Tryz.ntmps96, List.size_toArray, List.length_cons, List.length_nil, Nat.reduceAdd, Nat.reduceSub, Array.replicate_succ, Array.replicate_zero, List.push_toArray, List.append_toArray, List.nil_append, List.cons_append]
 gi_wp2
 gi_loopw [7] (fun i wr => ∃ k : Nat, k <= len /\ i = .int .i64 k /\ J (upTo (fun j => zs[j]?.getD 0) k) wr /\ Below n₀ W wr)
  (fun i _ => len - (intOf i).toNat)
 case atStart => exact ⟨0, Nat.zero_le _, rfl, h0, Below.refl _ _⟩
 case round =>
  obtain ⟨k, hk, rfl, hJs, hnx⟩ := hrel
  have hcx : k < len -> wr.cell? ⟨b, off + k, none⟩ = some (.int .i64 (zs[k]?.getD 0)) := fun h => (hnx.cell (p := ⟨b, off + k, none⟩) hb).trans (hc k h)
  by_cases hlt : k < len
  . obtain ⟨fn, tmps, assign, body, hy, hR⟩ := hY _ (zs[k]?.getD 0) wr hJs (by rw [upTo_length]; exact hlt)
    have hcx' := hcx hlt
    gi_wp2
    refine hR.mono ?_
    rintro e W3 (⟨rfl, hJ3, hk3⟩ | ⟨rfl, hJx3⟩)
    . gi_wp2
      go_roundw
      case rel => exact ⟨k + 1, by omega, by simp, by rw [upTo_succ]; exact hJ3, hnx.trans hk3⟩
      case measure => simp [intOf]; omega
    . gi_wp2
      refine bodyPost_ret (results_none rfl _ _ _) rfl ?_
      exact ⟨⟨_, rfl⟩, .inr ⟨_, ⟨k + 1, by omega, (upTo_succ _ _).symm⟩, hJx3⟩⟩
  . obtain rfl : k = len := by omega
    gi_wp2
    go_end0
    exact ⟨⟨_, rfl⟩, .inl ⟨_, rfl, hJs⟩⟩
/-- slices.Values: the slice is boxed, and captured. -/
theorem values_c (a : Option Addr) (len cap : Nat) (w : World) :
 Calls Tryz.prog 41 #[.slice a len cap] w fun e w' => e = .returned (.func (.func 96) #[] #[.pointer (some ⟨w.heap.size, 0, none⟩)]) /\ w' = w.alloc (.cells #[.slice a len cap] 36) := by
 go_enter Tryz.func41, Tryz.ntmps41
 go_wp2
 go_ret
 exact ⟨rfl, rfl⟩
/-- slices.Values hands back an iterator that gives all numbers, in order. -/
theorem values_stops (F : Fence) (n : Nat) (h7 : F.fn 96) (hro : F.round = none) (hn : 1 <= n) (Bs n₀ b off cap : Nat) (zs : List Int) (hreach : zs.length * 8 <= 140737488351232) (w : World) (hBs : Bs < w.heap.size) (hn₀ : n₀ <= w.heap.size) (hb : b < n₀)
 (hc : w.cell? ⟨Bs, 0, none⟩ = some (.slice (some ⟨b, off, none⟩) zs.length cap)) (hI : ∀ j, j < zs.length -> w.cell? ⟨b, off + j, none⟩ = some (.int .i64 (zs[j]?.getD 0))) :
 SeqStopsK F n Tryz.prog 96 #[.pointer (some ⟨Bs, 0, none⟩)] (fun x : Int => #[Value.int .i64 x]) (Below n₀) (fun ys => ys = zs) (fun pre => pre <+: zs) zs.length w := fun l J Jx W hW _ _ hY h0 => by
 have hc' := (hW.cell (p := ⟨Bs, 0, none⟩) hBs).trans hc
 refine (values1_in F n h7 hro hn l Bs n₀ b off zs.length cap zs hreach hb J Jx hY W hc' (fun j hj => (hW.cell (p := ⟨b, off + j, none⟩) (Nat.lt_of_lt_of_le hb hn₀)).trans (hI j hj)) h0).mono ?_
 rintro e W' ⟨he, ⟨ys, rfl, hj⟩ | ⟨pre, ⟨k, hk, rfl⟩, hj⟩⟩
 . exact ⟨he, .inl ⟨_, by rw [upTo_take zs (Nat.le_refl _), List.take_length], hj⟩⟩
 . exact ⟨he, .inr ⟨_, by rw [upTo_take zs hk]; exact List.take_prefix _ _, hj⟩⟩
theorem info_intT : (Tryz.prog.info? 3).map (fun i => (i.zero, i.size, i.bytes)) = some (some (.int .i64 0), 1, 8) := by kernel_rfl
/-- slices.AppendSeq onto nothing, over slices.Values. -/
theorem appseq_in (F : Fence) (n : Nat) (hF : F.fn 164) (h7 : F.fn 96) (hro : F.round = none) (hn : 3 <= n) (Bs b off cap : Nat) (zs : List Int) (hreach : zs.length <= 1000000) (w : World) (hBs : Bs < w.heap.size) (hb : b < w.heap.size)
 (hc : w.cell? ⟨Bs, 0, none⟩ = some (.slice (some ⟨b, off, none⟩) zs.length cap)) (hI : ∀ j, j < zs.length -> w.cell? ⟨b, off + j, none⟩ = some (.int .i64 (zs[j]?.getD 0))) :
 CallsIn F n Tryz.prog 164 #[.slice none 0 0, .func (.func 96) #[] #[.pointer (some ⟨Bs, 0, none⟩)]] w fun e W' => ∃ v, e = .returned v /\ W'.ownsRow w.heap.size 3 1 v zs.length (zs.map (Value.int .i64)) /\ (v = .slice none 0 0 ↔ zs = []) /\ Below w.heap.size w W' := by
 have h1 : 1 <= n := by omega
 obtain ⟨i0, hi, hz0, hz1, hz2⟩ := info_parts info_intT
 refine callsIn_of_wp_marks Tryz.func164 rfl hF ?_ hro
 simp only [Tryz.ntmps164, List.size_toArray, List.length_cons, List.length_nil, Nat.reduceAdd, Nat.reduceSub, Array.replicate_succ, Array.replicate_zero, List.push_toArray, List.append_toArray, List.nil_append, List.cons_append]
 gi_wp2
 have bO := Boxed.new w 36 (.slice none 0 0)
 have hB0 : Below w.heap.size w (w.alloc (.cells #[.slice none 0 0] 36)) := (Below.refl _ w).alloc (Nat.le_refl _) _
 refine wpIn_rangeFunc_ownG hro h1 (gf := 96) (lb := #[.pointer (some ⟨Bs, 0, none⟩)]) rfl h7 (enters_of Tryz.func96 (by kernel_rfl) rfl)
  (values_stops F (n - 1) h7 hro (by omega) Bs w.heap.size b off cap zs (by omega) _ (by simp; omega) (by simp) hb ((hB0.cell (p := ⟨Bs, 0, none⟩) hBs).trans hc) (fun j hj => (hB0.cell (p := ⟨b, off + j, none⟩) hb).trans (hI j hj))) belowK_t (belowK_b (by simp)) (Below.refl _ _) (fun _ => rfl)
  (fun pre W => (∃ v, Boxed W w.heap.size 36 v /\ W.ownsRow w.heap.size 3 1 v pre.length (pre.map (Value.int .i64)) /\ (v = .slice none 0 0 ↔ pre = [])) /\ Below w.heap.size w W)
  (fun _ _ _ => False)
  (OwnFrom.and (Own.from (holdsRow_own w.heap.size w.heap.size 36 3 1 (fun pre => pre.length) (fun pre => pre.map (Value.int .i64)) (fun pre v => v = .slice none 0 0 ↔ pre = [])) _) (ownFrom_below (Nat.le_refl _) (by simp)))
  (fun _ _ _ _ _ hs _ _ => hs)
  ⟨⟨_, bO, World.ownsRow_nil _ _ _ _, by simp⟩, hB0⟩
  (fun x => { tmps := #[.slice none 0 0, .func (.func 96) #[] #[.pointer (some ⟨Bs, 0, none⟩)], .pointer (some ⟨w.heap.size, 0, none⟩), undef, .slice none 0 0, .int .i64 x, .func (.func 96) #[] #[.pointer (some ⟨Bs, 0, none⟩)], .int .i64 x, undef, undef, undef, undef, undef], defers := [] }) ?assign ?body ?done ?stop
 case assign =>
  intro l x W K hK
  gi_wp2
  exact hK
 case body =>
  rintro l pre x W ⟨⟨v, hv, hrow, hnil⟩, hB⟩ hlt
  have hc := hv.cell
  gi_wp2_with (gi_at_builtin; refine wpListIn_append_own _ rfl _ _ 36 rfl w.heap.size 3 i0 (.int .i64 0) 1 8 Tryz.underlying36 hi hz0 hz1 hz2 rfl (by decide) _ _ _ rfl (hrow.alloc _) ⟨W.heap.size, 0, none⟩ 1 1 [.int .i64 x] rfl rfl (cell_one_new _ _ _) (by simp [Value.oneCell']) (by unfold maxLen; omega) (by omega) (by have := hB.size; simp; omega) ?_; intro v' w1 hown' hgrow _; obtain ⟨g', cap', rfl⟩ := ownsRow_succ hown'; obtain ⟨hv1, hv2, hr2, hk2, hb2⟩ := hv.appended (by decide) hrow hB.size (Nat.le_refl _) hown' hgrow; have hc1 := hv1.cell; have hf1 := hv1.frozen)
  exact ⟨hk2.from _, hb2, ⟨_, hv2, by simpa using hr2, by simp⟩, hB.trans hb2⟩
 case done =>
  rintro D ys W hD rfl ⟨⟨v, hv, hrow, hnil⟩, hB⟩ hK
  have hc := hv.cell
  gi_wp2
  refine ⟨by simp, .inl ⟨_, _, rfl, run_takeDeferred hK, ?_⟩⟩
  exact ⟨_, results_tmp rfl _ _ _, v, rfl, ownsRow_putObj hrow _ hK rfl, hnil, hB.trans (belowK_b (w := w) (Nat.le_refl _) W D _ _ (by simp at hD; omega) hK rfl rfl)⟩
 case stop =>
  rintro D c pre W _ _ h _
  exact h.elim
theorem appseq_ent : ∀ args w, (callFunc 164 args).run Tryz.prog w = .ok (.enter 164 args) w := by intro args w; kernel_rfl
/-- slices.Collect over slices.Values. -/
theorem collect_c (Bs b off cap : Nat) (zs : List Int) (hreach : zs.length <= 1000000) (w : World) (hBs : Bs < w.heap.size) (hb : b < w.heap.size)
 (hc : w.cell? ⟨Bs, 0, none⟩ = some (.slice (some ⟨b, off, none⟩) zs.length cap)) (hI : ∀ j, j < zs.length -> w.cell? ⟨b, off + j, none⟩ = some (.int .i64 (zs[j]?.getD 0))) :
 Calls Tryz.prog 94 #[.func (.func 96) #[] #[.pointer (some ⟨Bs, 0, none⟩)]] w fun e W' => ∃ v, e = .returned v /\ W'.ownsRow w.heap.size 3 1 v zs.length (zs.map (Value.int .i64)) /\ (v = .slice none 0 0 ↔ zs = []) /\ Below w.heap.size w W' := by
 have HC := Lib.hid ((callsIn_wide (n := 3)).1 (appseq_in Fence.wide 3 trivial trivial rfl (by omega) Bs b off cap zs hreach w hBs hb hc hI))
 have HE := appseq_ent
 clear hc hI hBs hb
 go_enter Tryz.func94, Tryz.ntmps94
 go_wp2_with fail
 refine HC.out.mono ?_
 rintro e w' ⟨v, rfl, hrow, hnil, hbel⟩
 have Hrow := Lib.hid hrow; have Hnil := Lib.hid hnil; have Hbel := Lib.hid hbel
 clear hrow hnil hbel
 go_wp2_with fail
 go_ret
 exact ⟨v, rfl, Hrow.out, Hnil.out, Hbel.out⟩
end Go.Proofs.YtbommcakcmhalaaGreatDoor
/- Walks: slices.Sort at an own row of numbers, of texts; slices.Sorted over slices.Values. -/
namespace Go.Proofs.YtbommcakcmhalaaGreatDoor
open Go.RowKit Go.Redl Go.Shelf Go.Sort
abbrev srtI (l : List Int) : List Int := l.mergeSort fun x y => decide (x <= y)
abbrev srtS (l : List (List UInt8)) : List (List UInt8) := l.mergeSort fun x y => decide (x <= y)
theorem sortI_ent : ∀ args w, (callFunc 95 args).run Tryz.prog w = .ok (.enter 95 args) w := by intro args w; kernel_rfl
theorem sortS_ent : ∀ args w, (callFunc 103 args).run Tryz.prog w = .ok (.enter 103 args) w := by intro args w; kernel_rfl
theorem sortI_c (l : List Int) (v : Value) (base : Nat) (w : World) (hown : w.ownsRow base 3 1 v l.length (l.map (Value.int .i64))) (hn : l.length <= 100000000) :
 Calls Tryz.prog 95 #[v] w fun e w' => e = .returned (.tuple #[]) /\ w'.ownsRow base 3 1 v l.length ((srtI l).map (Value.int .i64)) /\ w.grownBy w' v.ownBlock := by
 have h0 := hown
 rcases hown.2 with ⟨rfl, hz⟩ | ⟨g, cap, cur, rfl, hbase, hb, h1, h2, h3, h4⟩
 . have hl : l = [] := List.eq_nil_of_length_eq_zero hz
   subst hl
   refine (AnyM.slices_Sort_int_none Tryz.sortI none 0 w).mono ?_
   rintro e w' ⟨rfl, rfl⟩
   exact ⟨rfl, by simpa [srtI] using h0, World.grownBy.refl _ _⟩
 . have hH : Holds (Value.int .i64) w g 0 l.toArray := holds_of_blockI hb (by simpa using h4)
   refine (AnyM.slices_Sort_int Tryz.sortI g 0 cap l w hH (Array.getElem?_eq_some_iff.1 hb).1 (by omega)).mono ?_
   rintro e w' ⟨rfl, n, os, rfl⟩
   exact ⟨rfl, ownsRow_sortedI (by simp) hbase hb h1 h2 h3, grownBy_sortedI _⟩
theorem sortS_c (l : List (List UInt8)) (v : Value) (base : Nat) (w : World) (hown : w.ownsRow base 9 1 v l.length (l.map strV)) (hn : l.length <= 100000000) :
 Calls Tryz.prog 103 #[v] w fun e w' => e = .returned (.tuple #[]) /\ w'.ownsRow base 9 1 v l.length ((srtS l).map strV) /\ w.grownBy w' v.ownBlock := by
 have h0 := hown
 rcases hown.2 with ⟨rfl, hz⟩ | ⟨g, cap, cur, rfl, hbase, hb, h1, h2, h3, h4⟩
 . have hl : l = [] := List.eq_nil_of_length_eq_zero hz
   subst hl
   refine (AnyM.slices_Sort_string_none Tryz.sortS none 0 w).mono ?_
   rintro e w' ⟨rfl, rfl⟩
   exact ⟨rfl, by simpa [srtS] using h0, World.grownBy.refl _ _⟩
 . have hH : Holds encStr w g 0 l.toArray := holds_of_block hb (by simpa using h4)
   refine (AnyM.slices_Sort_string Tryz.sortS g 0 cap l w hH (Array.getElem?_eq_some_iff.1 hb).1 (by omega)).mono ?_
   rintro e w' ⟨rfl, n, os, rfl⟩
   exact ⟨rfl, ownsRow_sorted (by simp) hbase hb h1 h2 h3, grownBy_sorted _⟩
theorem collect_ent : ∀ args w, (callFunc 94 args).run Tryz.prog w = .ok (.enter 94 args) w := by intro args w; kernel_rfl
theorem sorted_ent : ∀ args w, (callFunc 40 args).run Tryz.prog w = .ok (.enter 40 args) w := by intro args w; kernel_rfl
/-- slices.Sorted over slices.Values. -/
theorem sorted_c (Bs b off cap : Nat) (zs : List Int) (hreach : zs.length <= 1000000) (w : World) (hBs : Bs < w.heap.size) (hb : b < w.heap.size)
 (hc : w.cell? ⟨Bs, 0, none⟩ = some (.slice (some ⟨b, off, none⟩) zs.length cap)) (hI : ∀ j, j < zs.length -> w.cell? ⟨b, off + j, none⟩ = some (.int .i64 (zs[j]?.getD 0))) :
 Calls Tryz.prog 40 #[.func (.func 96) #[] #[.pointer (some ⟨Bs, 0, none⟩)]] w fun e w' => ∃ a c, e = .returned (.slice a zs.length c) /\ RowA w' w'.heap.size 1 a zs.length c ((srtI zs).map (Value.int .i64)) /\ Below w.heap.size w w' := by
 have HC := Lib.hid (collect_c Bs b off cap zs hreach w hBs hb hc hI)
 have HE := collect_ent; have HE2 := sortI_ent
 clear hc hI hBs hb
 go_enter Tryz.func40, Tryz.ntmps40
 go_wp2_with fail
 refine HC.out.mono ?_
 rintro e w1 ⟨v, rfl, hown, hnil, hbel⟩
 have HS := Lib.hid (sortI_c zs v w.heap.size w1 hown (by omega))
 have Hown := Lib.hid hown
 have Hb1 := Lib.hid hbel
 clear hown hnil hbel HC
 go_wp2_with fail
 refine HS.out.mono ?_
 rintro e w2 ⟨rfl, hown2, hgrow⟩
 have Hb2 := Lib.hid (Hb1.out.grown hgrow Hb1.out.size (fun k hk => (Hown.out.lt k hk).1))
 have Ho2 := Lib.hid hown2
 clear hown2 hgrow HS
 go_wp2_with fail
 go_ret
 obtain ⟨a, c, rfl, hr⟩ := row_of_own Ho2.out (by simp [Value.oneCell'])
 exact ⟨a, c, rfl, hr, Hb2.out⟩
end Go.Proofs.YtbommcakcmhalaaGreatDoor
/- Plain laws: fills have an end or meet a type again; what stays hangs on which names there are alone. -/
namespace Go.Proofs.YtbommcakcmhalaaGreatDoor
open Go.RowKit Go.Redl
/-- Things none twice are no more than those among which they are. -/
theorem nodup_le {α : Type} [DecidableEq α] : ∀ (l m : List α), l.Nodup -> (∀ x ∈ l, x ∈ m) -> l.length <= m.length
 | [], m, _, _ => Nat.zero_le _
 | x :: l, m, h, hs => by
   have hx : x ∈ m := hs x (by simp)
   have hn := List.nodup_cons.1 h
   have h1 := nodup_le l (m.erase x) hn.2 (fun y hy => (List.mem_erase_of_ne (show y ≠ x from fun e => hn.1 (by rw [<- e]; exact hy))).2 (hs y (by simp [hy])))
   rw [List.length_erase_of_mem hx] at h1
   have h2 := List.length_pos_of_mem hx
   simp only [List.length_cons]
   omega
theorem rev_ind {α : Type} {p : List α -> Prop} (h0 : p []) (h1 : ∀ l x, p l -> p (l ++ [x])) : ∀ l, p l := fun l => by
 have h : ∀ m : List α, p m.reverse := by
  intro m
  induction m with
  | nil => exact h0
  | cons x m ih => rw [List.reverse_cons]; exact h1 _ _ ih
 simpa using h l.reverse
theorem ruleOf_all (s : SchemaD) (k : List UInt8) : ruleOf s k ∈ allR s := by
 rcases ruleOf_cases s k with h | h
 . exact List.mem_append_left _ h
 . rw [h]; exact List.mem_append_right _ (by simp)
theorem allR_wt {s : SchemaD} {r : RuleD} (h : r ∈ allR s) : r.wt <= s.wt := by
 unfold SchemaD.wt
 rcases List.mem_append.1 h with h | h
 . have := rulesWt_mem h; omega
 . simp at h; subst h; omega
theorem all_len (s : SchemaD) : (allR s).length = s.rules.length + 1 := by simp
/-- The types met on the way are so many at the most. -/
theorem met_le {s : SchemaD} {met : List (List UInt8)} (h : met.Nodup) (hs : ∀ x ∈ met, x ∈ (allR s).map (·.type)) : met.length <= s.rules.length + 1 := by
 have h1 := nodup_le met _ h hs
 rw [List.length_map, all_len] at h1
 exact h1
theorem depth_step (s : SchemaD) (f : Nat) (met : List (List UInt8)) (r : RuleD) (n : Nat) :
 depthF s (f + 1) met r n = if r.fill = 0 then (n : Int) else if r.fill = 1 then (n : Int) + 1 else if r.type ∈ met then -1 else depthF s f (r.type :: met) (ruleOf s r.fillT) (n + 1) := rfl
/-- What stays, by a list of names. -/
def settledL (s : SchemaD) (r : RuleD) (l : List (List UInt8)) : Bool :=
 !(decide (r.text.1 = 4) && (decide ((actIn r r.text.2).1 ≠ 1) || decide ((ruleOf s r.text.2).text.1 ≠ 1))) && (l.all (wrapOk s r) &&
   (if r.fill = 1 then decide (r.text.1 = 1) else if r.fill = 2 then decide ((actIn r r.fillT).1 = 1) else true))
theorem settledL_names (s : SchemaD) (r : RuleD) : settledL s r (namesS s) = settledB s r := rfl
theorem all_same {α : Type} {p : α -> Bool} {l m : List α} (h : ∀ x, x ∈ l ↔ x ∈ m) : l.all p = m.all p := by
 rw [Bool.eq_iff_iff, List.all_eq_true, List.all_eq_true]
 exact ⟨fun g x hx => g x ((h x).2 hx), fun g x hx => g x ((h x).1 hx)⟩
theorem settledL_same {s : SchemaD} {r : RuleD} {l m : List (List UInt8)} (h : ∀ x, x ∈ l ↔ x ∈ m) : settledL s r l = settledL s r m := by
 unfold settledL
 rw [all_same h]
/-- All names that rules hold. -/
abbrev flatN (s : SchemaD) : List (List UInt8) := (allR s).flatMap ruleNames
theorem names_same {s : SchemaD} {out : List (List UInt8)} (h : ∀ x, x ∈ out ↔ x ∈ flatN s /\ x ≠ []) : ∀ x, x ∈ out ++ [[]] ↔ x ∈ namesS s := by
 intro x
 unfold namesS
 rw [List.mem_append, List.mem_append, h x]
 by_cases hx : x = []
 . subst hx; simp
 . simp [hx]
theorem settled_by {s : SchemaD} {r : RuleD} {out : List (List UInt8)} (h : ∀ x, x ∈ out ↔ x ∈ flatN s /\ x ≠ []) : settledL s r (out ++ [[]]) = settledB s r := by
 rw [<- settledL_names, settledL_same (names_same h)]
/-- How long names are, and how many. -/
theorem name_wt {r : RuleD} {x : List UInt8} (h : x ∈ ruleNames r) : x.length <= r.wt := by
 unfold ruleNames at h
 unfold RuleD.wt
 rcases List.mem_append.1 h with h | h
 . simp at h
   rcases h with rfl | rfl | rfl | rfl <;> omega
 . obtain ⟨p, hp, hx⟩ := List.mem_flatMap.1 h
   have := pairsWt_mem hp
   simp at hx
   rcases hx with rfl | rfl <;> omega
theorem flat_wt {s : SchemaD} {x : List UInt8} (h : x ∈ flatN s) : x.length <= s.wt := by
 obtain ⟨r, hr, hx⟩ := List.mem_flatMap.1 h
 exact Nat.le_trans (name_wt hx) (allR_wt hr)
theorem names_len (r : RuleD) : (ruleNames r).length <= r.wt := by
 have : ∀ l : List PairD, (l.flatMap (fun p => [p.1, p.2.2])).length = 2 * l.length := by
  intro l
  induction l with
  | nil => rfl
  | cons p l ih => rw [List.flatMap_cons, List.length_append, ih]; simp; omega
 have h1 := pairsWt_len r.kids
 unfold ruleNames RuleD.wt
 rw [List.length_append, this]
 simp
 omega
theorem flat_len (s : SchemaD) : (flatN s).length <= s.wt := by
 have h : ∀ l : List RuleD, (l.flatMap ruleNames).length <= rulesWt l := by
  intro l
  induction l with
  | nil => simp [rulesWt]
  | cons r l ih => have := names_len r; simp only [rulesWt, List.flatMap_cons, List.length_append]; omega
 have h1 := h s.rules
 have h2 := names_len s.els
 unfold SchemaD.wt
 simp only [flatN, allR, List.flatMap_append, List.length_append, List.flatMap_cons, List.flatMap_nil, List.append_nil]
 omega
end Go.Proofs.YtbommcakcmhalaaGreatDoor
/- Maps from texts to bool, used as sets: made, filled, asked. -/
namespace Go.Proofs.YtbommcakcmhalaaGreatDoor
open Go.RowKit Go.Redl Go.Maps
/-- A set as what the map reads as. -/
def setS (acc : List (List UInt8)) : DataW Unit := Maps.setOf (.lit (.bool true)) (acc.map Lit.string)
theorem setS_snoc (acc : List (List UInt8)) (k : List UInt8) : setS (acc ++ [k]) = (setS acc).put (.string k) (.lit (.bool true)) := by
 unfold setS
 rw [List.map_append, List.map_cons, List.map_nil, Maps.setOf_snoc]
theorem setS_map (acc : List (List UInt8)) : Maps.IsMap (setS acc) := (Maps.tidy_setOf _ _ (fun x hx => by obtain ⟨s, -, rfl⟩ := List.mem_map.1 hx; trivial)).isMap
theorem setS_has (acc : List (List UInt8)) (k : List UInt8) : Maps.has (setS acc) (.string k) = decide (k ∈ acc) := by
 unfold setS
 rw [Maps.has_setOf _ _ _ (fun x hx => by obtain ⟨s, -, rfl⟩ := List.mem_map.1 hx; trivial), List.any_map]
 by_cases h : k ∈ acc
 . rw [decide_eq_true h, List.any_eq_true]
   exact ⟨k, h, by simp [Lit.sameKey]⟩
 . rw [decide_eq_false h, List.any_eq_false]
   intro x hx
   have : x ≠ k := fun e => h (e ▸ hx)
   simp [Lit.sameKey, this]
theorem setS_at (acc : List (List UInt8)) (k : List UInt8) : (setS acc).atKey (.string k) (.lit (.bool false)) = .lit (.bool (decide (k ∈ acc))) := by
 induction acc using rev_ind with
 | h0 => rfl
 | h1 acc x ih =>
   rw [setS_snoc]
   by_cases h : k = x
   . subst h
     rw [Maps.atKey_put_same (k := .string k) (setS_map acc) trivial]
     simp
   . rw [Maps.atKey_put_other (by simpa using h), ih]
     simp [h]
set_option maxRecDepth 100000
abbrev strLaw : Maps.Keyed Tryz.prog 9 := Maps.string_keyed Tryz.underlying9
/-- Block b is a map of at most n entries that holds just these texts. -/
def SetAt (w : World) (b n : Nat) (acc : List (List UInt8)) : Prop := w.ownsMap Tryz.prog 9 (plainElem (H := Unit) Tryz.prog 4) b n (setS acc)
theorem SetAt.fresh (w : World) : SetAt (w.alloc (.map #[] 0)) w.heap.size 0 [] := World.ownsMap_made w _ _ _
theorem SetAt.lt {w : World} {b n : Nat} {acc : List (List UInt8)} (h : SetAt w b n acc) : b < w.heap.size := World.ownsMap.lt h
theorem SetAt.kept {w w' : World} {b n : Nat} {acc : List (List UInt8)} (h : SetAt w b n acc) (hb : Below w.heap.size w w') : SetAt w' b n acc := World.ownsMap.kept h (grownBy_of_below hb) (by simp)
theorem SetAt.mono {w : World} {b n m : Nat} {acc : List (List UInt8)} (h : SetAt w b n acc) (hm : n <= m) : SetAt w b m acc := World.ownsMap.mono h hm
theorem SetAt.setCell {w : World} {b n : Nat} {acc : List (List UInt8)} (h : SetAt w b n acc) {a : Addr} (ha : b ≠ a.block) (u : Value) : SetAt (w.setCell a u) b n acc := World.ownsMap.setCell h ha u
theorem zeroB (w : World) : (zeroValue 4).run Tryz.prog w = .ok (.bool false) w := by kernel_rfl
/-- The map's type, by its number. -/
theorem SetAt.ask {w : World} {b n : Nat} {acc : List (List UInt8)} (h : SetAt w b n acc) (k : List UInt8) (hk : k.length <= maxLen) :
 (Instr.lookup 153 (.map (some b)) (strV k) false).run Tryz.prog w = .ok (.bool (decide (k ∈ acc))) w := by
 obtain ⟨v, ps, hrun, hv⟩ := World.ownsMap.lookup h strLaw Tryz.underlying153 (zeroB w) (plainElem_bool Tryz.underlying4 false) (WideMaps.keyOf_string_mk Tryz.underlying9 (s := ⟨k.toArray⟩) hk)
 rw [setS_at] at hv
 have hvv : v = .bool (decide (k ∈ acc)) := by
  unfold plainElem at hv
  rw [Tryz.underlying4] at hv
  cases v with
  | bool b =>
    simp only [Option.some.injEq, Prod.mk.injEq] at hv
    have h1 := hv.1
    injection h1 with h1
    injection h1 with h1
    rw [h1]
  | _ => cases hv
 rw [hrun, hvv]
theorem SetAt.put {w : World} {b n : Nat} {acc : List (List UInt8)} (h : SetAt w b n acc) (hn : n < maxLen) (k : List UInt8) (hk : k.length <= maxLen) :
 ∃ w', (Instr.mapUpdate 153 (.map (some b)) (strV k) (.bool true)).run Tryz.prog w = .ok () w' /\ SetAt w' b (n + 1) (acc ++ [k]) /\ w.grownBy w' (some b) := by
 obtain ⟨w', hrun, h1, h2⟩ := World.ownsMap.update h strLaw Tryz.underlying153 hn (WideMaps.keyOf_string_mk Tryz.underlying9 (s := ⟨k.toArray⟩) hk) (plainElem_bool Tryz.underlying4 true)
 exact ⟨w', hrun, by unfold SetAt; rw [setS_snoc]; exact h1, h2⟩
/-- A text put in, as one operation of a plain region. -/
theorem wpList_putS {ops : Array Oper} {rest : List Oper} {o : Oper} {a : Act} {w : World} {Q : Exit -> Act -> World -> Prop} (hg : o.guard = none) (m x v : Operand) (ho : o.op = .mapUpdate 153 m x v)
 (b n : Nat) (acc : List (List UInt8)) (k : List UInt8) (hm : a.eval m = .map (some b)) (hx : a.eval x = strV k) (hv : a.eval v = .bool true) (h : SetAt w b n acc) (hn : n < maxLen) (hk : k.length <= maxLen)
 (hK : ∀ w', SetAt w' b (n + 1) (acc ++ [k]) -> w.grownBy w' (some b) -> wpList Tryz.prog ops Q rest (a.put o.dst undef) w') : wpList Tryz.prog ops Q (o :: rest) a w := by
 obtain ⟨w', hrun, r1, r2⟩ := h.put hn k hk
 refine wpList_plain hg fun K' hK' => ?_
 unfold Oper.wp
 simp [execOp, ho, hm, hx, hv, hrun, Result.andThen]
 exact hK' _ _ (hK w' r1 r2)
end Go.Proofs.YtbommcakcmhalaaGreatDoor
