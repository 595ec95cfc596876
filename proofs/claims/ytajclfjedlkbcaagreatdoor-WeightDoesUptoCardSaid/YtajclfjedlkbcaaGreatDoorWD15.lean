/- Parts of the proof, one behind the other: RQA, RQD, RSortM, RMF, RMV, RMW. -/
import Derived.Test.YtajclfjedlkbcaaGreatDoorWD14
import Derived.Test.YtajclfjedlkbcaaGreatDoorWD10
import Derived.Test.YtajclfjedlkbcaaGreatDoorWD9
import Derived.Test.YtajclfjedlkbcaaGreatDoorWD13
import Derived.BigQuiet
import Derived.Ground.SlgmProg
import Derived.Shelf.SortM.Plain
import Derived.Shelf.SortM.SortNone
import Derived.Test.YtajclfjedlkbcaaGreatDoorProg
import Derived.Test.YtajclfjedlkbcaaGreatDoorWD8
import Derived.RangeFuncBox
import Derived.RangeFuncNested
import Derived.RangeFuncBound
import Derived.RangeFuncCalls
import Derived.RangeFuncLeaves
import Derived.Shelf.Abstract
import Derived.Shelf.RegionOpen
import Derived.WalkKit
import Derived.OwnWalkIn
import Derived.TacticsInMore
import Derived.LoopNIn
import Derived.LoopIn
import Derived.Maps.AppendAt
import Derived.Sort.OwnSorted
import Derived.Sort.OwnSortedInts
/- Walks: the reference's name, formed (an action), keeps, all. -/
namespace Go.Proofs.YtajclfjedlkbcaaGreatDoor
open Go.RowKit Go.Redl
set_option linter.unusedVariables false
set_option linter.unusedSimpArgs false

theorem rname_ent : ∀ args w, (callFunc 58 args).run Tryz.prog w = .ok (.enter 58 args) w := by intro args w; kernel_rfl
set_option maxRecDepth 100000 in
theorem rname_c (s : List UInt8) (w : World) (hn : s.length ≤ 1000000000) :
    Calls Tryz.prog 58 #[.string ⟨s.toArray⟩] w fun e w' => e = .returned (.bool (nameB s)) ∧ w = w' := by
  have HV := Lib.hid (rval_c s w hn)
  have Hk : Hid (nameB s = (decide (s ≠ []) && valB s)) := rfl
  cases s with
  | nil =>
    go_enter Tryz.func58, Tryz.ntmps58
    go_wp2_with fail
    go_ret
    exact ⟨ret_bool (by rw [Hk.out]; rfl), rfl⟩
  | cons c r =>
    obtain ⟨V, hV⟩ : ∃ V, V = valB (c :: r) := ⟨_, rfl⟩
    have Hz := Lib.hid (show nameB (c :: r) = V by rw [Hk.out, hV]; simp)
    rw [← hV] at HV
    have hne : ((⟨(c :: r).toArray⟩ : ByteArray).toList.isEmpty) = false := by rw [ByteArray.toList_mk]; rfl
    have hne2 : (!(⟨(c :: r).toArray⟩ : ByteArray).toList.isEmpty) = true := by rw [ByteArray.toList_mk]; rfl
    obtain ⟨S, hS⟩ : ∃ S, S = (⟨(c :: r).toArray⟩ : ByteArray) := ⟨_, rfl⟩
    rw [← hS] at hne hne2 HV ⊢
    clear hV hS
    go_enter Tryz.func58, Tryz.ntmps58
    go_wp2_with fail
    refine HV.out.mono ?_
    rintro e w1 ⟨rfl, rfl⟩
    go_wp2_with fail
    go_ret
    exact ⟨ret_bool Hz.out.symm, rfl⟩

theorem rformed_ent : ∀ args w, (callFunc 105 args).run Tryz.prog w = .ok (.enter 105 args) w := by intro args w; kernel_rfl
set_option maxRecDepth 100000 in
set_option maxHeartbeats 1000000 in
theorem rformed_c (x : Int) (t : List UInt8) (w : World) (hn : t.length ≤ 1000000000) :
    Calls Tryz.prog 105 #[.agg #[.int .i64 x, strV t]] w fun e w' => e = .returned (.bool (actB true (x, t))) ∧ Below w.heap.size w w' := by
  obtain ⟨R, hR⟩ : ∃ R, R = actB true (x, t) := ⟨_, rfl⟩
  have Hr := Lib.hid (show R = if x = 4 then nameB t else if x = 3 then true && decide (t = []) else if x = 1 ∨ x = 2 then decide (t = []) else false from hR)
  rw [← hR]
  obtain ⟨w0, hw0⟩ : ∃ w0, w0 = w.alloc (Obj.cells #[.int .i64 x, strV t] 24) := ⟨_, rfl⟩
  have hb0 : Below w.heap.size w w0 := by rw [hw0]; exact one_below _ _
  have hA : At w0 w.heap.size [.int .i64 x, strV t] 24 := by rw [hw0]; exact At.fresh w _ _
  obtain ⟨⟨x0, x1⟩, -, xl⟩ := hA.f2
  have HN := Lib.hid (rname_c t w0 hn)
  have heq := str_eqb t []
  have Hb0 := Lib.hid hb0; have Hw0 := Lib.hid hw0
  clear hR hb0 hw0 hA
  by_cases h4 : x = 4
  · subst h4
    have Hr2 := Lib.hid (show R = nameB t from Hr.out)
    go_enter Tryz.func105, Tryz.ntmps105
    go_upto_region 1 with fail
    rw [← Hw0.out]
    clear Hw0
    go_wp2_with fail
    refine HN.out.mono ?_
    rintro e w1 ⟨rfl, rfl⟩
    clear HN x0 x1 xl
    go_wp2_with fail
    go_ret
    exact ⟨ret_bool Hr2.out.symm, Hb0.out⟩
  · have h4b : (x == 4) = false := beq_eq_false_iff_ne.2 h4
    by_cases hlo : 1 ≤ x
    · by_cases hhi : x ≤ 3
      · have Hr2 := Lib.hid (show R = decide (t = []) by
          rw [Hr.out, if_neg h4]
          by_cases h3 : x = 3
          · rw [if_pos h3]; simp
          · rw [if_neg h3, if_pos (by omega)])
        cases t with
        | nil =>
          go_enter Tryz.func105, Tryz.ntmps105
          go_upto_region 1 with fail
          rw [← Hw0.out]
          clear Hw0
          go_wp2_with fail
          go_ret
          exact ⟨ret_bool (by rw [Hr2.out]; rfl), Hb0.out⟩
        | cons t0 ts =>
          go_enter Tryz.func105, Tryz.ntmps105
          go_upto_region 1 with fail
          rw [← Hw0.out]
          clear Hw0
          go_wp2_with fail
          go_ret
          exact ⟨ret_bool (by rw [Hr2.out]; rfl), Hb0.out⟩
      · have Hr2 := Lib.hid (show R = false by rw [Hr.out, if_neg h4, if_neg (by omega), if_neg (by omega)])
        go_enter Tryz.func105, Tryz.ntmps105
        go_upto_region 1 with fail
        rw [← Hw0.out]
        clear Hw0
        go_wp2_with fail
        go_ret
        exact ⟨ret_bool Hr2.out.symm, Hb0.out⟩
    · have Hr2 := Lib.hid (show R = false by rw [Hr.out, if_neg h4, if_neg (by omega), if_neg (by omega)])
      go_enter Tryz.func105, Tryz.ntmps105
      go_upto_region 1 with fail
      rw [← Hw0.out]
      clear Hw0
      go_wp2_with fail
      go_ret
      exact ⟨ret_bool Hr2.out.symm, Hb0.out⟩

theorem ract_x (r : RuleD) (a : Option Addr) (c : Nat) (k : List UInt8) (W : World) (hr : RowA W W.heap.size 3 a r.kids.length c (pairCells r.kids)) (hn : r.kids.length ≤ 100000000) :
    Calls Tryz.prog 107 #[.agg #[strV r.type, .int .i64 r.text.1, strV r.text.2, .int .i64 r.other.1, strV r.other.2, .slice a r.kids.length c, .int .i64 r.fill, strV r.fillT], strV k] W (ActP W (actIn r k)) := ract_c r a c k W hr hn
theorem rkeeps_ent : ∀ args w, (callFunc 61 args).run Tryz.prog w = .ok (.enter 61 args) w := by intro args w; kernel_rfl
set_option maxRecDepth 100000 in
set_option maxHeartbeats 1000000 in
theorem rkeeps_c (r : RuleD) (a : Option Addr) (c : Nat) (k : List UInt8) (W : World) (hr : RowA W W.heap.size 3 a r.kids.length c (pairCells r.kids)) (hn : r.kids.length ≤ 100000000) :
    Calls Tryz.prog 61 #[.agg #[strV r.type, .int .i64 r.text.1, strV r.text.2, .int .i64 r.other.1, strV r.other.2, .slice a r.kids.length c, .int .i64 r.fill, strV r.fillT], strV k] W fun e w' => e = .returned (.bool (decide ((actIn r k).1 = 1))) ∧ Below W.heap.size W w' := by
  obtain ⟨w0, hw0⟩ : ∃ w0, w0 = W.alloc (Obj.cells #[strV r.type, .int .i64 r.text.1, strV r.text.2, .int .i64 r.other.1, strV r.other.2, .slice a r.kids.length c, .int .i64 r.fill, strV r.fillT] 27) := ⟨_, rfl⟩
  have hb0 : Below W.heap.size W w0 := by rw [hw0]; exact one_below _ _
  have hA : At w0 W.heap.size [strV r.type, .int .i64 r.text.1, strV r.text.2, .int .i64 r.other.1, strV r.other.2, .slice a r.kids.length c, .int .i64 r.fill, strV r.fillT] 27 := by rw [hw0]; exact At.fresh W _ _
  have hlr := load_at (P := Tryz.prog) hA Tryz.underlying27 rfl (by kernel_rfl)
  simp [go_sem] at hlr
  have HT := Lib.hid (ract_x r a c k w0 (hr.keep hb0 hb0.size) hn)
  obtain ⟨⟨a1, t1⟩, hA1⟩ : ∃ z, actIn r k = z := ⟨_, rfl⟩
  rw [hA1] at HT ⊢
  have Hw0 := Lib.hid hw0; have Hb0 := Lib.hid hb0
  have xl := hA.lt
  have hfa := field_do
  have heq1 : (a1 == 1) = decide (a1 = 1) := by by_cases h : a1 = 1 <;> simp [h]
  clear hw0 hb0 hA hr hA1
  go_enter Tryz.func61, Tryz.ntmps61
  go_upto_region 1 with fail
  rw [← Hw0.out]
  clear Hw0
  go_wp2_with fail
  refine HT.out.mono ?_
  rintro e w1 ⟨rfl, hbel⟩
  have Hb1 := Lib.hid (Hb0.out.trans (hbel.mono Hb0.out.size))
  clear hbel HT hlr
  go_wp2_with fail
  go_ret
  exact ⟨rfl, Hb1.out⟩

theorem rall_ent : ∀ args w, (callFunc 28 args).run Tryz.prog w = .ok (.enter 28 args) w := by intro args w; kernel_rfl
theorem rall_x (s : SchemaD) (v : Value) (B : Nat) (W : World) (hw : s.wt ≤ 100000000) (hv : SchemaV W B s v) (hB : B ≤ W.heap.size) : Calls Tryz.prog 28 #[v] W (AllRB s B W) := by
  have hrl : s.rules.length ≤ 100000000 := by have := rulesWt_len s.rules; unfold SchemaD.wt at hw; omega
  obtain ⟨a, c, css, ea, ec, o0, o1, o2, o3, o4, o5, rfl, h1, h2, h3, -⟩ := hv.open
  refine (rall_c a s.rules.length c css _ _ _ _ _ _ _ ea _ ec _ _ _ _ _ _ _ W (h1.keep (Below.refl _ _) hB) hrl).mono ?_
  rintro e w' ⟨v', rfl, hown, hb⟩
  have h2' := RulesC.keep (hb.mono hB) (Nat.le_refl _) h2
  have hx : RuleC w' B s.els [strV s.els.type, .int .i64 s.els.text.1, strV s.els.text.2, .int .i64 s.els.other.1, strV s.els.other.2, .slice ea s.els.kids.length ec, .int .i64 s.els.fill, strV s.els.fillT] := ⟨ea, ec, rfl, h3.keep (hb.mono hB) (Nat.le_refl _)⟩
  have h4 := RulesC.push_ hx h2'
  obtain ⟨a', c', rfl, hr⟩ := rowq_own hown (h4.one)
  refine ⟨a', c', _, ?_, ?_, h4, hb⟩
  · simp
  · simpa using hr

end Go.Proofs.YtajclfjedlkbcaaGreatDoor
/- A region that draws its order, only reads, and whose callees lay blocks at the most: one walk, in every world behind. -/
namespace Go.Proofs.YtajclfjedlkbcaaGreatDoor
open Go.RowKit Go.Redl
set_option linter.unusedVariables false
set_option linter.unusedSimpArgs false

/-- A world behind w0: nothing that lay there is other. -/
structure Beh (w0 : World) where
  w : World
  h : Below w0.heap.size w0 w
instance (w0 : World) : Nonempty (Beh w0) := ⟨⟨w0, Below.refl _ _⟩⟩
theorem drew_below (w : World) : Below w.heap.size w { w with drawn := w.drawn + 1 } := Below.drew (Below.refl _ w)
theorem wp_region_beh {P : Program} {id : Nat} {Q : Exit → Act → World → Prop} {a : Act} {w : World} {l : List Oper} (hm : P.follows .mixedOrders = true) (hB : Region.lexB .any l.toArray = true)
    (h : wpQuiet P l.toArray (fun w' => ∃ p : Beh w, w' = p.w) (fun a' => ∀ w', (∃ p : Beh w, w' = p.w) → Q .normal a' w') l a) : (Code.region id l.toArray true).wp P Q a w :=
  wp_region_quiet (C := fun w' => ∃ p : Beh w, w' = p.w) hm hB ⟨⟨_, drew_below w⟩, rfl⟩ (by simpa using h)
theorem calls_beh {P : Program} {f : FuncId} {args : Array Value} {w0 : World} {p : Beh w0} {v : Value} (h : Calls P f args p.w fun e w' => e = .returned v ∧ Below p.w.heap.size p.w w') :
    Calls P f args p.w fun e w'' => e = .returned v ∧ ∃ p' : Beh w0, w'' = p'.w :=
  h.mono fun e w' ⟨he, hb⟩ => ⟨he, ⟨w', p.h.trans (hb.mono p.h.size)⟩, rfl⟩
theorem calls_beh0 {P : Program} {f : FuncId} {args : Array Value} {w0 : World} {p : Beh w0} {v : Value} (h : Calls P f args p.w fun e w' => e = .returned v ∧ p.w = w') :
    Calls P f args p.w fun e w'' => e = .returned v ∧ ∃ p' : Beh w0, w'' = p'.w :=
  h.mono fun e w' ⟨he, hb⟩ => ⟨he, p, hb.symm⟩

end Go.Proofs.YtajclfjedlkbcaaGreatDoor
/- slices.Sort at []int and []string: its bodies at this program, laid by the kit, in plain words. -/
namespace Go.Proofs
open Go.Shelf
def Tryz.sortI_ren : Go.Shelf.Ren := ⟨fun | 5 => 93 | 8 => 109 | 7 => 119 | 19 => 132 | 20 => 133 | 10 => 136 | 11 => 137 | 12 => 138 | 13 => 139 | 14 => 140 | 15 => 141 | 16 => 142 | 17 => 143 | 18 => 144 | 30 => 167 | 31 => 162 | 32 => 163 | 33 => 168 | 34 => 169 | 35 => 166 | 40 => 179 | n => n, fun | 23 => 47 | 25 => 3 | 3 => 3 | 32 => 136 | 22 => 47 | 0 => 0 | 44 => 156 | 46 => 158 | 4 => 4 | 36 => 150 | 35 => 149 | 41 => 72 | 5 => 5 | 9 => 9 | 53 => 181 | 57 => 160 | 63 => 194 | 64 => 195 | n => n, fun | n => n⟩
theorem Tryz.sortI : Go.Proofs.SlLaysM.n5 Tryz.prog Tryz.sortI_ren := {
  mixed := by kernel_rfl
  f5 := ⟨Tryz.f93.name, by decide, Tryz.func93.trans (congrArg some (by kernel_rfl))⟩
  f7 := ⟨Tryz.f119.name, by decide, Tryz.func119.trans (congrArg some (by kernel_rfl))⟩
  f8 := Tryz.func109.trans (congrArg some (by kernel_rfl))
  f10 := ⟨Tryz.f136.name, by decide, Tryz.func136.trans (congrArg some (by kernel_rfl))⟩
  f11 := ⟨Tryz.f137.name, by decide, Tryz.func137.trans (congrArg some (by kernel_rfl))⟩
  f12 := ⟨Tryz.f138.name, by decide, Tryz.func138.trans (congrArg some (by kernel_rfl))⟩
  f13 := ⟨Tryz.f139.name, by decide, Tryz.func139.trans (congrArg some (by kernel_rfl))⟩
  f14 := ⟨Tryz.f140.name, by decide, Tryz.func140.trans (congrArg some (by kernel_rfl))⟩
  f15 := ⟨Tryz.f141.name, by decide, Tryz.func141.trans (congrArg some (by kernel_rfl))⟩
  f16 := ⟨Tryz.f142.name, by decide, Tryz.func142.trans (congrArg some (by kernel_rfl))⟩
  f17 := ⟨Tryz.f143.name, by decide, Tryz.func143.trans (congrArg some (by kernel_rfl))⟩
  f18 := ⟨Tryz.f144.name, by decide, Tryz.func144.trans (congrArg some (by kernel_rfl))⟩
  f19 := Tryz.func132.trans (congrArg some (by kernel_rfl))
  f20 := Tryz.func133.trans (congrArg some (by kernel_rfl))
  f30 := ⟨Tryz.f167.name, by decide, Tryz.func167.trans (congrArg some (by kernel_rfl))⟩
  f31 := Tryz.func162.trans (congrArg some (by kernel_rfl))
  f32 := Tryz.func163.trans (congrArg some (by kernel_rfl))
  f33 := ⟨Tryz.f168.name, by decide, Tryz.func168.trans (congrArg some (by kernel_rfl))⟩
  f34 := ⟨Tryz.f169.name, by decide, Tryz.func169.trans (congrArg some (by kernel_rfl))⟩
  f35 := ⟨Tryz.f166.name, by decide, Tryz.func166.trans (congrArg some (by kernel_rfl))⟩
  f40 := ⟨Tryz.f179.name, by decide, Tryz.func179.trans (congrArg some (by kernel_rfl))⟩
  t0 := Tryz.underlying0
  a0 := Tryz.isAgg0
  z0 := Tryz.sizeOf0
  v0 := Tryz.zeroValue0
  t3 := Tryz.underlying3
  a3 := Tryz.isAgg3
  z3 := Tryz.sizeOf3
  v3 := Tryz.zeroValue3
  t4 := Tryz.underlying4
  a4 := Tryz.isAgg4
  z4 := Tryz.sizeOf4
  v4 := Tryz.zeroValue4
  t5 := Tryz.underlying5
  a5 := Tryz.isAgg5
  z5 := Tryz.sizeOf5
  v5 := Tryz.zeroValue5
  t9 := Tryz.underlying9
  a9 := Tryz.isAgg9
  z9 := Tryz.sizeOf9
  v9 := Tryz.zeroValue9
  t22 := Tryz.underlying47
  a22 := Tryz.isAgg47
  z22 := Tryz.sizeOf47
  v22 := Tryz.zeroValue47
  t23 := Tryz.underlying47
  a23 := Tryz.isAgg47
  z23 := Tryz.sizeOf47
  v23 := Tryz.zeroValue47
  t25 := Tryz.underlying3
  a25 := Tryz.isAgg3
  z25 := Tryz.sizeOf3
  v25 := Tryz.zeroValue3
  t32 := Tryz.underlying136
  a32 := Tryz.isAgg136
  z32 := Tryz.sizeOf136
  v32 := Tryz.zeroValue136
  t35 := Tryz.underlying149
  a35 := Tryz.isAgg149
  z35 := Tryz.sizeOf149
  v35 := Tryz.zeroValue149
  t36 := Tryz.underlying150
  a36 := Tryz.isAgg150
  z36 := Tryz.sizeOf150
  v36 := Tryz.zeroValue150
  t41 := Tryz.underlying72
  a41 := Tryz.isAgg72
  z41 := Tryz.sizeOf72
  v41 := Tryz.zeroValue72
  t44 := Tryz.underlying156
  a44 := Tryz.isAgg156
  z44 := Tryz.sizeOf156
  v44 := Tryz.zeroValue156
  t46 := Tryz.underlying158
  a46 := Tryz.isAgg158
  z46 := Tryz.sizeOf158
  v46 := Tryz.zeroValue158
  t53 := Tryz.underlying181
  a53 := Tryz.isAgg181
  z53 := Tryz.sizeOf181
  v53 := Tryz.zeroValue181
  t57 := Tryz.underlying160
  a57 := Tryz.isAgg160
  z57 := Tryz.sizeOf160
  v57 := Tryz.zeroValue160
  t63 := Tryz.underlying194
  a63 := Tryz.isAgg194
  z63 := Tryz.sizeOf194
  v63 := Tryz.zeroValue194
  t64 := Tryz.underlying195
  a64 := Tryz.isAgg195
  z64 := Tryz.sizeOf195
  v64 := Tryz.zeroValue195 }
def Tryz.sortS_ren : Go.Shelf.Ren := ⟨fun | 6 => 100 | 8 => 109 | 9 => 121 | 19 => 132 | 20 => 133 | 21 => 152 | 22 => 153 | 23 => 154 | 24 => 155 | 25 => 156 | 26 => 157 | 27 => 158 | 28 => 159 | 29 => 160 | 36 => 174 | 31 => 162 | 32 => 163 | 37 => 175 | 38 => 176 | 39 => 177 | 41 => 183 | n => n, fun | 27 => 91 | 29 => 9 | 3 => 3 | 32 => 136 | 26 => 91 | 0 => 0 | 44 => 156 | 46 => 158 | 4 => 4 | 36 => 150 | 35 => 149 | 41 => 72 | 5 => 5 | 9 => 9 | 53 => 181 | 57 => 160 | 63 => 194 | 64 => 195 | n => n, fun | n => n⟩
theorem Tryz.sortS : Go.Proofs.SlLaysM.n6 Tryz.prog Tryz.sortS_ren := {
  mixed := by kernel_rfl
  f6 := ⟨Tryz.f100.name, by decide, Tryz.func100.trans (congrArg some (by kernel_rfl))⟩
  f8 := Tryz.func109.trans (congrArg some (by kernel_rfl))
  f9 := ⟨Tryz.f121.name, by decide, Tryz.func121.trans (congrArg some (by kernel_rfl))⟩
  f19 := Tryz.func132.trans (congrArg some (by kernel_rfl))
  f20 := Tryz.func133.trans (congrArg some (by kernel_rfl))
  f21 := ⟨Tryz.f152.name, by decide, Tryz.func152.trans (congrArg some (by kernel_rfl))⟩
  f22 := ⟨Tryz.f153.name, by decide, Tryz.func153.trans (congrArg some (by kernel_rfl))⟩
  f23 := ⟨Tryz.f154.name, by decide, Tryz.func154.trans (congrArg some (by kernel_rfl))⟩
  f24 := ⟨Tryz.f155.name, by decide, Tryz.func155.trans (congrArg some (by kernel_rfl))⟩
  f25 := ⟨Tryz.f156.name, by decide, Tryz.func156.trans (congrArg some (by kernel_rfl))⟩
  f26 := ⟨Tryz.f157.name, by decide, Tryz.func157.trans (congrArg some (by kernel_rfl))⟩
  f27 := ⟨Tryz.f158.name, by decide, Tryz.func158.trans (congrArg some (by kernel_rfl))⟩
  f28 := ⟨Tryz.f159.name, by decide, Tryz.func159.trans (congrArg some (by kernel_rfl))⟩
  f29 := ⟨Tryz.f160.name, by decide, Tryz.func160.trans (congrArg some (by kernel_rfl))⟩
  f31 := Tryz.func162.trans (congrArg some (by kernel_rfl))
  f32 := Tryz.func163.trans (congrArg some (by kernel_rfl))
  f36 := ⟨Tryz.f174.name, by decide, Tryz.func174.trans (congrArg some (by kernel_rfl))⟩
  f37 := ⟨Tryz.f175.name, by decide, Tryz.func175.trans (congrArg some (by kernel_rfl))⟩
  f38 := ⟨Tryz.f176.name, by decide, Tryz.func176.trans (congrArg some (by kernel_rfl))⟩
  f39 := ⟨Tryz.f177.name, by decide, Tryz.func177.trans (congrArg some (by kernel_rfl))⟩
  f41 := ⟨Tryz.f183.name, by decide, Tryz.func183.trans (congrArg some (by kernel_rfl))⟩
  t0 := Tryz.underlying0
  a0 := Tryz.isAgg0
  z0 := Tryz.sizeOf0
  v0 := Tryz.zeroValue0
  t3 := Tryz.underlying3
  a3 := Tryz.isAgg3
  z3 := Tryz.sizeOf3
  v3 := Tryz.zeroValue3
  t4 := Tryz.underlying4
  a4 := Tryz.isAgg4
  z4 := Tryz.sizeOf4
  v4 := Tryz.zeroValue4
  t5 := Tryz.underlying5
  a5 := Tryz.isAgg5
  z5 := Tryz.sizeOf5
  v5 := Tryz.zeroValue5
  t9 := Tryz.underlying9
  a9 := Tryz.isAgg9
  z9 := Tryz.sizeOf9
  v9 := Tryz.zeroValue9
  t26 := Tryz.underlying91
  a26 := Tryz.isAgg91
  z26 := Tryz.sizeOf91
  v26 := Tryz.zeroValue91
  t27 := Tryz.underlying91
  a27 := Tryz.isAgg91
  z27 := Tryz.sizeOf91
  v27 := Tryz.zeroValue91
  t29 := Tryz.underlying9
  a29 := Tryz.isAgg9
  z29 := Tryz.sizeOf9
  v29 := Tryz.zeroValue9
  t32 := Tryz.underlying136
  a32 := Tryz.isAgg136
  z32 := Tryz.sizeOf136
  v32 := Tryz.zeroValue136
  t35 := Tryz.underlying149
  a35 := Tryz.isAgg149
  z35 := Tryz.sizeOf149
  v35 := Tryz.zeroValue149
  t36 := Tryz.underlying150
  a36 := Tryz.isAgg150
  z36 := Tryz.sizeOf150
  v36 := Tryz.zeroValue150
  t41 := Tryz.underlying72
  a41 := Tryz.isAgg72
  z41 := Tryz.sizeOf72
  v41 := Tryz.zeroValue72
  t44 := Tryz.underlying156
  a44 := Tryz.isAgg156
  z44 := Tryz.sizeOf156
  v44 := Tryz.zeroValue156
  t46 := Tryz.underlying158
  a46 := Tryz.isAgg158
  z46 := Tryz.sizeOf158
  v46 := Tryz.zeroValue158
  t53 := Tryz.underlying181
  a53 := Tryz.isAgg181
  z53 := Tryz.sizeOf181
  v53 := Tryz.zeroValue181
  t57 := Tryz.underlying160
  a57 := Tryz.isAgg160
  z57 := Tryz.sizeOf160
  v57 := Tryz.zeroValue160
  t63 := Tryz.underlying194
  a63 := Tryz.isAgg194
  z63 := Tryz.sizeOf194
  v63 := Tryz.zeroValue194
  t64 := Tryz.underlying195
  a64 := Tryz.isAgg195
  z64 := Tryz.sizeOf195
  v64 := Tryz.zeroValue195 }
end Go.Proofs
/- Walk: table's types at a schema's rules. -/
namespace Go.Proofs.YtajclfjedlkbcaaGreatDoor
open Go.RowKit Go.Redl
set_option linter.unusedVariables false
set_option linter.unusedSimpArgs false

theorem typesR_ent : ∀ args w, (callFunc 49 args).run Tryz.prog w = .ok (.enter 49 args) w := by intro args w; kernel_rfl
abbrev ruleTypes (l : List RuleD) : List Value := l.map fun p => strV p.type
set_option maxRecDepth 100000 in
set_option maxHeartbeats 2000000 in
theorem typesR_c (l : List RuleD) (a : Option Addr) (cap : Nat) (css : List Value) (W : World) (hr : RowA W W.heap.size 8 a l.length cap css) (hc : RulesC W W.heap.size l css) (hn : l.length ≤ 100000000) :
    Calls Tryz.prog 49 #[.slice a l.length cap, .func (.func 50) #[] #[]] W fun e w' => e = .returned (.slice (some ⟨W.heap.size, 0, none⟩) l.length l.length) ∧ At w' W.heap.size (ruleTypes l) 9 ∧ Below W.heap.size W w' := by
  obtain ⟨w0, hw0⟩ : ∃ w0, w0 = W.alloc (.cells (List.replicate l.length (strV [])).toArray 9) := ⟨_, rfl⟩
  have hb0 : Below W.heap.size W w0 := by rw [hw0]; exact one_below _ _
  have hA : At w0 W.heap.size (List.replicate l.length (strV [])) 9 := by rw [hw0]; exact At.fresh W _ _
  have hMk := make_strs l.length hn W
  rw [← hw0] at hMk
  have Hr := Lib.hid (fun (w' : World) (hb : Below W.heap.size W w') => hr.keep hb hb.size)
  have Hc := Lib.hid (fun (w' : World) (hb : Below W.heap.size W w') => RulesC.keep hb hb.size hc)
  have HA := Lib.hid hA; have Hb0 := Lib.hid hb0
  have HE := ruletype_ent
  clear hr hc hA hb0 hw0
  go_enter Tryz.func49, Tryz.ntmps49
  go_wp2_with fail
  go_loopg [13] l.length (fun g i wr => ∃ k : Nat, i = .int .i64 k ∧ k + g = l.length ∧ Hid (At wr W.heap.size (ruleTypes (l.take k) ++ List.replicate (l.length - k) (strV [])) 9) ∧ Hid (Below W.heap.size W wr))
  case atStart => exact ⟨0, rfl, by omega, (show At w0 W.heap.size (ruleTypes (l.take 0) ++ List.replicate (l.length - 0) (strV [])) 9 by simpa using HA.out), Hb0⟩
  case round =>
    obtain ⟨k, rfl, hg, hat, hbr⟩ := hrel
    by_cases hlt : k < l.length
    · have hlti : (k : Int) < l.length := by omega
      obtain ⟨b, off, ra, rc, rfl, hlb, -, p0, p1, p2, p3, p4, p5, p6, p7⟩ := rule8 (Hr.out wr hbr.out) (Hc.out wr hbr.out) k hlt
      have Hst := Lib.hid (show l.take (k + 1) = l.take k ++ [l[k]] from List.take_succ_eq_append_getElem hlt)
      generalize l[k] = q at p0 p1 p2 p3 p4 p5 p6 p7 Hst
      obtain ⟨q0, ⟨q1, q2⟩, ⟨q3, q4⟩, q5, q6, q7⟩ := q
      simp only at p0 p1 p2 p3 p4 p5 p6 p7
      have HC := Lib.hid (fun (w1 : World) => ruletype_c q0 (.int .i64 q1) (strV q2) (.int .i64 q3) (strV q4) (.slice ra q5.length rc) (.int .i64 q6) (strV q7) w1)
      clear hlb
      go_wp2_with fail
      refine (HC.out _).mono ?_
      rintro e w2 ⟨rfl, hbel⟩
      have hb2 : Below wr.heap.size wr w2 := (one_below wr (Obj.cells #[strV q0, .int .i64 q1, strV q2, .int .i64 q3, strV q4, .slice ra q5.length rc, .int .i64 q6, strV q7] 27)).trans (hbel.mono (one_below wr _).size)
      have hA2 := hat.out.kept hb2
      have Hb2 := Lib.hid (hbr.out.trans (hb2.mono hbr.out.size))
      have cf : w2.frozen? ⟨W.heap.size, k, none⟩ = false := Lib.frozen_of_heap hA2 _
      have cc : w2.cell? ⟨W.heap.size, k, none⟩ = some (strV []) := hA2.cell k (by
        have hkl : (ruleTypes (l.take k)).length = k := by simp; omega
        rw [List.getElem?_append_right (by omega), List.getElem?_replicate, if_pos (by omega)])
      have HA2 := Lib.hid hA2
      clear hbel hb2 hA2 HC p0 p1 p2 p3 p4 p5 p6 p7
      go_wp2_with fail
      go_roundg (l.length - (k + 1))
      case measure => omega
      case rel =>
        refine ⟨k + 1, by go_num, by omega, ?_, (show Below _ _ _ from Hb2.out.setCell (p := ⟨W.heap.size, k, none⟩) (Nat.le_refl _) _)⟩
        show At _ W.heap.size (ruleTypes (l.take (k + 1)) ++ List.replicate (l.length - (k + 1)) (strV [])) 9
        have h := HA2.out.set k (strV q0)
        rw [List.set_append_right _ _ (by simp; omega)] at h
        rw [Hst.out]
        have e : l.length - k = (l.length - (k + 1)) + 1 := by omega
        rw [e, List.replicate_succ] at h
        simpa [Nat.min_eq_left (Nat.le_of_lt hlt)] using h
    · obtain rfl : k = l.length := by omega
      have Hfin := Lib.hid (show At wr W.heap.size (ruleTypes l) 9 by have h := hat.out; rw [List.take_length, Nat.sub_self] at h; simpa using h)
      have hnl : ¬ (l.length : Int) < l.length := by omega
      clear hat
      go_wp2_with fail
      go_ret
      exact ⟨rfl, Hfin.out, hbr.out⟩

end Go.Proofs.YtajclfjedlkbcaaGreatDoor
/- slices.Values over a row of numbers in memory; slices.AppendSeq, slices.Collect over it (the worked texts on iterators over slices, turned to this program). -/
namespace Go.Proofs.YtajclfjedlkbcaaGreatDoor
open Go.RowKit Go.Redl Go.Shelf
set_option linter.unusedVariables false
set_option linter.unusedSimpArgs false
attribute [local go_sem] Oper.semAt_some

/-- What has come when k rounds are over. -/
def upTo (f : Nat → Int) (k : Nat) : List Int := (List.range k).map f
theorem upTo_succ (f : Nat → Int) (k : Nat) : upTo f (k + 1) = upTo f k ++ [f k] := by simp [upTo, List.range_succ]
theorem upTo_length (f : Nat → Int) (k : Nat) : (upTo f k).length = k := by simp [upTo]
theorem upTo_take (zs : List Int) {k : Nat} (hk : k ≤ zs.length) : upTo (fun j => zs[j]?.getD 0) k = zs.take k := by
  apply List.ext_getElem
  · simp [upTo, hk]
  · intro i h1 h2
    have : i < zs.length := by simp [upTo] at h1; omega
    simp [upTo, this]

set_option maxRecDepth 100000 in
set_option maxHeartbeats 2000000 in
/-- slices.Values's closure, for every loop body that keeps what lay below n₀. -/
theorem values1_in (F : Fence) (n : Nat) (h7 : F.fn 94) (hro : F.round = none) (hn : 1 ≤ n) (l Bs n₀ b off len cap : Nat) (zs : List Int) (hreach : len * 8 ≤ 140737488351232) (hb : b < n₀) (J Jx : List Int → World → Prop)
    (hY : ∀ pre x W, J pre W → pre.length < len → YieldAt F (n - 1) Tryz.prog l #[.int .i64 x] W fun e W' =>
      (e = .returned (.bool true) ∧ J (pre ++ [x]) W' ∧ Below n₀ W W') ∨ (e = .returned (.bool false) ∧ Jx (pre ++ [x]) W'))
    (W : World) (hBs : W.cell? ⟨Bs, 0, none⟩ = some (.slice (some ⟨b, off, none⟩) len cap)) (hc : ∀ j, j < len → W.cell? ⟨b, off + j, none⟩ = some (.int .i64 (zs[j]?.getD 0))) (h0 : J [] W) :
    CallsIn F n Tryz.prog 94 #[.func (.yield l) #[] #[], .pointer (some ⟨Bs, 0, none⟩)] W fun e W' => (∃ v, e = .returned v) ∧
      ((∃ ys, ys = upTo (fun j => zs[j]?.getD 0) len ∧ J ys W') ∨ (∃ pre, (∃ k, k ≤ len ∧ pre = upTo (fun j => zs[j]?.getD 0) k) ∧ Jx pre W')) := by
  refine callsIn_of_wp Tryz.func94 rfl h7 ?_ hro
  simp only [Tryz.ntmps94, List.size_toArray, List.length_cons, List.length_nil, Nat.reduceAdd, Nat.reduceSub, Array.replicate_succ, Array.replicate_zero, List.push_toArray, List.append_toArray, List.nil_append, List.cons_append]
  gi_wp2
  gi_loopw [7] (fun i wr => ∃ k : Nat, k ≤ len ∧ i = .int .i64 k ∧ J (upTo (fun j => zs[j]?.getD 0) k) wr ∧ Below n₀ W wr)
    (fun i _ => len - (intOf i).toNat)
  case atStart => exact ⟨0, Nat.zero_le _, rfl, h0, Below.refl _ _⟩
  case round =>
    obtain ⟨k, hk, rfl, hJs, hnx⟩ := hrel
    have hcx : k < len → wr.cell? ⟨b, off + k, none⟩ = some (.int .i64 (zs[k]?.getD 0)) := fun h => (hnx.cell (p := ⟨b, off + k, none⟩) hb).trans (hc k h)
    by_cases hlt : k < len
    · obtain ⟨fn, tmps, assign, body, hy, hR⟩ := hY _ (zs[k]?.getD 0) wr hJs (by rw [upTo_length]; exact hlt)
      have hcx' := hcx hlt
      gi_wp2
      refine hR.mono ?_
      rintro e W3 (⟨rfl, hJ3, hk3⟩ | ⟨rfl, hJx3⟩)
      · gi_wp2
        go_roundw
        case rel => exact ⟨k + 1, by omega, by simp, by rw [upTo_succ]; exact hJ3, hnx.trans hk3⟩
        case measure => simp [intOf]; omega
      · gi_wp2
        refine bodyPost_ret (results_none rfl _ _ _) rfl ?_
        exact ⟨⟨_, rfl⟩, .inr ⟨_, ⟨k + 1, by omega, (upTo_succ _ _).symm⟩, hJx3⟩⟩
    · obtain rfl : k = len := by omega
      gi_wp2
      go_end0
      exact ⟨⟨_, rfl⟩, .inl ⟨_, rfl, hJs⟩⟩

set_option maxHeartbeats 1000000 in
/-- slices.Values: the slice is boxed, and captured. -/
theorem values_c (a : Option Addr) (len cap : Nat) (w : World) :
    Calls Tryz.prog 46 #[.slice a len cap] w fun e w' => e = .returned (.func (.func 94) #[] #[.pointer (some ⟨w.heap.size, 0, none⟩)]) ∧ w' = w.alloc (.cells #[.slice a len cap] 47) := by
  go_enter Tryz.func46, Tryz.ntmps46
  go_wp2
  go_ret
  exact ⟨rfl, rfl⟩

/-- slices.Values hands back an iterator that gives all numbers, in order. -/
theorem values_stops (F : Fence) (n : Nat) (h7 : F.fn 94) (hro : F.round = none) (hn : 1 ≤ n) (Bs n₀ b off cap : Nat) (zs : List Int) (hreach : zs.length * 8 ≤ 140737488351232) (w : World) (hBs : Bs < w.heap.size) (hn₀ : n₀ ≤ w.heap.size) (hb : b < n₀)
    (hc : w.cell? ⟨Bs, 0, none⟩ = some (.slice (some ⟨b, off, none⟩) zs.length cap)) (hI : ∀ j, j < zs.length → w.cell? ⟨b, off + j, none⟩ = some (.int .i64 (zs[j]?.getD 0))) :
    SeqStopsK F n Tryz.prog 94 #[.pointer (some ⟨Bs, 0, none⟩)] (fun x : Int => #[Value.int .i64 x]) (Below n₀) (fun ys => ys = zs) (fun pre => pre <+: zs) zs.length w := fun l J Jx W hW _ _ hY h0 => by
  have hc' := (hW.cell (p := ⟨Bs, 0, none⟩) hBs).trans hc
  refine (values1_in F n h7 hro hn l Bs n₀ b off zs.length cap zs hreach hb J Jx hY W hc' (fun j hj => (hW.cell (p := ⟨b, off + j, none⟩) (Nat.lt_of_lt_of_le hb hn₀)).trans (hI j hj)) h0).mono ?_
  rintro e W' ⟨he, ⟨ys, rfl, hj⟩ | ⟨pre, ⟨k, hk, rfl⟩, hj⟩⟩
  · exact ⟨he, .inl ⟨_, by rw [upTo_take zs (Nat.le_refl _), List.take_length], hj⟩⟩
  · exact ⟨he, .inr ⟨_, by rw [upTo_take zs hk]; exact List.take_prefix _ _, hj⟩⟩

theorem info_intT : (Tryz.prog.info? 3).map (fun i => (i.zero, i.size, i.bytes)) = some (some (.int .i64 0), 1, 8) := by kernel_rfl

set_option maxRecDepth 100000 in
set_option maxHeartbeats 2000000 in
/-- slices.AppendSeq onto nothing, over slices.Values. -/
theorem appseq_in (F : Fence) (n : Nat) (hF : F.fn 118) (h7 : F.fn 94) (hro : F.round = none) (hn : 3 ≤ n) (Bs b off cap : Nat) (zs : List Int) (hreach : zs.length ≤ 1000000) (w : World) (hBs : Bs < w.heap.size) (hb : b < w.heap.size)
    (hc : w.cell? ⟨Bs, 0, none⟩ = some (.slice (some ⟨b, off, none⟩) zs.length cap)) (hI : ∀ j, j < zs.length → w.cell? ⟨b, off + j, none⟩ = some (.int .i64 (zs[j]?.getD 0))) :
    CallsIn F n Tryz.prog 118 #[.slice none 0 0, .func (.func 94) #[] #[.pointer (some ⟨Bs, 0, none⟩)]] w fun e W' => ∃ v, e = .returned v ∧ W'.ownsRow w.heap.size 3 1 v zs.length (zs.map (Value.int .i64)) ∧ (v = .slice none 0 0 ↔ zs = []) ∧ Below w.heap.size w W' := by
  have h1 : 1 ≤ n := by omega
  obtain ⟨i0, hi, hz0, hz1, hz2⟩ := info_parts info_intT
  refine callsIn_of_wp_marks Tryz.func118 rfl hF ?_ hro
  simp only [Tryz.ntmps118, List.size_toArray, List.length_cons, List.length_nil, Nat.reduceAdd, Nat.reduceSub, Array.replicate_succ, Array.replicate_zero, List.push_toArray, List.append_toArray, List.nil_append, List.cons_append]
  gi_wp2
  have bO := Boxed.new w 47 (.slice none 0 0)
  have hB0 : Below w.heap.size w (w.alloc (.cells #[.slice none 0 0] 47)) := (Below.refl _ w).alloc (Nat.le_refl _) _
  refine wpIn_rangeFunc_ownG hro h1 (gf := 94) (lb := #[.pointer (some ⟨Bs, 0, none⟩)]) rfl h7 (enters_of Tryz.func94 (by kernel_rfl) rfl)
    (values_stops F (n - 1) h7 hro (by omega) Bs w.heap.size b off cap zs (by omega) _ (by simp; omega) (by simp) hb ((hB0.cell (p := ⟨Bs, 0, none⟩) hBs).trans hc) (fun j hj => (hB0.cell (p := ⟨b, off + j, none⟩) hb).trans (hI j hj))) belowK_t (belowK_b (by simp)) (Below.refl _ _) (fun _ => rfl)
    (fun pre W => (∃ v, Boxed W w.heap.size 47 v ∧ W.ownsRow w.heap.size 3 1 v pre.length (pre.map (Value.int .i64)) ∧ (v = .slice none 0 0 ↔ pre = [])) ∧ Below w.heap.size w W)
    (fun _ _ _ => False)
    (OwnFrom.and (Own.from (holdsRow_own w.heap.size w.heap.size 47 3 1 (fun pre => pre.length) (fun pre => pre.map (Value.int .i64)) (fun pre v => v = .slice none 0 0 ↔ pre = [])) _) (ownFrom_below (Nat.le_refl _) (by simp)))
    (fun _ _ _ _ _ hs _ _ => hs)
    ⟨⟨_, bO, World.ownsRow_nil _ _ _ _, by simp⟩, hB0⟩
    (fun x => { tmps := #[.slice none 0 0, .func (.func 94) #[] #[.pointer (some ⟨Bs, 0, none⟩)], .pointer (some ⟨w.heap.size, 0, none⟩), undef, .slice none 0 0, .int .i64 x, .func (.func 94) #[] #[.pointer (some ⟨Bs, 0, none⟩)], .int .i64 x, undef, undef, undef, undef, undef], defers := [] }) ?assign ?body ?done ?stop
  case assign =>
    intro l x W K hK
    gi_wp2
    exact hK
  case body =>
    rintro l pre x W ⟨⟨v, hv, hrow, hnil⟩, hB⟩ hlt
    have hc := hv.cell
    gi_wp2_with (gi_at_builtin; refine wpListIn_append_own _ rfl _ _ 47 rfl w.heap.size 3 i0 (.int .i64 0) 1 8 Tryz.underlying47 hi hz0 hz1 hz2 rfl (by decide) _ _ _ rfl (hrow.alloc _) ⟨W.heap.size, 0, none⟩ 1 1 [.int .i64 x] rfl rfl (cell_one_new _ _ _) (by simp [Value.oneCell']) (by unfold maxLen; omega) (by omega) (by have := hB.size; simp; omega) ?_; intro v' w1 hown' hgrow _; obtain ⟨g', cap', rfl⟩ := ownsRow_succ hown'; obtain ⟨hv1, hv2, hr2, hk2, hb2⟩ := hv.appended (by decide) hrow hB.size (Nat.le_refl _) hown' hgrow; have hc1 := hv1.cell; have hf1 := hv1.frozen)
    exact ⟨hk2.from _, hb2, ⟨_, hv2, by simpa using hr2, by simp⟩, hB.trans hb2⟩
  case done =>
    rintro D ys W hD rfl ⟨⟨v, hv, hrow, hnil⟩, hB⟩ hK
    have hc := hv.cell
    gi_wp2
    refine ⟨by simp, .inl ⟨_, _, rfl, run_takeDeferred hK, ?_⟩⟩
    exact ⟨_, results_tmp rfl _ _ _, v, rfl, ownsRow_putObj hrow _ hK rfl, hnil, hB.trans (belowK_b (w := w) (Nat.le_refl _) W D _ _ (by simp at hD; omega) hK rfl rfl)⟩
  case stop =>
    rintro D c pre W _ _ h _
    exact h.elim

theorem appseq_ent : ∀ args w, (callFunc 118 args).run Tryz.prog w = .ok (.enter 118 args) w := by intro args w; kernel_rfl
/-- slices.Collect over slices.Values. -/
theorem collect_c (Bs b off cap : Nat) (zs : List Int) (hreach : zs.length ≤ 1000000) (w : World) (hBs : Bs < w.heap.size) (hb : b < w.heap.size)
    (hc : w.cell? ⟨Bs, 0, none⟩ = some (.slice (some ⟨b, off, none⟩) zs.length cap)) (hI : ∀ j, j < zs.length → w.cell? ⟨b, off + j, none⟩ = some (.int .i64 (zs[j]?.getD 0))) :
    Calls Tryz.prog 92 #[.func (.func 94) #[] #[.pointer (some ⟨Bs, 0, none⟩)]] w fun e W' => ∃ v, e = .returned v ∧ W'.ownsRow w.heap.size 3 1 v zs.length (zs.map (Value.int .i64)) ∧ (v = .slice none 0 0 ↔ zs = []) ∧ Below w.heap.size w W' := by
  have HC := Lib.hid ((callsIn_wide (n := 3)).1 (appseq_in Fence.wide 3 trivial trivial rfl (by omega) Bs b off cap zs hreach w hBs hb hc hI))
  have HE := appseq_ent
  clear hc hI hBs hb
  go_enter Tryz.func92, Tryz.ntmps92
  go_wp2_with fail
  refine HC.out.mono ?_
  rintro e w' ⟨v, rfl, hrow, hnil, hbel⟩
  have Hrow := Lib.hid hrow; have Hnil := Lib.hid hnil; have Hbel := Lib.hid hbel
  clear hrow hnil hbel
  go_wp2_with fail
  go_ret
  exact ⟨v, rfl, Hrow.out, Hnil.out, Hbel.out⟩

end Go.Proofs.YtajclfjedlkbcaaGreatDoor
/- Walks: slices.Sort at an own row of numbers, of texts; slices.Sorted over slices.Values. -/
namespace Go.Proofs.YtajclfjedlkbcaaGreatDoor
open Go.RowKit Go.Redl Go.Shelf Go.Sort
set_option linter.unusedVariables false
set_option linter.unusedSimpArgs false

abbrev srtI (l : List Int) : List Int := l.mergeSort fun x y => decide (x ≤ y)
abbrev srtS (l : List (List UInt8)) : List (List UInt8) := l.mergeSort fun x y => decide (x ≤ y)
theorem sortI_ent : ∀ args w, (callFunc 93 args).run Tryz.prog w = .ok (.enter 93 args) w := by intro args w; kernel_rfl
theorem sortS_ent : ∀ args w, (callFunc 100 args).run Tryz.prog w = .ok (.enter 100 args) w := by intro args w; kernel_rfl
theorem sortI_c (l : List Int) (v : Value) (base : Nat) (w : World) (hown : w.ownsRow base 3 1 v l.length (l.map (Value.int .i64))) (hn : l.length ≤ 100000000) :
    Calls Tryz.prog 93 #[v] w fun e w' => e = .returned (.tuple #[]) ∧ w'.ownsRow base 3 1 v l.length ((srtI l).map (Value.int .i64)) ∧ w.grownBy w' v.ownBlock := by
  have h0 := hown
  rcases hown.2 with ⟨rfl, hz⟩ | ⟨g, cap, cur, rfl, hbase, hb, h1, h2, h3, h4⟩
  · have hl : l = [] := List.eq_nil_of_length_eq_zero hz
    subst hl
    refine (AnyM.slices_Sort_int_none Tryz.sortI none 0 w).mono ?_
    rintro e w' ⟨rfl, rfl⟩
    exact ⟨rfl, by simpa [srtI] using h0, World.grownBy.refl _ _⟩
  · have hH : Holds (Value.int .i64) w g 0 l.toArray := holds_of_blockI hb (by simpa using h4)
    refine (AnyM.slices_Sort_int Tryz.sortI g 0 cap l w hH (Array.getElem?_eq_some_iff.1 hb).1 (by omega)).mono ?_
    rintro e w' ⟨rfl, n, os, rfl⟩
    exact ⟨rfl, ownsRow_sortedI (by simp) hbase hb h1 h2 h3, grownBy_sortedI _⟩
theorem sortS_c (l : List (List UInt8)) (v : Value) (base : Nat) (w : World) (hown : w.ownsRow base 9 1 v l.length (l.map strV)) (hn : l.length ≤ 100000000) :
    Calls Tryz.prog 100 #[v] w fun e w' => e = .returned (.tuple #[]) ∧ w'.ownsRow base 9 1 v l.length ((srtS l).map strV) ∧ w.grownBy w' v.ownBlock := by
  have h0 := hown
  rcases hown.2 with ⟨rfl, hz⟩ | ⟨g, cap, cur, rfl, hbase, hb, h1, h2, h3, h4⟩
  · have hl : l = [] := List.eq_nil_of_length_eq_zero hz
    subst hl
    refine (AnyM.slices_Sort_string_none Tryz.sortS none 0 w).mono ?_
    rintro e w' ⟨rfl, rfl⟩
    exact ⟨rfl, by simpa [srtS] using h0, World.grownBy.refl _ _⟩
  · have hH : Holds encStr w g 0 l.toArray := holds_of_block hb (by simpa using h4)
    refine (AnyM.slices_Sort_string Tryz.sortS g 0 cap l w hH (Array.getElem?_eq_some_iff.1 hb).1 (by omega)).mono ?_
    rintro e w' ⟨rfl, n, os, rfl⟩
    exact ⟨rfl, ownsRow_sorted (by simp) hbase hb h1 h2 h3, grownBy_sorted _⟩
theorem collect_ent : ∀ args w, (callFunc 92 args).run Tryz.prog w = .ok (.enter 92 args) w := by intro args w; kernel_rfl
theorem sorted_ent : ∀ args w, (callFunc 45 args).run Tryz.prog w = .ok (.enter 45 args) w := by intro args w; kernel_rfl
theorem values_ent : ∀ args w, (callFunc 46 args).run Tryz.prog w = .ok (.enter 46 args) w := by intro args w; kernel_rfl
/-- slices.Sorted over slices.Values. -/
theorem sorted_c (Bs b off cap : Nat) (zs : List Int) (hreach : zs.length ≤ 1000000) (w : World) (hBs : Bs < w.heap.size) (hb : b < w.heap.size)
    (hc : w.cell? ⟨Bs, 0, none⟩ = some (.slice (some ⟨b, off, none⟩) zs.length cap)) (hI : ∀ j, j < zs.length → w.cell? ⟨b, off + j, none⟩ = some (.int .i64 (zs[j]?.getD 0))) :
    Calls Tryz.prog 45 #[.func (.func 94) #[] #[.pointer (some ⟨Bs, 0, none⟩)]] w fun e w' => ∃ a c, e = .returned (.slice a zs.length c) ∧ RowA w' w'.heap.size 1 a zs.length c ((srtI zs).map (Value.int .i64)) ∧ Below w.heap.size w w' := by
  have HC := Lib.hid (collect_c Bs b off cap zs hreach w hBs hb hc hI)
  have HE := collect_ent; have HE2 := sortI_ent
  clear hc hI hBs hb
  go_enter Tryz.func45, Tryz.ntmps45
  go_wp2_with fail
  refine HC.out.mono ?_
  rintro e w1 ⟨v, rfl, hown, hnil, hbel⟩
  have HS := Lib.hid (sortI_c zs v w.heap.size w1 hown (by omega))
  have Hown := Lib.hid hown
  have Hb1 := Lib.hid hbel
  clear hown hnil hbel HC
  go_wp2_with fail
  refine HS.out.mono ?_
  rintro e w2 ⟨rfl, hown2, hgrow⟩
  have Hb2 := Lib.hid (Hb1.out.grown hgrow Hb1.out.size (fun k hk => (Hown.out.lt k hk).1))
  have Ho2 := Lib.hid hown2
  clear hown2 hgrow HS
  go_wp2_with fail
  go_ret
  obtain ⟨a, c, rfl, hr⟩ := row_of_own Ho2.out (by simp [Value.oneCell'])
  exact ⟨a, c, rfl, hr, Hb2.out⟩

end Go.Proofs.YtajclfjedlkbcaaGreatDoor
