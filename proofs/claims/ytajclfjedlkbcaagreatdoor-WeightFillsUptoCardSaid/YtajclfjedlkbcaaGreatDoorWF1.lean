/- Parts of the proof, one behind the other: RSortM, RTrim, RBase. -/
import Derived.Ground.SlgmProg
import Derived.Shelf.SortM.Plain
import Derived.Shelf.SortM.SortNone
import Derived.Test.YtajclfjedlkbcaaGreatDoorProg
import Derived.Shelf.Strings.SlTrimAscii
import Derived.WalkKit
import Derived.WalkSpells
import Derived.WalkLawsBesides
import Derived.Lib.Hide
import Derived.Laws.AppendOwnNone
import Derived.Lib.AppendZeros
import Derived.Lib.UnsafeStr
import Derived.Laws.BytesArg
/- slices.Sort at []int and []string: its bodies at this program, laid by the kit, in plain words. -/
namespace Go.Proofs
open Go.Shelf
def Tryz.sortI_ren : Go.Shelf.Ren := ⟨fun | 5 => 93 | 8 => 109 | 7 => 119 | 19 => 132 | 20 => 133 | 10 => 136 | 11 => 137 | 12 => 138 | 13 => 139 | 14 => 140 | 15 => 141 | 16 => 142 | 17 => 143 | 18 => 144 | 30 => 167 | 31 => 162 | 32 => 163 | 33 => 168 | 34 => 169 | 35 => 166 | 40 => 179 | n => n, fun | 23 => 47 | 25 => 3 | 3 => 3 | 32 => 136 | 22 => 47 | 0 => 0 | 44 => 156 | 46 => 158 | 4 => 4 | 36 => 150 | 35 => 149 | 41 => 72 | 5 => 5 | 9 => 9 | 53 => 181 | 57 => 160 | 63 => 194 | 64 => 195 | n => n, fun | n => n⟩
theorem Tryz.sortI : Go.Proofs.SlLaysM.n5 Tryz.prog Tryz.sortI_ren := {
  mixed := by kernel_rfl
  f5 := ⟨Tryz.f93.name, by decide, Tryz.func93.trans (congrArg some (by kernel_rfl))⟩
  f7 := ⟨Tryz.f119.name, by decide, Tryz.func119.trans (congrArg some (by kernel_rfl))⟩
  f8 := Tryz.func109.trans (congrArg some (by kernel_rfl))
  f10 := ⟨Tryz.f136.name, by decide, Tryz.func136.trans (congrArg some (by kernel_rfl))⟩
  f11 := ⟨Tryz.f137.name, by decide, Tryz.func137.trans (congrArg some (by kernel_rfl))⟩
  f12 := ⟨Tryz.f138.name, by decide, Tryz.func138.trans (congrArg some (by kernel_rfl))⟩
  f13 := ⟨Tryz.f139.name, by decide, Tryz.func139.trans (congrArg some (by kernel_rfl))⟩
  f14 := ⟨Tryz.f140.name, by decide, Tryz.func140.trans (congrArg some (by kernel_rfl))⟩
  f15 := ⟨Tryz.f141.name, by decide, Tryz.func141.trans (congrArg some (by kernel_rfl))⟩
  f16 := ⟨Tryz.f142.name, by decide, Tryz.func142.trans (congrArg some (by kernel_rfl))⟩
  f17 := ⟨Tryz.f143.name, by decide, Tryz.func143.trans (congrArg some (by kernel_rfl))⟩
  f18 := ⟨Tryz.f144.name, by decide, Tryz.func144.trans (congrArg some (by kernel_rfl))⟩
  f19 := Tryz.func132.trans (congrArg some (by kernel_rfl))
  f20 := Tryz.func133.trans (congrArg some (by kernel_rfl))
  f30 := ⟨Tryz.f167.name, by decide, Tryz.func167.trans (congrArg some (by kernel_rfl))⟩
  f31 := Tryz.func162.trans (congrArg some (by kernel_rfl))
  f32 := Tryz.func163.trans (congrArg some (by kernel_rfl))
  f33 := ⟨Tryz.f168.name, by decide, Tryz.func168.trans (congrArg some (by kernel_rfl))⟩
  f34 := ⟨Tryz.f169.name, by decide, Tryz.func169.trans (congrArg some (by kernel_rfl))⟩
  f35 := ⟨Tryz.f166.name, by decide, Tryz.func166.trans (congrArg some (by kernel_rfl))⟩
  f40 := ⟨Tryz.f179.name, by decide, Tryz.func179.trans (congrArg some (by kernel_rfl))⟩
  t0 := Tryz.underlying0
  a0 := Tryz.isAgg0
  z0 := Tryz.sizeOf0
  v0 := Tryz.zeroValue0
  t3 := Tryz.underlying3
  a3 := Tryz.isAgg3
  z3 := Tryz.sizeOf3
  v3 := Tryz.zeroValue3
  t4 := Tryz.underlying4
  a4 := Tryz.isAgg4
  z4 := Tryz.sizeOf4
  v4 := Tryz.zeroValue4
  t5 := Tryz.underlying5
  a5 := Tryz.isAgg5
  z5 := Tryz.sizeOf5
  v5 := Tryz.zeroValue5
  t9 := Tryz.underlying9
  a9 := Tryz.isAgg9
  z9 := Tryz.sizeOf9
  v9 := Tryz.zeroValue9
  t22 := Tryz.underlying47
  a22 := Tryz.isAgg47
  z22 := Tryz.sizeOf47
  v22 := Tryz.zeroValue47
  t23 := Tryz.underlying47
  a23 := Tryz.isAgg47
  z23 := Tryz.sizeOf47
  v23 := Tryz.zeroValue47
  t25 := Tryz.underlying3
  a25 := Tryz.isAgg3
  z25 := Tryz.sizeOf3
  v25 := Tryz.zeroValue3
  t32 := Tryz.underlying136
  a32 := Tryz.isAgg136
  z32 := Tryz.sizeOf136
  v32 := Tryz.zeroValue136
  t35 := Tryz.underlying149
  a35 := Tryz.isAgg149
  z35 := Tryz.sizeOf149
  v35 := Tryz.zeroValue149
  t36 := Tryz.underlying150
  a36 := Tryz.isAgg150
  z36 := Tryz.sizeOf150
  v36 := Tryz.zeroValue150
  t41 := Tryz.underlying72
  a41 := Tryz.isAgg72
  z41 := Tryz.sizeOf72
  v41 := Tryz.zeroValue72
  t44 := Tryz.underlying156
  a44 := Tryz.isAgg156
  z44 := Tryz.sizeOf156
  v44 := Tryz.zeroValue156
  t46 := Tryz.underlying158
  a46 := Tryz.isAgg158
  z46 := Tryz.sizeOf158
  v46 := Tryz.zeroValue158
  t53 := Tryz.underlying181
  a53 := Tryz.isAgg181
  z53 := Tryz.sizeOf181
  v53 := Tryz.zeroValue181
  t57 := Tryz.underlying160
  a57 := Tryz.isAgg160
  z57 := Tryz.sizeOf160
  v57 := Tryz.zeroValue160
  t63 := Tryz.underlying194
  a63 := Tryz.isAgg194
  z63 := Tryz.sizeOf194
  v63 := Tryz.zeroValue194
  t64 := Tryz.underlying195
  a64 := Tryz.isAgg195
  z64 := Tryz.sizeOf195
  v64 := Tryz.zeroValue195 }
def Tryz.sortS_ren : Go.Shelf.Ren := ⟨fun | 6 => 100 | 8 => 109 | 9 => 121 | 19 => 132 | 20 => 133 | 21 => 152 | 22 => 153 | 23 => 154 | 24 => 155 | 25 => 156 | 26 => 157 | 27 => 158 | 28 => 159 | 29 => 160 | 36 => 174 | 31 => 162 | 32 => 163 | 37 => 175 | 38 => 176 | 39 => 177 | 41 => 183 | n => n, fun | 27 => 91 | 29 => 9 | 3 => 3 | 32 => 136 | 26 => 91 | 0 => 0 | 44 => 156 | 46 => 158 | 4 => 4 | 36 => 150 | 35 => 149 | 41 => 72 | 5 => 5 | 9 => 9 | 53 => 181 | 57 => 160 | 63 => 194 | 64 => 195 | n => n, fun | n => n⟩
theorem Tryz.sortS : Go.Proofs.SlLaysM.n6 Tryz.prog Tryz.sortS_ren := {
  mixed := by kernel_rfl
  f6 := ⟨Tryz.f100.name, by decide, Tryz.func100.trans (congrArg some (by kernel_rfl))⟩
  f8 := Tryz.func109.trans (congrArg some (by kernel_rfl))
  f9 := ⟨Tryz.f121.name, by decide, Tryz.func121.trans (congrArg some (by kernel_rfl))⟩
  f19 := Tryz.func132.trans (congrArg some (by kernel_rfl))
  f20 := Tryz.func133.trans (congrArg some (by kernel_rfl))
  f21 := ⟨Tryz.f152.name, by decide, Tryz.func152.trans (congrArg some (by kernel_rfl))⟩
  f22 := ⟨Tryz.f153.name, by decide, Tryz.func153.trans (congrArg some (by kernel_rfl))⟩
  f23 := ⟨Tryz.f154.name, by decide, Tryz.func154.trans (congrArg some (by kernel_rfl))⟩
  f24 := ⟨Tryz.f155.name, by decide, Tryz.func155.trans (congrArg some (by kernel_rfl))⟩
  f25 := ⟨Tryz.f156.name, by decide, Tryz.func156.trans (congrArg some (by kernel_rfl))⟩
  f26 := ⟨Tryz.f157.name, by decide, Tryz.func157.trans (congrArg some (by kernel_rfl))⟩
  f27 := ⟨Tryz.f158.name, by decide, Tryz.func158.trans (congrArg some (by kernel_rfl))⟩
  f28 := ⟨Tryz.f159.name, by decide, Tryz.func159.trans (congrArg some (by kernel_rfl))⟩
  f29 := ⟨Tryz.f160.name, by decide, Tryz.func160.trans (congrArg some (by kernel_rfl))⟩
  f31 := Tryz.func162.trans (congrArg some (by kernel_rfl))
  f32 := Tryz.func163.trans (congrArg some (by kernel_rfl))
  f36 := ⟨Tryz.f174.name, by decide, Tryz.func174.trans (congrArg some (by kernel_rfl))⟩
  f37 := ⟨Tryz.f175.name, by decide, Tryz.func175.trans (congrArg some (by kernel_rfl))⟩
  f38 := ⟨Tryz.f176.name, by decide, Tryz.func176.trans (congrArg some (by kernel_rfl))⟩
  f39 := ⟨Tryz.f177.name, by decide, Tryz.func177.trans (congrArg some (by kernel_rfl))⟩
  f41 := ⟨Tryz.f183.name, by decide, Tryz.func183.trans (congrArg some (by kernel_rfl))⟩
  t0 := Tryz.underlying0
  a0 := Tryz.isAgg0
  z0 := Tryz.sizeOf0
  v0 := Tryz.zeroValue0
  t3 := Tryz.underlying3
  a3 := Tryz.isAgg3
  z3 := Tryz.sizeOf3
  v3 := Tryz.zeroValue3
  t4 := Tryz.underlying4
  a4 := Tryz.isAgg4
  z4 := Tryz.sizeOf4
  v4 := Tryz.zeroValue4
  t5 := Tryz.underlying5
  a5 := Tryz.isAgg5
  z5 := Tryz.sizeOf5
  v5 := Tryz.zeroValue5
  t9 := Tryz.underlying9
  a9 := Tryz.isAgg9
  z9 := Tryz.sizeOf9
  v9 := Tryz.zeroValue9
  t26 := Tryz.underlying91
  a26 := Tryz.isAgg91
  z26 := Tryz.sizeOf91
  v26 := Tryz.zeroValue91
  t27 := Tryz.underlying91
  a27 := Tryz.isAgg91
  z27 := Tryz.sizeOf91
  v27 := Tryz.zeroValue91
  t29 := Tryz.underlying9
  a29 := Tryz.isAgg9
  z29 := Tryz.sizeOf9
  v29 := Tryz.zeroValue9
  t32 := Tryz.underlying136
  a32 := Tryz.isAgg136
  z32 := Tryz.sizeOf136
  v32 := Tryz.zeroValue136
  t35 := Tryz.underlying149
  a35 := Tryz.isAgg149
  z35 := Tryz.sizeOf149
  v35 := Tryz.zeroValue149
  t36 := Tryz.underlying150
  a36 := Tryz.isAgg150
  z36 := Tryz.sizeOf150
  v36 := Tryz.zeroValue150
  t41 := Tryz.underlying72
  a41 := Tryz.isAgg72
  z41 := Tryz.sizeOf72
  v41 := Tryz.zeroValue72
  t44 := Tryz.underlying156
  a44 := Tryz.isAgg156
  z44 := Tryz.sizeOf156
  v44 := Tryz.zeroValue156
  t46 := Tryz.underlying158
  a46 := Tryz.isAgg158
  z46 := Tryz.sizeOf158
  v46 := Tryz.zeroValue158
  t53 := Tryz.underlying181
  a53 := Tryz.isAgg181
  z53 := Tryz.sizeOf181
  v53 := Tryz.zeroValue181
  t57 := Tryz.underlying160
  a57 := Tryz.isAgg160
  z57 := Tryz.sizeOf160
  v57 := Tryz.zeroValue160
  t63 := Tryz.underlying194
  a63 := Tryz.isAgg194
  z63 := Tryz.sizeOf194
  v63 := Tryz.zeroValue194
  t64 := Tryz.underlying195
  a64 := Tryz.isAgg195
  z64 := Tryz.sizeOf195
  v64 := Tryz.zeroValue195 }
end Go.Proofs
/- strings.Trim at a set of ASCII bytes: its contract, laid by the kit (its shelf) at this program, in plain words. -/
namespace Go.Proofs
open Go.Shelf
def Tryz.lays160_ren : Go.Shelf.Ren := ⟨fun | 160 => 120 | 232 => 146 | 231 => 145 | 227 => 147 | 234 => 149 | 233 => 148 | 236 => 151 | 235 => 150 | 228 => 170 | 271 => 173 | 151 => 172 | 197 => 171 | 120 => 182 | 152 => 181 | 260 => 180 | 137 => 184 | 119 => 185 | 224 => 186 | 225 => 187 | 217 => 188 | 266 => 189 | n => n, fun | 9 => 9 | 4 => 4 | 3 => 3 | 5 => 5 | 117 => 171 | 116 => 170 | 0 => 0 | 124 => 174 | 21 => 21 | 105 => 189 | 46 => 136 | 119 => 200 | 139 => 203 | 138 => 202 | n => n, fun | 3 => 0 | 4 => 1 | n => n⟩
theorem Tryz.lays160 : Go.Proofs.Lays.n160 Tryz.prog Tryz.lays160_ren := {
  mixed := by kernel_rfl
  f119 := Tryz.func185.trans (congrArg some (by kernel_rfl))
  f120 := Tryz.func182.trans (congrArg some (by kernel_rfl))
  f137 := Tryz.func184.trans (congrArg some (by kernel_rfl))
  f151 := Tryz.func172.trans (congrArg some (by kernel_rfl))
  f152 := Tryz.func181.trans (congrArg some (by kernel_rfl))
  f160 := Tryz.func120.trans (congrArg some (by kernel_rfl))
  f197 := Tryz.func171.trans (congrArg some (by kernel_rfl))
  f217 := Tryz.func188.trans (congrArg some (by kernel_rfl))
  f224 := Tryz.func186.trans (congrArg some (by kernel_rfl))
  f225 := Tryz.func187.trans (congrArg some (by kernel_rfl))
  f227 := Tryz.func147.trans (congrArg some (by kernel_rfl))
  f228 := Tryz.func170.trans (congrArg some (by kernel_rfl))
  f231 := Tryz.func145.trans (congrArg some (by kernel_rfl))
  f232 := Tryz.func146.trans (congrArg some (by kernel_rfl))
  f233 := Tryz.func148.trans (congrArg some (by kernel_rfl))
  f234 := Tryz.func149.trans (congrArg some (by kernel_rfl))
  f235 := Tryz.func150.trans (congrArg some (by kernel_rfl))
  f236 := Tryz.func151.trans (congrArg some (by kernel_rfl))
  f260 := Tryz.func180.trans (congrArg some (by kernel_rfl))
  f266 := Tryz.func189.trans (congrArg some (by kernel_rfl))
  f271 := Tryz.func173.trans (congrArg some (by kernel_rfl))
  t0 := Tryz.underlying0
  a0 := Tryz.isAgg0
  z0 := Tryz.sizeOf0
  v0 := Tryz.zeroValue0
  t3 := Tryz.underlying3
  a3 := Tryz.isAgg3
  z3 := Tryz.sizeOf3
  v3 := Tryz.zeroValue3
  t4 := Tryz.underlying4
  a4 := Tryz.isAgg4
  z4 := Tryz.sizeOf4
  v4 := Tryz.zeroValue4
  t5 := Tryz.underlying5
  a5 := Tryz.isAgg5
  z5 := Tryz.sizeOf5
  v5 := Tryz.zeroValue5
  t9 := Tryz.underlying9
  a9 := Tryz.isAgg9
  z9 := Tryz.sizeOf9
  v9 := Tryz.zeroValue9
  t21 := Tryz.underlying21
  a21 := Tryz.isAgg21
  z21 := Tryz.sizeOf21
  v21 := Tryz.zeroValue21
  t46 := Tryz.underlying136
  a46 := Tryz.isAgg136
  z46 := Tryz.sizeOf136
  v46 := Tryz.zeroValue136
  t105 := Tryz.underlying189
  a105 := Tryz.isAgg189
  z105 := Tryz.sizeOf189
  v105 := Tryz.zeroValue189
  t116 := Tryz.underlying170
  a116 := Tryz.isAgg170
  z116 := Tryz.sizeOf170
  t117 := Tryz.underlying171
  a117 := Tryz.isAgg171
  z117 := Tryz.sizeOf171
  v117 := Tryz.zeroValue171
  t119 := Tryz.underlying200
  a119 := Tryz.isAgg200
  z119 := Tryz.sizeOf200
  t124 := Tryz.underlying174
  a124 := Tryz.isAgg174
  z124 := Tryz.sizeOf174
  v124 := Tryz.zeroValue174
  t138 := Tryz.underlying202
  a138 := Tryz.isAgg202
  z138 := Tryz.sizeOf202
  v138 := Tryz.zeroValue202
  t139 := Tryz.underlying203
  a139 := Tryz.isAgg203
  z139 := Tryz.sizeOf203
  v139 := Tryz.zeroValue203
  g3 := by kernel_rfl
  g4 := by kernel_rfl }
open Go.RowKit in
theorem Tryz.strings_Trim_set (s cutset : ByteArray) (w : World) (hs : s.size ≤ 9223372036854775807) (hcs : cutset.size < 4294967281) (hascii : ∀ (j : Nat) b, cutset.data.toList[j]? = some b → b.toNat < 128) :
    Calls Tryz.prog 120 #[.string s, .string cutset] w fun e w' => e = .returned (.string ⟨(Lib.trimS s.data.toList cutset.data.toList).toArray⟩) ∧ Below w.heap.size w w' := Any.strings_Trim_laid Tryz.lays160 (by kernel_rfl) s cutset w hs hcs hascii
end Go.Proofs
/- Plain words for reading slices in memory, and small laws on them. No program in sight. -/
namespace Go.Redl
open Go.RowKit
set_option linter.unusedVariables false

theorem getD_of_lt {α : Type} {l : List α} {k : Nat} {d : α} (h : k < l.length) : l.getD k d = l[k] := by simp [List.getD, List.getElem?_eq_getElem h]
theorem ret_of {a b : Value} (h : a = b) : Ending.returned a = .returned b := by rw [h]
theorem ret_bool {a b : Bool} (h : a = b) : Ending.returned (.bool a) = .returned (.bool b) := by rw [h]
theorem ret_int {k : IntKind} {a b : Int} (h : a = b) : Ending.returned (.int k a) = .returned (.int k b) := by rw [h]

/-- A slice (its address, length, capacity) with n elements of sz cells each; cs: its cells; what it leads to lies below block B. -/
structure RowA (w : World) (B sz : Nat) (a : Option Addr) (n cap : Nat) (cs : List Value) : Prop where
  len : cs.length = n * sz
  le : n ≤ cap
  max : cap ≤ maxLen
  one : ∀ u ∈ cs, u.oneCell' = true
  nil : a = none → cap = 0
  some_ : cs ≠ [] → ∃ b off, a = some ⟨b, off, none⟩ ∧ b < B ∧ ∀ j u, cs[j]? = some u → w.cell? ⟨b, off + j, none⟩ = some u

theorem RowA.keep {w w' : World} {B B' sz n cap : Nat} {a : Option Addr} {cs : List Value} (h : RowA w B sz a n cap cs) (hb : Below B w w') (hB : B ≤ B') : RowA w' B' sz a n cap cs := by
  refine ⟨h.len, h.le, h.max, h.one, h.nil, fun hne => ?_⟩
  obtain ⟨b, off, ha, hlt, hcell⟩ := h.some_ hne
  exact ⟨b, off, ha, Nat.lt_of_lt_of_le hlt hB, fun j u hj => by rw [hb.cell (p := ⟨b, off + j, none⟩) hlt]; exact hcell j u hj⟩

theorem RowA.empty (w : World) (B sz : Nat) : RowA w B sz none 0 0 [] := ⟨by simp, Nat.le_refl _, Nat.zero_le _, by simp, fun _ => rfl, fun h => absurd rfl h⟩

theorem addr_add (b off j : Nat) : (⟨b, off, none⟩ : Addr).add j = ⟨b, off + j, none⟩ := by unfold Addr.add; split <;> simp_all

theorem RowA.cells {w : World} {B sz n cap : Nat} {ad : Addr} {cs : List Value} (h : RowA w B sz (some ad) n cap cs) : ∀ j u, cs[j]? = some u → w.cell? (ad.add j) = some u := by
  intro j u hj
  obtain ⟨b, off, ha, _, hcell⟩ := h.some_ (by rintro rfl; simp at hj)
  cases ha
  rw [addr_add]; exact hcell j u hj

/-- A literal of one element, in a new block. -/
theorem row_one (w : World) (v : Value) (E B : Nat) (h1 : v.oneCell' = true) (hB : w.heap.size < B := by omega) : RowA (w.alloc (.cells #[v] E)) B 1 (some ⟨w.heap.size, 0, none⟩) 1 1 [v] := by
  refine ⟨by simp, Nat.le_refl _, by unfold maxLen; omega, by simp [h1], (fun h => by cases h), fun _ => ⟨w.heap.size, 0, rfl, hB, fun j u hj => ?_⟩⟩
  have hg : (w.alloc (.cells #[v] E)).heap[w.heap.size]? = some (.cells #[v] E (0, 0)) := heap_alloc_new w _
  rw [cell_of_row _ w.heap.size (0 + j) #[v] E (0, 0) hg]
  cases j with
  | zero => simpa using hj
  | succ j => simp at hj

/-- What is cut off: from lo to hi. -/
theorem RowA.cut {w : World} {B sz n cap : Nat} {a : Option Addr} {cs : List Value} (h : RowA w B sz a n cap cs) (lo hi : Nat) (hl : lo ≤ hi) (hh : hi ≤ n) :
    RowA w B sz (if cap = lo then a else a.map (·.add (lo * sz))) (hi - lo) (cap - lo) ((cs.take (hi * sz)).drop (lo * sz)) := by
  have hle := h.le
  have hmax := h.max
  have hln := h.len
  have h1 : hi * sz ≤ n * sz := Nat.mul_le_mul_right _ hh
  refine ⟨?_, by omega, by omega, fun u hu => h.one u (List.mem_of_mem_take (List.mem_of_mem_drop hu)), ?_, ?_⟩
  · rw [List.length_drop, List.length_take, hln, Nat.min_eq_left h1, ← Nat.sub_mul]
  · intro hn
    split at hn
    · have := h.nil hn; omega
    · have := h.nil (by simpa using hn); omega
  · intro hne
    obtain ⟨b, off, ha, hlt, hcell⟩ := h.some_ (by rintro rfl; simp at hne)
    have hlo : cap ≠ lo := by
      rintro rfl
      apply hne
      apply List.eq_nil_of_length_eq_zero
      rw [List.length_drop, List.length_take, hln, Nat.min_eq_left h1]
      have : hi = cap := by omega
      subst this
      simp
    rw [if_neg hlo, ha]
    refine ⟨b, off + lo * sz, by simp [addr_add], hlt, fun j u hj => ?_⟩
    rw [List.getElem?_drop, List.getElem?_take] at hj
    split at hj
    · have := hcell _ _ hj
      rw [← this]; congr 2; omega
    · cases hj

/-- What a slice expression gives, its address under a name. -/
theorem RowA.cut_h {P : Program} {w : World} {B sz n cap : Nat} {a : Option Addr} {cs : List Value} (h : RowA w B sz a n cap cs) (T E : TypeId) (ht : P.underlying T = some (.slice E)) (hs : ∀ W, (sizeOf E).run P W = .ok sz W)
    (hi : Nat) (hh : hi ≤ n) : ∃ a' cap', (∀ W, (Instr.slice T (.slice a n cap) none (some (.int .i64 hi)) none).run P W = .ok (.slice a' hi cap') W) ∧ RowA w B sz a' hi cap' (cs.take (hi * sz)) := by
  have hc := h.cut 0 hi (Nat.zero_le _) hh
  have hle := h.le
  simp only [Nat.zero_mul, List.drop_zero, Nat.sub_zero] at hc
  refine ⟨_, _, fun W => ?_, hc⟩
  have he : P.elem T = E := by simp [Program.elem, ht]
  rw [run_slice_h W T a n cap (by rw [he]; exact ht) .i64 hi (by omega) (by omega), he, hs]
  simp [Result.andThen, sliced]
theorem RowA.cut_l {P : Program} {w : World} {B sz n cap : Nat} {a : Option Addr} {cs : List Value} (h : RowA w B sz a n cap cs) (T E : TypeId) (ht : P.underlying T = some (.slice E)) (hs : ∀ W, (sizeOf E).run P W = .ok sz W)
    (lo : Nat) (hh : lo ≤ n) : ∃ a' cap', (∀ W, (Instr.slice T (.slice a n cap) (some (.int .i64 lo)) none none).run P W = .ok (.slice a' (n - lo) cap') W) ∧ RowA w B sz a' (n - lo) cap' (cs.drop (lo * sz)) := by
  have hc := h.cut lo n hh (Nat.le_refl _)
  have hle := h.le
  rw [List.take_of_length_le (by rw [h.len]; exact Nat.le_refl _)] at hc
  refine ⟨_, _, fun W => ?_, hc⟩
  have he : P.elem T = E := by simp [Program.elem, ht]
  rw [run_slice_l W T a n cap (by rw [he]; exact ht) .i64 lo (by omega) (by omega), he, hs]
  simp [Result.andThen, sliced]
theorem RowA.cut_lh {P : Program} {w : World} {B sz n cap : Nat} {a : Option Addr} {cs : List Value} (h : RowA w B sz a n cap cs) (T E : TypeId) (ht : P.underlying T = some (.slice E)) (hs : ∀ W, (sizeOf E).run P W = .ok sz W)
    (lo hi : Nat) (hl : lo ≤ hi) (hh : hi ≤ n) : ∃ a' cap', (∀ W, (Instr.slice T (.slice a n cap) (some (.int .i64 lo)) (some (.int .i64 hi)) none).run P W = .ok (.slice a' (hi - lo) cap') W) ∧ RowA w B sz a' (hi - lo) cap' ((cs.take (hi * sz)).drop (lo * sz)) := by
  have hc := h.cut lo hi hl hh
  have hle := h.le
  refine ⟨_, _, fun W => ?_, hc⟩
  have he : P.elem T = E := by simp [Program.elem, ht]
  rw [run_slice_lh W T a n cap (by rw [he]; exact ht) .i64 .i64 lo hi (by omega) (by omega) (by omega), he, hs]
  simp [Result.andThen, sliced]

/-- The call's own row, read as a slice. -/
theorem row_of_own {w : World} {base e sz n : Nat} {v : Value} {cs : List Value} (h : w.ownsRow base e sz v n cs) (h1 : ∀ u ∈ cs, u.oneCell' = true) :
    ∃ a cap, v = .slice a n cap ∧ RowA w w.heap.size sz a n cap cs := by
  obtain ⟨hl, h2⟩ := h
  rcases h2 with ⟨rfl, rfl⟩ | ⟨g, cap, cur, rfl, hb, hg, hnc, hcm, hcs, htake⟩
  · have : cs = [] := List.eq_nil_of_length_eq_zero (by simpa using hl)
    subst this
    exact ⟨_, _, rfl, RowA.empty _ _ _⟩
  · refine ⟨_, _, rfl, ⟨hl, hnc, hcm, h1, (fun h => by cases h), fun _ => ⟨g, 0, rfl, (Array.getElem?_eq_some_iff.1 hg).1, fun j u hj => ?_⟩⟩⟩
    have := World.ownsRow.cells (w := w) (base := base) (e := e) (size := sz) (v := .slice (some ⟨g, 0, none⟩) n cap) (n := n) (xs := cs) ⟨hl, .inr ⟨g, cap, cur, rfl, hb, hg, hnc, hcm, hcs, htake⟩⟩ (g := g) rfl j u hj
    rwa [addr_add] at this

theorem own_mono {w : World} {base base' e sz n : Nat} {v : Value} {cs : List Value} (h : w.ownsRow base' e sz v n cs) (hb : base ≤ base') : w.ownsRow base e sz v n cs := by
  obtain ⟨hl, h2⟩ := h
  refine ⟨hl, ?_⟩
  rcases h2 with h2 | ⟨g, cap, cur, hv, hg, r⟩
  · exact .inl h2
  · exact .inr ⟨g, cap, cur, hv, Nat.le_trans hb hg, r⟩

theorem grownBy_trans {a b c : World} {row : Option Nat} (h : a.grownBy b row) (k : b.grownBy c row) : a.grownBy c row :=
  ⟨k.os.trans h.os, k.tape.trans h.tape, k.output.trans h.output, Nat.le_trans h.size k.size, fun i hi hne => (k.block i (Nat.lt_of_lt_of_le hi h.size) hne).trans (h.block i hi hne)⟩
theorem grownBy_of_below {w w' : World} (h : Below w.heap.size w w') : w.grownBy w' none := ⟨h.os, h.tape, h.output, h.size, fun k hk _ => h.block k hk⟩
/-- What is owned stays owned while only new memory is written. -/
theorem own_keep {w w' : World} {base e sz n : Nat} {v : Value} {cs : List Value} (h : w.ownsRow base e sz v n cs) (hb : Below w.heap.size w w') : w'.ownsRow base e sz v n cs :=
  h.kept (grownBy_of_below hb) (by cases hv : v.ownBlock <;> simp)
/-- Rows of the call's own made one behind the other lie apart. -/
theorem own_apart {w w' : World} {base e sz n e' sz' n' base' : Nat} {v u : Value} {cs cs' : List Value} (h : w.ownsRow base e sz v n cs) (h' : w'.ownsRow base' e' sz' u n' cs') (hb : w.heap.size ≤ base') : v.ownBlock = none ∨ v.ownBlock ≠ u.ownBlock := by
  cases hv : v.ownBlock with
  | none => exact .inl rfl
  | some k =>
    right
    intro hu
    have h1 := (h.lt k hv).2
    have h2 := (h'.lt k hu.symm).1
    omega

/-- append(own, xs...), xs any slice. -/
theorem wpList_app {P : Program} {w : World} {ops : Array Oper} {rest : List Oper} {o : Oper} {a : Act} {Q : Exit → Act → World → Prop} (hgd : o.guard = none) (s x : Operand) (t : TypeId)
    (ho : o.op = .call { callee := .builtin .append, args := #[s, x], argTypes := #[t, t] })
    (base : Nat) (e : TypeId) (z : Value) (size bytes : Nat) (ht : P.underlying t = some (.slice e)) (hi : (P.info? e).map (fun i => (i.zero, i.size, i.bytes)) = some (some z, size, bytes))
    (hzs : z.cells.size = size) (hsz : 0 < size)
    (v : Value) (n : Nat) (xs : List Value) (hs : a.eval s = v) (hown : w.ownsRow base e size v n xs)
    (ad : Option Addr) (m c B : Nat) (news : List Value) (hx : a.eval x = .slice ad m c) (hr : RowA w B size ad m c news)
    (h63 : n + m ≤ maxLen) (hbytes : (n + m) * bytes ≤ 140737488355328) (hbase : base ≤ w.heap.size)
    (h : ∀ v' w', w'.ownsRow base e size v' (n + m) (xs ++ news) → w.grownBy w' v.ownBlock → wpList P ops Q rest (a.put o.dst v') w') : wpList P ops Q (o :: rest) a w := by
  obtain ⟨i, hi', hz, hsize, hby⟩ := info_parts hi
  cases ad with
  | some ad =>
    exact wpList_append_own w hgd s x t ho base e i z size bytes ht hi' hz hsize hby hzs hsz v n xs hs hown ad m c news hx hr.len hr.cells hr.one h63 hbytes hbase (fun v' w' h2 h3 _ => h v' w' h2 h3)
  | none =>
    obtain rfl := hr.nil rfl
    obtain rfl : m = 0 := by have := hr.le; omega
    have : news = [] := List.eq_nil_of_length_eq_zero (by simpa using hr.len)
    subst this
    refine wpList_append_own_none hgd s x t ho base e i size ht hi' v n xs hs hown hx ?_
    have := h v w (by simpa using hown) (World.grownBy.refl w _)
    exact this

/-- append(own, xs...) as one step of a region that draws. -/
theorem step_app {P : Program} {ops : Array Oper} {o : Oper} {a : Act} {w : World} {K : Act → World → Prop} {Q : Exit → Act → World → Prop} {E : Prop}
    (hg : o.guard = none) (s x : Operand) (t : TypeId) (ho : o.op = .call { callee := .builtin .append, args := #[s, x], argTypes := #[t, t] })
    (base : Nat) (e : TypeId) (z : Value) (size bytes : Nat) (ht : P.underlying t = some (.slice e)) (hi : (P.info? e).map (fun i => (i.zero, i.size, i.bytes)) = some (some z, size, bytes))
    (hzs : z.cells.size = size) (hsz : 0 < size)
    (v : Value) (n : Nat) (xs : List Value) (hs : a.eval s = v) (hown : w.ownsRow base e size v n xs)
    (ad : Option Addr) (m c B : Nat) (news : List Value) (hx : a.eval x = .slice ad m c) (hr : RowA w B size ad m c news)
    (h63 : n + m ≤ maxLen) (hbytes : (n + m) * bytes ≤ 140737488355328) (hbase : base ≤ w.heap.size)
    (h : ∀ v' w', w'.ownsRow base e size v' (n + m) (xs ++ news) → w.grownBy w' v.ownBlock → K (a.put o.dst v') w') : if Region.wanted o (yielded ops a.tmps) = true then Oper.wp P o a w K Q else E := by
  have hw : Region.wanted o (yielded ops a.tmps) = true := by simp [Region.wanted, hg]
  rw [if_pos hw]
  obtain ⟨i, hi', hz, hsize, hby⟩ := info_parts hi
  cases ad with
  | some ad =>
    exact wp_append_own w s x t ho base e i z size bytes ht hi' hz hsize hby hzs hsz v n xs hs hown ad m c news hx hr.len hr.cells hr.one h63 hbytes hbase (fun v' w' h2 h3 _ => h v' w' h2 h3)
  | none =>
    obtain rfl := hr.nil rfl
    obtain rfl : m = 0 := by have := hr.le; omega
    have : news = [] := List.eq_nil_of_length_eq_zero (by simpa using hr.len)
    subst this
    have hrun := run_append_owned_none (P := P) (w := w) base t o.type e i size ht hi' v n xs hown
    unfold Oper.wp
    simp [execOp, ho, resolve, invoke, builtin, hs, hx, hrun, Result.andThen]
    exact h v w (by simpa using hown) (World.grownBy.refl w _)

/-- A call of a Go function as one step of a region that draws, met by its contract. -/
theorem step_call {P : Program} {ops : Array Oper} {o : Oper} {a : Act} {w : World} {K : Act → World → Prop} {Q : Exit → Act → World → Prop} {E : Prop}
    (hg : o.guard = none) (f : FuncId) (args : Array Operand) (tys : Array TypeId) (ho : o.op = .call { callee := .value (.func f), args := args, argTypes := tys })
    (he : ∀ args w, (callFunc f args).run P w = .ok (.enter f args) w) (vals : List Value) (hv : args.toList.map a.eval = vals) (R : Ending → World → Prop) (hC : Calls P f vals.toArray w R)
    (h : ∀ e w', R e w' → ∃ v, e = .returned v ∧ K (a.put o.dst v) w') : if Region.wanted o (yielded ops a.tmps) = true then Oper.wp P o a w K Q else E := by
  have hw : Region.wanted o (yielded ops a.tmps) = true := by simp [Region.wanted, hg]
  rw [if_pos hw]
  unfold Oper.wp
  have hv' : args.map a.eval = vals.toArray := by rw [← hv]; apply Array.ext'; simp
  have hr : (execOp a.eval o).run P w = .ok (.enter f vals.toArray) w := by
    simp [execOp, ho, resolve, invoke, Act.eval, Deferred.ofValue, hv', he]
  rw [hr]
  show Calls P f vals.toArray w _
  refine hC.mono fun e w' hR => ?_
  obtain ⟨v, rfl, hk⟩ := h e w' hR
  exact hk

/-- append(nil, make([]T, m)...): a new row with room for m. -/
theorem wpList_nil_zeros {P : Program} {w : World} {ops : Array Oper} {rest : List Oper} {o : Oper} {a : Act} {Q : Exit → Act → World → Prop} (hgd : o.guard = none) (s x : Operand) (t tn : TypeId)
    (ho : o.op = .call { callee := .builtin .append, args := #[s, x], argTypes := #[t, tn] })
    (e : TypeId) (z : Value) (size bytes : Nat) (ht : P.underlying t = some (.slice e)) (htn : P.underlying tn = some (.int .i64)) (hi : (P.info? e).map (fun i => (i.zero, i.size, i.bytes)) = some (some z, size, bytes))
    (hzs : z.cells.size = size) (hsz : 0 < size) (m : Nat) (hm : 0 < m) (hs : a.eval s = .slice none 0 0) (hx : a.eval x = .int .i64 m)
    (h63 : m ≤ 9223372036854775807) (hbytes : m * bytes ≤ 140737488355328)
    (h : ∀ g cap w', w'.ownsRow w.heap.size e size (.slice (some ⟨g, 0, none⟩) 0 cap) 0 [] → m ≤ cap → cap ≤ maxLen → Below w.heap.size w w' → wpList P ops Q rest (a.put o.dst (.slice (some ⟨g, 0, none⟩) m cap)) w') : wpList P ops Q (o :: rest) a w := by
  obtain ⟨i, hi', hz, hsize, hby⟩ := info_parts hi
  have hr := Lib.run_append_nil_zeros (P := P) w t tn o.type e i z .i64 .i64 ht htn hi' hz m hm (by omega) (by omega) (by rw [hby]; omega)
  refine Lib.wpList_append_run w hgd s x t tn ho _ _ hs hx _ _ hr ?_
  have hge := grownCap_ge w m 0 e
  have hcm := grownCap_le_maxLen w m 0 e (by unfold maxLen; omega)
  refine h _ _ _ ?_ hge hcm ?_
  · exact World.ownsRow_made w.drew _ _ (Nat.le_refl _) hcm (by rw [Array.size_append, size_zeroCells, size_zeroCells, hzs, ← Nat.add_mul]; congr 1; omega)
  · exact ((Below.refl _ _).drew).alloc (Nat.le_refl _) _

/-- A slice of integers. -/
structure Ints (k : IntKind) (w : World) (B : Nat) (v : Value) (zs : List Int) : Prop where
  row : ∃ a cap, v = .slice a zs.length cap ∧ RowA w B 1 a zs.length cap (zs.map (Value.int k))
  wf : ∀ z ∈ zs, (Lit.int k z).wf = true

theorem Ints.keep {k : IntKind} {w w' : World} {B B' : Nat} {v : Value} {zs : List Int} (h : Ints k w B v zs) (hb : Below B w w') (hB : B ≤ B') : Ints k w' B' v zs := by
  obtain ⟨⟨a, cap, hv, hr⟩, hw⟩ := h
  exact ⟨⟨a, cap, hv, hr.keep hb hB⟩, hw⟩

/-- The cell of an element, for a walk. -/
theorem RowA.int_at {k : IntKind} {w : World} {B n cap : Nat} {a : Option Addr} {zs : List Int} (h : RowA w B 1 a n cap (zs.map (Value.int k))) (j : Nat) (hj : j < zs.length) :
    ∃ b off, a = some ⟨b, off, none⟩ ∧ b < B ∧ ∀ i, i < zs.length → w.cell? ⟨b, off + i, none⟩ = some (.int k (zs.getD i 0)) := by
  obtain ⟨b, off, ha, hlt, hcell⟩ := h.some_ (by intro h0; simp at h0; subst h0; simp at hj)
  refine ⟨b, off, ha, hlt, fun i hi => hcell i _ ?_⟩
  simp [List.getElem?_map, List.getD, List.getElem?_eq_getElem hi]

theorem ints_one (k : IntKind) (zs : List Int) : ∀ u ∈ zs.map (Value.int k), u.oneCell' = true := ints_oneCell k zs

/-- Several slices, of one cell an element. -/
structure Parts (w : World) (B : Nat) (vals : List Value) (pss : List (List Value)) : Prop where
  len : vals.length = pss.length
  each : ∀ i, i < pss.length → ∃ a cap, vals[i]? = some (.slice a (pss.getD i []).length cap) ∧ RowA w B 1 a (pss.getD i []).length cap (pss.getD i [])

theorem Parts.keep {w w' : World} {B B' : Nat} {vals : List Value} {pss : List (List Value)} (h : Parts w B vals pss) (hb : Below B w w') (hB : B ≤ B') : Parts w' B' vals pss :=
  ⟨h.len, fun i hi => by obtain ⟨a, cap, h1, h2⟩ := h.each i hi; exact ⟨a, cap, h1, h2.keep hb hB⟩⟩

theorem Parts.nil (w : World) (B : Nat) : Parts w B [] [] := ⟨rfl, fun i hi => by simp at hi⟩
theorem Parts.cons {w : World} {B n cap : Nat} {a : Option Addr} {cs : List Value} {vals : List Value} {pss : List (List Value)} (h : RowA w B 1 a n cap cs) (hp : Parts w B vals pss) : Parts w B (.slice a n cap :: vals) (cs :: pss) := by
  have hn : cs.length = n := by simpa using h.len
  subst hn
  refine ⟨by simp [hp.len], fun i hi => ?_⟩
  cases i with
  | zero => exact ⟨a, cap, rfl, h⟩
  | succ i => exact hp.each i (by simpa using hi)
theorem Parts.one {w : World} {B : Nat} {vals : List Value} {pss : List (List Value)} (h : Parts w B vals pss) : ∀ u ∈ vals, u.oneCell' = true := by
  intro u hu
  obtain ⟨i, hi, rfl⟩ := List.mem_iff_getElem.1 hu
  obtain ⟨a, cap, h1, _⟩ := h.each i (by rw [← h.len]; exact hi)
  rw [List.getElem?_eq_getElem hi] at h1
  rw [Option.some.inj h1]; rfl
/-- A literal of such slices, in a new block, behind a draw. -/
theorem Parts.lit {w : World} {vals : List Value} {pss : List (List Value)} (h : Parts w w.heap.size vals pss) (E : TypeId) (hm : vals.length ≤ 1000000) :
    RowA (w.alloc (.cells vals.toArray E)).drew (w.heap.size + 1) 1 (some ⟨w.heap.size, 0, none⟩) vals.length vals.length vals ∧ Parts (w.alloc (.cells vals.toArray E)).drew (w.heap.size + 1) vals pss ∧ w.heap.size + 1 ≤ (w.alloc (.cells vals.toArray E)).drew.heap.size := by
  refine ⟨⟨by simp, Nat.le_refl _, by unfold maxLen; omega, h.one, (fun h => by cases h), fun _ => ⟨w.heap.size, 0, rfl, by omega, fun j u hj => ?_⟩⟩, h.keep (((Below.refl _ _).alloc (Nat.le_refl _) _).drew) (by omega), by simp⟩
  have hg : (w.alloc (.cells vals.toArray E)).drew.heap[w.heap.size]? = some (.cells vals.toArray E (0, 0)) := heap_alloc_new w _
  rw [cell_of_row _ w.heap.size (0 + j) vals.toArray E (0, 0) hg]
  simpa using hj

/-- The same, with no draw behind it. -/
theorem Parts.litp {w : World} {vals : List Value} {pss : List (List Value)} (h : Parts w w.heap.size vals pss) (E : TypeId) (hm : vals.length ≤ 1000000) :
    RowA (w.alloc (.cells vals.toArray E)) (w.heap.size + 1) 1 (some ⟨w.heap.size, 0, none⟩) vals.length vals.length vals ∧ Parts (w.alloc (.cells vals.toArray E)) (w.heap.size + 1) vals pss ∧ w.heap.size + 1 ≤ (w.alloc (.cells vals.toArray E)).heap.size := by
  refine ⟨⟨by simp, Nat.le_refl _, by unfold maxLen; omega, h.one, (fun h => by cases h), fun _ => ⟨w.heap.size, 0, rfl, by omega, fun j u hj => ?_⟩⟩, h.keep ((Below.refl _ _).alloc (Nat.le_refl _) _) (by omega), by simp⟩
  have hg : (w.alloc (.cells vals.toArray E)).heap[w.heap.size]? = some (.cells vals.toArray E (0, 0)) := heap_alloc_new w _
  rw [cell_of_row _ w.heap.size (0 + j) vals.toArray E (0, 0) hg]
  simpa using hj

/-- How long the first k are together. -/
def tot (pss : List (List Value)) (k : Nat) : Nat := (pss.take k).flatten.length
theorem tot_zero (pss : List (List Value)) : tot pss 0 = 0 := by simp [tot]
theorem flat_succ (pss : List (List Value)) (k : Nat) (h : k < pss.length) : (pss.take (k + 1)).flatten = (pss.take k).flatten ++ pss.getD k [] := by
  rw [getD_of_lt h, List.take_succ_eq_append_getElem h, List.flatten_append, List.flatten_singleton]
theorem tot_succ (pss : List (List Value)) (k : Nat) (h : k < pss.length) : tot pss (k + 1) = tot pss k + (pss.getD k []).length := by
  unfold tot; rw [flat_succ pss k h]; simp
theorem tot_le (pss : List (List Value)) (k : Nat) : tot pss k ≤ pss.flatten.length := by
  unfold tot
  conv => rhs; rw [← List.take_append_drop k pss, List.flatten_append, List.length_append]
  omega
theorem tot_all (pss : List (List Value)) : tot pss pss.length = pss.flatten.length := by simp [tot]

/-- Nothing but draws. -/
def Drawn (w w' : World) : Prop := ∃ q, w' = w.drewN q

theorem drawn_zero (w : World) : Drawn w w := ⟨0, rfl⟩
theorem drawn_one (w : World) (n : Nat) : Drawn w (w.drewN n) := ⟨n, rfl⟩
theorem drawn_two (w : World) (n m : Nat) : Drawn w ((w.drewN n).drewN m) := ⟨n + m, by simp [World.drewN, Nat.add_assoc]⟩
theorem Drawn.below {w w' : World} (h : Drawn w w') (B : Nat) : Below B w w' := by obtain ⟨q, rfl⟩ := h; exact below_drewN (Below.refl _ _) _
/-- The first k are the same. -/
def SameTo {α : Type} (xs ys : List α) (k : Nat) : Prop := xs.take k = ys.take k
theorem sameTo_zero {α : Type} (xs ys : List α) : SameTo xs ys 0 := by simp [SameTo]
theorem sameTo_succ {α : Type} {xs ys : List α} {k : Nat} (h : SameTo xs ys k) (h1 : k < xs.length) (h2 : k < ys.length) (he : xs[k] = ys[k]) : SameTo xs ys (k + 1) := by
  unfold SameTo at *
  rw [List.take_succ_eq_append_getElem h1, List.take_succ_eq_append_getElem h2, h, he]
theorem sameTo_all {α : Type} {xs ys : List α} (h : SameTo xs ys xs.length) (hl : xs.length = ys.length) : xs = ys := by
  unfold SameTo at h
  rw [List.take_of_length_le (Nat.le_refl _), List.take_of_length_le (by omega)] at h
  exact h
theorem same_not {α : Type} {xs ys : List α} {k : Nat} (h1 : k < xs.length) (h2 : k < ys.length) (he : xs[k] ≠ ys[k]) : xs ≠ ys := by
  rintro rfl; exact he rfl

/-- The call returned a slice of its own, with these cells; what was there is as it was. -/
def MadeRow (w : World) (e : TypeId) (sz n : Nat) (cs : List Value) (x : Ending) (w' : World) : Prop :=
  ∃ v, x = .returned v ∧ w'.ownsRow w.heap.size e sz v n cs ∧ Below w.heap.size w w'

/-- The call returned numbers in a slice of its own, and an error's number. -/
def MadeE (k : IntKind) (w : World) (t : TypeId) (zs : List Int) (e : Int) (x : Ending) (w' : World) : Prop :=
  ∃ v, x = .returned (.tuple #[v, .int .i64 e]) ∧ w'.ownsRow w.heap.size t 1 v zs.length (zs.map (Value.int k)) ∧ Below w.heap.size w w'

theorem own_ints {w : World} {base e n : Nat} {v : Value} {cs : List Value} {k : IntKind} {zs : List Int} (h : w.ownsRow base e 1 v n cs) (hc : cs = zs.map (Value.int k)) : w.ownsRow base e 1 v zs.length (zs.map (Value.int k)) := by
  subst hc
  have : n = zs.length := by simpa using h.1.symm
  subst this
  exact h
theorem own_nil {w w' : World} {base e : Nat} : w.ownsRow base e 1 (.slice none 0 0) ([] : List Int).length (([] : List Int).map (Value.int .i32)) := World.ownsRow_nil _ _ _ _
/-- The call returned two lists of numbers in slices of its own, and an error's number. -/
def MadeEE (k : IntKind) (w : World) (t : TypeId) (xs ys : List Int) (e : Int) (x : Ending) (w' : World) : Prop :=
  ∃ v u, x = .returned (.tuple #[v, u, .int .i64 e]) ∧ w'.ownsRow w.heap.size t 1 v xs.length (xs.map (Value.int k)) ∧ w'.ownsRow w.heap.size t 1 u ys.length (ys.map (Value.int k)) ∧ (v.ownBlock = none ∨ v.ownBlock ≠ u.ownBlock) ∧ Below w.heap.size w w'

/-- A literal of numbers, in a new block. -/
theorem row_ints (w : World) (zs : List Int) (k : IntKind) (E B : Nat) (hB : w.heap.size < B := by omega) (hm : zs.length ≤ 1000000 := by simp) : RowA (w.alloc (.cells (zs.map (Value.int k)).toArray E)) B 1 (some ⟨w.heap.size, 0, none⟩) zs.length zs.length (zs.map (Value.int k)) := by
  refine ⟨by simp, Nat.le_refl _, by unfold maxLen; omega, ints_one k zs, (fun h => by cases h), fun _ => ⟨w.heap.size, 0, rfl, hB, fun j u hj => ?_⟩⟩
  have hg : (w.alloc (.cells (zs.map (Value.int k)).toArray E)).heap[w.heap.size]? = some (.cells (zs.map (Value.int k)).toArray E (0, 0)) := heap_alloc_new w _
  rw [cell_of_row _ w.heap.size (0 + j) _ E (0, 0) hg]
  simpa using hj

/-- What a call that made numbers leaves, for the next walk. -/
theorem MadeE.open {k : IntKind} {w w' : World} {t : TypeId} {zs : List Int} {e : Int} {x : Ending} (h : MadeE k w t zs e x w') (hw : ∀ z ∈ zs, (Lit.int k z).wf = true) :
    ∃ a cap, x = .returned (.tuple #[.slice a zs.length cap, .int .i64 e]) ∧ Ints k w' w'.heap.size (.slice a zs.length cap) zs ∧ Below w.heap.size w w' := by
  obtain ⟨v, rfl, hown, hb⟩ := h
  obtain ⟨a, cap, rfl, hr⟩ := row_of_own hown (ints_one k zs)
  exact ⟨a, cap, rfl, ⟨⟨a, cap, rfl, hr⟩, hw⟩, hb⟩

theorem MadeEE.open {k : IntKind} {w w' : World} {t : TypeId} {xs ys : List Int} {e : Int} {x : Ending} (h : MadeEE k w t xs ys e x w') (hw : ∀ z ∈ xs, (Lit.int k z).wf = true) (hw' : ∀ z ∈ ys, (Lit.int k z).wf = true) :
    ∃ a cap a' cap', x = .returned (.tuple #[.slice a xs.length cap, .slice a' ys.length cap', .int .i64 e]) ∧ Ints k w' w'.heap.size (.slice a xs.length cap) xs ∧ Ints k w' w'.heap.size (.slice a' ys.length cap') ys ∧ Below w.heap.size w w' := by
  obtain ⟨v, u, rfl, hown, hown', _, hb⟩ := h
  obtain ⟨a, cap, rfl, hr⟩ := row_of_own hown (ints_one k xs)
  obtain ⟨a', cap', rfl, hr'⟩ := row_of_own hown' (ints_one k ys)
  exact ⟨a, cap, a', cap', rfl, ⟨⟨a, cap, rfl, hr⟩, hw⟩, ⟨⟨a', cap', rfl, hr'⟩, hw'⟩, hb⟩

/-- Is a number a rune? -/
def validB (c : Int) : Bool := decide (0 ≤ c ∧ c < 55296 ∨ 57343 < c ∧ c ≤ 1114111)

/-- The place of the first one that is wanted; -1: there is none. -/
def idx {α : Type} (p : α → Bool) (zs : List α) : Int := match zs.findIdx? p with | some i => (i : Int) | none => -1
/-- None of the first k is wanted. -/
def Upto {α : Type} (p : α → Bool) (zs : List α) (k : Nat) : Prop := ∀ x ∈ zs.take k, p x = false
theorem upto_zero {α : Type} (p : α → Bool) (zs : List α) : Upto p zs 0 := by simp [Upto]
theorem upto_succ {α : Type} {p : α → Bool} {zs : List α} {k : Nat} (h : Upto p zs k) (hk : k < zs.length) (hp : p zs[k] = false) : Upto p zs (k + 1) := by
  intro x hx
  rw [List.take_succ_eq_append_getElem hk] at hx
  rcases List.mem_append.1 hx with hx | hx
  · exact h x hx
  · simp at hx; subst hx; exact hp
theorem idx_at {α : Type} {p : α → Bool} {zs : List α} {k : Nat} (h : Upto p zs k) (hk : k < zs.length) (hp : p zs[k] = true) : idx p zs = k := by
  have : zs.findIdx? p = some k := by
    rw [List.findIdx?_eq_some_iff_getElem]
    refine ⟨hk, hp, fun j hj => ?_⟩
    have := h zs[j] (by rw [List.mem_take_iff_getElem]; exact ⟨j, by omega, rfl⟩)
    simp [this]
  simp [idx, this]
theorem idx_none {α : Type} {p : α → Bool} {zs : List α} (h : Upto p zs zs.length) : idx p zs = -1 := by
  have : zs.findIdx? p = none := by
    rw [List.findIdx?_eq_none_iff]
    intro x hx
    exact h x (by simpa using hx)
  simp [idx, this]
theorem idx_any {α : Type} (p : α → Bool) (zs : List α) : decide (0 ≤ idx p zs) = zs.any p := by
  unfold idx
  cases h : zs.findIdx? p with
  | none =>
    rw [List.findIdx?_eq_none_iff] at h
    have : zs.any p = false := by rw [List.any_eq_false]; intro x hx; simp [h x hx]
    simp [this]
  | some i =>
    have h' := h
    rw [List.findIdx?_eq_some_iff_getElem] at h'
    obtain ⟨hi, hp, _⟩ := h'
    have : zs.any p = true := List.any_eq_true.2 ⟨zs[i], List.getElem_mem hi, hp⟩
    simp [this]
theorem any_at {α : Type} {p : α → Bool} {zs : List α} {k : Nat} (h : k < zs.length) (hp : p zs[k] = true) : zs.any p = true := List.any_eq_true.2 ⟨zs[k], List.getElem_mem h, hp⟩
theorem any_none {α : Type} {p : α → Bool} {zs : List α} (h : Upto p zs zs.length) : zs.any p = false := by
  rw [List.any_eq_false]; intro x hx; simp [h x (by simpa using hx)]

/-- A hexadecimal digit. -/
def dig (n : Nat) : UInt8 := if n < 10 then UInt8.ofNat (48 + n) else UInt8.ofNat (87 + n)
/-- A number's hexadecimal digits; f: as many at most. -/
def hexF : Nat → Nat → List UInt8
  | 0, _ => []
  | f + 1, n => if n < 16 then [dig n] else hexF f (n / 16) ++ [dig (n % 16)]
def hexL (n : Nat) : List UInt8 := hexF 20 n

/-- What holds while digits are written from the end on. -/
def HInv (n u : Nat) (L : List UInt8) (i : Nat) : Prop := L.length ≤ 7 ∧ u < 16 ^ (8 - L.length) ∧ i + L.length = 65 ∧ hexF (20 - L.length) u ++ L = hexL n
theorem hinv_start {n : Nat} (h : n ≤ 2000000000) : HInv n n [] 65 := ⟨by simp, by simp; omega, rfl, by simp [hexL]⟩
theorem hinv_step {n u i : Nat} {L : List UInt8} (h : HInv n u L i) (hu : 16 ≤ u) : HInv n (u / 16) (dig (u % 16) :: L) (i - 1) := by
  obtain ⟨h1, h2, h3, h4⟩ := h
  have h6 : L.length ≤ 6 := by
    rcases Nat.lt_or_ge L.length 7 with h | h
    · omega
    · have : L.length = 7 := by omega
      rw [this] at h2; simp at h2; omega
  refine ⟨by simp; omega, ?_, by simp; omega, ?_⟩
  · have : 8 - L.length = (8 - (L.length + 1)) + 1 := by omega
    rw [this, Nat.pow_succ] at h2
    simp only [List.length_cons]
    exact Nat.div_lt_of_lt_mul (by rw [Nat.mul_comm]; exact h2)
  · have : 20 - L.length = (20 - (L.length + 1)) + 1 := by omega
    rw [this, hexF, if_neg (by omega)] at h4
    simpa using h4
theorem hinv_end {n u i : Nat} {L : List UInt8} (h : HInv n u L i) (hu : u < 16) : hexL n = dig u :: L := by
  obtain ⟨h1, h2, h3, h4⟩ := h
  have : 20 - L.length = (20 - (L.length + 1)) + 1 := by omega
  rw [this, hexF, if_pos hu] at h4
  exact h4.symm
theorem hinv_len {n u i : Nat} {L : List UInt8} (h : HInv n u L i) (hu : u < 16) : (dig u :: L).length = 65 - (i - 1) := by obtain ⟨h1, h2, h3, h4⟩ := h; simp; omega
theorem hinv_pos {n u i : Nat} {L : List UInt8} (h : HInv n u L i) : 58 ≤ i ∧ i ≤ 65 := by obtain ⟨h1, h2, h3, h4⟩ := h; omega
/-- The block's cells from i on are these bytes. -/
structure TailAt (w : World) (ba : Nat) (E : TypeId) (i : Nat) (L : List UInt8) : Prop where
  at_ : ∃ cur, w.heap[ba]? = some (.cells cur E (0, 0)) ∧ cur.size = 65 ∧ cur.toList.drop i = Lib.byteCells L
theorem TailAt.cell {w : World} {ba i : Nat} {E : TypeId} {L : List UInt8} (h : TailAt w ba E i L) (j : Nat) (hj : j < 65) : ∃ x, w.cell? ⟨ba, j, none⟩ = some x ∧ w.frozen? ⟨ba, j, none⟩ = false := by
  obtain ⟨cur, h1, h2, h3⟩ := h.at_
  have : j < cur.size := by omega
  exact ⟨cur[j], by simp [World.cell?, h1, Array.getElem?_eq_getElem this], by simp [World.frozen?, h1]⟩
theorem TailAt.put {w : World} {ba i : Nat} {E : TypeId} {L : List UInt8} (h : TailAt w ba E i L) (hi : 1 ≤ i) (hi' : i ≤ 65) (c : UInt8) : TailAt (w.setCell ⟨ba, i - 1, none⟩ (.int .u8 c.toNat)) ba E (i - 1) (c :: L) := by
  obtain ⟨cur, h1, h2, h3⟩ := h.at_
  refine ⟨cur.setIfInBounds (i - 1) (.int .u8 c.toNat), by simp [World.setCell, Array.getElem?_modify, h1], by simp [h2], ?_⟩
  have hlt : i - 1 < cur.size := by omega
  have hs : (i - 1) + 1 = i := by omega
  rw [Array.toList_setIfInBounds, List.drop_set, if_neg (by omega), Nat.sub_self]
  have hd : cur.toList.drop (i - 1) = cur[i - 1] :: cur.toList.drop i := by
    rw [List.drop_eq_getElem_cons (by simpa using hlt), hs]; simp
  rw [hd, h3]
  simp [Lib.byteCells]

theorem and15 (u : Nat) (h : u ≤ 2000000000) : bits BinOp.and IntKind.u64 (u : Int) 15 = ((u % 16 : Nat) : Int) := by
  have := u64_and_nat u 15 (by omega) (by omega)
  rw [show ((15 : Nat) : Int) = 15 from rfl] at this
  rw [this]
  congr 1
  exact Nat.and_two_pow_sub_one_eq_mod u 4

theorem dig_byte (m : Nat) (hm : m < 16) (h : m < (⟨#[48, 49, 50, 51, 52, 53, 54, 55, 56, 57, 97, 98, 99, 100, 101, 102, 103, 104, 105, 106, 107, 108, 109, 110, 111, 112, 113, 114, 115, 116, 117, 118, 119, 120, 121, 122]⟩ : ByteArray).size) : (⟨#[48, 49, 50, 51, 52, 53, 54, 55, 56, 57, 97, 98, 99, 100, 101, 102, 103, 104, 105, 106, 107, 108, 109, 110, 111, 112, 113, 114, 115, 116, 117, 118, 119, 120, 121, 122]⟩ : ByteArray)[m]'h = dig m := by
  have : m = 0 ∨ m = 1 ∨ m = 2 ∨ m = 3 ∨ m = 4 ∨ m = 5 ∨ m = 6 ∨ m = 7 ∨ m = 8 ∨ m = 9 ∨ m = 10 ∨ m = 11 ∨ m = 12 ∨ m = 13 ∨ m = 14 ∨ m = 15 := by omega
  rcases this with rfl | rfl | rfl | rfl | rfl | rfl | rfl | rfl | rfl | rfl | rfl | rfl | rfl | rfl | rfl | rfl <;> rfl

/-- string(bytes), the bytes at known cells. -/
theorem bytes_string {P : Program} {w : World} {src dst e : TypeId} (hs : P.underlying src = some (.slice e)) (he : P.underlying e = some (.int .u8)) (hd : P.underlying dst = some .string)
    (b off n cap : Nat) (L : List UInt8) (hn : L.length = n) (hc : ∀ j, j < L.length → w.cell? ⟨b, off + j, none⟩ = some (.int .u8 (L.getD j 0).toNat)) :
    (convert src dst (.slice (some ⟨b, off, none⟩) n cap)).run P w = .ok (.string ⟨L.toArray⟩) w := by
  subst hn
  rw [run_convert_bytes_arg w src e hs he b off L.length cap (L.map fun c => (c.toNat : Int)) (by simp) (fun i hi => by rw [hc i hi]; simp [List.getD, List.getElem?_eq_getElem hi]) dst hd]
  have : strOfNums (L.map fun c => (c.toNat : Int)) = ⟨L.toArray⟩ := by
    simp [strOfNums, Function.comp_def]
  rw [this]
theorem TailAt.string {P : Program} {w : World} {src dst e : TypeId} (hs : P.underlying src = some (.slice e)) (he : P.underlying e = some (.int .u8)) (hd : P.underlying dst = some .string)
    {ba i : Nat} {E : TypeId} {L : List UInt8} (h : TailAt w ba E i L) (n cap : Nat) (hn : L.length = n) : (convert src dst (.slice (some ⟨ba, i, none⟩) n cap)).run P w = .ok (.string ⟨L.toArray⟩) w := by
  obtain ⟨cur, h1, h2, h3⟩ := h.at_
  refine bytes_string hs he hd ba i n cap L hn fun j hj => ?_
  have h4 : cur.toList[i + j]? = some (.int .u8 (L.getD j 0).toNat) := by
    rw [← List.getElem?_drop, h3]
    simp [Lib.byteCells, List.getD, List.getElem?_eq_getElem hj]
  simp only [World.cell?, h1]
  simpa using h4

/-- How a rune is escaped. -/
def escL (n : Nat) : List UInt8 := 92 :: (hexL n ++ [59])
/-- Does a rune stand as it is? -/
def plainB (c : Int) : Bool := decide (32 ≤ c ∧ c ≤ 126 ∧ c ≠ 34 ∧ c ≠ 92)

theorem bytes_append (a b : List UInt8) : (⟨a.toArray⟩ : ByteArray) ++ ⟨b.toArray⟩ = ⟨(a ++ b).toArray⟩ := by
  apply ByteArray.ext
  simp
theorem esc_string (n : Nat) : (⟨#[92]⟩ : ByteArray) ++ ⟨(hexL n).toArray⟩ ++ ⟨#[59]⟩ = ⟨(escL n).toArray⟩ := by
  rw [show (⟨#[92]⟩ : ByteArray) = ⟨[92].toArray⟩ from rfl, show (⟨#[59]⟩ : ByteArray) = ⟨[59].toArray⟩ from rfl, bytes_append, bytes_append]
  simp [escL]

theorem hexF_len : ∀ f n, (hexF f n).length ≤ f
  | 0, _ => by simp [hexF]
  | f + 1, n => by
    unfold hexF
    split
    · simp
    · have := hexF_len f (n / 16); simp; omega
theorem hexL_len (n : Nat) : (hexL n).length ≤ 20 := hexF_len 20 n

/-- A rune's bytes in a quoted text. -/
def qb (c : Int) : List UInt8 := if plainB c then [UInt8.ofNat c.toNat] else escL c.toNat
def bodyL (zs : List Int) : List UInt8 := zs.flatMap qb
/-- A text, quoted. -/
def quoteL (zs : List Int) : List UInt8 := 34 :: (bodyL zs ++ [34])
theorem body_succ (zs : List Int) (k : Nat) (h : k < zs.length) : bodyL (zs.take (k + 1)) = bodyL (zs.take k) ++ qb zs[k] := by
  unfold bodyL; rw [List.take_succ_eq_append_getElem h, List.flatMap_append]; simp
theorem qb_len (c : Int) : (qb c).length ≤ 22 := by
  unfold qb; split
  · simp
  · have := hexL_len c.toNat; simp [escL]; omega
theorem body_len : ∀ zs : List Int, (bodyL zs).length ≤ 22 * zs.length
  | [] => by simp [bodyL]
  | c :: zs => by
    have h1 := body_len zs
    have h2 := qb_len c
    simp only [bodyL, List.flatMap_cons, List.length_append, List.length_cons] at *
    omega
theorem plain_bound {c : Int} (h : plainB c = true) : 0 ≤ c ∧ c ≤ 127 := by unfold plainB at h; simp at h; omega
theorem valid_bound {c : Int} (h : validB c = true) : 0 ≤ c ∧ c ≤ 1114111 := by unfold validB at h; simp at h; omega

theorem escL_len (n : Nat) : (escL n).length ≤ 22 := by have := hexL_len n; simp [escL]; omega
theorem quoteL_eq (zs : List Int) : quoteL zs = 34 :: bodyL (zs.take zs.length) ++ [34] := by simp [quoteL]

end Go.Redl
