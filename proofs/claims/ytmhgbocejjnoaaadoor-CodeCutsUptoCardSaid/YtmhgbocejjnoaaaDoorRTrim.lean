/- strings.Trim at a set of ASCII bytes: its contract, laid by the kit (its shelf) at this program, in plain words. -/
import Derived.Shelf.Strings.SlTrimAscii
import Derived.Test.YtmhgbocejjnoaaaDoorProg
namespace Go.Proofs
open Go.Shelf
def Tryd.lays160_ren : Go.Shelf.Ren := ⟨fun | 160 => 86 | 232 => 95 | 231 => 94 | 227 => 96 | 234 => 98 | 233 => 97 | 236 => 100 | 235 => 99 | 228 => 105 | 271 => 108 | 151 => 107 | 197 => 106 | 120 => 117 | 152 => 116 | 260 => 115 | 137 => 72 | 119 => 51 | 224 => 121 | 225 => 122 | 217 => 84 | 266 => 92 | n => n, fun | 9 => 9 | 4 => 4 | 3 => 3 | 5 => 5 | 117 => 127 | 116 => 126 | 0 => 0 | 124 => 130 | 21 => 21 | 105 => 113 | 46 => 105 | 119 => 147 | 139 => 150 | 138 => 149 | n => n, fun | 3 => 6 | 4 => 7 | n => n⟩
theorem Tryd.lays160 : Go.Proofs.Lays.n160 Tryd.prog Tryd.lays160_ren := {
  mixed := by kernel_rfl
  f119 := Tryd.func51.trans (congrArg some (by kernel_rfl))
  f120 := Tryd.func117.trans (congrArg some (by kernel_rfl))
  f137 := Tryd.func72.trans (congrArg some (by kernel_rfl))
  f151 := Tryd.func107.trans (congrArg some (by kernel_rfl))
  f152 := Tryd.func116.trans (congrArg some (by kernel_rfl))
  f160 := Tryd.func86.trans (congrArg some (by kernel_rfl))
  f197 := Tryd.func106.trans (congrArg some (by kernel_rfl))
  f217 := Tryd.func84.trans (congrArg some (by kernel_rfl))
  f224 := Tryd.func121.trans (congrArg some (by kernel_rfl))
  f225 := Tryd.func122.trans (congrArg some (by kernel_rfl))
  f227 := Tryd.func96.trans (congrArg some (by kernel_rfl))
  f228 := Tryd.func105.trans (congrArg some (by kernel_rfl))
  f231 := Tryd.func94.trans (congrArg some (by kernel_rfl))
  f232 := Tryd.func95.trans (congrArg some (by kernel_rfl))
  f233 := Tryd.func97.trans (congrArg some (by kernel_rfl))
  f234 := Tryd.func98.trans (congrArg some (by kernel_rfl))
  f235 := Tryd.func99.trans (congrArg some (by kernel_rfl))
  f236 := Tryd.func100.trans (congrArg some (by kernel_rfl))
  f260 := Tryd.func115.trans (congrArg some (by kernel_rfl))
  f266 := Tryd.func92.trans (congrArg some (by kernel_rfl))
  f271 := Tryd.func108.trans (congrArg some (by kernel_rfl))
  t0 := Tryd.underlying0
  a0 := Tryd.isAgg0
  z0 := Tryd.sizeOf0
  v0 := Tryd.zeroValue0
  t3 := Tryd.underlying3
  a3 := Tryd.isAgg3
  z3 := Tryd.sizeOf3
  v3 := Tryd.zeroValue3
  t4 := Tryd.underlying4
  a4 := Tryd.isAgg4
  z4 := Tryd.sizeOf4
  v4 := Tryd.zeroValue4
  t5 := Tryd.underlying5
  a5 := Tryd.isAgg5
  z5 := Tryd.sizeOf5
  v5 := Tryd.zeroValue5
  t9 := Tryd.underlying9
  a9 := Tryd.isAgg9
  z9 := Tryd.sizeOf9
  v9 := Tryd.zeroValue9
  t21 := Tryd.underlying21
  a21 := Tryd.isAgg21
  z21 := Tryd.sizeOf21
  v21 := Tryd.zeroValue21
  t46 := Tryd.underlying105
  a46 := Tryd.isAgg105
  z46 := Tryd.sizeOf105
  v46 := Tryd.zeroValue105
  t105 := Tryd.underlying113
  a105 := Tryd.isAgg113
  z105 := Tryd.sizeOf113
  v105 := Tryd.zeroValue113
  t116 := Tryd.underlying126
  a116 := Tryd.isAgg126
  z116 := Tryd.sizeOf126
  t117 := Tryd.underlying127
  a117 := Tryd.isAgg127
  z117 := Tryd.sizeOf127
  v117 := Tryd.zeroValue127
  t119 := Tryd.underlying147
  a119 := Tryd.isAgg147
  z119 := Tryd.sizeOf147
  t124 := Tryd.underlying130
  a124 := Tryd.isAgg130
  z124 := Tryd.sizeOf130
  v124 := Tryd.zeroValue130
  t138 := Tryd.underlying149
  a138 := Tryd.isAgg149
  z138 := Tryd.sizeOf149
  v138 := Tryd.zeroValue149
  t139 := Tryd.underlying150
  a139 := Tryd.isAgg150
  z139 := Tryd.sizeOf150
  v139 := Tryd.zeroValue150
  g3 := by kernel_rfl
  g4 := by kernel_rfl }
open Go.RowKit in
theorem Tryd.strings_Trim_set (s cutset : ByteArray) (w : World) (hs : s.size ≤ 9223372036854775807) (hcs : cutset.size < 4294967281) (hascii : ∀ (j : Nat) b, cutset.data.toList[j]? = some b → b.toNat < 128) :
    Calls Tryd.prog 86 #[.string s, .string cutset] w fun e w' => e = .returned (.string ⟨(Lib.trimS s.data.toList cutset.data.toList).toArray⟩) ∧ Below w.heap.size w w' := Any.strings_Trim_laid Tryd.lays160 (by kernel_rfl) s cutset w hs hcs hascii
end Go.Proofs
