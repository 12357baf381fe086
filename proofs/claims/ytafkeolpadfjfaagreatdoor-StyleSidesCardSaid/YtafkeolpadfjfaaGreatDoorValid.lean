/- The shelf's facts for unicode/utf8.ValidString at this translation. -/
import Derived.Test.YtafkeolpadfjfaaGreatDoorProg
import Derived.Shelf.Unicode.ValidAny
namespace Go.Proofs
open Go.Shelf
def Tryz.lays196_ren : Go.Shelf.Ren := ⟨fun | 196 => 107 | 259 => 144 | n => n, fun | 0 => 0 | 3 => 3 | 4 => 4 | 5 => 5 | 9 => 9 | 12 => 12 | 46 => 161 | 53 => 198 | 119 => 158 | 138 => 184 | 139 => 185 | n => n, fun | 3 => 3 | 4 => 4 | n => n⟩
theorem Tryz.lays196 : Go.Proofs.Lays.n196 Tryz.prog Tryz.lays196_ren := {
  mixed := by kernel_rfl
  f196 := Tryz.func107.trans (congrArg some (by kernel_rfl))
  f259 := Tryz.func144.trans (congrArg some (by kernel_rfl))
  t0 := Tryz.underlying0
  a0 := Tryz.isAgg0
  z0 := Tryz.sizeOf0
  v0 := Tryz.zeroValue0
  t3 := Tryz.underlying3
  a3 := Tryz.isAgg3
  z3 := Tryz.sizeOf3
  v3 := Tryz.zeroValue3
  t4 := Tryz.underlying4
  a4 := Tryz.isAgg4
  z4 := Tryz.sizeOf4
  v4 := Tryz.zeroValue4
  t5 := Tryz.underlying5
  a5 := Tryz.isAgg5
  z5 := Tryz.sizeOf5
  v5 := Tryz.zeroValue5
  t9 := Tryz.underlying9
  a9 := Tryz.isAgg9
  z9 := Tryz.sizeOf9
  v9 := Tryz.zeroValue9
  t12 := Tryz.underlying12
  a12 := Tryz.isAgg12
  z12 := Tryz.sizeOf12
  v12 := Tryz.zeroValue12
  t46 := Tryz.underlying161
  a46 := Tryz.isAgg161
  z46 := Tryz.sizeOf161
  v46 := Tryz.zeroValue161
  t53 := Tryz.underlying198
  a53 := Tryz.isAgg198
  z53 := Tryz.sizeOf198
  v53 := Tryz.zeroValue198
  t119 := Tryz.underlying158
  a119 := Tryz.isAgg158
  z119 := Tryz.sizeOf158
  t138 := Tryz.underlying184
  a138 := Tryz.isAgg184
  z138 := Tryz.sizeOf184
  v138 := Tryz.zeroValue184
  t139 := Tryz.underlying185
  a139 := Tryz.isAgg185
  z139 := Tryz.sizeOf185
  v139 := Tryz.zeroValue185
  g3 := by kernel_rfl
  g4 := by kernel_rfl }
end Go.Proofs
