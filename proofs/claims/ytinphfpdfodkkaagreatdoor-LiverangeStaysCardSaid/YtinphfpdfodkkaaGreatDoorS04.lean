/- Texts. -/
import Derived.Test.YtinphfpdfodkkaaGreatDoorS00
import Derived.Test.YtinphfpdfodkkaaGreatDoorProg
import Derived.Shelf.Unicode.ValidAny
set_option linter.unusedVariables false
set_option linter.unusedSimpArgs false
set_option maxHeartbeats 8000000
set_option maxRecDepth 100000
namespace Go.Proofs
open Go.Shelf
def Tryz.lays196_ren:Go.Shelf.Ren:=⟨fun|196=>144 | 259=>162 | n=>n,fun|0=>0 | 3=>3 | 4=>4 | 5=>5 | 9=>9 | 12=>12 | 46=>236 | 53=>240 | 119=>232 | 138=>234 | 139=>235 | n=>n,fun|3=>0 | 4=>1 | n=>n⟩
theorem Tryz.lays196:Go.Proofs.Lays.n196 Tryz.prog Tryz.lays196_ren:={
 mixed:=by kernel_rfl
 f196:=Tryz.func144.trans (congrArg some (by kernel_rfl))
 f259:=Tryz.func162.trans (congrArg some (by kernel_rfl))
 t0:=Tryz.underlying0
 a0:=Tryz.isAgg0
 z0:=Tryz.sizeOf0
 v0:=Tryz.zeroValue0
 t3:=Tryz.underlying3
 a3:=Tryz.isAgg3
 z3:=Tryz.sizeOf3
 v3:=Tryz.zeroValue3
 t4:=Tryz.underlying4
 a4:=Tryz.isAgg4
 z4:=Tryz.sizeOf4
 v4:=Tryz.zeroValue4
 t5:=Tryz.underlying5
 a5:=Tryz.isAgg5
 z5:=Tryz.sizeOf5
 v5:=Tryz.zeroValue5
 t9:=Tryz.underlying9
 a9:=Tryz.isAgg9
 z9:=Tryz.sizeOf9
 v9:=Tryz.zeroValue9
 t12:=Tryz.underlying12
 a12:=Tryz.isAgg12
 z12:=Tryz.sizeOf12
 v12:=Tryz.zeroValue12
 t46:=Tryz.underlying236
 a46:=Tryz.isAgg236
 z46:=Tryz.sizeOf236
 v46:=Tryz.zeroValue236
 t53:=Tryz.underlying240
 a53:=Tryz.isAgg240
 z53:=Tryz.sizeOf240
 v53:=Tryz.zeroValue240
 t119:=Tryz.underlying232
 a119:=Tryz.isAgg232
 z119:=Tryz.sizeOf232
 t138:=Tryz.underlying234
 a138:=Tryz.isAgg234
 z138:=Tryz.sizeOf234
 v138:=Tryz.zeroValue234
 t139:=Tryz.underlying235
 a139:=Tryz.isAgg235
 z139:=Tryz.sizeOf235
 v139:=Tryz.zeroValue235
 g3:=by kernel_rfl
 g4:=by kernel_rfl }
end Go.Proofs
