/- Texts. -/
import Derived.Test.YtinphfpdfodkkaaGreatDoorS00
import Derived.Test.YtinphfpdfodkkaaGreatDoorProg
import Derived.Shelf.Strings.BuilderRune
import Derived.Shelf.Strings.BuilderK
set_option linter.unusedVariables false
set_option linter.unusedSimpArgs false
set_option maxHeartbeats 8000000
set_option maxRecDepth 100000
namespace Go.Proofs
open Go.Shelf
def Tryz.lays168_ren:Go.Shelf.Ren:=⟨fun|168=>145 | 240=>103 | 242=>163 | 276=>143 | 278=>168 | n=>n,fun|0=>0 | 3=>3 | 4=>4 | 5=>5 | 9=>9 | 20=>20 | 21=>21 | 37=>118 | 46=>236 | 51=>241 | 70=>117 | 72=>120 | 75=>132 | 80=>136 | 164=>218 | n=>n,fun|n=>n⟩
theorem Tryz.lays168:Go.Proofs.Lays.n168 Tryz.prog Tryz.lays168_ren:={
 mixed:=by kernel_rfl
 f168:=Tryz.func145.trans (congrArg some (by kernel_rfl))
 f240:=Tryz.func103.trans (congrArg some (by kernel_rfl))
 f242:=Tryz.func163.trans (congrArg some (by kernel_rfl))
 f276:=Tryz.func143.trans (congrArg some (by kernel_rfl))
 f278:=Tryz.func168.trans (congrArg some (by kernel_rfl))
 t0:=Tryz.underlying0
 a0:=Tryz.isAgg0
 z0:=Tryz.sizeOf0
 v0:=Tryz.zeroValue0
 t3:=Tryz.underlying3
 a3:=Tryz.isAgg3
 z3:=Tryz.sizeOf3
 v3:=Tryz.zeroValue3
 t4:=Tryz.underlying4
 a4:=Tryz.isAgg4
 z4:=Tryz.sizeOf4
 v4:=Tryz.zeroValue4
 t5:=Tryz.underlying5
 a5:=Tryz.isAgg5
 z5:=Tryz.sizeOf5
 v5:=Tryz.zeroValue5
 t9:=Tryz.underlying9
 a9:=Tryz.isAgg9
 z9:=Tryz.sizeOf9
 v9:=Tryz.zeroValue9
 t20:=Tryz.underlying20
 a20:=Tryz.isAgg20
 z20:=Tryz.sizeOf20
 v20:=Tryz.zeroValue20
 t21:=Tryz.underlying21
 a21:=Tryz.isAgg21
 z21:=Tryz.sizeOf21
 v21:=Tryz.zeroValue21
 t37:=Tryz.underlying118
 a37:=Tryz.isAgg118
 z37:=Tryz.sizeOf118
 v37:=Tryz.zeroValue118
 t46:=Tryz.underlying236
 a46:=Tryz.isAgg236
 z46:=Tryz.sizeOf236
 v46:=Tryz.zeroValue236
 t51:=Tryz.underlying241
 a51:=Tryz.isAgg241
 z51:=Tryz.sizeOf241
 v51:=Tryz.zeroValue241
 t70:=Tryz.underlying117
 a70:=Tryz.isAgg117
 z70:=Tryz.sizeOf117
 v70:=Tryz.zeroValue117
 t72:=Tryz.underlying120
 a72:=Tryz.isAgg120
 z72:=Tryz.sizeOf120
 v72:=Tryz.zeroValue120
 t75:=Tryz.underlying132
 a75:=Tryz.isAgg132
 z75:=Tryz.sizeOf132
 v75:=Tryz.zeroValue132
 t164:=Tryz.underlying218
 a164:=Tryz.isAgg218
 z164:=Tryz.sizeOf218
 v164:=Tryz.zeroValue218 }
theorem Tryz.Builder_Extra_168:Builder.Extra Tryz.prog Tryz.lays168_ren:={
 sizeBuilder:=by kernel_rfl
 liesBuilder:=by kernel_rfl
 t5:=Tryz.underlying5
 a5:=Tryz.isAgg5
 z5:=Tryz.sizeOf5
 v5:=Tryz.zeroValue5
 infoByte:=by kernel_rfl
 cellsByte:=by kernel_rfl
 sizeByte:=by kernel_rfl
 neB5:=by decide }
end Go.Proofs
