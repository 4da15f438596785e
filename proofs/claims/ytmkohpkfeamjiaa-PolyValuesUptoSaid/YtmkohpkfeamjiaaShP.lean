import Derived.Shelf.Small.Bits
import Derived.Ground.NamesProg
import Derived.Test.YtmkohpkfeamjiaaProg
set_option maxHeartbeats 400000
set_option linter.unusedVariables false
set_option linter.unusedSimpArgs false
set_option linter.unusedSectionVars false
namespace Go.Proofs
open Go.Shelf
def Try.lays125_ren : Go.Shelf.Ren:=⟨fun | 125=>87 | 128=>97 | 129=>98 | n=>n,fun | 46=>70 | 3=>3 | 51=>48 | 53=>69 | 4=>4 | 5=>5 | 9=>9 | n=>n,fun | n=>n⟩
theorem Try.lays125 : Go.Proofs.Lays.n125 Try.prog Try.lays125_ren:={
 mixed:=by kernel_rfl
 f125:=Try.func87.trans (congrArg some (by kernel_rfl))
 f128:=Try.func97.trans (congrArg some (by kernel_rfl))
 f129:=Try.func98.trans (congrArg some (by kernel_rfl))
 t3:=Try.underlying3
 a3:=Try.isAgg3
 z3:=Try.sizeOf3
 v3:=Try.zeroValue3
 t4:=Try.underlying4
 a4:=Try.isAgg4
 z4:=Try.sizeOf4
 v4:=Try.zeroValue4
 t5:=Try.underlying5
 a5:=Try.isAgg5
 z5:=Try.sizeOf5
 v5:=Try.zeroValue5
 t9:=Try.underlying9
 a9:=Try.isAgg9
 z9:=Try.sizeOf9
 v9:=Try.zeroValue9
 t46:=Try.underlying70
 a46:=Try.isAgg70
 z46:=Try.sizeOf70
 v46:=Try.zeroValue70
 t51:=Try.underlying48
 a51:=Try.isAgg48
 z51:=Try.sizeOf48
 v51:=Try.zeroValue48
 t53:=Try.underlying69
 a53:=Try.isAgg69
 z53:=Try.sizeOf69
 v53:=Try.zeroValue69 }
end Go.Proofs
