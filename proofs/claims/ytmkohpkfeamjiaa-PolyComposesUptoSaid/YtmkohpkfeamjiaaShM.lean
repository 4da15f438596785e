import Derived.Shelf.SlSortCmp.NoneTotal
import Derived.Ground.SlsfProg
import Derived.Test.YtmkohpkfeamjiaaProg
set_option maxHeartbeats 400000
set_option linter.unusedVariables false
set_option linter.unusedSimpArgs false
set_option linter.unusedSectionVars false
namespace Go.Proofs
open Go.Shelf
def Try.sortM_ren : Go.Shelf.Ren:=⟨fun | 6=>75 | 15=>87 | 14=>86 | 28=>97 | 29=>98 | 20=>89 | 21=>90 | 22=>91 | 23=>92 | 24=>93 | 25=>94 | 26=>95 | 27=>96 | 46=>99 | 47=>100 | 48=>101 | 49=>102 | 50=>103 | 57=>104 | n=>n,fun | 22=>22 | 24=>51 | 25=>80 | 3=>3 | 39=>70 | 0=>0 | 53=>48 | 55=>69 | 4=>4 | 46=>93 | 45=>92 | 50=>82 | 5=>5 | 9=>9 | 66=>100 | 70=>104 | 76=>106 | 77=>107 | n=>n,fun | n=>n⟩
theorem Try.sortM : Go.Proofs.SlLaysF0.n6 Try.prog Try.sortM_ren:={
 mixed:=by kernel_rfl
 f6:=⟨Try.f75.name,by decide,Try.func75.trans (congrArg some (by kernel_rfl))⟩
 f14:=⟨Try.f86.name,by decide,Try.func86.trans (congrArg some (by kernel_rfl))⟩
 f15:=Try.func87.trans (congrArg some (by kernel_rfl))
 f20:=⟨Try.f89.name,by decide,Try.func89.trans (congrArg some (by kernel_rfl))⟩
 f21:=⟨Try.f90.name,by decide,Try.func90.trans (congrArg some (by kernel_rfl))⟩
 f22:=⟨Try.f91.name,by decide,Try.func91.trans (congrArg some (by kernel_rfl))⟩
 f23:=⟨Try.f92.name,by decide,Try.func92.trans (congrArg some (by kernel_rfl))⟩
 f24:=⟨Try.f93.name,by decide,Try.func93.trans (congrArg some (by kernel_rfl))⟩
 f25:=⟨Try.f94.name,by decide,Try.func94.trans (congrArg some (by kernel_rfl))⟩
 f26:=⟨Try.f95.name,by decide,Try.func95.trans (congrArg some (by kernel_rfl))⟩
 f27:=⟨Try.f96.name,by decide,Try.func96.trans (congrArg some (by kernel_rfl))⟩
 f28:=Try.func97.trans (congrArg some (by kernel_rfl))
 f29:=Try.func98.trans (congrArg some (by kernel_rfl))
 f46:=⟨Try.f99.name,by decide,Try.func99.trans (congrArg some (by kernel_rfl))⟩
 f47:=Try.func100.trans (congrArg some (by kernel_rfl))
 f48:=Try.func101.trans (congrArg some (by kernel_rfl))
 f49:=⟨Try.f102.name,by decide,Try.func102.trans (congrArg some (by kernel_rfl))⟩
 f50:=⟨Try.f103.name,by decide,Try.func103.trans (congrArg some (by kernel_rfl))⟩
 f57:=⟨Try.f104.name,by decide,Try.func104.trans (congrArg some (by kernel_rfl))⟩
 t0:=Try.underlying0
 a0:=Try.isAgg0
 z0:=Try.sizeOf0
 v0:=Try.zeroValue0
 t3:=Try.underlying3
 a3:=Try.isAgg3
 z3:=Try.sizeOf3
 v3:=Try.zeroValue3
 t4:=Try.underlying4
 a4:=Try.isAgg4
 z4:=Try.sizeOf4
 v4:=Try.zeroValue4
 t5:=Try.underlying5
 a5:=Try.isAgg5
 z5:=Try.sizeOf5
 v5:=Try.zeroValue5
 t9:=Try.underlying9
 a9:=Try.isAgg9
 z9:=Try.sizeOf9
 v9:=Try.zeroValue9
 t22:=Try.underlying22
 a22:=Try.isAgg22
 z22:=Try.sizeOf22
 v22:=Try.zeroValue22
 t25:=Try.underlying80
 a25:=Try.isAgg80
 z25:=Try.sizeOf80
 v25:=Try.zeroValue80
 t39:=Try.underlying70
 a39:=Try.isAgg70
 z39:=Try.sizeOf70
 v39:=Try.zeroValue70
 t45:=Try.underlying92
 a45:=Try.isAgg92
 z45:=Try.sizeOf92
 v45:=Try.zeroValue92
 t46:=Try.underlying93
 a46:=Try.isAgg93
 z46:=Try.sizeOf93
 v46:=Try.zeroValue93
 t50:=Try.underlying82
 a50:=Try.isAgg82
 z50:=Try.sizeOf82
 v50:=Try.zeroValue82
 t53:=Try.underlying48
 a53:=Try.isAgg48
 z53:=Try.sizeOf48
 v53:=Try.zeroValue48
 t55:=Try.underlying69
 a55:=Try.isAgg69
 z55:=Try.sizeOf69
 v55:=Try.zeroValue69
 t66:=Try.underlying100
 a66:=Try.isAgg100
 z66:=Try.sizeOf100
 v66:=Try.zeroValue100
 t70:=Try.underlying104
 a70:=Try.isAgg104
 z70:=Try.sizeOf104
 v70:=Try.zeroValue104
 t76:=Try.underlying106
 a76:=Try.isAgg106
 z76:=Try.sizeOf106
 v76:=Try.zeroValue106
 t77:=Try.underlying107
 a77:=Try.isAgg107
 z77:=Try.sizeOf107
 v77:=Try.zeroValue107 }
end Go.Proofs
