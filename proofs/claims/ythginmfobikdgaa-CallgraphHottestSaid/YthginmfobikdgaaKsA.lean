import Derived.Test.YthginmfobikdgaaProg
import Derived.Shelf.SlIterI.Sorted
import Derived.Shelf.SortM.Plain
import Derived.Shelf.SortM.SortNone
set_option maxRecDepth 8000
set_option linter.unusedSimpArgs false
set_option linter.unusedVariables false
namespace Go.Proofs.Ythginmfobikdgaa
open Go.Shelf
def ziR:Go.Shelf.Ren:=⟨fun | 6=>70 | 8=>104 | 9=>105 | 11=>125 | 13=>127 | 12=>126 | 23=>140 | 24=>141 | 14=>131 | 15=>132 | 16=>133 | 17=>134 | 18=>135 | 19=>136 | 20=>137 | 21=>138 | 22=>139 | 25=>159 | 26=>160 | 27=>161 | 28=>162 | 29=>163 | 30=>98 | 31=>170 | n=>n,fun | 26=>3 | 28=>135 | 24=>40 | 0=>0 | 3=>3 | 37=>186 | 48=>201 | 50=>25 | 4=>4 | 40=>193 | 39=>192 | 45=>198 | 5=>5 | 9=>9 | 51=>213 | 55=>217 | 57=>223 | 58=>224 | 33=>119 | n=>n,fun | n=>n⟩
theorem ziL:Go.Proofs.SlLaysZI.n6 Try.prog ziR:={
 mixed:=by kernel_rfl
 f6:=⟨Try.f70.name,by decide,Try.func70.trans (congrArg some (by kernel_rfl))⟩
 f8:=⟨Try.f104.name,by decide,Try.func104.trans (congrArg some (by kernel_rfl))⟩
 f11:=⟨Try.f125.name,by decide,Try.func125.trans (congrArg some (by kernel_rfl))⟩
 t0:=Try.underlying0
 a0:=Try.isAgg0
 z0:=Try.sizeOf0
 v0:=Try.zeroValue0
 t24:=Try.underlying40
 a24:=Try.isAgg40
 z24:=Try.sizeOf40
 v24:=Try.zeroValue40
 t26:=Try.underlying3
 a26:=Try.isAgg3
 z26:=Try.sizeOf3
 v26:=Try.zeroValue3
 t28:=Try.underlying135
 a28:=Try.isAgg135
 z28:=Try.sizeOf135
 v28:=Try.zeroValue135
 i26:=by kernel_rfl
}
def smR:Go.Shelf.Ren:=⟨fun | 5=>105 | 8=>127 | 7=>126 | 19=>140 | 20=>141 | 10=>131 | 11=>132 | 12=>133 | 13=>134 | 14=>135 | 15=>136 | 16=>137 | 17=>138 | 18=>139 | 30=>159 | 31=>160 | 32=>161 | 33=>162 | 34=>163 | 35=>98 | 40=>170 | n=>n,fun | 23=>40 | 25=>3 | 3=>3 | 32=>186 | 22=>40 | 0=>0 | 44=>201 | 46=>25 | 4=>4 | 36=>193 | 35=>192 | 41=>198 | 5=>5 | 9=>9 | 53=>213 | 57=>217 | 63=>223 | 64=>224 | n=>n,fun | n=>n⟩
theorem smL:Go.Proofs.SlLaysM.n5 Try.prog smR:={
 mixed:=by kernel_rfl
 f5:=⟨Try.f105.name,by decide,Try.func105.trans (congrArg some (by kernel_rfl))⟩
 f7:=⟨Try.f126.name,by decide,Try.func126.trans (congrArg some (by kernel_rfl))⟩
 f8:=Try.func127.trans (congrArg some (by kernel_rfl))
 f10:=⟨Try.f131.name,by decide,Try.func131.trans (congrArg some (by kernel_rfl))⟩
 f11:=⟨Try.f132.name,by decide,Try.func132.trans (congrArg some (by kernel_rfl))⟩
 f12:=⟨Try.f133.name,by decide,Try.func133.trans (congrArg some (by kernel_rfl))⟩
 f13:=⟨Try.f134.name,by decide,Try.func134.trans (congrArg some (by kernel_rfl))⟩
 f14:=⟨Try.f135.name,by decide,Try.func135.trans (congrArg some (by kernel_rfl))⟩
 f15:=⟨Try.f136.name,by decide,Try.func136.trans (congrArg some (by kernel_rfl))⟩
 f16:=⟨Try.f137.name,by decide,Try.func137.trans (congrArg some (by kernel_rfl))⟩
 f17:=⟨Try.f138.name,by decide,Try.func138.trans (congrArg some (by kernel_rfl))⟩
 f18:=⟨Try.f139.name,by decide,Try.func139.trans (congrArg some (by kernel_rfl))⟩
 f19:=Try.func140.trans (congrArg some (by kernel_rfl))
 f20:=Try.func141.trans (congrArg some (by kernel_rfl))
 f30:=⟨Try.f159.name,by decide,Try.func159.trans (congrArg some (by kernel_rfl))⟩
 f31:=Try.func160.trans (congrArg some (by kernel_rfl))
 f32:=Try.func161.trans (congrArg some (by kernel_rfl))
 f33:=⟨Try.f162.name,by decide,Try.func162.trans (congrArg some (by kernel_rfl))⟩
 f34:=⟨Try.f163.name,by decide,Try.func163.trans (congrArg some (by kernel_rfl))⟩
 f35:=⟨Try.f98.name,by decide,Try.func98.trans (congrArg some (by kernel_rfl))⟩
 f40:=⟨Try.f170.name,by decide,Try.func170.trans (congrArg some (by kernel_rfl))⟩
 t0:=Try.underlying0
 a0:=Try.isAgg0
 z0:=Try.sizeOf0
 v0:=Try.zeroValue0
 t3:=Try.underlying3
 a3:=Try.isAgg3
 z3:=Try.sizeOf3
 v3:=Try.zeroValue3
 t4:=Try.underlying4
 a4:=Try.isAgg4
 z4:=Try.sizeOf4
 v4:=Try.zeroValue4
 t5:=Try.underlying5
 a5:=Try.isAgg5
 z5:=Try.sizeOf5
 v5:=Try.zeroValue5
 t9:=Try.underlying9
 a9:=Try.isAgg9
 z9:=Try.sizeOf9
 v9:=Try.zeroValue9
 t22:=Try.underlying40
 a22:=Try.isAgg40
 z22:=Try.sizeOf40
 v22:=Try.zeroValue40
 t23:=Try.underlying40
 a23:=Try.isAgg40
 z23:=Try.sizeOf40
 v23:=Try.zeroValue40
 t25:=Try.underlying3
 a25:=Try.isAgg3
 z25:=Try.sizeOf3
 v25:=Try.zeroValue3
 t32:=Try.underlying186
 a32:=Try.isAgg186
 z32:=Try.sizeOf186
 v32:=Try.zeroValue186
 t35:=Try.underlying192
 a35:=Try.isAgg192
 z35:=Try.sizeOf192
 v35:=Try.zeroValue192
 t36:=Try.underlying193
 a36:=Try.isAgg193
 z36:=Try.sizeOf193
 v36:=Try.zeroValue193
 t41:=Try.underlying198
 a41:=Try.isAgg198
 z41:=Try.sizeOf198
 v41:=Try.zeroValue198
 t44:=Try.underlying201
 a44:=Try.isAgg201
 z44:=Try.sizeOf201
 v44:=Try.zeroValue201
 t46:=Try.underlying25
 a46:=Try.isAgg25
 z46:=Try.sizeOf25
 v46:=Try.zeroValue25
 t53:=Try.underlying213
 a53:=Try.isAgg213
 z53:=Try.sizeOf213
 v53:=Try.zeroValue213
 t57:=Try.underlying217
 a57:=Try.isAgg217
 z57:=Try.sizeOf217
 v57:=Try.zeroValue217
 t63:=Try.underlying223
 a63:=Try.isAgg223
 z63:=Try.sizeOf223
 v63:=Try.zeroValue223
 t64:=Try.underlying224
 a64:=Try.isAgg224
 z64:=Try.sizeOf224
 v64:=Try.zeroValue224
}
end Go.Proofs.Ythginmfobikdgaa
