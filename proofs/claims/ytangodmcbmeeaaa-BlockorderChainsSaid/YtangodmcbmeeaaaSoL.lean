import Derived.Test.YtangodmcbmeeaaaProg
import Derived.Shelf.SortM.Plain
import Derived.Shelf.SortM.SortNone
set_option maxRecDepth 8000
set_option linter.unusedSimpArgs false
set_option linter.unusedVariables false
namespace Go.Proofs.Ytangodmcbmeeaaa
open Go.Shelf
def smR:Go.Shelf.Ren:=⟨fun | 5=>69 | 8=>94 | 7=>93 | 19=>119 | 20=>120 | 10=>110 | 11=>111 | 12=>112 | 13=>113 | 14=>114 | 15=>115 | 16=>116 | 17=>117 | 18=>118 | 30=>129 | 31=>130 | 32=>131 | 33=>132 | 34=>133 | 35=>89 | 40=>144 | n=>n,fun | 23=>29 | 25=>3 | 3=>3 | 32=>152 | 22=>29 | 0=>0 | 44=>171 | 46=>59 | 4=>4 | 36=>163 | 35=>162 | 41=>168 | 5=>5 | 9=>9 | 53=>182 | 57=>186 | 63=>202 | 64=>203 | n=>n,fun | n=>n⟩
theorem smL:Go.Proofs.SlLaysM.n5 Try.prog smR:={
 mixed:=by kernel_rfl
 f5:=⟨Try.f69.name,by decide,Try.func69.trans (congrArg some (by kernel_rfl))⟩
 f7:=⟨Try.f93.name,by decide,Try.func93.trans (congrArg some (by kernel_rfl))⟩
 f8:=Try.func94.trans (congrArg some (by kernel_rfl))
 f10:=⟨Try.f110.name,by decide,Try.func110.trans (congrArg some (by kernel_rfl))⟩
 f11:=⟨Try.f111.name,by decide,Try.func111.trans (congrArg some (by kernel_rfl))⟩
 f12:=⟨Try.f112.name,by decide,Try.func112.trans (congrArg some (by kernel_rfl))⟩
 f13:=⟨Try.f113.name,by decide,Try.func113.trans (congrArg some (by kernel_rfl))⟩
 f14:=⟨Try.f114.name,by decide,Try.func114.trans (congrArg some (by kernel_rfl))⟩
 f15:=⟨Try.f115.name,by decide,Try.func115.trans (congrArg some (by kernel_rfl))⟩
 f16:=⟨Try.f116.name,by decide,Try.func116.trans (congrArg some (by kernel_rfl))⟩
 f17:=⟨Try.f117.name,by decide,Try.func117.trans (congrArg some (by kernel_rfl))⟩
 f18:=⟨Try.f118.name,by decide,Try.func118.trans (congrArg some (by kernel_rfl))⟩
 f19:=Try.func119.trans (congrArg some (by kernel_rfl))
 f20:=Try.func120.trans (congrArg some (by kernel_rfl))
 f30:=⟨Try.f129.name,by decide,Try.func129.trans (congrArg some (by kernel_rfl))⟩
 f31:=Try.func130.trans (congrArg some (by kernel_rfl))
 f32:=Try.func131.trans (congrArg some (by kernel_rfl))
 f33:=⟨Try.f132.name,by decide,Try.func132.trans (congrArg some (by kernel_rfl))⟩
 f34:=⟨Try.f133.name,by decide,Try.func133.trans (congrArg some (by kernel_rfl))⟩
 f35:=⟨Try.f89.name,by decide,Try.func89.trans (congrArg some (by kernel_rfl))⟩
 f40:=⟨Try.f144.name,by decide,Try.func144.trans (congrArg some (by kernel_rfl))⟩
 t0:=Try.underlying0
 a0:=Try.isAgg0
 z0:=Try.sizeOf0
 v0:=Try.zeroValue0
 t3:=Try.underlying3
 a3:=Try.isAgg3
 z3:=Try.sizeOf3
 v3:=Try.zeroValue3
 t4:=Try.underlying4
 a4:=Try.isAgg4
 z4:=Try.sizeOf4
 v4:=Try.zeroValue4
 t5:=Try.underlying5
 a5:=Try.isAgg5
 z5:=Try.sizeOf5
 v5:=Try.zeroValue5
 t9:=Try.underlying9
 a9:=Try.isAgg9
 z9:=Try.sizeOf9
 v9:=Try.zeroValue9
 t22:=Try.underlying29
 a22:=Try.isAgg29
 z22:=Try.sizeOf29
 v22:=Try.zeroValue29
 t23:=Try.underlying29
 a23:=Try.isAgg29
 z23:=Try.sizeOf29
 v23:=Try.zeroValue29
 t25:=Try.underlying3
 a25:=Try.isAgg3
 z25:=Try.sizeOf3
 v25:=Try.zeroValue3
 t32:=Try.underlying152
 a32:=Try.isAgg152
 z32:=Try.sizeOf152
 v32:=Try.zeroValue152
 t35:=Try.underlying162
 a35:=Try.isAgg162
 z35:=Try.sizeOf162
 v35:=Try.zeroValue162
 t36:=Try.underlying163
 a36:=Try.isAgg163
 z36:=Try.sizeOf163
 v36:=Try.zeroValue163
 t41:=Try.underlying168
 a41:=Try.isAgg168
 z41:=Try.sizeOf168
 v41:=Try.zeroValue168
 t44:=Try.underlying171
 a44:=Try.isAgg171
 z44:=Try.sizeOf171
 v44:=Try.zeroValue171
 t46:=Try.underlying59
 a46:=Try.isAgg59
 z46:=Try.sizeOf59
 v46:=Try.zeroValue59
 t53:=Try.underlying182
 a53:=Try.isAgg182
 z53:=Try.sizeOf182
 v53:=Try.zeroValue182
 t57:=Try.underlying186
 a57:=Try.isAgg186
 z57:=Try.sizeOf186
 v57:=Try.zeroValue186
 t63:=Try.underlying202
 a63:=Try.isAgg202
 z63:=Try.sizeOf202
 v63:=Try.zeroValue202
 t64:=Try.underlying203
 a64:=Try.isAgg203
 z64:=Try.sizeOf203
 v64:=Try.zeroValue203
}
end Go.Proofs.Ytangodmcbmeeaaa
