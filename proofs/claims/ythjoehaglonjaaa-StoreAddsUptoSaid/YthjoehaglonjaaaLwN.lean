/- The rows: facts on the program. -/
import Derived.Test.YthjoehaglonjaaaTy
import Derived.Test.YthjoehaglonjaaaEnA
import Derived.Test.YthjoehaglonjaaaPvO
import Derived.Test.YthjoehaglonjaaaPvY
import Derived.Test.YthjoehaglonjaaaRows
set_option maxRecDepth 8000
set_option linter.unusedSimpArgs false
set_option linter.unusedVariables false
namespace Go.Proofs.Ythjoehaglonjaaa
open Go.PV
theorem own:ownKnob Try.prog.godebug = none:=by kernel_rfl
theorem laidOut:laidOutB Try.prog = true:=by kernel_rfl
end Go.Proofs.Ythjoehaglonjaaa
