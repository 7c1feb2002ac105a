/- The rows: facts on the program. -/
import Derived.Test.YthjoehaglonjaaaGreatTy
import Derived.Test.YthjoehaglonjaaaGreatEnA
import Derived.Test.YthjoehaglonjaaaGreatPvO
import Derived.Test.YthjoehaglonjaaaGreatPvY
import Derived.Test.YthjoehaglonjaaaGreatRows
set_option linter.unusedSimpArgs false
set_option linter.unusedVariables false
namespace Go.Proofs.YthjoehaglonjaaaGreat
open Go.PV
theorem own : ownKnob Tryz.prog.godebug = none := by kernel_rfl
theorem laidOut : laidOutB Tryz.prog = true := by kernel_rfl
end Go.Proofs.YthjoehaglonjaaaGreat
