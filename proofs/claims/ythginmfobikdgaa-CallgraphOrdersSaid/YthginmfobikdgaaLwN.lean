/- The rows: facts on the program. -/
import Derived.Test.YthginmfobikdgaaTy
import Derived.Test.YthginmfobikdgaaEnA
import Derived.Test.YthginmfobikdgaaPvO
import Derived.Test.YthginmfobikdgaaPvY
import Derived.Test.YthginmfobikdgaaRows
set_option maxRecDepth 8000
set_option linter.unusedSimpArgs false
set_option linter.unusedVariables false
namespace Go.Proofs.Ythginmfobikdgaa
open Go.PV
theorem own:ownKnob Try.prog.godebug = none:=by kernel_rfl
theorem laidOut:laidOutB Try.prog = true:=by kernel_rfl
end Go.Proofs.Ythginmfobikdgaa
