/- The table of types is the program's own. The conditions: none. -/
import Derived.Test.YtjdhdjbppidmlaaDoorCircT
import Derived.Test.YtjdhdjbppidmlaaDoorVmP1
import Derived.KernelRfl
set_option linter.unusedVariables false
set_option linter.unusedSimpArgs false
set_option linter.unusedSectionVars false
namespace Go.VM
open Go.Proofs
theorem tabOk : TabOk Tryd.prog tab := tabOk_of (by kernel_rfl)
theorem mixed : Tryd.prog.follows .mixedOrders = true := by kernel_rfl
end Go.VM
