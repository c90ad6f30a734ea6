/- The law's level 3: one of the two programs. The conditions: none. -/
import Derived.Test.YtkmgljcioedfjaaV4T
namespace Go.Proofs.Ytkmgljcioedfjaa.V4
open Go.VM
set_option linter.unusedVariables false
set_option linter.unusedSimpArgs false
set_option maxRecDepth 100000
set_option maxHeartbeats 4000000 in
theorem runI : cl 20 [.int .i64 3] = some r3 := by kernel_rfl
theorem ansI : Answers Try.prog 20 [.int .i64 3] [] r3.1 r3.2 := cl_ok runI
end Go.Proofs.Ytkmgljcioedfjaa.V4
