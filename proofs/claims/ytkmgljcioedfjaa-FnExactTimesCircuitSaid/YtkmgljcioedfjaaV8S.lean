/- The law's levels: one of the two programs. The conditions: none. -/
import Derived.Test.YtkmgljcioedfjaaV8T
import Derived.KernelRfl
set_option linter.unusedVariables false
set_option linter.unusedSimpArgs false
set_option linter.unusedSectionVars false
namespace Go.Proofs.Ytkmgljcioedfjaa.V8
open Go.VM
set_option linter.unusedVariables false
set_option linter.unusedSimpArgs false
set_option maxRecDepth 100000
set_option maxHeartbeats 4000000 in
theorem runS0 : cl 29 [.int .i64 0] = some r0 := by kernel_rfl
theorem ansS0 : Answers Try.prog 29 [.int .i64 0] [] r0.1 r0.2 := cl_ok runS0
set_option maxHeartbeats 4000000 in
theorem runS1 : cl 29 [.int .i64 1] = some r1 := by kernel_rfl
theorem ansS1 : Answers Try.prog 29 [.int .i64 1] [] r1.1 r1.2 := cl_ok runS1
set_option maxHeartbeats 4000000 in
theorem runS2 : cl 29 [.int .i64 2] = some r2 := by kernel_rfl
theorem ansS2 : Answers Try.prog 29 [.int .i64 2] [] r2.1 r2.2 := cl_ok runS2
set_option maxHeartbeats 4000000 in
theorem runS3 : cl 29 [.int .i64 3] = some r3 := by kernel_rfl
theorem ansS3 : Answers Try.prog 29 [.int .i64 3] [] r3.1 r3.2 := cl_ok runS3
end Go.Proofs.Ytkmgljcioedfjaa.V8
