/- Turns by rule 0, run to their ends. The conditions: none. -/
import Derived.Test.YtommghndpfimoaaDoorCoinRT
import Derived.KernelRfl
set_option linter.unusedVariables false
set_option linter.unusedSimpArgs false
set_option linter.unusedSectionVars false
namespace Go.VM
open Go Go.Proofs Go.Fn
set_option linter.unusedVariables false
set_option maxRecDepth 100000
set_option maxHeartbeats 4000000 in
theorem runI00 : cl 33 0 0 = some (.own 0, [(0, ⟨[.ints .u32 [1]], true⟩)]) := by kernel_rfl
set_option maxHeartbeats 4000000 in
theorem runI01 : cl 33 0 1 = some (.own 0, [(0, ⟨[.ints .u32 [2]], true⟩)]) := by kernel_rfl
set_option maxHeartbeats 4000000 in
theorem runI02 : cl 33 0 2 = some (.own 0, [(0, ⟨[.ints .u32 [4]], true⟩)]) := by kernel_rfl
set_option maxHeartbeats 4000000 in
theorem runI03 : cl 33 0 3 = some (.own 0, [(0, ⟨[.ints .u32 [8]], true⟩)]) := by kernel_rfl
set_option maxHeartbeats 4000000 in
theorem runI04 : cl 33 0 4 = some (.own 0, [(0, ⟨[.ints .u32 [16]], true⟩)]) := by kernel_rfl
set_option maxHeartbeats 4000000 in
theorem runI05 : cl 33 0 5 = some (.own 0, [(0, ⟨[.ints .u32 [32]], true⟩)]) := by kernel_rfl
set_option maxHeartbeats 4000000 in
theorem runI06 : cl 33 0 6 = some (.own 0, [(0, ⟨[.ints .u32 [64]], true⟩)]) := by kernel_rfl
set_option maxHeartbeats 4000000 in
theorem runI07 : cl 33 0 7 = some (.own 0, [(0, ⟨[.ints .u32 [128]], true⟩)]) := by kernel_rfl
end Go.VM
