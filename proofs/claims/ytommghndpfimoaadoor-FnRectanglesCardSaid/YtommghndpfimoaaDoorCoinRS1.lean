/- Turns by rule 1, run to their ends. The conditions: none. -/
import Derived.Test.YtommghndpfimoaaDoorCoinRT
import Derived.KernelRfl
set_option linter.unusedVariables false
set_option linter.unusedSimpArgs false
set_option linter.unusedSectionVars false
namespace Go.VM
open Go Go.Proofs Go.Fn
set_option linter.unusedVariables false
set_option maxRecDepth 100000
set_option maxHeartbeats 4000000 in
theorem runS10 : cl 31 1 0 = some (.own 0, [(0, ⟨[.ints .u32 [1]], true⟩)]) := by kernel_rfl
set_option maxHeartbeats 4000000 in
theorem runS11 : cl 31 1 1 = some (.own 0, [(0, ⟨[.ints .u32 [2, 3]], true⟩)]) := by kernel_rfl
set_option maxHeartbeats 4000000 in
theorem runS12 : cl 31 1 2 = some (.own 0, [(0, ⟨[.ints .u32 [4, 5, 6]], true⟩)]) := by kernel_rfl
set_option maxHeartbeats 4000000 in
theorem runS13 : cl 31 1 3 = some (.own 0, [(0, ⟨[.ints .u32 [8, 9, 10, 12]], true⟩)]) := by kernel_rfl
set_option maxHeartbeats 4000000 in
theorem runS14 : cl 31 1 4 = some (.own 0, [(0, ⟨[.ints .u32 [16, 17, 18, 20, 24]], true⟩)]) := by kernel_rfl
set_option maxHeartbeats 4000000 in
theorem runS15 : cl 31 1 5 = some (.own 0, [(0, ⟨[.ints .u32 [32, 33, 34, 36, 40, 48]], true⟩)]) := by kernel_rfl
set_option maxHeartbeats 4000000 in
theorem runS16 : cl 31 1 6 = some (.own 0, [(0, ⟨[.ints .u32 [64, 65, 66, 68, 72, 80, 96]], true⟩)]) := by kernel_rfl
set_option maxHeartbeats 4000000 in
theorem runS17 : cl 31 1 7 = some (.own 0, [(0, ⟨[.ints .u32 [128, 129, 130, 132, 136, 144, 160, 192]], true⟩)]) := by kernel_rfl
end Go.VM
