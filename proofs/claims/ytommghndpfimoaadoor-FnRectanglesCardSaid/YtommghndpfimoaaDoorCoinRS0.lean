/- Turns by rule 0, run to their ends. The conditions: none. -/
import Derived.Test.YtommghndpfimoaaDoorCoinRT
import Derived.KernelRfl
set_option linter.unusedVariables false
set_option linter.unusedSimpArgs false
set_option linter.unusedSectionVars false
namespace Go.VM
open Go Go.Proofs Go.Fn
set_option linter.unusedVariables false
set_option maxRecDepth 100000
set_option maxHeartbeats 4000000 in
theorem runS00 : cl 31 0 0 = some (.own 0, [(0, ⟨[.ints .u32 [1]], true⟩)]) := by kernel_rfl
set_option maxHeartbeats 4000000 in
theorem runS01 : cl 31 0 1 = some (.own 0, [(0, ⟨[.ints .u32 [2]], true⟩)]) := by kernel_rfl
set_option maxHeartbeats 4000000 in
theorem runS02 : cl 31 0 2 = some (.own 0, [(0, ⟨[.ints .u32 [4]], true⟩)]) := by kernel_rfl
set_option maxHeartbeats 4000000 in
theorem runS03 : cl 31 0 3 = some (.own 0, [(0, ⟨[.ints .u32 [8]], true⟩)]) := by kernel_rfl
set_option maxHeartbeats 4000000 in
theorem runS04 : cl 31 0 4 = some (.own 0, [(0, ⟨[.ints .u32 [16]], true⟩)]) := by kernel_rfl
set_option maxHeartbeats 4000000 in
theorem runS05 : cl 31 0 5 = some (.own 0, [(0, ⟨[.ints .u32 [32]], true⟩)]) := by kernel_rfl
set_option maxHeartbeats 4000000 in
theorem runS06 : cl 31 0 6 = some (.own 0, [(0, ⟨[.ints .u32 [64]], true⟩)]) := by kernel_rfl
set_option maxHeartbeats 4000000 in
theorem runS07 : cl 31 0 7 = some (.own 0, [(0, ⟨[.ints .u32 [128]], true⟩)]) := by kernel_rfl
end Go.VM
