/- Turns by rule 4, run to their ends. The conditions: none. -/
import Derived.Test.YtommghndpfimoaaDoorCoinRT
import Derived.KernelRfl
set_option linter.unusedVariables false
set_option linter.unusedSimpArgs false
set_option linter.unusedSectionVars false
namespace Go.VM
open Go Go.Proofs Go.Fn
set_option linter.unusedVariables false
set_option maxRecDepth 100000
set_option maxHeartbeats 4000000 in
theorem runS40 : cl 31 4 0 = some (.own 0, [(0, ⟨[.ints .u32 [1]], true⟩)]) := by kernel_rfl
set_option maxHeartbeats 4000000 in
theorem runS41 : cl 31 4 1 = some (.own 0, [(0, ⟨[.ints .u32 [2, 3]], true⟩)]) := by kernel_rfl
set_option maxHeartbeats 4000000 in
theorem runS42 : cl 31 4 2 = some (.own 0, [(0, ⟨[.ints .u32 [4, 6, 7]], true⟩)]) := by kernel_rfl
set_option maxHeartbeats 4000000 in
theorem runS43 : cl 31 4 3 = some (.own 0, [(0, ⟨[.ints .u32 [8, 12, 14, 15]], true⟩)]) := by kernel_rfl
set_option maxHeartbeats 4000000 in
theorem runS44 : cl 31 4 4 = some (.own 0, [(0, ⟨[.ints .u32 [16, 24, 28, 30, 31]], true⟩)]) := by kernel_rfl
set_option maxHeartbeats 4000000 in
theorem runS45 : cl 31 4 5 = some (.own 0, [(0, ⟨[.ints .u32 [32, 48, 56, 60, 62, 63]], true⟩)]) := by kernel_rfl
set_option maxHeartbeats 4000000 in
theorem runS46 : cl 31 4 6 = some (.own 0, [(0, ⟨[.ints .u32 [64, 96, 112, 120, 124, 126, 127]], true⟩)]) := by kernel_rfl
set_option maxHeartbeats 4000000 in
theorem runS47 : cl 31 4 7 = some (.own 0, [(0, ⟨[.ints .u32 [128, 192, 224, 240, 248, 252, 254, 255]], true⟩)]) := by kernel_rfl
end Go.VM
