/- Turns by rule 2, run to their ends. The conditions: none. -/
import Derived.Test.YtommghndpfimoaaDoorCoinRT
import Derived.KernelRfl
set_option linter.unusedVariables false
set_option linter.unusedSimpArgs false
set_option linter.unusedSectionVars false
namespace Go.VM
open Go Go.Proofs Go.Fn
set_option linter.unusedVariables false
set_option maxRecDepth 100000
set_option maxHeartbeats 4000000 in
theorem runI20 : cl 33 2 0 = some (.own 0, [(0, ⟨[.ints .u32 []], true⟩)]) := by kernel_rfl
set_option maxHeartbeats 4000000 in
theorem runI21 : cl 33 2 1 = some (.own 0, [(0, ⟨[.ints .u32 [3]], true⟩)]) := by kernel_rfl
set_option maxHeartbeats 4000000 in
theorem runI22 : cl 33 2 2 = some (.own 0, [(0, ⟨[.ints .u32 [5, 6]], true⟩)]) := by kernel_rfl
set_option maxHeartbeats 4000000 in
theorem runI23 : cl 33 2 3 = some (.own 0, [(0, ⟨[.ints .u32 [9, 10, 12]], true⟩)]) := by kernel_rfl
set_option maxHeartbeats 4000000 in
theorem runI24 : cl 33 2 4 = some (.own 0, [(0, ⟨[.ints .u32 [17, 18, 20, 24]], true⟩)]) := by kernel_rfl
set_option maxHeartbeats 4000000 in
theorem runI25 : cl 33 2 5 = some (.own 0, [(0, ⟨[.ints .u32 [33, 34, 36, 40, 48]], true⟩)]) := by kernel_rfl
set_option maxHeartbeats 4000000 in
theorem runI26 : cl 33 2 6 = some (.own 0, [(0, ⟨[.ints .u32 [65, 66, 68, 72, 80, 96]], true⟩)]) := by kernel_rfl
set_option maxHeartbeats 4000000 in
theorem runI27 : cl 33 2 7 = some (.own 0, [(0, ⟨[.ints .u32 [129, 130, 132, 136, 144, 160, 192]], true⟩)]) := by kernel_rfl
end Go.VM
