/- Turns by rule 3, run to their ends. The conditions: none. -/
import Derived.Test.YtommghndpfimoaaDoorCoinRT
import Derived.KernelRfl
set_option linter.unusedVariables false
set_option linter.unusedSimpArgs false
set_option linter.unusedSectionVars false
namespace Go.VM
open Go Go.Proofs Go.Fn
set_option linter.unusedVariables false
set_option maxRecDepth 100000
set_option maxHeartbeats 4000000 in
theorem runS30 : cl 31 3 0 = some (.own 0, [(0, ⟨[.ints .u32 [1]], true⟩)]) := by kernel_rfl
set_option maxHeartbeats 4000000 in
theorem runS31 : cl 31 3 1 = some (.own 0, [(0, ⟨[.ints .u32 [2, 3]], true⟩)]) := by kernel_rfl
set_option maxHeartbeats 4000000 in
theorem runS32 : cl 31 3 2 = some (.own 0, [(0, ⟨[.ints .u32 [4, 5, 6, 7]], true⟩)]) := by kernel_rfl
set_option maxHeartbeats 4000000 in
theorem runS33 : cl 31 3 3 = some (.own 0, [(0, ⟨[.ints .u32 [8, 9, 10, 11, 12, 13, 14]], true⟩)]) := by kernel_rfl
set_option maxHeartbeats 4000000 in
theorem runS34 : cl 31 3 4 = some (.own 0, [(0, ⟨[.ints .u32 [16, 17, 18, 19, 20, 21, 22, 24, 25, 26, 28]], true⟩)]) := by kernel_rfl
set_option maxHeartbeats 4000000 in
theorem runS35 : cl 31 3 5 = some (.own 0, [(0, ⟨[.ints .u32 [32, 33, 34, 35, 36, 37, 38, 40, 41, 42, 44, 48, 49, 50, 52, 56]], true⟩)]) := by kernel_rfl
set_option maxHeartbeats 4000000 in
theorem runS36 : cl 31 3 6 = some (.own 0, [(0, ⟨[.ints .u32 [64, 65, 66, 67, 68, 69, 70, 72, 73, 74, 76, 80, 81, 82, 84, 88, 96, 97, 98, 100, 104, 112]], true⟩)]) := by kernel_rfl
set_option maxHeartbeats 4000000 in
theorem runS37 : cl 31 3 7 = some (.own 0, [(0, ⟨[.ints .u32 [128, 129, 130, 131, 132, 133, 134, 136, 137, 138, 140, 144, 145, 146, 148, 152, 160, 161, 162, 164, 168, 176, 192, 193, 194, 196, 200, 208, 224]], true⟩)]) := by kernel_rfl
end Go.VM
