/- Turns by rule 5, run to their ends. The conditions: none. -/
import Derived.Test.YtommghndpfimoaaDoorCoinRT
import Derived.KernelRfl
set_option linter.unusedVariables false
set_option linter.unusedSimpArgs false
set_option linter.unusedSectionVars false
namespace Go.VM
open Go Go.Proofs Go.Fn
set_option linter.unusedVariables false
set_option maxRecDepth 100000
set_option maxHeartbeats 4000000 in
theorem runI50 : cl 33 5 0 = some (.own 0, [(0, ⟨[.ints .u32 []], true⟩)]) := by kernel_rfl
set_option maxHeartbeats 4000000 in
theorem runI51 : cl 33 5 1 = some (.own 0, [(0, ⟨[.ints .u32 []], true⟩)]) := by kernel_rfl
set_option maxHeartbeats 4000000 in
theorem runI52 : cl 33 5 2 = some (.own 0, [(0, ⟨[.ints .u32 [7]], true⟩)]) := by kernel_rfl
set_option maxHeartbeats 4000000 in
theorem runI53 : cl 33 5 3 = some (.own 0, [(0, ⟨[.ints .u32 [11, 13, 14]], true⟩)]) := by kernel_rfl
set_option maxHeartbeats 4000000 in
theorem runI54 : cl 33 5 4 = some (.own 0, [(0, ⟨[.ints .u32 [19, 21, 22, 25, 26, 28]], true⟩)]) := by kernel_rfl
set_option maxHeartbeats 4000000 in
theorem runI55 : cl 33 5 5 = some (.own 0, [(0, ⟨[.ints .u32 [35, 37, 38, 41, 42, 44, 49, 50, 52, 56]], true⟩)]) := by kernel_rfl
set_option maxHeartbeats 4000000 in
theorem runI56 : cl 33 5 6 = some (.own 0, [(0, ⟨[.ints .u32 [67, 69, 70, 73, 74, 76, 81, 82, 84, 88, 97, 98, 100, 104, 112]], true⟩)]) := by kernel_rfl
set_option maxHeartbeats 4000000 in
theorem runI57 : cl 33 5 7 = some (.own 0, [(0, ⟨[.ints .u32 [131, 133, 134, 137, 138, 140, 145, 146, 148, 152, 161, 162, 164, 168, 176, 193, 194, 196, 200, 208, 224]], true⟩)]) := by kernel_rfl
end Go.VM
