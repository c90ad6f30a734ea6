/- Circuits at their levels: runs of one maker. The conditions: none. -/
import Derived.Test.YtofpjlnbeoochaaMkT
import Derived.KernelRfl
set_option linter.unusedVariables false
set_option linter.unusedSimpArgs false
set_option linter.unusedSectionVars false
namespace Go.VM
open Go Go.Proofs Go.Fn
set_option linter.unusedVariables false
set_option maxRecDepth 100000
set_option maxHeartbeats 4000000 in
theorem run_haI0 : mCl 25 0 = some (.tup [.agg [.int .i8 1, .own 0, .own 1], .int .i64 0], [(0, ⟨[.ints .i8 [0], .ints .i16 [0], .ints .i16 [0]], true⟩), (1, ⟨[.ints .i16 [0]], true⟩)]) := by kernel_rfl
set_option maxHeartbeats 4000000 in
theorem run_haI1 : mCl 25 1 = some (.tup [.agg [.int .i8 2, .own 0, .own 1], .int .i64 0], [(0, ⟨[.ints .i8 [0, 0, 2], .ints .i16 [0, 1, 1], .ints .i16 [0, 0, 0]], true⟩), (1, ⟨[.ints .i16 [1, 2]], true⟩)]) := by kernel_rfl
set_option maxHeartbeats 4000000 in
theorem run_haI2 : mCl 25 2 = some (.tup [.agg [.int .i8 4, .own 0, .own 1], .int .i64 0], [(0, ⟨[.ints .i8 [0, 0, 0, 0, 2, 2, 2, 2, 2], .ints .i16 [0, 1, 2, 3, 3, 1, 4, 3, 4], .ints .i16 [0, 0, 0, 0, 2, 0, 3, 1, 5]], true⟩), (1, ⟨[.ints .i16 [4, 6, 7, 8]], true⟩)]) := by kernel_rfl
set_option maxHeartbeats 4000000 in
theorem run_haI3 : mCl 25 3 = some (.tup [.agg [.int .i8 8, .own 0, .own 1], .int .i64 0], [(0, ⟨[.ints .i8 [0, 0, 0, 0, 0, 0, 0, 0, 2, 2, 2, 2, 2, 2, 2, 2, 2, 2, 2, 2, 2, 2, 2, 2, 2, 2, 2], .ints .i16 [0, 1, 2, 3, 4, 5, 6, 7, 7, 5, 8, 7, 8, 3, 1, 13, 3, 13, 12, 10, 18, 12, 18, 8, 10, 11, 12], .ints .i16 [0, 0, 0, 0, 0, 0, 0, 0, 6, 4, 7, 5, 9, 2, 0, 3, 1, 14, 11, 8, 12, 10, 19, 13, 15, 16, 17]], true⟩), (1, ⟨[.ints .i16 [18, 20, 21, 22, 23, 24, 25, 26]], true⟩)]) := by kernel_rfl
end Go.VM
