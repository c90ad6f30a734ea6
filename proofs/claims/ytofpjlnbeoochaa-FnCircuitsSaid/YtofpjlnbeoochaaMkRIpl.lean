/- Circuits at their levels: runs of one maker. The conditions: none. -/
import Derived.Test.YtofpjlnbeoochaaMkT
import Derived.KernelRfl
set_option linter.unusedVariables false
set_option linter.unusedSimpArgs false
set_option linter.unusedSectionVars false
namespace Go.VM
open Go Go.Proofs Go.Fn
set_option linter.unusedVariables false
set_option maxRecDepth 100000
set_option maxHeartbeats 4000000 in
theorem run_plI0 : mCl 19 0 = some (.tup [.agg [.int .i8 2, .own 0, .own 1], .int .i64 0], [(0, ⟨[.ints .i8 [0, 0, 2], .ints .i16 [0, 1, 0], .ints .i16 [0, 0, 1]], true⟩), (1, ⟨[.ints .i16 [2]], true⟩)]) := by kernel_rfl
set_option maxHeartbeats 4000000 in
theorem run_plI1 : mCl 19 1 = some (.tup [.agg [.int .i8 4, .own 0, .own 1], .int .i64 0], [(0, ⟨[.ints .i8 [0, 0, 0, 0, 2, 2], .ints .i16 [0, 1, 2, 3, 0, 1], .ints .i16 [0, 0, 0, 0, 2, 3]], true⟩), (1, ⟨[.ints .i16 [4, 5]], true⟩)]) := by kernel_rfl
set_option maxHeartbeats 4000000 in
theorem run_plI2 : mCl 19 2 = some (.tup [.agg [.int .i8 8, .own 0, .own 1], .int .i64 0], [(0, ⟨[.ints .i8 [0, 0, 0, 0, 0, 0, 0, 0, 2, 2, 2, 2], .ints .i16 [0, 1, 2, 3, 4, 5, 6, 7, 0, 1, 2, 3], .ints .i16 [0, 0, 0, 0, 0, 0, 0, 0, 4, 5, 6, 7]], true⟩), (1, ⟨[.ints .i16 [8, 9, 10, 11]], true⟩)]) := by kernel_rfl
set_option maxHeartbeats 4000000 in
theorem run_plI3 : mCl 19 3 = some (.tup [.agg [.int .i8 16, .own 0, .own 1], .int .i64 0], [(0, ⟨[.ints .i8 [0, 0, 0, 0, 0, 0, 0, 0, 0, 0, 0, 0, 0, 0, 0, 0, 2, 2, 2, 2, 2, 2, 2, 2], .ints .i16 [0, 1, 2, 3, 4, 5, 6, 7, 8, 9, 10, 11, 12, 13, 14, 15, 0, 1, 2, 3, 4, 5, 6, 7], .ints .i16 [0, 0, 0, 0, 0, 0, 0, 0, 0, 0, 0, 0, 0, 0, 0, 0, 8, 9, 10, 11, 12, 13, 14, 15]], true⟩), (1, ⟨[.ints .i16 [16, 17, 18, 19, 20, 21, 22, 23]], true⟩)]) := by kernel_rfl
end Go.VM
