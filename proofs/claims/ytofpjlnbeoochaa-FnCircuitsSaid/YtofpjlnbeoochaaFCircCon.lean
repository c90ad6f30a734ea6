/- What the law of all circuits calls: contracts. The conditions: none. -/
import Derived.Test.YtofpjlnbeoochaaCircCon5
import Derived.Test.YtofpjlnbeoochaaMkCon
import Derived.Test.YtofpjlnbeoochaaSrcCon
set_option linter.unusedVariables false
set_option linter.unusedSimpArgs false
set_option linter.unusedSectionVars false
namespace Go.Fn
def runE (x : Int) (K A B O : List Int) : Int := if valC x K A B O then 0 else 1
def runO (x : Int) (K A B O : List Int) (b : Int) : Int := if valC x K A B O then runC b K A B O else 0
end Go.Fn
namespace Go.VM
open Go.Fn
noncomputable section
def CSameP : Con
  | [.rptr [.int .i8 x, .rsl [.ints .i8 K, .ints .i16 A, .ints .i16 B] n, .rsl [.ints .i16 O] o] 0 1, .rptr [.int .i8 x', .rsl [.ints .i8 K', .ints .i16 A', .ints .i16 B'] n', .rsl [.ints .i16 O'] o'] 0 1], [] =>
    some (gl K A B n ∧ gl K' A' B' n' ∧ ol O o ∧ ol O' o', .bool (eqC x K A B O x' K' A' B' O'), [])
  | _, _ => none
def CRunCirc : Con
  | [.agg [.int .i8 x, .rsl [.ints .i8 K, .ints .i16 A, .ints .i16 B] n, .rsl [.ints .i16 O] o], .int .u16 b], [] => some (circ x K A B n O o ∧ u16 b, .tup [.int .u16 (runO x K A B O b), .int .i64 (runE x K A B O)], [])
  | _, _ => none
end
end Go.VM
