import Derived.Test.YtblhjcolknooeaaVmP1
import Derived.Test.YtblhjcolknooeaaProg
set_option linter.unusedVariables false
set_option linter.unusedSimpArgs false
set_option linter.unusedSectionVars false
namespace Go.VM
open Go.Proofs
def tab : Tab := [(2, .int .i64), (3, .int .i64), (4, .bool), (22, .int .i8), (28, .int .u16), (32, .strct [22, 22, 30]), (30, .arr 6 29), (29, .arr 6 28), (23, .int .u16), (24, .arr 6 23), (25, .arr 6 24), (26, .strct [22, 22, 25]), (27, .strct [22, 22, 25]), (31, .strct [22, 22, 30]), (48, .arr 6 28), (54, .slice 48), (66, .ptr 32), (87, .ptr 48), (75, .slice 22), (84, .slice 3), (98, .int .u32), (82, .int .u64), (5, .int .u8), (59, .slice 5), (111, .slice 2)]
def ios (f : Nat) : Bool := has f [47, 63, 78, 34]
end Go.VM
