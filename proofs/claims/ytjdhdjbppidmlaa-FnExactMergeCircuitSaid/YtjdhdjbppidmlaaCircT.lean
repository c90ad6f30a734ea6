import Derived.Test.YtjdhdjbppidmlaaVmP1
import Derived.Test.YtjdhdjbppidmlaaProg
set_option linter.unusedVariables false
set_option linter.unusedSimpArgs false
set_option linter.unusedSectionVars false
namespace Go.VM
open Go.Proofs
def tab : Tab := [(1, .fnc), (2, .int .i64), (3, .int .i64), (4, .bool), (5, .int .u8), (6, .int .u8), (7, .strct [2, 3, 4, 6]), (8, .strct [2, 3, 4, 6]), (9, .str), (10, .str), (11, .str), (12, .int .u64), (13, .strct [9, 12]), (14, .strct [9, 12]), (15, .ptr 68), (16, .ptr 71), (17, .ptr 81), (18, .strct [17]), (19, .strct [17]), (21, .int .i32), (22, .int .i8), (23, .slice 60), (24, .slice 41), (25, .strct [22, 23, 24]), (26, .strct [22, 23, 24]), (27, .fnc), (28, .slice 43), (29, .strct [22, 28, 24]), (30, .strct [22, 28, 24]), (32, .fnc), (33, .fnc), (34, .fnc), (35, .fnc), (36, .fnc), (37, .fnc), (38, .fnc), (39, .fnc), (40, .ptr 30), (41, .int .i16), (42, .strct [22, 41, 41]), (43, .strct [22, 41, 41]), (44, .fnc), (45, .fnc), (46, .fnc), (47, .fnc), (48, .map 43 41), (49, .fnc), (50, .fnc), (52, .fnc), (53, .fnc), (54, .fnc), (55, .fnc), (56, .fnc), (57, .fnc), (58, .fnc), (59, .fnc), (60, .strct [22, 41, 41]), (61, .fnc), (62, .fnc), (63, .fnc), (64, .fnc), (65, .fnc), (66, .fnc), (67, .strct [17, 17, 17, 9]), (68, .strct [17, 17, 17, 9]), (72, .fnc), (73, .int .u32), (74, .int .u8), (75, .int .u8), (76, .fnc), (77, .ptr 5), (78, .int .i32), (79, .int .i32), (80, .strct [12, 12, 73, 74, 5, 5, 75, 76, 77, 78, 79]), (81, .strct [12, 12, 73, 74, 5, 5, 75, 76, 77, 78, 79]), (82, .fnc), (84, .int .u16)]
def ios (f : Nat) : Bool := has f [9, 18, 19, 21, 24, 25]
end Go.VM
