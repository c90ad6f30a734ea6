/- Texts of this session. The conditions: none. -/
import Derived.Test.YtblhjcolknooeaaVmP1
import Derived.Test.YtblhjcolknooeaaProg
set_option linter.unusedVariables false
set_option linter.unusedSimpArgs false
set_option linter.unusedSectionVars false
namespace Go.VM
open Go.Proofs
def tab : Tab := [(1, .fnc), (2, .int .i64), (3, .int .i64), (4, .bool), (5, .int .u8), (6, .int .u8), (7, .strct [2, 3, 4, 6]), (8, .strct [2, 3, 4, 6]), (9, .str), (10, .str), (11, .str), (12, .int .u64), (13, .strct [9, 12]), (14, .strct [9, 12]), (15, .ptr 117), (16, .ptr 120), (17, .ptr 129), (18, .strct [17]), (19, .strct [17]), (21, .int .i32), (22, .int .i8), (23, .int .u16), (24, .arr 6 23), (25, .arr 6 24), (26, .strct [22, 22, 25]), (27, .strct [22, 22, 25]), (28, .int .u16), (29, .arr 6 28), (30, .arr 6 29), (31, .strct [22, 22, 30]), (32, .strct [22, 22, 30]), (34, .fnc), (35, .fnc), (36, .fnc), (37, .fnc), (39, .fnc), (40, .fnc), (41, .fnc), (42, .fnc), (44, .fnc), (46, .fnc), (47, .fnc), (48, .arr 6 28), (50, .fnc), (51, .fnc), (52, .fnc), (53, .fnc), (54, .slice 48), (56, .fnc), (57, .fnc), (58, .fnc), (59, .slice 5), (60, .fnc), (61, .fnc), (62, .fnc), (63, .fnc), (64, .fnc), (65, .fnc), (66, .ptr 32), (67, .fnc), (68, .fnc), (69, .fnc), (70, .fnc), (71, .fnc), (72, .fnc), (73, .fnc), (74, .fnc), (75, .slice 22), (77, .fnc), (78, .fnc), (79, .fnc), (80, .fnc), (81, .fnc), (82, .int .u64), (83, .fnc), (84, .slice 3), (85, .fnc), (86, .fnc), (87, .ptr 48), (89, .fnc), (90, .fnc), (91, .fnc), (92, .ptr 109), (93, .fnc), (94, .fnc), (95, .fnc), (96, .fnc), (97, .fnc), (98, .int .u32), (99, .fnc), (100, .fnc), (101, .fnc), (102, .fnc), (103, .fnc), (104, .fnc), (105, .fnc), (106, .fnc), (107, .int .u64), (108, .strct [59, 3, 107]), (109, .strct [59, 3, 107]), (110, .fnc), (111, .slice 2), (112, .fnc), (113, .fnc), (114, .fnc), (115, .fnc), (116, .strct [17, 17, 17, 9]), (117, .strct [17, 17, 17, 9]), (121, .fnc), (122, .int .u8), (123, .int .u8), (124, .fnc), (125, .ptr 5), (126, .int .i32), (127, .int .i32), (128, .strct [12, 12, 98, 122, 5, 5, 123, 124, 125, 126, 127]), (129, .strct [12, 12, 98, 122, 5, 5, 123, 124, 125, 126, 127])]
def ios (f : Nat) : Bool := has f [34, 47, 63, 67, 69, 78, 80, 81, 82, 83, 87]
end Go.VM

