/- The functions that the law reaches, as a table. The conditions: none. -/
import Derived.Test.YtkmgljcioedfjaaVmMemo
import Derived.Test.YtkmgljcioedfjaaProg
namespace Go.Proofs.Ytkmgljcioedfjaa.V4
open Go.VM
set_option linter.unusedVariables false
set_option linter.unusedSimpArgs false
set_option maxRecDepth 100000
noncomputable def tab : Tab := [(1, .fnc), (2, .int .i64), (3, .int .i64), (4, .bool), (5, .int .u8), (6, .int .u8), (7, .strct [2, 3, 4, 6]), (8, .strct [2, 3, 4, 6]), (9, .str), (10, .str), (11, .str), (12, .int .u64), (13, .strct [9, 12]), (14, .strct [9, 12]), (15, .ptr 135), (16, .ptr 138), (17, .ptr 147), (18, .strct [17]), (19, .strct [17]), (21, .int .i32), (22, .int .i8), (23, .slice 121), (24, .slice 77), (25, .strct [22, 23, 24]), (26, .strct [22, 23, 24]), (27, .fnc), (28, .arr 4 2), (30, .fnc), (31, .slice 79), (32, .strct [22, 31, 24]), (33, .strct [22, 31, 24]), (34, .fnc), (35, .fnc), (36, .fnc), (37, .fnc), (39, .fnc), (40, .fnc), (41, .fnc), (43, .fnc), (44, .int .u16), (46, .fnc), (47, .fnc), (48, .slice 4), (50, .fnc), (51, .fnc), (52, .fnc), (53, .fnc), (54, .fnc), (55, .slice 2), (57, .fnc), (58, .fnc), (59, .fnc), (60, .slice 5), (61, .fnc), (62, .fnc), (63, .int .u64), (64, .fnc), (65, .int .u16), (66, .fnc), (67, .fnc), (69, .fnc), (70, .fnc), (72, .fnc), (73, .fnc), (74, .fnc), (75, .fnc), (76, .ptr 33), (77, .int .i16), (78, .strct [22, 77, 77]), (79, .strct [22, 77, 77]), (80, .fnc), (81, .fnc), (82, .fnc), (83, .fnc), (84, .fnc), (85, .ptr 87), (86, .strct [31]), (87, .strct [31]), (88, .fnc), (89, .fnc), (90, .ptr 94), (92, .fnc), (93, .strct [33]), (94, .strct [33]), (95, .fnc), (96, .fnc), (97, .fnc), (98, .fnc), (99, .fnc), (100, .fnc), (101, .fnc), (102, .fnc), (103, .fnc), (104, .fnc), (105, .fnc), (106, .fnc), (107, .fnc), (108, .fnc), (109, .fnc), (110, .fnc), (111, .fnc), (112, .fnc), (113, .fnc), (114, .ptr 128), (115, .fnc), (116, .fnc), (118, .fnc), (119, .fnc), (120, .fnc), (121, .strct [22, 77, 77]), (122, .fnc), (123, .fnc), (124, .fnc), (125, .fnc), (126, .int .u64), (127, .strct [60, 3, 126]), (128, .strct [60, 3, 126]), (129, .fnc), (130, .int .u32), (131, .fnc), (132, .fnc), (133, .fnc), (134, .strct [17, 17, 17, 9]), (135, .strct [17, 17, 17, 9]), (139, .fnc), (140, .int .u8), (141, .int .u8), (142, .fnc), (143, .ptr 5), (144, .int .i32), (145, .int .i32), (146, .strct [12, 12, 130, 140, 5, 5, 141, 142, 143, 144, 145]), (147, .strct [12, 12, 130, 140, 5, 5, 141, 142, 143, 144, 145])]
noncomputable def ios (f : Nat) : Bool := has f [21, 63, 64, 67, 68, 69, 89, 90, 103, 104]
noncomputable def FT : List (Nat × Func × List (List Nat)) := [(4, Try.f4, []), (18, Try.f18, []), (19, Try.f19, []), (20, Try.f20, []), (21, Try.f21, []), (22, Try.f22, []), (59, Try.f59, [[5, 1, 0]]), (60, Try.f60, [[5, 1, 0]]), (61, Try.f61, []), (62, Try.f62, []), (63, Try.f63, [[5, 6, 0, 1]]), (64, Try.f64, []), (65, Try.f65, []), (66, Try.f66, [[5, 4, 14, 13]]), (67, Try.f67, []), (68, Try.f68, [[1, 5, 0]]), (69, Try.f69, [[1, 5, 0]]), (70, Try.f70, [[1, 5, 0]]), (71, Try.f71, [[1, 5, 0]]), (84, Try.f84, []), (86, Try.f86, []), (89, Try.f89, [[7, 12, 2, 1, 0, 11]]), (90, Try.f90, [[7, 8, 2, 1, 0]]), (102, Try.f102, []), (103, Try.f103, []), (104, Try.f104, [])]
noncomputable def cl (f : Nat) (us : List U) : Option (U × Heap) := callN tab ios (fun f => lookF f FT) 100000 40 f us []
noncomputable def clM (M : List (Nat × U × U × Heap)) (f : Nat) (us : List U) : Option (U × Heap) := callM tab ios (fun f => lookF f FT) M 100000 40 f us []
theorem tabOk : TabOk Try.prog tab := tabOk_of (by kernel_rfl)
theorem mixed : Try.prog.follows .mixedOrders = true := by kernel_rfl
theorem ftOk : ∀ x ∈ FT, Try.prog.funcs[x.1]? = some x.2.1 ∧ x.2.1.body.isNone = false ∧ (x.2.1.name == "runtime.NumGoroutine") = false := by
  unfold FT
  refine List.forall_mem_cons.2 ⟨⟨Try.func4, by kernel_rfl, by kernel_rfl⟩, ?_⟩
  refine List.forall_mem_cons.2 ⟨⟨Try.func18, by kernel_rfl, by kernel_rfl⟩, ?_⟩
  refine List.forall_mem_cons.2 ⟨⟨Try.func19, by kernel_rfl, by kernel_rfl⟩, ?_⟩
  refine List.forall_mem_cons.2 ⟨⟨Try.func20, by kernel_rfl, by kernel_rfl⟩, ?_⟩
  refine List.forall_mem_cons.2 ⟨⟨Try.func21, by kernel_rfl, by kernel_rfl⟩, ?_⟩
  refine List.forall_mem_cons.2 ⟨⟨Try.func22, by kernel_rfl, by kernel_rfl⟩, ?_⟩
  refine List.forall_mem_cons.2 ⟨⟨Try.func59, by kernel_rfl, by kernel_rfl⟩, ?_⟩
  refine List.forall_mem_cons.2 ⟨⟨Try.func60, by kernel_rfl, by kernel_rfl⟩, ?_⟩
  refine List.forall_mem_cons.2 ⟨⟨Try.func61, by kernel_rfl, by kernel_rfl⟩, ?_⟩
  refine List.forall_mem_cons.2 ⟨⟨Try.func62, by kernel_rfl, by kernel_rfl⟩, ?_⟩
  refine List.forall_mem_cons.2 ⟨⟨Try.func63, by kernel_rfl, by kernel_rfl⟩, ?_⟩
  refine List.forall_mem_cons.2 ⟨⟨Try.func64, by kernel_rfl, by kernel_rfl⟩, ?_⟩
  refine List.forall_mem_cons.2 ⟨⟨Try.func65, by kernel_rfl, by kernel_rfl⟩, ?_⟩
  refine List.forall_mem_cons.2 ⟨⟨Try.func66, by kernel_rfl, by kernel_rfl⟩, ?_⟩
  refine List.forall_mem_cons.2 ⟨⟨Try.func67, by kernel_rfl, by kernel_rfl⟩, ?_⟩
  refine List.forall_mem_cons.2 ⟨⟨Try.func68, by kernel_rfl, by kernel_rfl⟩, ?_⟩
  refine List.forall_mem_cons.2 ⟨⟨Try.func69, by kernel_rfl, by kernel_rfl⟩, ?_⟩
  refine List.forall_mem_cons.2 ⟨⟨Try.func70, by kernel_rfl, by kernel_rfl⟩, ?_⟩
  refine List.forall_mem_cons.2 ⟨⟨Try.func71, by kernel_rfl, by kernel_rfl⟩, ?_⟩
  refine List.forall_mem_cons.2 ⟨⟨Try.func84, by kernel_rfl, by kernel_rfl⟩, ?_⟩
  refine List.forall_mem_cons.2 ⟨⟨Try.func86, by kernel_rfl, by kernel_rfl⟩, ?_⟩
  refine List.forall_mem_cons.2 ⟨⟨Try.func89, by kernel_rfl, by kernel_rfl⟩, ?_⟩
  refine List.forall_mem_cons.2 ⟨⟨Try.func90, by kernel_rfl, by kernel_rfl⟩, ?_⟩
  refine List.forall_mem_cons.2 ⟨⟨Try.func102, by kernel_rfl, by kernel_rfl⟩, ?_⟩
  refine List.forall_mem_cons.2 ⟨⟨Try.func103, by kernel_rfl, by kernel_rfl⟩, ?_⟩
  refine List.forall_mem_cons.2 ⟨⟨Try.func104, by kernel_rfl, by kernel_rfl⟩, ?_⟩
  exact fun x h => absurd h List.not_mem_nil
theorem cl_ok {f : Nat} {us : List U} {u : U} {H : Heap} (h : cl f us = some (u, H)) : Answers Try.prog f us [] u H := callN_ok tabOk mixed (lookF_ok ftOk) _ _ _ _ _ _ h
theorem clM_ok {M : List (Nat × U × U × Heap)} (hM : ∀ x ∈ M, Answers Try.prog x.1 [x.2.1] [] x.2.2.1 x.2.2.2) {f : Nat} {us : List U} {u : U} {H : Heap} (h : clM M f us = some (u, H)) : Answers Try.prog f us [] u H := callM_ok tabOk mixed (lookF_ok ftOk) hM _ _ _ _ _ _ h
noncomputable def r3 : U × Heap := (U.tup [U.agg [U.int IntKind.i8 (Int.ofNat 8), U.own 0, U.own 1], U.int IntKind.i64 (Int.ofNat 0)], [(0, { cols := [Col.ints IntKind.i8 [Int.ofNat 0, Int.ofNat 0, Int.ofNat 0, Int.ofNat 0, Int.ofNat 0, Int.ofNat 0, Int.ofNat 0, Int.ofNat 0, Int.ofNat 2, Int.ofNat 2, Int.ofNat 2, Int.ofNat 2, Int.ofNat 2, Int.ofNat 2, Int.ofNat 2, Int.ofNat 2, Int.ofNat 2, Int.ofNat 2, Int.ofNat 2, Int.ofNat 2, Int.ofNat 2, Int.ofNat 2, Int.ofNat 2, Int.ofNat 2, Int.ofNat 2, Int.ofNat 2, Int.ofNat 2], Col.ints IntKind.i16 [Int.ofNat 0, Int.ofNat 1, Int.ofNat 2, Int.ofNat 3, Int.ofNat 4, Int.ofNat 5, Int.ofNat 6, Int.ofNat 7, Int.ofNat 7, Int.ofNat 5, Int.ofNat 8, Int.ofNat 7, Int.ofNat 8, Int.ofNat 3, Int.ofNat 1, Int.ofNat 13, Int.ofNat 3, Int.ofNat 13, Int.ofNat 12, Int.ofNat 10, Int.ofNat 18, Int.ofNat 12, Int.ofNat 18, Int.ofNat 8, Int.ofNat 10, Int.ofNat 11, Int.ofNat 12], Col.ints IntKind.i16 [Int.ofNat 0, Int.ofNat 0, Int.ofNat 0, Int.ofNat 0, Int.ofNat 0, Int.ofNat 0, Int.ofNat 0, Int.ofNat 0, Int.ofNat 6, Int.ofNat 4, Int.ofNat 7, Int.ofNat 5, Int.ofNat 9, Int.ofNat 2, Int.ofNat 0, Int.ofNat 3, Int.ofNat 1, Int.ofNat 14, Int.ofNat 11, Int.ofNat 8, Int.ofNat 12, Int.ofNat 10, Int.ofNat 19, Int.ofNat 13, Int.ofNat 15, Int.ofNat 16, Int.ofNat 17]], rw := true }), (1, { cols := [Col.ints IntKind.i16 [Int.ofNat 18, Int.ofNat 20, Int.ofNat 21, Int.ofNat 22, Int.ofNat 23, Int.ofNat 24, Int.ofNat 25, Int.ofNat 26]], rw := true })])
end Go.Proofs.Ytkmgljcioedfjaa.V4
