/- The sorts of the fifteen lists of images, run to their ends. The conditions: none. -/
import Derived.Test.YthfabkahekagoaaVmP4
import Derived.Test.YthfabkahekagoaaNimSTS
import Derived.Test.YthfabkahekagoaaHalfCon
import Derived.KernelRfl
set_option linter.unusedVariables false
set_option linter.unusedSimpArgs false
set_option linter.unusedSectionVars false
namespace Go.VM
open Go Go.Proofs Go.Fn
set_option linter.unusedVariables false
set_option maxRecDepth 100000
noncomputable def sFT : List (Nat × Func × List (List Nat)) := [(83, Try.f83, []), (84, Try.f84, []), (88, Try.f88, []), (106, Try.f106, [[4, 3, 2, 0, 1, 11, 10]]), (117, Try.f117, []), (118, Try.f118, []), (123, Try.f123, [[8, 0, 3, 1, 2], [0, 3, 1, 2, 8, 9]]), (124, Try.f124, [[3, 8, 9, 0, 10, 11], [12, 3, 8, 9, 0]]), (125, Try.f125, [[11, 0, 1, 8, 10, 9]]), (126, Try.f126, []), (127, Try.f127, [[9, 8, 0]]), (128, Try.f128, [[10, 0, 3, 2, 9, 1], [0, 3, 2, 9, 1, 10], [0, 3, 2, 9, 1, 10, 11], [0, 3, 2, 9, 1, 10, 12]]), (129, Try.f129, [[12, 11, 0, 1, 4], [0, 1, 4, 12, 11], [0, 1, 4, 12, 11]]), (130, Try.f130, [[0, 1, 4, 13, 12], [0, 1, 4, 13, 12], [13, 12, 0, 1, 4], [0, 1, 4, 13, 12], [0, 1, 4, 13, 12]]), (132, Try.f132, []), (133, Try.f133, []), (137, Try.f137, [[10, 3, 0, 4, 2]]), (138, Try.f138, []), (139, Try.f139, []), (141, Try.f141, [])]
noncomputable def sCl (A B : List Int) : Option (U × Heap) := callN tab ios (fun f => lookF f sFT) 100000 40 83 [.own 0, .fn 84 []] [(0, ⟨[.ints .u16 A, .ints .u16 B], true⟩)]
theorem sFT_ok : ∀ x ∈ sFT, Try.prog.funcs[x.1]? = some x.2.1 ∧ x.2.1.body.isNone = false ∧ (x.2.1.name == "runtime.NumGoroutine") = false := by
  unfold sFT
  refine List.forall_mem_cons.2 ⟨⟨Try.func83, by kernel_rfl, by kernel_rfl⟩, ?_⟩
  refine List.forall_mem_cons.2 ⟨⟨Try.func84, by kernel_rfl, by kernel_rfl⟩, ?_⟩
  refine List.forall_mem_cons.2 ⟨⟨Try.func88, by kernel_rfl, by kernel_rfl⟩, ?_⟩
  refine List.forall_mem_cons.2 ⟨⟨Try.func106, by kernel_rfl, by kernel_rfl⟩, ?_⟩
  refine List.forall_mem_cons.2 ⟨⟨Try.func117, by kernel_rfl, by kernel_rfl⟩, ?_⟩
  refine List.forall_mem_cons.2 ⟨⟨Try.func118, by kernel_rfl, by kernel_rfl⟩, ?_⟩
  refine List.forall_mem_cons.2 ⟨⟨Try.func123, by kernel_rfl, by kernel_rfl⟩, ?_⟩
  refine List.forall_mem_cons.2 ⟨⟨Try.func124, by kernel_rfl, by kernel_rfl⟩, ?_⟩
  refine List.forall_mem_cons.2 ⟨⟨Try.func125, by kernel_rfl, by kernel_rfl⟩, ?_⟩
  refine List.forall_mem_cons.2 ⟨⟨Try.func126, by kernel_rfl, by kernel_rfl⟩, ?_⟩
  refine List.forall_mem_cons.2 ⟨⟨Try.func127, by kernel_rfl, by kernel_rfl⟩, ?_⟩
  refine List.forall_mem_cons.2 ⟨⟨Try.func128, by kernel_rfl, by kernel_rfl⟩, ?_⟩
  refine List.forall_mem_cons.2 ⟨⟨Try.func129, by kernel_rfl, by kernel_rfl⟩, ?_⟩
  refine List.forall_mem_cons.2 ⟨⟨Try.func130, by kernel_rfl, by kernel_rfl⟩, ?_⟩
  refine List.forall_mem_cons.2 ⟨⟨Try.func132, by kernel_rfl, by kernel_rfl⟩, ?_⟩
  refine List.forall_mem_cons.2 ⟨⟨Try.func133, by kernel_rfl, by kernel_rfl⟩, ?_⟩
  refine List.forall_mem_cons.2 ⟨⟨Try.func137, by kernel_rfl, by kernel_rfl⟩, ?_⟩
  refine List.forall_mem_cons.2 ⟨⟨Try.func138, by kernel_rfl, by kernel_rfl⟩, ?_⟩
  refine List.forall_mem_cons.2 ⟨⟨Try.func139, by kernel_rfl, by kernel_rfl⟩, ?_⟩
  refine List.forall_mem_cons.2 ⟨⟨Try.func141, by kernel_rfl, by kernel_rfl⟩, ?_⟩
  exact fun x h => absurd h List.not_mem_nil
theorem sCl_ok {A B : List Int} {u : U} {H : Heap} (h : sCl A B = some (u, H)) : Answers Try.prog 83 [.own 0, .fn 84 []] [(0, ⟨[.ints .u16 A, .ints .u16 B], true⟩)] u H := callN_ok tabOk mixed (lookF_ok sFT_ok) _ _ _ _ _ _ h
theorem lenRun : callN tab ios (fun f => lookF f sFT) 100000 40 88 [.int .u64 2] [] = some (.int .i64 2, []) := by kernel_rfl
theorem len_ok : Answers Try.prog 88 [.int .u64 2] [] (.int .i64 2) [] := callN_ok tabOk mixed (lookF_ok sFT_ok) _ _ _ _ _ _ lenRun
set_option maxHeartbeats 4000000 in
theorem sort0 : sCl [1] [2] = some (.tup [], [(0, ⟨[.ints .u16 [1], .ints .u16 [2]], true⟩)]) := by kernel_rfl
set_option maxHeartbeats 4000000 in
theorem sort1 : sCl [1, 2] [2, 4] = some (.tup [], [(0, ⟨[.ints .u16 [2, 1], .ints .u16 [4, 2]], true⟩)]) := by kernel_rfl
set_option maxHeartbeats 4000000 in
theorem sort2 : sCl [2, 1, 4] [4, 2, 10] = some (.tup [], [(0, ⟨[.ints .u16 [4, 2, 1], .ints .u16 [10, 4, 2]], true⟩)]) := by kernel_rfl
set_option maxHeartbeats 4000000 in
theorem sort3 : sCl [4, 2, 1, 8] [10, 4, 2, 16] = some (.tup [], [(0, ⟨[.ints .u16 [8, 4, 2, 1], .ints .u16 [16, 10, 4, 2]], true⟩)]) := by kernel_rfl
set_option maxHeartbeats 4000000 in
theorem sort4 : sCl [8, 4, 2, 1, 16] [16, 10, 4, 2, 42] = some (.tup [], [(0, ⟨[.ints .u16 [16, 8, 4, 2, 1], .ints .u16 [42, 16, 10, 4, 2]], true⟩)]) := by kernel_rfl
set_option maxHeartbeats 4000000 in
theorem sort5 : sCl [16, 8, 4, 2, 1, 32] [42, 16, 10, 4, 2, 76] = some (.tup [], [(0, ⟨[.ints .u16 [32, 16, 8, 4, 2, 1], .ints .u16 [76, 42, 16, 10, 4, 2]], true⟩)]) := by kernel_rfl
set_option maxHeartbeats 4000000 in
theorem sort6 : sCl [32, 16, 8, 4, 2, 1, 64] [76, 42, 16, 10, 4, 2, 180] = some (.tup [], [(0, ⟨[.ints .u16 [64, 32, 16, 8, 4, 2, 1], .ints .u16 [180, 76, 42, 16, 10, 4, 2]], true⟩)]) := by kernel_rfl
set_option maxHeartbeats 4000000 in
theorem sort7 : sCl [64, 32, 16, 8, 4, 2, 1, 128] [180, 76, 42, 16, 10, 4, 2, 256] = some (.tup [], [(0, ⟨[.ints .u16 [128, 64, 32, 16, 8, 4, 2, 1], .ints .u16 [256, 180, 76, 42, 16, 10, 4, 2]], true⟩)]) := by kernel_rfl
set_option maxHeartbeats 4000000 in
theorem sort8 : sCl [128, 64, 32, 16, 8, 4, 2, 1, 256] [256, 180, 76, 42, 16, 10, 4, 2, 692] = some (.tup [], [(0, ⟨[.ints .u16 [256, 128, 64, 32, 16, 8, 4, 2, 1], .ints .u16 [692, 256, 180, 76, 42, 16, 10, 4, 2]], true⟩)]) := by kernel_rfl
set_option maxHeartbeats 4000000 in
theorem sort9 : sCl [256, 128, 64, 32, 16, 8, 4, 2, 1, 512] [692, 256, 180, 76, 42, 16, 10, 4, 2, 1234] = some (.tup [], [(0, ⟨[.ints .u16 [512, 256, 128, 64, 32, 16, 8, 4, 2, 1], .ints .u16 [1234, 692, 256, 180, 76, 42, 16, 10, 4, 2]], true⟩)]) := by kernel_rfl
set_option maxHeartbeats 4000000 in
theorem sort10 : sCl [512, 256, 128, 64, 32, 16, 8, 4, 2, 1, 1024] [1234, 692, 256, 180, 76, 42, 16, 10, 4, 2, 2892] = some (.tup [], [(0, ⟨[.ints .u16 [1024, 512, 256, 128, 64, 32, 16, 8, 4, 2, 1], .ints .u16 [2892, 1234, 692, 256, 180, 76, 42, 16, 10, 4, 2]], true⟩)]) := by kernel_rfl
set_option maxHeartbeats 4000000 in
theorem sort11 : sCl [1024, 512, 256, 128, 64, 32, 16, 8, 4, 2, 1, 2048] [2892, 1234, 692, 256, 180, 76, 42, 16, 10, 4, 2, 4230] = some (.tup [], [(0, ⟨[.ints .u16 [2048, 1024, 512, 256, 128, 64, 32, 16, 8, 4, 2, 1], .ints .u16 [4230, 2892, 1234, 692, 256, 180, 76, 42, 16, 10, 4, 2]], true⟩)]) := by kernel_rfl
set_option maxHeartbeats 4000000 in
theorem sort12 : sCl [2048, 1024, 512, 256, 128, 64, 32, 16, 8, 4, 2, 1, 4096] [4230, 2892, 1234, 692, 256, 180, 76, 42, 16, 10, 4, 2, 10888] = some (.tup [], [(0, ⟨[.ints .u16 [4096, 2048, 1024, 512, 256, 128, 64, 32, 16, 8, 4, 2, 1], .ints .u16 [10888, 4230, 2892, 1234, 692, 256, 180, 76, 42, 16, 10, 4, 2]], true⟩)]) := by kernel_rfl
set_option maxHeartbeats 4000000 in
theorem sort13 : sCl [4096, 2048, 1024, 512, 256, 128, 64, 32, 16, 8, 4, 2, 1, 8192] [10888, 4230, 2892, 1234, 692, 256, 180, 76, 42, 16, 10, 4, 2, 19510] = some (.tup [], [(0, ⟨[.ints .u16 [8192, 4096, 2048, 1024, 512, 256, 128, 64, 32, 16, 8, 4, 2, 1], .ints .u16 [19510, 10888, 4230, 2892, 1234, 692, 256, 180, 76, 42, 16, 10, 4, 2]], true⟩)]) := by kernel_rfl
set_option maxHeartbeats 4000000 in
theorem sort14 : sCl [8192, 4096, 2048, 1024, 512, 256, 128, 64, 32, 16, 8, 4, 2, 1, 16384] [19510, 10888, 4230, 2892, 1234, 692, 256, 180, 76, 42, 16, 10, 4, 2, 46384] = some (.tup [], [(0, ⟨[.ints .u16 [16384, 8192, 4096, 2048, 1024, 512, 256, 128, 64, 32, 16, 8, 4, 2, 1], .ints .u16 [46384, 19510, 10888, 4230, 2892, 1234, 692, 256, 180, 76, 42, 16, 10, 4, 2]], true⟩)]) := by kernel_rfl
end Go.VM
