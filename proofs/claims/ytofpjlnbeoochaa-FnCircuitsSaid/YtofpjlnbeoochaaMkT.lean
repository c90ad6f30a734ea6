/- The makers of circuits, as a table. The conditions: none. -/
import Derived.Test.YtofpjlnbeoochaaVmP4
import Derived.Test.YtofpjlnbeoochaaCircTS
import Derived.KernelRfl
set_option linter.unusedVariables false
set_option linter.unusedSimpArgs false
set_option linter.unusedSectionVars false
namespace Go.VM
open Go Go.Proofs Go.Fn
set_option linter.unusedVariables false
set_option maxRecDepth 100000
noncomputable def mFT : List (Nat × Func × List (List Nat)) := [(19, Try.f19, []), (20, Try.f20, []), (21, Try.f21, []), (22, Try.f22, []), (23, Try.f23, []), (24, Try.f24, []), (25, Try.f25, []), (26, Try.f26, []), (46, Try.f46, []), (50, Try.f50, []), (53, Try.f53, []), (60, Try.f60, []), (61, Try.f61, [[7, 12, 2, 1, 0, 11]]), (62, Try.f62, []), (63, Try.f63, []), (64, Try.f64, [[5, 6, 0, 1]]), (65, Try.f65, [[7, 8, 2, 1, 0]]), (66, Try.f66, [[12, 11, 0, 8, 64, 10, 9, 63]]), (67, Try.f67, [[12, 11, 0, 8, 13, 10, 9, 7]]), (68, Try.f68, []), (69, Try.f69, []), (70, Try.f70, [[5, 4, 14, 13]]), (71, Try.f71, []), (72, Try.f72, []), (96, Try.f96, []), (97, Try.f97, [])]
noncomputable def mCl (f : Nat) (n : Int) : Option (U × Heap) := callN tab ios (fun f => lookF f mFT) 100000 40 f [.int .i64 n] []
theorem mFT_ok : ∀ x ∈ mFT, Try.prog.funcs[x.1]? = some x.2.1 ∧ x.2.1.body.isNone = false ∧ (x.2.1.name == "runtime.NumGoroutine") = false := by
  unfold mFT
  refine List.forall_mem_cons.2 ⟨⟨Try.func19, by kernel_rfl, by kernel_rfl⟩, ?_⟩
  refine List.forall_mem_cons.2 ⟨⟨Try.func20, by kernel_rfl, by kernel_rfl⟩, ?_⟩
  refine List.forall_mem_cons.2 ⟨⟨Try.func21, by kernel_rfl, by kernel_rfl⟩, ?_⟩
  refine List.forall_mem_cons.2 ⟨⟨Try.func22, by kernel_rfl, by kernel_rfl⟩, ?_⟩
  refine List.forall_mem_cons.2 ⟨⟨Try.func23, by kernel_rfl, by kernel_rfl⟩, ?_⟩
  refine List.forall_mem_cons.2 ⟨⟨Try.func24, by kernel_rfl, by kernel_rfl⟩, ?_⟩
  refine List.forall_mem_cons.2 ⟨⟨Try.func25, by kernel_rfl, by kernel_rfl⟩, ?_⟩
  refine List.forall_mem_cons.2 ⟨⟨Try.func26, by kernel_rfl, by kernel_rfl⟩, ?_⟩
  refine List.forall_mem_cons.2 ⟨⟨Try.func46, by kernel_rfl, by kernel_rfl⟩, ?_⟩
  refine List.forall_mem_cons.2 ⟨⟨Try.func50, by kernel_rfl, by kernel_rfl⟩, ?_⟩
  refine List.forall_mem_cons.2 ⟨⟨Try.func53, by kernel_rfl, by kernel_rfl⟩, ?_⟩
  refine List.forall_mem_cons.2 ⟨⟨Try.func60, by kernel_rfl, by kernel_rfl⟩, ?_⟩
  refine List.forall_mem_cons.2 ⟨⟨Try.func61, by kernel_rfl, by kernel_rfl⟩, ?_⟩
  refine List.forall_mem_cons.2 ⟨⟨Try.func62, by kernel_rfl, by kernel_rfl⟩, ?_⟩
  refine List.forall_mem_cons.2 ⟨⟨Try.func63, by kernel_rfl, by kernel_rfl⟩, ?_⟩
  refine List.forall_mem_cons.2 ⟨⟨Try.func64, by kernel_rfl, by kernel_rfl⟩, ?_⟩
  refine List.forall_mem_cons.2 ⟨⟨Try.func65, by kernel_rfl, by kernel_rfl⟩, ?_⟩
  refine List.forall_mem_cons.2 ⟨⟨Try.func66, by kernel_rfl, by kernel_rfl⟩, ?_⟩
  refine List.forall_mem_cons.2 ⟨⟨Try.func67, by kernel_rfl, by kernel_rfl⟩, ?_⟩
  refine List.forall_mem_cons.2 ⟨⟨Try.func68, by kernel_rfl, by kernel_rfl⟩, ?_⟩
  refine List.forall_mem_cons.2 ⟨⟨Try.func69, by kernel_rfl, by kernel_rfl⟩, ?_⟩
  refine List.forall_mem_cons.2 ⟨⟨Try.func70, by kernel_rfl, by kernel_rfl⟩, ?_⟩
  refine List.forall_mem_cons.2 ⟨⟨Try.func71, by kernel_rfl, by kernel_rfl⟩, ?_⟩
  refine List.forall_mem_cons.2 ⟨⟨Try.func72, by kernel_rfl, by kernel_rfl⟩, ?_⟩
  refine List.forall_mem_cons.2 ⟨⟨Try.func96, by kernel_rfl, by kernel_rfl⟩, ?_⟩
  refine List.forall_mem_cons.2 ⟨⟨Try.func97, by kernel_rfl, by kernel_rfl⟩, ?_⟩
  exact fun x h => absurd h List.not_mem_nil
theorem mCl_ok {f : Nat} {n : Int} {u : U} {H : Heap} (h : mCl f n = some (u, H)) : Answers Try.prog f [.int .i64 n] [] u H := callN_ok tabOk mixed (lookF_ok mFT_ok) _ _ _ _ _ _ h
end Go.VM
