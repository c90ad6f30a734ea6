/- The circuit for products of four bits: the run of its maker. The conditions: none. -/
import Derived.Test.YtcbimafcfccpeaaVmP5
import Derived.Test.YtcbimafcfccpeaaPolyTS
import Derived.Test.YtcbimafcfccpeaaTopConM
import Derived.KernelRfl
set_option linter.unusedVariables false
set_option linter.unusedSimpArgs false
set_option linter.unusedSectionVars false
namespace Go.VM
open Go Go.Proofs Go.Fn
set_option linter.unusedVariables false
set_option maxRecDepth 100000
noncomputable def mFT : List (Nat × Func × List (List Nat)) := [(38, Try.f38, []), (71, Try.f71, []), (84, Try.f84, []), (85, Try.f85, []), (86, Try.f86, [[5, 6, 0, 1]]), (87, Try.f87, [[12, 11, 0, 8, 13, 10, 9, 7]]), (111, Try.f111, []), (112, Try.f112, []), (113, Try.f113, [[7, 8, 2, 1, 0]])]
noncomputable def mCl (f : Nat) (n : Int) : Option (U × Heap) := callN tab ios (fun f => lookF f mFT) 100000 40 f [.int .i64 n] []
theorem mFT_ok : ∀ x ∈ mFT, Try.prog.funcs[x.1]? = some x.2.1 ∧ x.2.1.body.isNone = false ∧ (x.2.1.name == "runtime.NumGoroutine") = false := by
  unfold mFT
  refine List.forall_mem_cons.2 ⟨⟨Try.func38, by kernel_rfl, by kernel_rfl⟩, ?_⟩
  refine List.forall_mem_cons.2 ⟨⟨Try.func71, by kernel_rfl, by kernel_rfl⟩, ?_⟩
  refine List.forall_mem_cons.2 ⟨⟨Try.func84, by kernel_rfl, by kernel_rfl⟩, ?_⟩
  refine List.forall_mem_cons.2 ⟨⟨Try.func85, by kernel_rfl, by kernel_rfl⟩, ?_⟩
  refine List.forall_mem_cons.2 ⟨⟨Try.func86, by kernel_rfl, by kernel_rfl⟩, ?_⟩
  refine List.forall_mem_cons.2 ⟨⟨Try.func87, by kernel_rfl, by kernel_rfl⟩, ?_⟩
  refine List.forall_mem_cons.2 ⟨⟨Try.func111, by kernel_rfl, by kernel_rfl⟩, ?_⟩
  refine List.forall_mem_cons.2 ⟨⟨Try.func112, by kernel_rfl, by kernel_rfl⟩, ?_⟩
  refine List.forall_mem_cons.2 ⟨⟨Try.func113, by kernel_rfl, by kernel_rfl⟩, ?_⟩
  exact fun x h => absurd h List.not_mem_nil
theorem mCl_ok {f : Nat} {n : Int} {u : U} {H : Heap} (h : mCl f n = some (u, H)) : Answers Try.prog f [.int .i64 n] [] u H := callN_ok tabOk mixed (lookF_ok mFT_ok) _ _ _ _ _ _ h
set_option maxHeartbeats 4000000 in
theorem run_ti2 : mCl 38 2 = some (.tup [.agg [.int .i8 tiX, .own 0, .own 1], .int .i64 0], [(0, ⟨[.ints .i8 tiK, .ints .i16 tiA, .ints .i16 tiB], true⟩), (1, ⟨[.ints .i16 tiO], true⟩)]) := by kernel_rfl
theorem ti_ok : Sound Try.prog 38 CTi := by
  intro us HA p u H h hp
  unfold CTi at h
  split at h
  · rename_i n
    cases h
    have hp : n = 2 := hp
    subst hp
    exact mCl_ok run_ti2
  · cases h
end Go.VM

