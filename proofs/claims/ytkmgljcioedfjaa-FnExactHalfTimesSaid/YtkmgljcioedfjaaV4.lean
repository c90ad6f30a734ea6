/- The law at each of its levels, run to the end; at every other level, too: it says true. The conditions: none. -/
import Derived.Test.YtkmgljcioedfjaaV4S
import Derived.Test.YtkmgljcioedfjaaV4I
namespace Go.Proofs.Ytkmgljcioedfjaa.V4
open Go.VM
set_option linter.unusedVariables false
set_option linter.unusedSimpArgs false
set_option maxRecDepth 100000
noncomputable def M3 : List (Nat × U × U × Heap) := [(19, .int .i64 3, r3.1, r3.2), (20, .int .i64 3, r3.1, r3.2)]
theorem m3ok : ∀ x ∈ M3, Answers Try.prog x.1 [x.2.1] [] x.2.2.1 x.2.2.2 := List.forall_mem_cons.2 ⟨ansS, List.forall_mem_cons.2 ⟨ansI, fun x h => absurd h List.not_mem_nil⟩⟩
set_option maxHeartbeats 4000000 in
theorem at0 : cl 4 [.int .i64 0] = some (.bool true, []) := by kernel_rfl
set_option maxHeartbeats 4000000 in
theorem at1 : cl 4 [.int .i64 1] = some (.bool true, []) := by kernel_rfl
set_option maxHeartbeats 4000000 in
theorem at2 : cl 4 [.int .i64 2] = some (.bool true, []) := by kernel_rfl
set_option maxHeartbeats 4000000 in
theorem at3 : clM M3 4 [.int .i64 3] = some (.bool true, []) := by kernel_rfl
theorem below (m : Nat) : cl 4 [.int .i64 (Int.negSucc m)] = some (.bool true, []) := by kernel_rfl
theorem above (m : Nat) : cl 4 [.int .i64 (Int.ofNat (m + 4))] = some (.bool true, []) := by kernel_rfl
theorem answers (n : Int) : Answers Try.prog 4 [.int .i64 n] [] (.bool true) [] := by
  match n with
  | Int.negSucc m => exact cl_ok (below m)
  | Int.ofNat 0 => exact cl_ok at0
  | Int.ofNat 1 => exact cl_ok at1
  | Int.ofNat 2 => exact cl_ok at2
  | Int.ofNat 3 => exact clM_ok m3ok at3
  | Int.ofNat (m + 4) => exact cl_ok (above m)
end Go.Proofs.Ytkmgljcioedfjaa.V4
