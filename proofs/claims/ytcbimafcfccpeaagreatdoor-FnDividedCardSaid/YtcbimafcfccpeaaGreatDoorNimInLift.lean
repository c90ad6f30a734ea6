/- Written by a program of this session (Lift.lean): what the evaluator comes to, function by function; the kernel checks it. The conditions: those of the contracts. -/
import Derived.Test.YtcbimafcfccpeaaGreatDoorVmP5
import Derived.Test.YtcbimafcfccpeaaGreatDoorPolyT
import Derived.Test.YtcbimafcfccpeaaGreatDoorPolyTS
import Derived.Test.YtcbimafcfccpeaaGreatDoorNimCon
import Derived.KernelRfl
set_option linter.unusedVariables false
set_option linter.unusedSimpArgs false
set_option linter.unusedSectionVars false
namespace Go.VM
open Go Go.Proofs Go.Fn NimF
set_option linter.unusedVariables false
set_option maxRecDepth 100000
namespace I_within
abbrev num : Nat := 86
noncomputable def A (n : Nat) : List (Nat × Con) := ((fun (n : Nat) => ([] : List (Nat × Con)))) n
noncomputable abbrev E (n : Nat) : Env (U × Heap) := envC tab ios (A n)
def L : List (List Nat) := []
abbrev us (a : Int) (b : Int) (c : Int) : List U := (((fun (a b c : Int) => (([.int .i64 a, .int .i64 b, .int .i64 c] : List U), ([] : Heap)))) a b c).1
abbrev HA (a : Int) (b : Int) (c : Int) : Heap := (((fun (a b c : Int) => (([.int .i64 a, .int .i64 b, .int .i64 c] : List U), ([] : Heap)))) a b c).2
noncomputable def R (n : Nat) (a : Int) (b : Int) (c : Int) : Res := run (E n) n Tryz.f86 L (us a b c) (HA a b c) k0
theorem R_eq (n : Nat) (a : Int) (b : Int) (c : Int) : R n a b c =
  bif decide (b ≤ a) then
   some (.bool (decide (a ≤ c)), [])
  else
   some (.bool false, []) := by kernel_rfl
theorem ans {n : Nat} {a : Int} {b : Int} {c : Int} (hA : Sounds Tryz.prog (A n)) {u : U} {H : Heap} (h : R n a b c = some (u, H)) : Answers Tryz.prog 86 (us a b c) (HA a b c) u H := answers_env tabOk mixed hA Tryz.func86 (by kernel_rfl) (by kernel_rfl) h
end I_within

end Go.VM
