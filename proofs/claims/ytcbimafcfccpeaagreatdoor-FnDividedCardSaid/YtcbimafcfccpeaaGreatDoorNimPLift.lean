/- Written by a program of this session (Lift.lean): what the evaluator comes to, function by function; the kernel checks it. The conditions: those of the contracts. -/
import Derived.Test.YtcbimafcfccpeaaGreatDoorVmP5
import Derived.Test.YtcbimafcfccpeaaGreatDoorPolyT
import Derived.Test.YtcbimafcfccpeaaGreatDoorPolyTS
import Derived.Test.YtcbimafcfccpeaaGreatDoorNimCon
import Derived.KernelRfl
set_option linter.unusedVariables false
set_option linter.unusedSimpArgs false
set_option linter.unusedSectionVars false
namespace Go.VM
open Go Go.Proofs Go.Fn NimF
set_option linter.unusedVariables false
set_option maxRecDepth 100000
namespace I_power
abbrev num : Nat := 80
noncomputable def A (n : Nat) : List (Nat × Con) := ((fun (n : Nat) => ([(63, CMul)] : List (Nat × Con)))) n
noncomputable abbrev E (n : Nat) : Env (U × Heap) := envC tab ios (A n)
def L : List (List Nat) := [[5, 1, 0]]
abbrev us (x : Int) (y : Int) : List U := (((fun (x y : Int) => (([.int .u16 x, .int .i64 y] : List U), ([] : Heap)))) x y).1
abbrev HA (x : Int) (y : Int) : Heap := (((fun (x y : Int) => (([.int .u16 x, .int .i64 y] : List U), ([] : Heap)))) x y).2
def S0 (t5 : Int) (t1 : Int) (t0 : Int) : St := ⟨[(5, .int .u16 t5), (1, .int .i64 t1), (0, .int .u16 t0)], 20, [], [], 0⟩
noncomputable def N0 (n : Nat)  (m0 : Nat) (t5 : Int) (t1 : Int) (t0 : Int) : Res := nodeRun (E n) n Tryz.f80 L k0 [true, true, false, false] [] m0 (S0 t5 t1 t0)
theorem N0_succ (n : Nat)  (m0 : Nat) (t5 : Int) (t1 : Int) (t0 : Int) : N0 n  (m0 + 1) t5 t1 t0 =
  bif decide (t1 > (0 : Int)) then
   bif ((intBitsV .and .i64 t1 (1 : Int)) == (1 : Int)) then
    pif (((u16 t5) ∧ (u16 t0))) (
    pif (((u16 t0) ∧ (u16 t0))) (
    N0 n m0 (mulI t5 t0) (Int.fdiv t1 (2 : Int)) (mulI t0 t0)))
   else
    pif (((u16 t0) ∧ (u16 t0))) (
    N0 n m0 t5 (Int.fdiv t1 (2 : Int)) (mulI t0 t0))
  else
   some (.int .u16 t5, []) := by kernel_rfl
noncomputable def R (n : Nat) (x : Int) (y : Int) : Res := run (E n) n Tryz.f80 L (us x y) (HA x y) k0
theorem R_eq (n : Nat) (x : Int) (y : Int) : R n x y =
  N0 n n (1 : Int) y x := by kernel_rfl
theorem ans {n : Nat} {x : Int} {y : Int} (hA : Sounds Tryz.prog (A n)) {u : U} {H : Heap} (h : R n x y = some (u, H)) : Answers Tryz.prog 80 (us x y) (HA x y) u H := answers_env tabOk mixed hA Tryz.func80 (by kernel_rfl) (by kernel_rfl) h
end I_power

namespace S_power
abbrev num : Nat := 69
noncomputable def A (n : Nat) : List (Nat × Con) := ((fun (n : Nat) => ([(43, CMul)] : List (Nat × Con)))) n
noncomputable abbrev E (n : Nat) : Env (U × Heap) := envC tab ios (A n)
def L : List (List Nat) := [[5, 1, 0]]
abbrev us (x : Int) (y : Int) : List U := (((fun (x y : Int) => (([.int .u16 x, .int .i64 y] : List U), ([] : Heap)))) x y).1
abbrev HA (x : Int) (y : Int) : Heap := (((fun (x y : Int) => (([.int .u16 x, .int .i64 y] : List U), ([] : Heap)))) x y).2
def S0 (t5 : Int) (t1 : Int) (t0 : Int) : St := ⟨[(5, .int .u16 t5), (1, .int .i64 t1), (0, .int .u16 t0)], 20, [], [], 0⟩
noncomputable def N0 (n : Nat)  (m0 : Nat) (t5 : Int) (t1 : Int) (t0 : Int) : Res := nodeRun (E n) n Tryz.f69 L k0 [true, true, false, false] [] m0 (S0 t5 t1 t0)
theorem N0_succ (n : Nat)  (m0 : Nat) (t5 : Int) (t1 : Int) (t0 : Int) : N0 n  (m0 + 1) t5 t1 t0 =
  bif decide (t1 > (0 : Int)) then
   bif ((Int.tmod t1 (2 : Int)) == (1 : Int)) then
    pif (((u16 t5) ∧ (u16 t0))) (
    pif (((u16 t0) ∧ (u16 t0))) (
    N0 n m0 (mulI t5 t0) (IntKind.wrap .i64 (Int.tdiv t1 (2 : Int))) (mulI t0 t0)))
   else
    pif (((u16 t0) ∧ (u16 t0))) (
    N0 n m0 t5 (IntKind.wrap .i64 (Int.tdiv t1 (2 : Int))) (mulI t0 t0))
  else
   some (.int .u16 t5, []) := by kernel_rfl
noncomputable def R (n : Nat) (x : Int) (y : Int) : Res := run (E n) n Tryz.f69 L (us x y) (HA x y) k0
theorem R_eq (n : Nat) (x : Int) (y : Int) : R n x y =
  N0 n n (1 : Int) y x := by kernel_rfl
theorem ans {n : Nat} {x : Int} {y : Int} (hA : Sounds Tryz.prog (A n)) {u : U} {H : Heap} (h : R n x y = some (u, H)) : Answers Tryz.prog 69 (us x y) (HA x y) u H := answers_env tabOk mixed hA Tryz.func69 (by kernel_rfl) (by kernel_rfl) h
end S_power

namespace I_inverse
abbrev num : Nat := 66
noncomputable def A (n : Nat) : List (Nat × Con) := ((fun (n : Nat) => ([(80, CPow)] : List (Nat × Con)))) n
noncomputable abbrev E (n : Nat) : Env (U × Heap) := envC tab ios (A n)
def L : List (List Nat) := []
abbrev us (x : Int) : List U := (((fun (x : Int) => (([.int .u16 x] : List U), ([] : Heap)))) x).1
abbrev HA (x : Int) : Heap := (((fun (x : Int) => (([.int .u16 x] : List U), ([] : Heap)))) x).2
noncomputable def R (n : Nat) (x : Int) : Res := run (E n) n Tryz.f66 L (us x) (HA x) k0
theorem R_eq (n : Nat) (x : Int) : R n x =
  bif (x == (0 : Int)) then
   some (.int .u16 (0 : Int), [])
  else
   pif (((u16 x) ∧ (expo (65534 : Int)))) (
   some (.int .u16 (powI x (65534 : Int)), [])) := by kernel_rfl
theorem ans {n : Nat} {x : Int} (hA : Sounds Tryz.prog (A n)) {u : U} {H : Heap} (h : R n x = some (u, H)) : Answers Tryz.prog 66 (us x) (HA x) u H := answers_env tabOk mixed hA Tryz.func66 (by kernel_rfl) (by kernel_rfl) h
end I_inverse

namespace S_inverse
abbrev num : Nat := 47
noncomputable def A (n : Nat) : List (Nat × Con) := ((fun (n : Nat) => ([(69, CPow)] : List (Nat × Con)))) n
noncomputable abbrev E (n : Nat) : Env (U × Heap) := envC tab ios (A n)
def L : List (List Nat) := []
abbrev us (x : Int) : List U := (((fun (x : Int) => (([.int .u16 x] : List U), ([] : Heap)))) x).1
abbrev HA (x : Int) : Heap := (((fun (x : Int) => (([.int .u16 x] : List U), ([] : Heap)))) x).2
noncomputable def R (n : Nat) (x : Int) : Res := run (E n) n Tryz.f47 L (us x) (HA x) k0
theorem R_eq (n : Nat) (x : Int) : R n x =
  pif (((u16 x) ∧ (expo (65534 : Int)))) (
  some (.int .u16 (powI x (65534 : Int)), [])) := by kernel_rfl
theorem ans {n : Nat} {x : Int} (hA : Sounds Tryz.prog (A n)) {u : U} {H : Heap} (h : R n x = some (u, H)) : Answers Tryz.prog 47 (us x) (HA x) u H := answers_env tabOk mixed hA Tryz.func47 (by kernel_rfl) (by kernel_rfl) h
end S_inverse

end Go.VM
