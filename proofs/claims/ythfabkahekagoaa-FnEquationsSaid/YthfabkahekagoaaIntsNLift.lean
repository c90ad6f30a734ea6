/- Written by a program of this session (Lift.lean): what the evaluator comes to, function by function; the kernel checks it. The conditions: those of the contracts. -/
import Derived.Test.YthfabkahekagoaaVmP4
import Derived.Test.YthfabkahekagoaaNimST
import Derived.Test.YthfabkahekagoaaNimSTS
import Derived.Test.YthfabkahekagoaaNimCon
import Derived.Test.YthfabkahekagoaaIntsCon
import Derived.KernelRfl
set_option linter.unusedVariables false
set_option linter.unusedSimpArgs false
set_option linter.unusedSectionVars false
namespace Go.VM
open Go Go.Proofs Go.Fn NimF
set_option linter.unusedVariables false
set_option maxRecDepth 100000
namespace L_eqN
abbrev num : Nat := 11
noncomputable def A (n : Nat) : List (Nat × Con) := ((fun (n : Nat) => ([] : List (Nat × Con)))) n
noncomputable abbrev E (n : Nat) : Env (U × Heap) := envC tab ios (A n)
def L : List (List Nat) := [[5, 1, 0]]
abbrev us (lo : List Int) (lo' : List Int) (jo : Nat) (jo' : Nat) : List U := (((fun (lo lo' : List Int) (jo jo' : Nat) => (([.rsl [.ints .u16 lo] jo, .rsl [.ints .u16 lo'] jo'] : List U), ([] : Heap)))) lo lo' jo jo').1
abbrev HA (lo : List Int) (lo' : List Int) (jo : Nat) (jo' : Nat) : Heap := (((fun (lo lo' : List Int) (jo jo' : Nat) => (([.rsl [.ints .u16 lo] jo, .rsl [.ints .u16 lo'] jo'] : List U), ([] : Heap)))) lo lo' jo jo').2
def S0 (t5 : Int) (t1_0 : List Int) (t1n : Nat) (t0_0 : List Int) (t0n : Nat) : St := ⟨[(5, .int .i64 t5), (1, .rsl [.ints .u16 t1_0] t1n), (0, .rsl [.ints .u16 t0_0] t0n)], 26, [], [], 0⟩
noncomputable def N0 (n : Nat)  (m0 : Nat) (t5 : Int) (t1_0 : List Int) (t1n : Nat) (t0_0 : List Int) (t0n : Nat) : Res := nodeRun (E n) n Try.f11 L k0 [true, true, false, true, false] [] m0 (S0 t5 t1_0 t1n t0_0 t0n)
theorem N0_succ (n : Nat)  (m0 : Nat) (t5 : Int) (t1_0 : List Int) (t1n : Nat) (t0_0 : List Int) (t0n : Nat) : N0 n  (m0 + 1) t5 t1_0 t1n t0_0 t0n =
  bif decide (t5 < ((t0n : Nat) : Int)) then
   bif decide (((0 : Int) ≤ t5) ∧ (t5 < ((t0n : Nat) : Int))) then
   bif decide (((0 : Int) ≤ t5) ∧ (t5 < ((t1n : Nat) : Int))) then
    bif ((List.getD t0_0 (Int.toNat t5) (0 : Int)) != (List.getD t1_0 (Int.toNat t5) (0 : Int))) then
      some (.bool false, [])
     else
      N0 n m0 (IntKind.wrap .i64 (t5 + (1 : Int))) t1_0 t1n t0_0 t0n
    else none
   else none
  else
   some (.bool true, []) := by kernel_rfl
noncomputable def R (n : Nat) (lo : List Int) (lo' : List Int) (jo : Nat) (jo' : Nat) : Res := run (E n) n Try.f11 L (us lo lo' jo jo') (HA lo lo' jo jo') k0
theorem R_eq (n : Nat) (lo : List Int) (lo' : List Int) (jo : Nat) (jo' : Nat) : R n lo lo' jo jo' =
  bif (((jo : Nat) : Int) != ((jo' : Nat) : Int)) then
   some (.bool false, [])
  else
   N0 n n (0 : Int) lo' jo' lo jo := by kernel_rfl
theorem ans {n : Nat} {lo : List Int} {lo' : List Int} {jo : Nat} {jo' : Nat} (hA : Sounds Try.prog (A n)) {u : U} {H : Heap} (h : R n lo lo' jo jo' = some (u, H)) : Answers Try.prog 11 (us lo lo' jo jo') (HA lo lo' jo jo') u H := answers_env tabOk mixed hA Try.func11 (by kernel_rfl) (by kernel_rfl) h
end L_eqN

namespace L_markN
abbrev num : Nat := 12
noncomputable def A (n : Nat) : List (Nat × Con) := ((fun (n : Nat) => ([] : List (Nat × Con)))) n
noncomputable abbrev E (n : Nat) : Env (U × Heap) := envC tab ios (A n)
def L : List (List Nat) := [[1, 5, 0]]
abbrev us (lo : List Int) (k : Int) : List U := (((fun (lo : List Int) (k : Int) => (([.own 0, .int .i64 k] : List U), ([(0, ⟨[.ints .u16 lo], true⟩)] : Heap)))) lo k).1
abbrev HA (lo : List Int) (k : Int) : Heap := (((fun (lo : List Int) (k : Int) => (([.own 0, .int .i64 k] : List U), ([(0, ⟨[.ints .u16 lo], true⟩)] : Heap)))) lo k).2
def S0 (t1 : Int) (t5 : Int) (o0_0 : List Int) : St := ⟨[(1, .int .i64 t1), (5, .int .i64 t5), (0, .own 0)], 20, [(0, ⟨[.ints .u16 o0_0], true⟩)], [0], 1⟩
noncomputable def N0 (n : Nat)  (m0 : Nat) (t1 : Int) (t5 : Int) (o0_0 : List Int) : Res := nodeRun (E n) n Try.f12 L k0 [true, false, true, false] [] m0 (S0 t1 t5 o0_0)
theorem N0_succ (n : Nat)  (m0 : Nat) (t1 : Int) (t5 : Int) (o0_0 : List Int) : N0 n  (m0 + 1) t1 t5 o0_0 =
  bif decide (t5 < (((List.length o0_0) : Nat) : Int)) then
   bif decide (((0 : Int) ≤ t5) ∧ (t5 < (((List.length o0_0) : Nat) : Int))) then
   N0 n m0 (IntKind.wrap .i64 (t1 + (1 : Int))) (IntKind.wrap .i64 (t5 + (1 : Int))) (List.set o0_0 (Int.toNat t5) (IntKind.wrap .u16 t1))
   else none
  else
   some (.int .i64 t1, [(0, ⟨[.ints .u16 o0_0], true⟩)]) := by kernel_rfl
noncomputable def R (n : Nat) (lo : List Int) (k : Int) : Res := run (E n) n Try.f12 L (us lo k) (HA lo k) k0
theorem R_eq (n : Nat) (lo : List Int) (k : Int) : R n lo k =
  N0 n n k (0 : Int) lo := by kernel_rfl
theorem ans {n : Nat} {lo : List Int} {k : Int} (hA : Sounds Try.prog (A n)) {u : U} {H : Heap} (h : R n lo k = some (u, H)) : Answers Try.prog 12 (us lo k) (HA lo k) u H := answers_env tabOk mixed hA Try.func12 (by kernel_rfl) (by kernel_rfl) h
end L_markN

namespace L_heldN
abbrev num : Nat := 13
noncomputable def A (n : Nat) : List (Nat × Con) := ((fun (n : Nat) => ([] : List (Nat × Con)))) n
noncomputable abbrev E (n : Nat) : Env (U × Heap) := envC tab ios (A n)
def L : List (List Nat) := [[1, 5, 0]]
abbrev us (lo : List Int) (jo : Nat) (k : Int) : List U := (((fun (lo : List Int) (jo : Nat) (k : Int) => (([.rsl [.ints .u16 lo] jo, .int .i64 k] : List U), ([] : Heap)))) lo jo k).1
abbrev HA (lo : List Int) (jo : Nat) (k : Int) : Heap := (((fun (lo : List Int) (jo : Nat) (k : Int) => (([.rsl [.ints .u16 lo] jo, .int .i64 k] : List U), ([] : Heap)))) lo jo k).2
def S0 (t1 : Int) (t5 : Int) (t0_0 : List Int) (t0n : Nat) : St := ⟨[(1, .int .i64 t1), (5, .int .i64 t5), (0, .rsl [.ints .u16 t0_0] t0n)], 22, [], [], 0⟩
noncomputable def N0 (n : Nat)  (m0 : Nat) (t1 : Int) (t5 : Int) (t0_0 : List Int) (t0n : Nat) : Res := nodeRun (E n) n Try.f13 L k0 [true, false, true, false] [] m0 (S0 t1 t5 t0_0 t0n)
theorem N0_succ (n : Nat)  (m0 : Nat) (t1 : Int) (t5 : Int) (t0_0 : List Int) (t0n : Nat) : N0 n  (m0 + 1) t1 t5 t0_0 t0n =
  bif decide (t5 < ((t0n : Nat) : Int)) then
   bif decide (((0 : Int) ≤ t5) ∧ (t5 < ((t0n : Nat) : Int))) then
   bif ((List.getD t0_0 (Int.toNat t5) (0 : Int)) != (IntKind.wrap .u16 t1)) then
     some (.int .i64 (-1 : Int), [])
    else
     N0 n m0 (IntKind.wrap .i64 (t1 + (1 : Int))) (IntKind.wrap .i64 (t5 + (1 : Int))) t0_0 t0n
   else none
  else
   some (.int .i64 t1, []) := by kernel_rfl
noncomputable def R (n : Nat) (lo : List Int) (jo : Nat) (k : Int) : Res := run (E n) n Try.f13 L (us lo jo k) (HA lo jo k) k0
theorem R_eq (n : Nat) (lo : List Int) (jo : Nat) (k : Int) : R n lo jo k =
  N0 n n k (0 : Int) lo jo := by kernel_rfl
theorem ans {n : Nat} {lo : List Int} {jo : Nat} {k : Int} (hA : Sounds Try.prog (A n)) {u : U} {H : Heap} (h : R n lo jo k = some (u, H)) : Answers Try.prog 13 (us lo jo k) (HA lo jo k) u H := answers_env tabOk mixed hA Try.func13 (by kernel_rfl) (by kernel_rfl) h
end L_heldN

end Go.VM
