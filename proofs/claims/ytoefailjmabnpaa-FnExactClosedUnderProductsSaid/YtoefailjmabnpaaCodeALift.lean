/- Written by a program of this session (Lift.lean): what the evaluator comes to, function by function; the kernel checks it. The conditions: those of the contracts. -/
import Derived.Test.YtoefailjmabnpaaVmP5
import Derived.Test.YtoefailjmabnpaaCodeT
import Derived.Test.YtoefailjmabnpaaCodeTS
import Derived.Test.YtoefailjmabnpaaNimCon
import Derived.Test.YtoefailjmabnpaaIntsCon
import Derived.Test.YtoefailjmabnpaaCodeCon
import Derived.KernelRfl
set_option linter.unusedVariables false
set_option linter.unusedSimpArgs false
set_option linter.unusedSectionVars false
namespace Go.VM
open Go Go.Proofs Go.Fn NimF
set_option linter.unusedVariables false
set_option maxRecDepth 100000
namespace I_high
abbrev num : Nat := 95
noncomputable def A (n : Nat) : List (Nat × Con) := ((fun (n : Nat) => ([] : List (Nat × Con)))) n
noncomputable def I : Inl := ([(82, Try.f82, [])] : Inl)
theorem inl_ok : InlOk Try.prog I := (inl_cons Try.func82 (by kernel_rfl) (by kernel_rfl) inl_nil)
noncomputable abbrev E (n : Nat) : Env (U × Heap) := envI tab ios (A n) I n 1
def L : List (List Nat) := [[8, 0, 1, 7]]
abbrev us (ks : List Int) (j : Nat) (b : Int) : List U := (((fun (ks : List Int) (j : Nat) (b : Int) => (([.rsl [.ints .u16 ks] j, .fn 82 [.rptr [.int .i64 b] 0 1]] : List U), ([] : Heap)))) ks j b).1
abbrev HA (ks : List Int) (j : Nat) (b : Int) : Heap := (((fun (ks : List Int) (j : Nat) (b : Int) => (([.rsl [.ints .u16 ks] j, .fn 82 [.rptr [.int .i64 b] 0 1]] : List U), ([] : Heap)))) ks j b).2
def S0 (t8 : Int) (t0_0 : List Int) (t0n : Nat) (t1_0_0 : Int) (t7 : Int) : St := ⟨[(8, .int .i64 t8), (0, .rsl [.ints .u16 t0_0] t0n), (1, .fn 82 [.rptr [.int .i64 t1_0_0] 0 1]), (7, .int .i64 t7)], 19, [], [], 0⟩
noncomputable def N0 (n : Nat)  (m0 : Nat) (t8 : Int) (t0_0 : List Int) (t0n : Nat) (t1_0_0 : Int) (t7 : Int) : Res := nodeRun (E n) n Try.f95 L k0 [true, false, true, false] [] m0 (S0 t8 t0_0 t0n t1_0_0 t7)
theorem N0_succ (n : Nat)  (m0 : Nat) (t8 : Int) (t0_0 : List Int) (t0n : Nat) (t1_0_0 : Int) (t7 : Int) : N0 n  (m0 + 1) t8 t0_0 t0n t1_0_0 t7 =
  bif decide (t8 < t7) then
   bif decide (((0 : Int) ≤ t8) ∧ (t8 < ((t0n : Nat) : Int))) then
   bif decide ((IntKind.wrap .i64 (List.getD t0_0 (Int.toNat t8) (0 : Int))) ≥ t1_0_0) then
     some (.int .i64 t8, [])
    else
     N0 n m0 (IntKind.wrap .i64 (t8 + (1 : Int))) t0_0 t0n t1_0_0 t7
   else none
  else
   some (.int .i64 (-1 : Int), []) := by kernel_rfl
noncomputable def R (n : Nat) (ks : List Int) (j : Nat) (b : Int) : Res := run (E n) n Try.f95 L (us ks j b) (HA ks j b) k0
theorem R_eq (n : Nat) (ks : List Int) (j : Nat) (b : Int) : R n ks j b =
  N0 n n (0 : Int) ks j b ((j : Nat) : Int) := by kernel_rfl
theorem ans {n : Nat} {ks : List Int} {j : Nat} {b : Int} (hA : Sounds Try.prog (A n)) {u : U} {H : Heap} (h : R n ks j b = some (u, H)) : Answers Try.prog 95 (us ks j b) (HA ks j b) u H := answers_inl tabOk mixed hA inl_ok Try.func95 (by kernel_rfl) (by kernel_rfl) h
end I_high

namespace I_highB
abbrev num : Nat := 81
noncomputable def A (n : Nat) : List (Nat × Con) := ((fun (n : Nat) => ([(95, CHighI)] : List (Nat × Con)))) n
noncomputable abbrev E (n : Nat) : Env (U × Heap) := envC tab ios (A n)
def L : List (List Nat) := []
abbrev us (ks : List Int) (j : Nat) (b : Int) : List U := (((fun (ks : List Int) (j : Nat) (b : Int) => (([.rsl [.ints .u16 ks] j, .fn 82 [.rptr [.int .i64 b] 0 1]] : List U), ([] : Heap)))) ks j b).1
abbrev HA (ks : List Int) (j : Nat) (b : Int) : Heap := (((fun (ks : List Int) (j : Nat) (b : Int) => (([.rsl [.ints .u16 ks] j, .fn 82 [.rptr [.int .i64 b] 0 1]] : List U), ([] : Heap)))) ks j b).2
noncomputable def R (n : Nat) (ks : List Int) (j : Nat) (b : Int) : Res := run (E n) n Try.f81 L (us ks j b) (HA ks j b) k0
theorem R_eq (n : Nat) (ks : List Int) (j : Nat) (b : Int) : R n ks j b =
  pif (((isFn 82) ∧ (wd ks j))) (
  some (.bool (decide ((highF b ks j 0) ≥ (0 : Int))), [])) := by kernel_rfl
theorem ans {n : Nat} {ks : List Int} {j : Nat} {b : Int} (hA : Sounds Try.prog (A n)) {u : U} {H : Heap} (h : R n ks j b = some (u, H)) : Answers Try.prog 81 (us ks j b) (HA ks j b) u H := answers_env tabOk mixed hA Try.func81 (by kernel_rfl) (by kernel_rfl) h
end I_highB

namespace I_isFor
abbrev num : Nat := 72
noncomputable def A (n : Nat) : List (Nat × Con) := ((fun (n : Nat) => ([(54, CIn), (81, CHighB)] : List (Nat × Con)))) n
noncomputable abbrev E (n : Nat) : Env (U × Heap) := envC tab ios (A n)
def L : List (List Nat) := []
abbrev us (ks : List Int) (j : Nat) (b : Int) : List U := (((fun (ks : List Int) (j : Nat) (b : Int) => (([.rsl [.ints .u16 ks] j, .int .i64 b] : List U), ([] : Heap)))) ks j b).1
abbrev HA (ks : List Int) (j : Nat) (b : Int) : Heap := (((fun (ks : List Int) (j : Nat) (b : Int) => (([.rsl [.ints .u16 ks] j, .int .i64 b] : List U), ([] : Heap)))) ks j b).2
noncomputable def R (n : Nat) (ks : List Int) (j : Nat) (b : Int) : Res := run (E n) n Try.f72 L (us ks j b) (HA ks j b) k0
theorem R_eq (n : Nat) (ks : List Int) (j : Nat) (b : Int) : R n ks j b =
  pif (True) (
  bif (inB ((j : Nat) : Int) (1 : Int) (7 : Int)) then
   pif (((isFn 82) ∧ (wd ks j))) (
   some (.bool (!(!(lowF b ks j 0))), []))
  else
   some (.bool false, [])) := by kernel_rfl
theorem ans {n : Nat} {ks : List Int} {j : Nat} {b : Int} (hA : Sounds Try.prog (A n)) {u : U} {H : Heap} (h : R n ks j b = some (u, H)) : Answers Try.prog 72 (us ks j b) (HA ks j b) u H := answers_env tabOk mixed hA Try.func72 (by kernel_rfl) (by kernel_rfl) h
end I_isFor

namespace S_word
abbrev num : Nat := 69
noncomputable def A (n : Nat) : List (Nat × Con) := ((fun (n : Nat) => ([(60, CIn)] : List (Nat × Con)))) n
noncomputable abbrev E (n : Nat) : Env (U × Heap) := envC tab ios (A n)
def L : List (List Nat) := [[1, 5, 0]]
abbrev us (ks : List Int) (j : Nat) (b : Int) : List U := (((fun (ks : List Int) (j : Nat) (b : Int) => (([.int .i64 b, .rsl [.ints .u16 ks] j] : List U), ([] : Heap)))) ks j b).1
abbrev HA (ks : List Int) (j : Nat) (b : Int) : Heap := (((fun (ks : List Int) (j : Nat) (b : Int) => (([.int .i64 b, .rsl [.ints .u16 ks] j] : List U), ([] : Heap)))) ks j b).2
def S0 (t1_0 : List Int) (t1n : Nat) (t5 : Int) (t0 : Int) : St := ⟨[(1, .rsl [.ints .u16 t1_0] t1n), (5, .int .i64 t5), (0, .int .i64 t0)], 22, [], [], 0⟩
noncomputable def N0 (n : Nat)  (m0 : Nat) (t1_0 : List Int) (t1n : Nat) (t5 : Int) (t0 : Int) : Res := nodeRun (E n) n Try.f69 L k0 [true, false, true, false] [] m0 (S0 t1_0 t1n t5 t0)
theorem N0_succ (n : Nat)  (m0 : Nat) (t1_0 : List Int) (t1n : Nat) (t5 : Int) (t0 : Int) : N0 n  (m0 + 1) t1_0 t1n t5 t0 =
  bif decide (t5 < ((t1n : Nat) : Int)) then
   bif decide (((0 : Int) ≤ t5) ∧ (t5 < ((t1n : Nat) : Int))) then
   bif decide ((IntKind.wrap .i64 (List.getD t1_0 (Int.toNat t5) (0 : Int))) ≥ t0) then
     some (.bool false, [])
    else
     N0 n m0 t1_0 t1n (IntKind.wrap .i64 (t5 + (1 : Int))) t0
   else none
  else
   pif (True) (
   some (.bool (inB ((t1n : Nat) : Int) (1 : Int) (7 : Int)), [])) := by kernel_rfl
noncomputable def R (n : Nat) (ks : List Int) (j : Nat) (b : Int) : Res := run (E n) n Try.f69 L (us ks j b) (HA ks j b) k0
theorem R_eq (n : Nat) (ks : List Int) (j : Nat) (b : Int) : R n ks j b =
  N0 n n ks j (0 : Int) b := by kernel_rfl
theorem ans {n : Nat} {ks : List Int} {j : Nat} {b : Int} (hA : Sounds Try.prog (A n)) {u : U} {H : Heap} (h : R n ks j b = some (u, H)) : Answers Try.prog 69 (us ks j b) (HA ks j b) u H := answers_env tabOk mixed hA Try.func69 (by kernel_rfl) (by kernel_rfl) h
end S_word

end Go.VM
