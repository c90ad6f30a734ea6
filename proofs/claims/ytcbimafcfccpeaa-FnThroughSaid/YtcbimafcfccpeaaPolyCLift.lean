/- Written by a program of this session (Lift.lean): what the evaluator comes to, function by function; the kernel checks it. The conditions: those of the contracts. -/
import Derived.Test.YtcbimafcfccpeaaVmP5
import Derived.Test.YtcbimafcfccpeaaPolyT
import Derived.Test.YtcbimafcfccpeaaPolyTS
import Derived.Test.YtcbimafcfccpeaaNimCon
import Derived.Test.YtcbimafcfccpeaaIntsCon
import Derived.Test.YtcbimafcfccpeaaPolyCon
import Derived.Test.YtcbimafcfccpeaaPolyCon2
import Derived.Test.YtcbimafcfccpeaaSrcCon
import Derived.Test.YtcbimafcfccpeaaPolyCon3
import Derived.KernelRfl
set_option linter.unusedVariables false
set_option linter.unusedSimpArgs false
set_option linter.unusedSectionVars false
namespace Go.VM
open Go Go.Proofs Go.Fn NimF
set_option linter.unusedVariables false
set_option maxRecDepth 100000
namespace I_valid
abbrev num : Nat := 64
noncomputable def A (n : Nat) : List (Nat × Con) := ((fun (n : Nat) => ([] : List (Nat × Con)))) n
noncomputable abbrev E (n : Nat) : Env (U × Heap) := envC tab ios (A n)
def L : List (List Nat) := []
abbrev us (p : List Int) (j : Nat) : List U := (((fun (p : List Int) (j : Nat) => (([.rsl [.ints .u16 p] j] : List U), ([] : Heap)))) p j).1
abbrev HA (p : List Int) (j : Nat) : Heap := (((fun (p : List Int) (j : Nat) => (([.rsl [.ints .u16 p] j] : List U), ([] : Heap)))) p j).2
noncomputable def R (n : Nat) (p : List Int) (j : Nat) : Res := run (E n) n Try.f64 L (us p j) (HA p j) k0
theorem R_eq (n : Nat) (p : List Int) (j : Nat) : R n p j =
  bif decide (((j : Nat) : Int) ≤ (21 : Int)) then
   bif (((j : Nat) : Int) == (0 : Int)) then
    some (.bool true, [])
   else
    bif decide (((0 : Int) ≤ (IntKind.wrap .i64 (((j : Nat) : Int) - (1 : Int)))) ∧ ((IntKind.wrap .i64 (((j : Nat) : Int) - (1 : Int))) < ((j : Nat) : Int))) then
    some (.bool ((List.getD p (Int.toNat (IntKind.wrap .i64 (((j : Nat) : Int) - (1 : Int)))) (0 : Int)) != (0 : Int)), [])
    else none
  else
   some (.bool false, []) := by kernel_rfl
theorem ans {n : Nat} {p : List Int} {j : Nat} (hA : Sounds Try.prog (A n)) {u : U} {H : Heap} (h : R n p j = some (u, H)) : Answers Try.prog 64 (us p j) (HA p j) u H := answers_env tabOk mixed hA Try.func64 (by kernel_rfl) (by kernel_rfl) h
end I_valid

namespace S_ok5
abbrev num : Nat := 70
noncomputable def A (n : Nat) : List (Nat × Con) := ((fun (n : Nat) => ([] : List (Nat × Con)))) n
noncomputable abbrev E (n : Nat) : Env (U × Heap) := envC tab ios (A n)
def L : List (List Nat) := []
abbrev us (p : List Int) (j : Nat) : List U := (((fun (p : List Int) (j : Nat) => (([.rsl [.ints .u16 p] j] : List U), ([] : Heap)))) p j).1
abbrev HA (p : List Int) (j : Nat) : Heap := (((fun (p : List Int) (j : Nat) => (([.rsl [.ints .u16 p] j] : List U), ([] : Heap)))) p j).2
noncomputable def R (n : Nat) (p : List Int) (j : Nat) : Res := run (E n) n Try.f70 L (us p j) (HA p j) k0
theorem R_eq (n : Nat) (p : List Int) (j : Nat) : R n p j =
  bif (((j : Nat) : Int) == (0 : Int)) then
   some (.bool true, [])
  else
   bif decide (((j : Nat) : Int) ≤ (21 : Int)) then
    bif decide (((0 : Int) ≤ (IntKind.wrap .i64 (((j : Nat) : Int) - (1 : Int)))) ∧ ((IntKind.wrap .i64 (((j : Nat) : Int) - (1 : Int))) < ((j : Nat) : Int))) then
    some (.bool ((List.getD p (Int.toNat (IntKind.wrap .i64 (((j : Nat) : Int) - (1 : Int)))) (0 : Int)) != (0 : Int)), [])
    else none
   else
    some (.bool false, []) := by kernel_rfl
theorem ans {n : Nat} {p : List Int} {j : Nat} (hA : Sounds Try.prog (A n)) {u : U} {H : Heap} (h : R n p j = some (u, H)) : Answers Try.prog 70 (us p j) (HA p j) u H := answers_env tabOk mixed hA Try.func70 (by kernel_rfl) (by kernel_rfl) h
end S_ok5

namespace I_areIx
abbrev num : Nat := 122
noncomputable def A (n : Nat) : List (Nat × Con) := ((fun (n : Nat) => ([(64, CValidP)] : List (Nat × Con)))) n
noncomputable def I : Inl := ([(109, Try.f109, [])] : Inl)
theorem inl_ok : InlOk Try.prog I := (inl_cons Try.func109 (by kernel_rfl) (by kernel_rfl) inl_nil)
noncomputable abbrev E (n : Nat) : Env (U × Heap) := envI tab ios (A n) I n 1
def L : List (List Nat) := [[8, 0, 1, 7]]
abbrev us (W : List (List Int)) (j : Nat) : List U := (((fun (W : List (List Int)) (j : Nat) => (([.rsl [.sls .u16 W] j, .fn 109 []] : List U), ([] : Heap)))) W j).1
abbrev HA (W : List (List Int)) (j : Nat) : Heap := (((fun (W : List (List Int)) (j : Nat) => (([.rsl [.sls .u16 W] j, .fn 109 []] : List U), ([] : Heap)))) W j).2
def S0 (t8 : Int) (t0_0 : List (List Int)) (t0n : Nat) (t7 : Int) : St := ⟨[(8, .int .i64 t8), (0, .rsl [.sls .u16 t0_0] t0n), (1, .fn 109 []), (7, .int .i64 t7)], 19, [], [], 0⟩
noncomputable def N0 (n : Nat)  (m0 : Nat) (t8 : Int) (t0_0 : List (List Int)) (t0n : Nat) (t7 : Int) : Res := nodeRun (E n) n Try.f122 L k0 [true, false, true, false] [] m0 (S0 t8 t0_0 t0n t7)
theorem N0_succ (n : Nat)  (m0 : Nat) (t8 : Int) (t0_0 : List (List Int)) (t0n : Nat) (t7 : Int) : N0 n  (m0 + 1) t8 t0_0 t0n t7 =
  bif decide (t8 < t7) then
   bif decide (((0 : Int) ≤ t8) ∧ (t8 < ((t0n : Nat) : Int))) then
   pif ((okP (List.getD t0_0 (Int.toNat t8) []) (List.length (List.getD t0_0 (Int.toNat t8) [])))) (
    N0 n m0 (IntKind.wrap .i64 (t8 + (1 : Int))) t0_0 t0n t7)
   else none
  else
   some (.int .i64 (-1 : Int), []) := by kernel_rfl
noncomputable def R (n : Nat) (W : List (List Int)) (j : Nat) : Res := run (E n) n Try.f122 L (us W j) (HA W j) k0
theorem R_eq (n : Nat) (W : List (List Int)) (j : Nat) : R n W j =
  N0 n n (0 : Int) W j ((j : Nat) : Int) := by kernel_rfl
theorem ans {n : Nat} {W : List (List Int)} {j : Nat} (hA : Sounds Try.prog (A n)) {u : U} {H : Heap} (h : R n W j = some (u, H)) : Answers Try.prog 122 (us W j) (HA W j) u H := answers_inl tabOk mixed hA inl_ok Try.func122 (by kernel_rfl) (by kernel_rfl) h
end I_areIx

namespace I_areB
abbrev num : Nat := 108
noncomputable def A (n : Nat) : List (Nat × Con) := ((fun (n : Nat) => ([(122, CAreIx)] : List (Nat × Con)))) n
noncomputable abbrev E (n : Nat) : Env (U × Heap) := envC tab ios (A n)
def L : List (List Nat) := []
abbrev us (W : List (List Int)) (j : Nat) : List U := (((fun (W : List (List Int)) (j : Nat) => (([.rsl [.sls .u16 W] j, .fn 109 []] : List U), ([] : Heap)))) W j).1
abbrev HA (W : List (List Int)) (j : Nat) : Heap := (((fun (W : List (List Int)) (j : Nat) => (([.rsl [.sls .u16 W] j, .fn 109 []] : List U), ([] : Heap)))) W j).2
noncomputable def R (n : Nat) (W : List (List Int)) (j : Nat) : Res := run (E n) n Try.f108 L (us W j) (HA W j) k0
theorem R_eq (n : Nat) (W : List (List Int)) (j : Nat) : R n W j =
  pif (((isAre 109) ∧ (okL W j))) (
  some (.bool false, [])) := by kernel_rfl
theorem ans {n : Nat} {W : List (List Int)} {j : Nat} (hA : Sounds Try.prog (A n)) {u : U} {H : Heap} (h : R n W j = some (u, H)) : Answers Try.prog 108 (us W j) (HA W j) u H := answers_env tabOk mixed hA Try.func108 (by kernel_rfl) (by kernel_rfl) h
end I_areB

namespace I_are
abbrev num : Nat := 81
noncomputable def A (n : Nat) : List (Nat × Con) := ((fun (n : Nat) => ([(108, CAreB)] : List (Nat × Con)))) n
noncomputable abbrev E (n : Nat) : Env (U × Heap) := envC tab ios (A n)
def L : List (List Nat) := []
abbrev us (W : List (List Int)) (j : Nat) : List U := (((fun (W : List (List Int)) (j : Nat) => (([.rsl [.sls .u16 W] j] : List U), ([] : Heap)))) W j).1
abbrev HA (W : List (List Int)) (j : Nat) : Heap := (((fun (W : List (List Int)) (j : Nat) => (([.rsl [.sls .u16 W] j] : List U), ([] : Heap)))) W j).2
noncomputable def R (n : Nat) (W : List (List Int)) (j : Nat) : Res := run (E n) n Try.f81 L (us W j) (HA W j) k0
theorem R_eq (n : Nat) (W : List (List Int)) (j : Nat) : R n W j =
  pif (((isAre 109) ∧ (okL W j))) (
  some (.bool true, [])) := by kernel_rfl
theorem ans {n : Nat} {W : List (List Int)} {j : Nat} (hA : Sounds Try.prog (A n)) {u : U} {H : Heap} (h : R n W j = some (u, H)) : Answers Try.prog 81 (us W j) (HA W j) u H := answers_env tabOk mixed hA Try.func81 (by kernel_rfl) (by kernel_rfl) h
end I_are

namespace I_notZ
abbrev num : Nat := 67
noncomputable def A (n : Nat) : List (Nat × Con) := ((fun (n : Nat) => ([(64, CValidP)] : List (Nat × Con)))) n
noncomputable abbrev E (n : Nat) : Env (U × Heap) := envC tab ios (A n)
def L : List (List Nat) := []
abbrev us (p : List Int) (j : Nat) : List U := (((fun (p : List Int) (j : Nat) => (([.rsl [.ints .u16 p] j] : List U), ([] : Heap)))) p j).1
abbrev HA (p : List Int) (j : Nat) : Heap := (((fun (p : List Int) (j : Nat) => (([.rsl [.ints .u16 p] j] : List U), ([] : Heap)))) p j).2
noncomputable def R (n : Nat) (p : List Int) (j : Nat) : Res := run (E n) n Try.f67 L (us p j) (HA p j) k0
theorem R_eq (n : Nat) (p : List Int) (j : Nat) : R n p j =
  pif ((okP p j)) (
  bif (((j : Nat) : Int) == (0 : Int)) then
   some (.int .i64 (4 : Int), [])
  else
   some (.int .i64 (0 : Int), [])) := by kernel_rfl
theorem ans {n : Nat} {p : List Int} {j : Nat} (hA : Sounds Try.prog (A n)) {u : U} {H : Heap} (h : R n p j = some (u, H)) : Answers Try.prog 67 (us p j) (HA p j) u H := answers_env tabOk mixed hA Try.func67 (by kernel_rfl) (by kernel_rfl) h
end I_notZ

namespace S_both
abbrev num : Nat := 79
noncomputable def A (n : Nat) : List (Nat × Con) := ((fun (n : Nat) => ([(70, CValidP)] : List (Nat × Con)))) n
noncomputable abbrev E (n : Nat) : Env (U × Heap) := envC tab ios (A n)
def L : List (List Nat) := []
abbrev us (p : List Int) (j : Nat) (q : List Int) (i : Nat) : List U := (((fun (p : List Int) (j : Nat) (q : List Int) (i : Nat) => (([.rsl [.ints .u16 p] j, .rsl [.ints .u16 q] i] : List U), ([] : Heap)))) p j q i).1
abbrev HA (p : List Int) (j : Nat) (q : List Int) (i : Nat) : Heap := (((fun (p : List Int) (j : Nat) (q : List Int) (i : Nat) => (([.rsl [.ints .u16 p] j, .rsl [.ints .u16 q] i] : List U), ([] : Heap)))) p j q i).2
noncomputable def R (n : Nat) (p : List Int) (j : Nat) (q : List Int) (i : Nat) : Res := run (E n) n Try.f79 L (us p j q i) (HA p j q i) k0
theorem R_eq (n : Nat) (p : List Int) (j : Nat) (q : List Int) (i : Nat) : R n p j q i =
  pif ((okP p j)) (
  pif ((okP q i)) (
  some (.int .i64 (0 : Int), []))) := by kernel_rfl
theorem ans {n : Nat} {p : List Int} {j : Nat} {q : List Int} {i : Nat} (hA : Sounds Try.prog (A n)) {u : U} {H : Heap} (h : R n p j q i = some (u, H)) : Answers Try.prog 79 (us p j q i) (HA p j q i) u H := answers_env tabOk mixed hA Try.func79 (by kernel_rfl) (by kernel_rfl) h
end S_both

namespace I_div
abbrev num : Nat := 68
noncomputable def A (n : Nat) : List (Nat × Con) := ((fun (n : Nat) => ([(105, CCloneP), (56, CInv), (54, CMul), (82, CTrimP)] : List (Nat × Con)))) n
noncomputable abbrev E (n : Nat) : Env (U × Heap) := envC tab ios (A n)
def L : List (List Nat) := [[6, 7, 1, 8], [7, 1, 8, 6, 54, 10, 9, 52, 53]]
abbrev us (p : List Int) (j : Nat) (q : List Int) (i : Nat) : List U := (((fun (p : List Int) (j : Nat) (q : List Int) (i : Nat) => (([.rsl [.ints .u16 p] j, .rsl [.ints .u16 q] i] : List U), ([] : Heap)))) p j q i).1
abbrev HA (p : List Int) (j : Nat) (q : List Int) (i : Nat) : Heap := (((fun (p : List Int) (j : Nat) (q : List Int) (i : Nat) => (([.rsl [.ints .u16 p] j, .rsl [.ints .u16 q] i] : List U), ([] : Heap)))) p j q i).2
def S0 (t1_0 : List Int) (t1n : Nat) (t8 : Int) (o0_0 : List Int) (o1_0 : List Int) : St := ⟨[(6, .own 0), (7, .own 1), (1, .rsl [.ints .u16 t1_0] t1n), (8, .int .u16 t8)], 76, [(0, ⟨[.ints .u16 o0_0], true⟩), (1, ⟨[.ints .u16 o1_0], true⟩)], [0, 1], 0⟩
noncomputable def N0 (n : Nat)  (m0 : Nat) (t1_0 : List Int) (t1n : Nat) (t8 : Int) (o0_0 : List Int) (o1_0 : List Int) : Res := nodeRun (E n) n Try.f68 L k0 [true, true, true, false, false] [] m0 (S0 t1_0 t1n t8 o0_0 o1_0)
def S1 (t1_0 : List Int) (t1n : Nat) (t8 : Int) (t54 : Int) (t10 : Int) (t9 : Int) (t52_0 : List Int) (t52n : Nat) (t53 : Int) (o0_0 : List Int) (o1_0 : List Int) : St := ⟨[(7, .own 0), (1, .rsl [.ints .u16 t1_0] t1n), (8, .int .u16 t8), (6, .own 1), (54, .int .i64 t54), (10, .int .u16 t10), (9, .int .i64 t9), (52, .rsl [.ints .u16 t52_0] t52n), (53, .int .i64 t53)], 76, [(0, ⟨[.ints .u16 o0_0], true⟩), (1, ⟨[.ints .u16 o1_0], true⟩)], [0, 1], 0⟩
noncomputable def N1 (n : Nat) (m0 : Nat) (m1 : Nat) (t1_0 : List Int) (t1n : Nat) (t8 : Int) (t54 : Int) (t10 : Int) (t9 : Int) (t52_0 : List Int) (t52n : Nat) (t53 : Int) (o0_0 : List Int) (o1_0 : List Int) : Res := nodeRun (E n) n Try.f68 L k0 [true, true, true, false, false, false, true, false, true, true, true, false, true, false] [m0] m1 (S1 t1_0 t1n t8 t54 t10 t9 t52_0 t52n t53 o0_0 o1_0)
theorem N0_succ (n : Nat)  (m0 : Nat) (t1_0 : List Int) (t1n : Nat) (t8 : Int) (o0_0 : List Int) (o1_0 : List Int) : N0 n  (m0 + 1) t1_0 t1n t8 o0_0 o1_0 =
  bif decide ((((List.length o0_0) : Nat) : Int) ≥ ((t1n : Nat) : Int)) then
   bif decide (((0 : Int) ≤ (IntKind.wrap .i64 ((((List.length o0_0) : Nat) : Int) - (1 : Int)))) ∧ ((IntKind.wrap .i64 ((((List.length o0_0) : Nat) : Int) - (1 : Int))) < (((List.length o0_0) : Nat) : Int))) then
   pif (((u16 (List.getD o0_0 (Int.toNat (IntKind.wrap .i64 ((((List.length o0_0) : Nat) : Int) - (1 : Int)))) (0 : Int))) ∧ (u16 t8))) (
    bif decide (((0 : Int) ≤ (IntKind.wrap .i64 ((((List.length o0_0) : Nat) : Int) - ((t1n : Nat) : Int)))) ∧ ((IntKind.wrap .i64 ((((List.length o0_0) : Nat) : Int) - ((t1n : Nat) : Int))) < (((List.length o1_0) : Nat) : Int))) then
    N1 n m0 n t1_0 t1n t8 (0 : Int) (mulI (List.getD o0_0 (Int.toNat (IntKind.wrap .i64 ((((List.length o0_0) : Nat) : Int) - (1 : Int)))) (0 : Int)) t8) (IntKind.wrap .i64 ((((List.length o0_0) : Nat) : Int) - ((t1n : Nat) : Int))) t1_0 t1n ((t1n : Nat) : Int) (List.set o1_0 (Int.toNat (IntKind.wrap .i64 ((((List.length o0_0) : Nat) : Int) - ((t1n : Nat) : Int)))) (mulI (List.getD o0_0 (Int.toNat (IntKind.wrap .i64 ((((List.length o0_0) : Nat) : Int) - (1 : Int)))) (0 : Int)) t8)) o0_0
    else none)
   else none
  else
   pif ((genP o1_0 (List.length o1_0))) (
   some (.tup [.own 0, .own 1], [(0, ⟨[.ints .u16 (trP o1_0)], true⟩), (1, ⟨[.ints .u16 o0_0], true⟩)])) := by kernel_rfl
theorem N1_succ (n : Nat) (m0 : Nat) (m1 : Nat) (t1_0 : List Int) (t1n : Nat) (t8 : Int) (t54 : Int) (t10 : Int) (t9 : Int) (t52_0 : List Int) (t52n : Nat) (t53 : Int) (o0_0 : List Int) (o1_0 : List Int) : N1 n m0 (m1 + 1) t1_0 t1n t8 t54 t10 t9 t52_0 t52n t53 o0_0 o1_0 =
  bif decide (t54 < t53) then
   bif decide (((0 : Int) ≤ t54) ∧ (t54 < ((t52n : Nat) : Int))) then
   bif decide (((0 : Int) ≤ (IntKind.wrap .i64 (t9 + t54))) ∧ ((IntKind.wrap .i64 (t9 + t54)) < (((List.length o1_0) : Nat) : Int))) then
    pif (((u16 t10) ∧ (u16 (List.getD t52_0 (Int.toNat t54) (0 : Int))))) (
     bif decide (((0 : Int) ≤ (IntKind.wrap .i64 (t9 + t54))) ∧ ((IntKind.wrap .i64 (t9 + t54)) < (((List.length o1_0) : Nat) : Int))) then
     N1 n m0 m1 t1_0 t1n t8 (IntKind.wrap .i64 (t54 + (1 : Int))) t10 t9 t52_0 t52n t53 o0_0 (List.set o1_0 (Int.toNat (IntKind.wrap .i64 (t9 + t54))) (intBitsV .xor .u16 (List.getD o1_0 (Int.toNat (IntKind.wrap .i64 (t9 + t54))) (0 : Int)) (mulI t10 (List.getD t52_0 (Int.toNat t54) (0 : Int)))))
     else none)
    else none
   else none
  else
   pif ((genP o1_0 (List.length o1_0))) (
   N0 n m0 t1_0 t1n t8 (trP o1_0) o0_0) := by kernel_rfl
noncomputable def R (n : Nat) (p : List Int) (j : Nat) (q : List Int) (i : Nat) : Res := run (E n) n Try.f68 L (us p j q i) (HA p j q i) k0
theorem R_eq (n : Nat) (p : List Int) (j : Nat) (q : List Int) (i : Nat) : R n p j q i =
  pif ((((List.length p) = j) ∧ (j ≤ 1048576))) (
  bif decide (((0 : Int) ≤ (cond true (if ((0 : Int) > (IntKind.wrap .i64 ((IntKind.wrap .i64 (((j : Nat) : Int) - ((i : Nat) : Int))) + (1 : Int)))) then (0 : Int) else (IntKind.wrap .i64 ((IntKind.wrap .i64 (((j : Nat) : Int) - ((i : Nat) : Int))) + (1 : Int)))) (if ((0 : Int) < (IntKind.wrap .i64 ((IntKind.wrap .i64 (((j : Nat) : Int) - ((i : Nat) : Int))) + (1 : Int)))) then (0 : Int) else (IntKind.wrap .i64 ((IntKind.wrap .i64 (((j : Nat) : Int) - ((i : Nat) : Int))) + (1 : Int)))))) ∧ (((cond true (if ((0 : Int) > (IntKind.wrap .i64 ((IntKind.wrap .i64 (((j : Nat) : Int) - ((i : Nat) : Int))) + (1 : Int)))) then (0 : Int) else (IntKind.wrap .i64 ((IntKind.wrap .i64 (((j : Nat) : Int) - ((i : Nat) : Int))) + (1 : Int)))) (if ((0 : Int) < (IntKind.wrap .i64 ((IntKind.wrap .i64 (((j : Nat) : Int) - ((i : Nat) : Int))) + (1 : Int)))) then (0 : Int) else (IntKind.wrap .i64 ((IntKind.wrap .i64 (((j : Nat) : Int) - ((i : Nat) : Int))) + (1 : Int))))) * (1 : Int)) ≤ (4398046511104 : Int))) then
  bif decide (((0 : Int) ≤ (IntKind.wrap .i64 (((i : Nat) : Int) - (1 : Int)))) ∧ ((IntKind.wrap .i64 (((i : Nat) : Int) - (1 : Int))) < ((i : Nat) : Int))) then
   pif ((u16 (List.getD q (Int.toNat (IntKind.wrap .i64 (((i : Nat) : Int) - (1 : Int)))) (0 : Int)))) (
    N0 n n q i (invI (List.getD q (Int.toNat (IntKind.wrap .i64 (((i : Nat) : Int) - (1 : Int)))) (0 : Int))) p (List.replicate (Int.toNat (cond true (if ((0 : Int) > (IntKind.wrap .i64 ((IntKind.wrap .i64 (((j : Nat) : Int) - ((i : Nat) : Int))) + (1 : Int)))) then (0 : Int) else (IntKind.wrap .i64 ((IntKind.wrap .i64 (((j : Nat) : Int) - ((i : Nat) : Int))) + (1 : Int)))) (if ((0 : Int) < (IntKind.wrap .i64 ((IntKind.wrap .i64 (((j : Nat) : Int) - ((i : Nat) : Int))) + (1 : Int)))) then (0 : Int) else (IntKind.wrap .i64 ((IntKind.wrap .i64 (((j : Nat) : Int) - ((i : Nat) : Int))) + (1 : Int)))))) (0 : Int)))
   else none
  else none) := by kernel_rfl
theorem ans {n : Nat} {p : List Int} {j : Nat} {q : List Int} {i : Nat} (hA : Sounds Try.prog (A n)) {u : U} {H : Heap} (h : R n p j q i = some (u, H)) : Answers Try.prog 68 (us p j q i) (HA p j q i) u H := answers_env tabOk mixed hA Try.func68 (by kernel_rfl) (by kernel_rfl) h
end I_div

namespace I_bez
abbrev num : Nat := 73
noncomputable def A (n : Nat) : List (Nat × Con) := ((fun (n : Nat) => ([(105, CCloneP), (56, CInv), (68, CDivP), (59, CTimesG), (57, CPlusP), (58, CScaleP)] : List (Nat × Con)))) n
noncomputable abbrev E (n : Nat) : Env (U × Heap) := envC tab ios (A n)
def L : List (List Nat) := [[10, 9, 7, 12, 11, 8]]
abbrev us (p : List Int) (j : Nat) (q : List Int) (i : Nat) : List U := (((fun (p : List Int) (j : Nat) (q : List Int) (i : Nat) => (([.rsl [.ints .u16 p] j, .rsl [.ints .u16 q] i] : List U), ([] : Heap)))) p j q i).1
abbrev HA (p : List Int) (j : Nat) (q : List Int) (i : Nat) : Heap := (((fun (p : List Int) (j : Nat) (q : List Int) (i : Nat) => (([.rsl [.ints .u16 p] j, .rsl [.ints .u16 q] i] : List U), ([] : Heap)))) p j q i).2
def S0 (t7_0 : List Int) (t7n : Nat) (t8_0 : List Int) (t8n : Nat) (o0_0 : List Int) (o1_0 : Int) (o2_0 : Int) (o3_0 : List Int) : St := ⟨[(10, .own 0), (9, .own 1), (7, .rsl [.ints .u16 t7_0] t7n), (12, .own 2), (11, .own 3), (8, .rsl [.ints .u16 t8_0] t8n)], 68, [(0, ⟨[.ints .u16 o0_0], true⟩), (1, ⟨[.ints .u16 [o1_0]], true⟩), (2, ⟨[.ints .u16 [o2_0]], true⟩), (3, ⟨[.ints .u16 o3_0], true⟩)], [0, 1, 2, 3], 0⟩
noncomputable def N0 (n : Nat)  (m0 : Nat) (t7_0 : List Int) (t7n : Nat) (t8_0 : List Int) (t8n : Nat) (o0_0 : List Int) (o1_0 : Int) (o2_0 : Int) (o3_0 : List Int) : Res := nodeRun (E n) n Try.f73 L k0 [true, true, true, false, false] [] m0 (S0 t7_0 t7n t8_0 t8n o0_0 o1_0 o2_0 o3_0)
def S1 (t7_0 : List Int) (t7n : Nat) (o0_0 : Int) (o1_0 : List Int) (o2_0 : List Int) (o3_0 : List Int) (o4_0 : List Int) : St := ⟨[(10, .own 0), (9, .own 1), (7, .rsl [.ints .u16 t7_0] t7n), (12, .own 2), (11, .own 3), (8, .own 4)], 68, [(0, ⟨[.ints .u16 [o0_0]], true⟩), (1, ⟨[.ints .u16 o1_0], true⟩), (2, ⟨[.ints .u16 o2_0], true⟩), (3, ⟨[.ints .u16 o3_0], true⟩), (4, ⟨[.ints .u16 o4_0], true⟩)], [0, 1, 2, 3, 4], 0⟩
noncomputable def N1 (n : Nat)  (m0 : Nat) (t7_0 : List Int) (t7n : Nat) (o0_0 : Int) (o1_0 : List Int) (o2_0 : List Int) (o3_0 : List Int) (o4_0 : List Int) : Res := nodeRun (E n) n Try.f73 L k0 [true, true, true, false, false] [] m0 (S1 t7_0 t7n o0_0 o1_0 o2_0 o3_0 o4_0)
def S2 (o0_0 : List Int) (o1_0 : List Int) (o2_0 : List Int) (o3_0 : List Int) (o4_0 : List Int) (o5_0 : List Int) : St := ⟨[(10, .own 0), (9, .own 1), (7, .own 2), (12, .own 3), (11, .own 4), (8, .own 5)], 68, [(0, ⟨[.ints .u16 o0_0], true⟩), (1, ⟨[.ints .u16 o1_0], true⟩), (2, ⟨[.ints .u16 o2_0], true⟩), (3, ⟨[.ints .u16 o3_0], true⟩), (4, ⟨[.ints .u16 o4_0], true⟩), (5, ⟨[.ints .u16 o5_0], true⟩)], [0, 1, 2, 3, 4, 5], 0⟩
noncomputable def N2 (n : Nat)  (m0 : Nat) (o0_0 : List Int) (o1_0 : List Int) (o2_0 : List Int) (o3_0 : List Int) (o4_0 : List Int) (o5_0 : List Int) : Res := nodeRun (E n) n Try.f73 L k0 [true, true, true, false, false] [] m0 (S2 o0_0 o1_0 o2_0 o3_0 o4_0 o5_0)
theorem N0_succ (n : Nat)  (m0 : Nat) (t7_0 : List Int) (t7n : Nat) (t8_0 : List Int) (t8n : Nat) (o0_0 : List Int) (o1_0 : Int) (o2_0 : Int) (o3_0 : List Int) : N0 n  (m0 + 1) t7_0 t7n t8_0 t8n o0_0 o1_0 o2_0 o3_0 =
  bif decide (((t8n : Nat) : Int) > (0 : Int)) then
   pif (((canP t7_0 t7n) ∧ ((canP t8_0 t8n) ∧ ((0 < t8n) ∧ ((t7n ≤ 1000) ∧ (t8n ≤ 1000)))))) (
   pif (((genP (dqP t7_0 t8_0) (List.length (dqP t7_0 t8_0))) ∧ ((genP o3_0 (List.length o3_0)) ∧ (((List.length (dqP t7_0 t8_0)) + (List.length o3_0)) ≤ 1048576)))) (
   pif (((genP [o1_0] 1) ∧ (genP (tiP (dqP t7_0 t8_0) o3_0) (List.length (tiP (dqP t7_0 t8_0) o3_0))))) (
   pif (((genP (dqP t7_0 t8_0) (List.length (dqP t7_0 t8_0))) ∧ ((genP [o2_0] 1) ∧ (((List.length (dqP t7_0 t8_0)) + 1) ≤ 1048576)))) (
   pif (((genP o0_0 (List.length o0_0)) ∧ (genP (tiP (dqP t7_0 t8_0) [o2_0]) (List.length (tiP (dqP t7_0 t8_0) [o2_0]))))) (
   N1 n m0 t8_0 t8n o2_0 o3_0 (plP o0_0 (tiP (dqP t7_0 t8_0) [o2_0])) (plP [o1_0] (tiP (dqP t7_0 t8_0) o3_0)) (drP t7_0 t8_0))))))
  else
   bif decide (((t7n : Nat) : Int) > (0 : Int)) then
    bif decide (((0 : Int) ≤ (IntKind.wrap .i64 (((t7n : Nat) : Int) - (1 : Int)))) ∧ ((IntKind.wrap .i64 (((t7n : Nat) : Int) - (1 : Int))) < ((t7n : Nat) : Int))) then
    pif ((u16 (List.getD t7_0 (Int.toNat (IntKind.wrap .i64 (((t7n : Nat) : Int) - (1 : Int)))) (0 : Int)))) (
     pif (((canP t7_0 t7n) ∧ ((t7n ≤ 1000000) ∧ (u16 (invI (List.getD t7_0 (Int.toNat (IntKind.wrap .i64 (((t7n : Nat) : Int) - (1 : Int)))) (0 : Int))))))) (
     pif (((canP [o1_0] 1) ∧ ((1 ≤ 1000000) ∧ (u16 (invI (List.getD t7_0 (Int.toNat (IntKind.wrap .i64 (((t7n : Nat) : Int) - (1 : Int)))) (0 : Int))))))) (
     pif (((canP o0_0 (List.length o0_0)) ∧ (((List.length o0_0) ≤ 1000000) ∧ (u16 (invI (List.getD t7_0 (Int.toNat (IntKind.wrap .i64 (((t7n : Nat) : Int) - (1 : Int)))) (0 : Int))))))) (
     pif ((((List.length (scP t7_0 (invI (List.getD t7_0 (Int.toNat (IntKind.wrap .i64 (((t7n : Nat) : Int) - (1 : Int)))) (0 : Int))))) = (List.length (scP t7_0 (invI (List.getD t7_0 (Int.toNat (IntKind.wrap .i64 (((t7n : Nat) : Int) - (1 : Int)))) (0 : Int)))))) ∧ ((List.length (scP t7_0 (invI (List.getD t7_0 (Int.toNat (IntKind.wrap .i64 (((t7n : Nat) : Int) - (1 : Int)))) (0 : Int))))) ≤ 1048576))) (
     some (.tup [.own 0, .own 1, .own 2], [(0, ⟨[.ints .u16 (scP t7_0 (invI (List.getD t7_0 (Int.toNat (IntKind.wrap .i64 (((t7n : Nat) : Int) - (1 : Int)))) (0 : Int))))], true⟩), (1, ⟨[.ints .u16 (scP [o1_0] (invI (List.getD t7_0 (Int.toNat (IntKind.wrap .i64 (((t7n : Nat) : Int) - (1 : Int)))) (0 : Int))))], true⟩), (2, ⟨[.ints .u16 (scP o0_0 (invI (List.getD t7_0 (Int.toNat (IntKind.wrap .i64 (((t7n : Nat) : Int) - (1 : Int)))) (0 : Int))))], true⟩)]))))))
    else none
   else
    pif ((((List.length t7_0) = t7n) ∧ (t7n ≤ 1048576))) (
    some (.tup [.own 0, .own 1, .own 2], [(0, ⟨[.ints .u16 t7_0], true⟩), (1, ⟨[.ints .u16 [o1_0]], true⟩), (2, ⟨[.ints .u16 o0_0], true⟩)])) := by kernel_rfl
theorem N1_succ (n : Nat)  (m0 : Nat) (t7_0 : List Int) (t7n : Nat) (o0_0 : Int) (o1_0 : List Int) (o2_0 : List Int) (o3_0 : List Int) (o4_0 : List Int) : N1 n  (m0 + 1) t7_0 t7n o0_0 o1_0 o2_0 o3_0 o4_0 =
  bif decide ((((List.length o4_0) : Nat) : Int) > (0 : Int)) then
   pif (((canP t7_0 t7n) ∧ ((canP o4_0 (List.length o4_0)) ∧ ((0 < (List.length o4_0)) ∧ ((t7n ≤ 1000) ∧ ((List.length o4_0) ≤ 1000)))))) (
   pif (((genP (dqP t7_0 o4_0) (List.length (dqP t7_0 o4_0))) ∧ ((genP o3_0 (List.length o3_0)) ∧ (((List.length (dqP t7_0 o4_0)) + (List.length o3_0)) ≤ 1048576)))) (
   pif (((genP o1_0 (List.length o1_0)) ∧ (genP (tiP (dqP t7_0 o4_0) o3_0) (List.length (tiP (dqP t7_0 o4_0) o3_0))))) (
   pif (((genP (dqP t7_0 o4_0) (List.length (dqP t7_0 o4_0))) ∧ ((genP o2_0 (List.length o2_0)) ∧ (((List.length (dqP t7_0 o4_0)) + (List.length o2_0)) ≤ 1048576)))) (
   pif (((genP [o0_0] 1) ∧ (genP (tiP (dqP t7_0 o4_0) o2_0) (List.length (tiP (dqP t7_0 o4_0) o2_0))))) (
   N2 n m0 o2_0 o3_0 o4_0 (plP [o0_0] (tiP (dqP t7_0 o4_0) o2_0)) (plP o1_0 (tiP (dqP t7_0 o4_0) o3_0)) (drP t7_0 o4_0))))))
  else
   bif decide (((t7n : Nat) : Int) > (0 : Int)) then
    bif decide (((0 : Int) ≤ (IntKind.wrap .i64 (((t7n : Nat) : Int) - (1 : Int)))) ∧ ((IntKind.wrap .i64 (((t7n : Nat) : Int) - (1 : Int))) < ((t7n : Nat) : Int))) then
    pif ((u16 (List.getD t7_0 (Int.toNat (IntKind.wrap .i64 (((t7n : Nat) : Int) - (1 : Int)))) (0 : Int)))) (
     pif (((canP t7_0 t7n) ∧ ((t7n ≤ 1000000) ∧ (u16 (invI (List.getD t7_0 (Int.toNat (IntKind.wrap .i64 (((t7n : Nat) : Int) - (1 : Int)))) (0 : Int))))))) (
     pif (((canP o1_0 (List.length o1_0)) ∧ (((List.length o1_0) ≤ 1000000) ∧ (u16 (invI (List.getD t7_0 (Int.toNat (IntKind.wrap .i64 (((t7n : Nat) : Int) - (1 : Int)))) (0 : Int))))))) (
     pif (((canP [o0_0] 1) ∧ ((1 ≤ 1000000) ∧ (u16 (invI (List.getD t7_0 (Int.toNat (IntKind.wrap .i64 (((t7n : Nat) : Int) - (1 : Int)))) (0 : Int))))))) (
     pif ((((List.length (scP t7_0 (invI (List.getD t7_0 (Int.toNat (IntKind.wrap .i64 (((t7n : Nat) : Int) - (1 : Int)))) (0 : Int))))) = (List.length (scP t7_0 (invI (List.getD t7_0 (Int.toNat (IntKind.wrap .i64 (((t7n : Nat) : Int) - (1 : Int)))) (0 : Int)))))) ∧ ((List.length (scP t7_0 (invI (List.getD t7_0 (Int.toNat (IntKind.wrap .i64 (((t7n : Nat) : Int) - (1 : Int)))) (0 : Int))))) ≤ 1048576))) (
     some (.tup [.own 0, .own 1, .own 2], [(0, ⟨[.ints .u16 (scP t7_0 (invI (List.getD t7_0 (Int.toNat (IntKind.wrap .i64 (((t7n : Nat) : Int) - (1 : Int)))) (0 : Int))))], true⟩), (1, ⟨[.ints .u16 (scP o1_0 (invI (List.getD t7_0 (Int.toNat (IntKind.wrap .i64 (((t7n : Nat) : Int) - (1 : Int)))) (0 : Int))))], true⟩), (2, ⟨[.ints .u16 (scP [o0_0] (invI (List.getD t7_0 (Int.toNat (IntKind.wrap .i64 (((t7n : Nat) : Int) - (1 : Int)))) (0 : Int))))], true⟩)]))))))
    else none
   else
    pif ((((List.length t7_0) = t7n) ∧ (t7n ≤ 1048576))) (
    some (.tup [.own 0, .own 1, .own 2], [(0, ⟨[.ints .u16 t7_0], true⟩), (1, ⟨[.ints .u16 o1_0], true⟩), (2, ⟨[.ints .u16 [o0_0]], true⟩)])) := by kernel_rfl
theorem N2_succ (n : Nat)  (m0 : Nat) (o0_0 : List Int) (o1_0 : List Int) (o2_0 : List Int) (o3_0 : List Int) (o4_0 : List Int) (o5_0 : List Int) : N2 n  (m0 + 1) o0_0 o1_0 o2_0 o3_0 o4_0 o5_0 =
  bif decide ((((List.length o5_0) : Nat) : Int) > (0 : Int)) then
   pif (((canP o2_0 (List.length o2_0)) ∧ ((canP o5_0 (List.length o5_0)) ∧ ((0 < (List.length o5_0)) ∧ (((List.length o2_0) ≤ 1000) ∧ ((List.length o5_0) ≤ 1000)))))) (
   pif (((genP (dqP o2_0 o5_0) (List.length (dqP o2_0 o5_0))) ∧ ((genP o4_0 (List.length o4_0)) ∧ (((List.length (dqP o2_0 o5_0)) + (List.length o4_0)) ≤ 1048576)))) (
   pif (((genP o1_0 (List.length o1_0)) ∧ (genP (tiP (dqP o2_0 o5_0) o4_0) (List.length (tiP (dqP o2_0 o5_0) o4_0))))) (
   pif (((genP (dqP o2_0 o5_0) (List.length (dqP o2_0 o5_0))) ∧ ((genP o3_0 (List.length o3_0)) ∧ (((List.length (dqP o2_0 o5_0)) + (List.length o3_0)) ≤ 1048576)))) (
   pif (((genP o0_0 (List.length o0_0)) ∧ (genP (tiP (dqP o2_0 o5_0) o3_0) (List.length (tiP (dqP o2_0 o5_0) o3_0))))) (
   N2 n m0 o3_0 o4_0 o5_0 (plP o0_0 (tiP (dqP o2_0 o5_0) o3_0)) (plP o1_0 (tiP (dqP o2_0 o5_0) o4_0)) (drP o2_0 o5_0))))))
  else
   bif decide ((((List.length o2_0) : Nat) : Int) > (0 : Int)) then
    bif decide (((0 : Int) ≤ (IntKind.wrap .i64 ((((List.length o2_0) : Nat) : Int) - (1 : Int)))) ∧ ((IntKind.wrap .i64 ((((List.length o2_0) : Nat) : Int) - (1 : Int))) < (((List.length o2_0) : Nat) : Int))) then
    pif ((u16 (List.getD o2_0 (Int.toNat (IntKind.wrap .i64 ((((List.length o2_0) : Nat) : Int) - (1 : Int)))) (0 : Int)))) (
     pif (((canP o2_0 (List.length o2_0)) ∧ (((List.length o2_0) ≤ 1000000) ∧ (u16 (invI (List.getD o2_0 (Int.toNat (IntKind.wrap .i64 ((((List.length o2_0) : Nat) : Int) - (1 : Int)))) (0 : Int))))))) (
     pif (((canP o1_0 (List.length o1_0)) ∧ (((List.length o1_0) ≤ 1000000) ∧ (u16 (invI (List.getD o2_0 (Int.toNat (IntKind.wrap .i64 ((((List.length o2_0) : Nat) : Int) - (1 : Int)))) (0 : Int))))))) (
     pif (((canP o0_0 (List.length o0_0)) ∧ (((List.length o0_0) ≤ 1000000) ∧ (u16 (invI (List.getD o2_0 (Int.toNat (IntKind.wrap .i64 ((((List.length o2_0) : Nat) : Int) - (1 : Int)))) (0 : Int))))))) (
     pif ((((List.length (scP o2_0 (invI (List.getD o2_0 (Int.toNat (IntKind.wrap .i64 ((((List.length o2_0) : Nat) : Int) - (1 : Int)))) (0 : Int))))) = (List.length (scP o2_0 (invI (List.getD o2_0 (Int.toNat (IntKind.wrap .i64 ((((List.length o2_0) : Nat) : Int) - (1 : Int)))) (0 : Int)))))) ∧ ((List.length (scP o2_0 (invI (List.getD o2_0 (Int.toNat (IntKind.wrap .i64 ((((List.length o2_0) : Nat) : Int) - (1 : Int)))) (0 : Int))))) ≤ 1048576))) (
     some (.tup [.own 0, .own 1, .own 2], [(0, ⟨[.ints .u16 (scP o2_0 (invI (List.getD o2_0 (Int.toNat (IntKind.wrap .i64 ((((List.length o2_0) : Nat) : Int) - (1 : Int)))) (0 : Int))))], true⟩), (1, ⟨[.ints .u16 (scP o1_0 (invI (List.getD o2_0 (Int.toNat (IntKind.wrap .i64 ((((List.length o2_0) : Nat) : Int) - (1 : Int)))) (0 : Int))))], true⟩), (2, ⟨[.ints .u16 (scP o0_0 (invI (List.getD o2_0 (Int.toNat (IntKind.wrap .i64 ((((List.length o2_0) : Nat) : Int) - (1 : Int)))) (0 : Int))))], true⟩)]))))))
    else none
   else
    pif ((((List.length o2_0) = (List.length o2_0)) ∧ ((List.length o2_0) ≤ 1048576))) (
    some (.tup [.own 0, .own 1, .own 2], [(0, ⟨[.ints .u16 o2_0], true⟩), (1, ⟨[.ints .u16 o1_0], true⟩), (2, ⟨[.ints .u16 o0_0], true⟩)])) := by kernel_rfl
noncomputable def R (n : Nat) (p : List Int) (j : Nat) (q : List Int) (i : Nat) : Res := run (E n) n Try.f73 L (us p j q i) (HA p j q i) k0
theorem R_eq (n : Nat) (p : List Int) (j : Nat) (q : List Int) (i : Nat) : R n p j q i =
  N0 n n p j q i [] (1 : Int) (1 : Int) [] := by kernel_rfl
theorem ans {n : Nat} {p : List Int} {j : Nat} {q : List Int} {i : Nat} (hA : Sounds Try.prog (A n)) {u : U} {H : Heap} (h : R n p j q i = some (u, H)) : Answers Try.prog 73 (us p j q i) (HA p j q i) u H := answers_env tabOk mixed hA Try.func73 (by kernel_rfl) (by kernel_rfl) h
end I_bez

namespace I_slope
abbrev num : Nat := 74
noncomputable def A (n : Nat) : List (Nat × Con) := ((fun (n : Nat) => ([(82, CTrimP)] : List (Nat × Con)))) n
noncomputable abbrev E (n : Nat) : Env (U × Heap) := envC tab ios (A n)
def L : List (List Nat) := [[3, 4, 0]]
abbrev us (p : List Int) (j : Nat) : List U := (((fun (p : List Int) (j : Nat) => (([.rsl [.ints .u16 p] j] : List U), ([] : Heap)))) p j).1
abbrev HA (p : List Int) (j : Nat) : Heap := (((fun (p : List Int) (j : Nat) => (([.rsl [.ints .u16 p] j] : List U), ([] : Heap)))) p j).2
def S0 (t4 : Int) (t0_0 : List Int) (t0n : Nat) (o0_0 : List Int) : St := ⟨[(3, .own 0), (4, .int .i64 t4), (0, .rsl [.ints .u16 t0_0] t0n)], 26, [(0, ⟨[.ints .u16 o0_0], true⟩)], [0], 0⟩
noncomputable def N0 (n : Nat)  (m0 : Nat) (t4 : Int) (t0_0 : List Int) (t0n : Nat) (o0_0 : List Int) : Res := nodeRun (E n) n Try.f74 L k0 [true, true, false, true, false] [] m0 (S0 t4 t0_0 t0n o0_0)
theorem N0_succ (n : Nat)  (m0 : Nat) (t4 : Int) (t0_0 : List Int) (t0n : Nat) (o0_0 : List Int) : N0 n  (m0 + 1) t4 t0_0 t0n o0_0 =
  bif decide (t4 < (((List.length o0_0) : Nat) : Int)) then
   bif decide (((0 : Int) ≤ (IntKind.wrap .i64 (t4 + (1 : Int)))) ∧ ((IntKind.wrap .i64 (t4 + (1 : Int))) < ((t0n : Nat) : Int))) then
   bif decide (((0 : Int) ≤ t4) ∧ (t4 < (((List.length o0_0) : Nat) : Int))) then
    N0 n m0 (IntKind.wrap .i64 (t4 + (2 : Int))) t0_0 t0n (List.set o0_0 (Int.toNat t4) (List.getD t0_0 (Int.toNat (IntKind.wrap .i64 (t4 + (1 : Int)))) (0 : Int)))
    else none
   else none
  else
   pif ((genP o0_0 (List.length o0_0))) (
   some (.own 0, [(0, ⟨[.ints .u16 (trP o0_0)], true⟩)])) := by kernel_rfl
noncomputable def R (n : Nat) (p : List Int) (j : Nat) : Res := run (E n) n Try.f74 L (us p j) (HA p j) k0
theorem R_eq (n : Nat) (p : List Int) (j : Nat) : R n p j =
  bif decide (((0 : Int) ≤ (cond true (if ((0 : Int) > (IntKind.wrap .i64 (((j : Nat) : Int) - (1 : Int)))) then (0 : Int) else (IntKind.wrap .i64 (((j : Nat) : Int) - (1 : Int)))) (if ((0 : Int) < (IntKind.wrap .i64 (((j : Nat) : Int) - (1 : Int)))) then (0 : Int) else (IntKind.wrap .i64 (((j : Nat) : Int) - (1 : Int)))))) ∧ (((cond true (if ((0 : Int) > (IntKind.wrap .i64 (((j : Nat) : Int) - (1 : Int)))) then (0 : Int) else (IntKind.wrap .i64 (((j : Nat) : Int) - (1 : Int)))) (if ((0 : Int) < (IntKind.wrap .i64 (((j : Nat) : Int) - (1 : Int)))) then (0 : Int) else (IntKind.wrap .i64 (((j : Nat) : Int) - (1 : Int))))) * (1 : Int)) ≤ (4398046511104 : Int))) then
  N0 n n (0 : Int) p j (List.replicate (Int.toNat (cond true (if ((0 : Int) > (IntKind.wrap .i64 (((j : Nat) : Int) - (1 : Int)))) then (0 : Int) else (IntKind.wrap .i64 (((j : Nat) : Int) - (1 : Int)))) (if ((0 : Int) < (IntKind.wrap .i64 (((j : Nat) : Int) - (1 : Int)))) then (0 : Int) else (IntKind.wrap .i64 (((j : Nat) : Int) - (1 : Int)))))) (0 : Int))
  else none := by kernel_rfl
theorem ans {n : Nat} {p : List Int} {j : Nat} (hA : Sounds Try.prog (A n)) {u : U} {H : Heap} (h : R n p j = some (u, H)) : Answers Try.prog 74 (us p j) (HA p j) u H := answers_env tabOk mixed hA Try.func74 (by kernel_rfl) (by kernel_rfl) h
end I_slope

namespace I_SlopeOf
abbrev num : Nat := 33
noncomputable def A (n : Nat) : List (Nat × Con) := ((fun (n : Nat) => ([(64, CValidP), (74, CSlope)] : List (Nat × Con)))) n
noncomputable abbrev E (n : Nat) : Env (U × Heap) := envC tab ios (A n)
def L : List (List Nat) := []
abbrev us (p : List Int) (j : Nat) : List U := (((fun (p : List Int) (j : Nat) => (([.rsl [.ints .u16 p] j] : List U), ([] : Heap)))) p j).1
abbrev HA (p : List Int) (j : Nat) : Heap := (((fun (p : List Int) (j : Nat) => (([.rsl [.ints .u16 p] j] : List U), ([] : Heap)))) p j).2
noncomputable def R (n : Nat) (p : List Int) (j : Nat) : Res := run (E n) n Try.f33 L (us p j) (HA p j) k0
theorem R_eq (n : Nat) (p : List Int) (j : Nat) : R n p j =
  pif ((okP p j)) (
  pif ((okP p j)) (
  some (.tup [.own 0, .int .i64 (0 : Int)], [(0, ⟨[.ints .u16 (slP p)], true⟩)]))) := by kernel_rfl
theorem ans {n : Nat} {p : List Int} {j : Nat} (hA : Sounds Try.prog (A n)) {u : U} {H : Heap} (h : R n p j = some (u, H)) : Answers Try.prog 33 (us p j) (HA p j) u H := answers_env tabOk mixed hA Try.func33 (by kernel_rfl) (by kernel_rfl) h
end I_SlopeOf

namespace I_fromR
abbrev num : Nat := 65
noncomputable def A (n : Nat) : List (Nat × Con) := ((fun (n : Nat) => ([(59, CTimesG)] : List (Nat × Con)))) n
noncomputable abbrev E (n : Nat) : Env (U × Heap) := envC tab ios (A n)
def L : List (List Nat) := [[3, 9, 7, 8]]
abbrev us (p : List Int) (j : Nat) : List U := (((fun (p : List Int) (j : Nat) => (([.rsl [.ints .u16 p] j] : List U), ([] : Heap)))) p j).1
abbrev HA (p : List Int) (j : Nat) : Heap := (((fun (p : List Int) (j : Nat) => (([.rsl [.ints .u16 p] j] : List U), ([] : Heap)))) p j).2
def S0 (t9 : Int) (t7_0 : List Int) (t7n : Nat) (t8 : Int) (o0_0 : List Int) : St := ⟨[(3, .own 0), (9, .int .i64 t9), (7, .rsl [.ints .u16 t7_0] t7n), (8, .int .i64 t8)], 19, [(0, ⟨[.ints .u16 o0_0], true⟩)], [0], 0⟩
noncomputable def N0 (n : Nat)  (m0 : Nat) (t9 : Int) (t7_0 : List Int) (t7n : Nat) (t8 : Int) (o0_0 : List Int) : Res := nodeRun (E n) n Try.f65 L k0 [true, true, false, true, false] [] m0 (S0 t9 t7_0 t7n t8 o0_0)
theorem N0_succ (n : Nat)  (m0 : Nat) (t9 : Int) (t7_0 : List Int) (t7n : Nat) (t8 : Int) (o0_0 : List Int) : N0 n  (m0 + 1) t9 t7_0 t7n t8 o0_0 =
  bif decide (t9 < t8) then
   bif decide (((0 : Int) ≤ t9) ∧ (t9 < ((t7n : Nat) : Int))) then
   pif (((genP o0_0 (List.length o0_0)) ∧ ((genP (List.set (List.set (List.replicate 2 (0 : Int)) 0 (List.getD t7_0 (Int.toNat t9) (0 : Int))) 1 (1 : Int)) 2) ∧ (((List.length o0_0) + 2) ≤ 1048576)))) (
    N0 n m0 (IntKind.wrap .i64 (t9 + (1 : Int))) t7_0 t7n t8 (tiP o0_0 (List.set (List.set (List.replicate 2 (0 : Int)) 0 (List.getD t7_0 (Int.toNat t9) (0 : Int))) 1 (1 : Int))))
   else none
  else
   some (.own 0, [(0, ⟨[.ints .u16 o0_0], true⟩)]) := by kernel_rfl
noncomputable def R (n : Nat) (p : List Int) (j : Nat) : Res := run (E n) n Try.f65 L (us p j) (HA p j) k0
theorem R_eq (n : Nat) (p : List Int) (j : Nat) : R n p j =
  N0 n n (0 : Int) p j ((j : Nat) : Int) [(1 : Int)] := by kernel_rfl
theorem ans {n : Nat} {p : List Int} {j : Nat} (hA : Sounds Try.prog (A n)) {u : U} {H : Heap} (h : R n p j = some (u, H)) : Answers Try.prog 65 (us p j) (HA p j) u H := answers_env tabOk mixed hA Try.func65 (by kernel_rfl) (by kernel_rfl) h
end I_fromR

namespace S_fromR
abbrev num : Nat := 66
noncomputable def A (n : Nat) : List (Nat × Con) := ((fun (n : Nat) => ([(46, CTimesP)] : List (Nat × Con)))) n
noncomputable abbrev E (n : Nat) : Env (U × Heap) := envC tab ios (A n)
def L : List (List Nat) := [[3, 4, 0]]
abbrev us (p : List Int) (j : Nat) : List U := (((fun (p : List Int) (j : Nat) => (([.rsl [.ints .u16 p] j] : List U), ([] : Heap)))) p j).1
abbrev HA (p : List Int) (j : Nat) : Heap := (((fun (p : List Int) (j : Nat) => (([.rsl [.ints .u16 p] j] : List U), ([] : Heap)))) p j).2
def S0 (t4 : Int) (t0_0 : List Int) (t0n : Nat) (o0_0 : List Int) : St := ⟨[(3, .own 0), (4, .int .i64 t4), (0, .rsl [.ints .u16 t0_0] t0n)], 20, [(0, ⟨[.ints .u16 o0_0], true⟩)], [0], 0⟩
noncomputable def N0 (n : Nat)  (m0 : Nat) (t4 : Int) (t0_0 : List Int) (t0n : Nat) (o0_0 : List Int) : Res := nodeRun (E n) n Try.f66 L k0 [true, true, false, true, false] [] m0 (S0 t4 t0_0 t0n o0_0)
theorem N0_succ (n : Nat)  (m0 : Nat) (t4 : Int) (t0_0 : List Int) (t0n : Nat) (o0_0 : List Int) : N0 n  (m0 + 1) t4 t0_0 t0n o0_0 =
  bif decide (t4 < ((t0n : Nat) : Int)) then
   bif decide (((0 : Int) ≤ t4) ∧ (t4 < ((t0n : Nat) : Int))) then
   pif (((canP o0_0 (List.length o0_0)) ∧ ((canP (List.set (List.set (List.replicate 2 (0 : Int)) 0 (List.getD t0_0 (Int.toNat t4) (0 : Int))) 1 (1 : Int)) 2) ∧ (((List.length o0_0) + 2) ≤ 1048576)))) (
    N0 n m0 (IntKind.wrap .i64 (t4 + (1 : Int))) t0_0 t0n (tiP o0_0 (List.set (List.set (List.replicate 2 (0 : Int)) 0 (List.getD t0_0 (Int.toNat t4) (0 : Int))) 1 (1 : Int))))
   else none
  else
   some (.own 0, [(0, ⟨[.ints .u16 o0_0], true⟩)]) := by kernel_rfl
noncomputable def R (n : Nat) (p : List Int) (j : Nat) : Res := run (E n) n Try.f66 L (us p j) (HA p j) k0
theorem R_eq (n : Nat) (p : List Int) (j : Nat) : R n p j =
  N0 n n (0 : Int) p j [(1 : Int)] := by kernel_rfl
theorem ans {n : Nat} {p : List Int} {j : Nat} (hA : Sounds Try.prog (A n)) {u : U} {H : Heap} (h : R n p j = some (u, H)) : Answers Try.prog 66 (us p j) (HA p j) u H := answers_env tabOk mixed hA Try.func66 (by kernel_rfl) (by kernel_rfl) h
end S_fromR

namespace I_FromR
abbrev num : Nat := 19
noncomputable def A (n : Nat) : List (Nat × Con) := ((fun (n : Nat) => ([(65, CFromR)] : List (Nat × Con)))) n
noncomputable abbrev E (n : Nat) : Env (U × Heap) := envC tab ios (A n)
def L : List (List Nat) := []
abbrev us (p : List Int) (j : Nat) : List U := (((fun (p : List Int) (j : Nat) => (([.rsl [.ints .u16 p] j] : List U), ([] : Heap)))) p j).1
abbrev HA (p : List Int) (j : Nat) : Heap := (((fun (p : List Int) (j : Nat) => (([.rsl [.ints .u16 p] j] : List U), ([] : Heap)))) p j).2
noncomputable def R (n : Nat) (p : List Int) (j : Nat) : Res := run (E n) n Try.f19 L (us p j) (HA p j) k0
theorem R_eq (n : Nat) (p : List Int) (j : Nat) : R n p j =
  bif decide (((j : Nat) : Int) > (20 : Int)) then
   some (.tup [.nils, .int .i64 (3 : Int)], [])
  else
   pif ((ul20 p j)) (
   some (.tup [.own 0, .int .i64 (0 : Int)], [(0, ⟨[.ints .u16 (frI p)], true⟩)])) := by kernel_rfl
theorem ans {n : Nat} {p : List Int} {j : Nat} (hA : Sounds Try.prog (A n)) {u : U} {H : Heap} (h : R n p j = some (u, H)) : Answers Try.prog 19 (us p j) (HA p j) u H := answers_env tabOk mixed hA Try.func19 (by kernel_rfl) (by kernel_rfl) h
end I_FromR

namespace S_FromR
abbrev num : Nat := 20
noncomputable def A (n : Nat) : List (Nat × Con) := ((fun (n : Nat) => ([(66, CFromR)] : List (Nat × Con)))) n
noncomputable abbrev E (n : Nat) : Env (U × Heap) := envC tab ios (A n)
def L : List (List Nat) := []
abbrev us (p : List Int) (j : Nat) : List U := (((fun (p : List Int) (j : Nat) => (([.rsl [.ints .u16 p] j] : List U), ([] : Heap)))) p j).1
abbrev HA (p : List Int) (j : Nat) : Heap := (((fun (p : List Int) (j : Nat) => (([.rsl [.ints .u16 p] j] : List U), ([] : Heap)))) p j).2
noncomputable def R (n : Nat) (p : List Int) (j : Nat) : Res := run (E n) n Try.f20 L (us p j) (HA p j) k0
theorem R_eq (n : Nat) (p : List Int) (j : Nat) : R n p j =
  bif decide (((j : Nat) : Int) > (20 : Int)) then
   some (.tup [.own 0, .int .i64 (3 : Int)], [(0, ⟨[.ints .u16 []], true⟩)])
  else
   pif ((ul20 p j)) (
   some (.tup [.own 0, .int .i64 (0 : Int)], [(0, ⟨[.ints .u16 (frI p)], true⟩)])) := by kernel_rfl
theorem ans {n : Nat} {p : List Int} {j : Nat} (hA : Sounds Try.prog (A n)) {u : U} {H : Heap} (h : R n p j = some (u, H)) : Answers Try.prog 20 (us p j) (HA p j) u H := answers_env tabOk mixed hA Try.func20 (by kernel_rfl) (by kernel_rfl) h
end S_FromR

namespace S_atP
abbrev num : Nat := 72
noncomputable def A (n : Nat) : List (Nat × Con) := ((fun (n : Nat) => ([(47, CMul)] : List (Nat × Con)))) n
noncomputable abbrev E (n : Nat) : Env (U × Heap) := envC tab ios (A n)
def L : List (List Nat) := [[5, 6, 0, 1]]
abbrev us (p : List Int) (j : Nat) (x : Int) : List U := (((fun (p : List Int) (j : Nat) (x : Int) => (([.rsl [.ints .u16 p] j, .int .u16 x] : List U), ([] : Heap)))) p j x).1
abbrev HA (p : List Int) (j : Nat) (x : Int) : Heap := (((fun (p : List Int) (j : Nat) (x : Int) => (([.rsl [.ints .u16 p] j, .int .u16 x] : List U), ([] : Heap)))) p j x).2
def S0 (t5 : Int) (t6 : Int) (t0_0 : List Int) (t0n : Nat) (t1 : Int) : St := ⟨[(5, .int .u16 t5), (6, .int .i64 t6), (0, .rsl [.ints .u16 t0_0] t0n), (1, .int .u16 t1)], 23, [], [], 0⟩
noncomputable def N0 (n : Nat)  (m0 : Nat) (t5 : Int) (t6 : Int) (t0_0 : List Int) (t0n : Nat) (t1 : Int) : Res := nodeRun (E n) n Try.f72 L k0 [true, true, false, true, false] [] m0 (S0 t5 t6 t0_0 t0n t1)
theorem N0_succ (n : Nat)  (m0 : Nat) (t5 : Int) (t6 : Int) (t0_0 : List Int) (t0n : Nat) (t1 : Int) : N0 n  (m0 + 1) t5 t6 t0_0 t0n t1 =
  bif decide (t6 ≥ (0 : Int)) then
   bif decide (((0 : Int) ≤ t6) ∧ (t6 < ((t0n : Nat) : Int))) then
   pif (((u16 t5) ∧ (u16 t1))) (
    N0 n m0 (intBitsV .xor .u16 (mulI t5 t1) (List.getD t0_0 (Int.toNat t6) (0 : Int))) (IntKind.wrap .i64 (t6 - (1 : Int))) t0_0 t0n t1)
   else none
  else
   some (.int .u16 t5, []) := by kernel_rfl
noncomputable def R (n : Nat) (p : List Int) (j : Nat) (x : Int) : Res := run (E n) n Try.f72 L (us p j x) (HA p j x) k0
theorem R_eq (n : Nat) (p : List Int) (j : Nat) (x : Int) : R n p j x =
  N0 n n (0 : Int) (IntKind.wrap .i64 (((j : Nat) : Int) - (1 : Int))) p j x := by kernel_rfl
theorem ans {n : Nat} {p : List Int} {j : Nat} {x : Int} (hA : Sounds Try.prog (A n)) {u : U} {H : Heap} (h : R n p j x = some (u, H)) : Answers Try.prog 72 (us p j x) (HA p j x) u H := answers_env tabOk mixed hA Try.func72 (by kernel_rfl) (by kernel_rfl) h
end S_atP

namespace I_PolyAt
abbrev num : Nat := 18
noncomputable def A (n : Nat) : List (Nat × Con) := ((fun (n : Nat) => ([(64, CValidP), (55, CAtP)] : List (Nat × Con)))) n
noncomputable abbrev E (n : Nat) : Env (U × Heap) := envC tab ios (A n)
def L : List (List Nat) := []
abbrev us (p : List Int) (j : Nat) (x : Int) : List U := (((fun (p : List Int) (j : Nat) (x : Int) => (([.rsl [.ints .u16 p] j, .int .u16 x] : List U), ([] : Heap)))) p j x).1
abbrev HA (p : List Int) (j : Nat) (x : Int) : Heap := (((fun (p : List Int) (j : Nat) (x : Int) => (([.rsl [.ints .u16 p] j, .int .u16 x] : List U), ([] : Heap)))) p j x).2
noncomputable def R (n : Nat) (p : List Int) (j : Nat) (x : Int) : Res := run (E n) n Try.f18 L (us p j x) (HA p j x) k0
theorem R_eq (n : Nat) (p : List Int) (j : Nat) (x : Int) : R n p j x =
  pif ((okP p j)) (
  pif (((genP p j) ∧ (u16 x))) (
  some (.tup [.int .u16 (atP p x), .int .i64 (0 : Int)], []))) := by kernel_rfl
theorem ans {n : Nat} {p : List Int} {j : Nat} {x : Int} (hA : Sounds Try.prog (A n)) {u : U} {H : Heap} (h : R n p j x = some (u, H)) : Answers Try.prog 18 (us p j x) (HA p j x) u H := answers_env tabOk mixed hA Try.func18 (by kernel_rfl) (by kernel_rfl) h
end I_PolyAt

namespace I_TimesR
abbrev num : Nat := 21
noncomputable def A (n : Nat) : List (Nat × Con) := ((fun (n : Nat) => ([(67, CNotZ), (68, CDivP)] : List (Nat × Con)))) n
noncomputable abbrev E (n : Nat) : Env (U × Heap) := envC tab ios (A n)
def L : List (List Nat) := [[7, 1, 0]]
abbrev us (p : List Int) (j : Nat) (x : Int) : List U := (((fun (p : List Int) (j : Nat) (x : Int) => (([.rsl [.ints .u16 p] j, .int .u16 x] : List U), ([] : Heap)))) p j x).1
abbrev HA (p : List Int) (j : Nat) (x : Int) : Heap := (((fun (p : List Int) (j : Nat) (x : Int) => (([.rsl [.ints .u16 p] j, .int .u16 x] : List U), ([] : Heap)))) p j x).2
def S0 (t7 : Int) (t1 : Int) (t0_0 : List Int) (t0n : Nat) : St := ⟨[(7, .int .i64 t7), (1, .int .u16 t1), (0, .rsl [.ints .u16 t0_0] t0n)], 29, [], [], 0⟩
noncomputable def N0 (n : Nat)  (m0 : Nat) (t7 : Int) (t1 : Int) (t0_0 : List Int) (t0n : Nat) : Res := nodeRun (E n) n Try.f21 L k0 [true, true, true, false] [] m0 (S0 t7 t1 t0_0 t0n)
def S1 (t7 : Int) (t1 : Int) (o0_0 : List Int) : St := ⟨[(7, .int .i64 t7), (1, .int .u16 t1), (0, .own 0)], 29, [(0, ⟨[.ints .u16 o0_0], true⟩)], [0], 0⟩
noncomputable def N1 (n : Nat)  (m0 : Nat) (t7 : Int) (t1 : Int) (o0_0 : List Int) : Res := nodeRun (E n) n Try.f21 L k0 [true, true, true, false] [] m0 (S1 t7 t1 o0_0)
theorem N0_succ (n : Nat)  (m0 : Nat) (t7 : Int) (t1 : Int) (t0_0 : List Int) (t0n : Nat) : N0 n  (m0 + 1) t7 t1 t0_0 t0n =
  pif (((canP t0_0 t0n) ∧ ((canP (List.set (List.set (List.replicate 2 (0 : Int)) 0 t1) 1 (1 : Int)) 2) ∧ ((0 < 2) ∧ ((t0n ≤ 1000) ∧ (2 ≤ 1000)))))) (
  bif decide ((((List.length (drP t0_0 (List.set (List.set (List.replicate 2 (0 : Int)) 0 t1) 1 (1 : Int)))) : Nat) : Int) > (0 : Int)) then
   some (.tup [.int .i64 t7, .int .i64 (0 : Int)], [])
  else
   N1 n m0 (IntKind.wrap .i64 (t7 + (1 : Int))) t1 (dqP t0_0 (List.set (List.set (List.replicate 2 (0 : Int)) 0 t1) 1 (1 : Int)))) := by kernel_rfl
theorem N1_succ (n : Nat)  (m0 : Nat) (t7 : Int) (t1 : Int) (o0_0 : List Int) : N1 n  (m0 + 1) t7 t1 o0_0 =
  pif (((canP o0_0 (List.length o0_0)) ∧ ((canP (List.set (List.set (List.replicate 2 (0 : Int)) 0 t1) 1 (1 : Int)) 2) ∧ ((0 < 2) ∧ (((List.length o0_0) ≤ 1000) ∧ (2 ≤ 1000)))))) (
  bif decide ((((List.length (drP o0_0 (List.set (List.set (List.replicate 2 (0 : Int)) 0 t1) 1 (1 : Int)))) : Nat) : Int) > (0 : Int)) then
   some (.tup [.int .i64 t7, .int .i64 (0 : Int)], [])
  else
   N1 n m0 (IntKind.wrap .i64 (t7 + (1 : Int))) t1 (dqP o0_0 (List.set (List.set (List.replicate 2 (0 : Int)) 0 t1) 1 (1 : Int)))) := by kernel_rfl
noncomputable def R (n : Nat) (p : List Int) (j : Nat) (x : Int) : Res := run (E n) n Try.f21 L (us p j x) (HA p j x) k0
theorem R_eq (n : Nat) (p : List Int) (j : Nat) (x : Int) : R n p j x =
  pif ((nzP p j)) (
  N0 n n (0 : Int) x p j) := by kernel_rfl
theorem ans {n : Nat} {p : List Int} {j : Nat} {x : Int} (hA : Sounds Try.prog (A n)) {u : U} {H : Heap} (h : R n p j x = some (u, H)) : Answers Try.prog 21 (us p j x) (HA p j x) u H := answers_env tabOk mixed hA Try.func21 (by kernel_rfl) (by kernel_rfl) h
end I_TimesR

namespace I_RootsIn
abbrev num : Nat := 22
noncomputable def A (n : Nat) : List (Nat × Con) := ((fun (n : Nat) => ([(64, CValidP), (69, CIn), (55, CAtP)] : List (Nat × Con)))) n
noncomputable abbrev E (n : Nat) : Env (U × Heap) := envC tab ios (A n)
def L : List (List Nat) := [[6, 24, 0, 23]]
abbrev us (p : List Int) (j : Nat) : List U := (((fun (p : List Int) (j : Nat) => (([.rsl [.ints .u16 p] j, .int .i64 2] : List U), ([] : Heap)))) p j).1
abbrev HA (p : List Int) (j : Nat) : Heap := (((fun (p : List Int) (j : Nat) => (([.rsl [.ints .u16 p] j, .int .i64 2] : List U), ([] : Heap)))) p j).2
def S0 (t24 : Int) (t0_0 : List Int) (t0n : Nat) (t23 : Int) (o0_0 : List Int) : St := ⟨[(6, .own 0), (24, .int .u16 t24), (0, .rsl [.ints .u16 t0_0] t0n), (23, .int .u16 t23)], 37, [(0, ⟨[.ints .u16 o0_0], true⟩)], [0], 0⟩
noncomputable def N0 (n : Nat)  (m0 : Nat) (t24 : Int) (t0_0 : List Int) (t0n : Nat) (t23 : Int) (o0_0 : List Int) : Res := nodeRun (E n) n Try.f22 L k0 [true, true, true, false, true, false] [] m0 (S0 t24 t0_0 t0n t23 o0_0)
theorem N0_succ (n : Nat)  (m0 : Nat) (t24 : Int) (t0_0 : List Int) (t0n : Nat) (t23 : Int) (o0_0 : List Int) : N0 n  (m0 + 1) t24 t0_0 t0n t23 o0_0 =
  bif decide (t24 < t23) then
   pif (((genP t0_0 t0n) ∧ (u16 t24))) (
   bif ((atP t0_0 t24) == (0 : Int)) then
    bif decide ((((List.length o0_0) + 1) * 1) ≤ 4398046511104) then
    N0 n m0 (IntKind.wrap .u16 (t24 + (1 : Int))) t0_0 t0n t23 (o0_0 ++ [t24])
    else none
   else
    N0 n m0 (IntKind.wrap .u16 (t24 + (1 : Int))) t0_0 t0n t23 o0_0)
  else
   some (.tup [.own 0, .int .i64 (0 : Int)], [(0, ⟨[.ints .u16 o0_0], true⟩)]) := by kernel_rfl
noncomputable def R (n : Nat) (p : List Int) (j : Nat) : Res := run (E n) n Try.f22 L (us p j) (HA p j) k0
theorem R_eq (n : Nat) (p : List Int) (j : Nat) : R n p j =
  pif ((okP p j)) (
  pif (True) (
  bif (((j : Nat) : Int) == (0 : Int)) then
   some (.tup [.nils, .int .i64 (4 : Int)], [])
  else
   N0 n n (0 : Int) p j (16 : Int) [])) := by kernel_rfl
theorem ans {n : Nat} {p : List Int} {j : Nat} (hA : Sounds Try.prog (A n)) {u : U} {H : Heap} (h : R n p j = some (u, H)) : Answers Try.prog 22 (us p j) (HA p j) u H := answers_env tabOk mixed hA Try.func22 (by kernel_rfl) (by kernel_rfl) h
end I_RootsIn

namespace S_RootsIn
abbrev num : Nat := 23
noncomputable def A (n : Nat) : List (Nat × Con) := ((fun (n : Nat) => ([(70, CValidP), (71, CIn), (72, CAtP)] : List (Nat × Con)))) n
noncomputable abbrev E (n : Nat) : Env (U × Heap) := envC tab ios (A n)
def L : List (List Nat) := [[6, 8, 0, 7]]
abbrev us (p : List Int) (j : Nat) : List U := (((fun (p : List Int) (j : Nat) => (([.rsl [.ints .u16 p] j, .int .i64 2] : List U), ([] : Heap)))) p j).1
abbrev HA (p : List Int) (j : Nat) : Heap := (((fun (p : List Int) (j : Nat) => (([.rsl [.ints .u16 p] j, .int .i64 2] : List U), ([] : Heap)))) p j).2
def S0 (t8 : Int) (t0_0 : List Int) (t0n : Nat) (t7 : Int) (o0_0 : List Int) : St := ⟨[(6, .own 0), (8, .int .i64 t8), (0, .rsl [.ints .u16 t0_0] t0n), (7, .int .i64 t7)], 42, [(0, ⟨[.ints .u16 o0_0], true⟩)], [0], 0⟩
noncomputable def N0 (n : Nat)  (m0 : Nat) (t8 : Int) (t0_0 : List Int) (t0n : Nat) (t7 : Int) (o0_0 : List Int) : Res := nodeRun (E n) n Try.f23 L k0 [true, true, true, true, true, true, false, true, false] [] m0 (S0 t8 t0_0 t0n t7 o0_0)
theorem N0_succ (n : Nat)  (m0 : Nat) (t8 : Int) (t0_0 : List Int) (t0n : Nat) (t7 : Int) (o0_0 : List Int) : N0 n  (m0 + 1) t8 t0_0 t0n t7 o0_0 =
  bif decide (t8 < t7) then
   pif (((genP t0_0 t0n) ∧ (u16 (IntKind.wrap .u16 t8)))) (
   bif ((atP t0_0 (IntKind.wrap .u16 t8)) == (0 : Int)) then
    bif decide ((((List.length o0_0) + 1) * 1) ≤ 4398046511104) then
    N0 n m0 (IntKind.wrap .i64 (t8 + (1 : Int))) t0_0 t0n t7 (o0_0 ++ [(IntKind.wrap .u16 t8)])
    else none
   else
    N0 n m0 (IntKind.wrap .i64 (t8 + (1 : Int))) t0_0 t0n t7 o0_0)
  else
   some (.tup [.own 0, .int .i64 (0 : Int)], [(0, ⟨[.ints .u16 o0_0], true⟩)]) := by kernel_rfl
noncomputable def R (n : Nat) (p : List Int) (j : Nat) : Res := run (E n) n Try.f23 L (us p j) (HA p j) k0
theorem R_eq (n : Nat) (p : List Int) (j : Nat) : R n p j =
  pif ((okP p j)) (
  pif (True) (
  bif (((j : Nat) : Int) == (0 : Int)) then
   some (.tup [.own 0, .int .i64 (4 : Int)], [(0, ⟨[.ints .u16 []], true⟩)])
  else
   N0 n n (0 : Int) p j (16 : Int) [])) := by kernel_rfl
theorem ans {n : Nat} {p : List Int} {j : Nat} (hA : Sounds Try.prog (A n)) {u : U} {H : Heap} (h : R n p j = some (u, H)) : Answers Try.prog 23 (us p j) (HA p j) u H := answers_env tabOk mixed hA Try.func23 (by kernel_rfl) (by kernel_rfl) h
end S_RootsIn

namespace I_Simple
abbrev num : Nat := 26
noncomputable def A (n : Nat) : List (Nat × Con) := ((fun (n : Nat) => ([(67, CNotZ), (74, CSlope), (73, CBez)] : List (Nat × Con)))) n
noncomputable abbrev E (n : Nat) : Env (U × Heap) := envC tab ios (A n)
def L : List (List Nat) := []
abbrev us (p : List Int) (j : Nat) : List U := (((fun (p : List Int) (j : Nat) => (([.rsl [.ints .u16 p] j] : List U), ([] : Heap)))) p j).1
abbrev HA (p : List Int) (j : Nat) : Heap := (((fun (p : List Int) (j : Nat) => (([.rsl [.ints .u16 p] j] : List U), ([] : Heap)))) p j).2
noncomputable def R (n : Nat) (p : List Int) (j : Nat) : Res := run (E n) n Try.f26 L (us p j) (HA p j) k0
theorem R_eq (n : Nat) (p : List Int) (j : Nat) : R n p j =
  pif ((nzP p j)) (
  pif ((okP p j)) (
  pif (((okP p j) ∧ (okP (slP p) (List.length (slP p))))) (
  some (.tup [.bool ((((List.length (gcP p (slP p))) : Nat) : Int) == (1 : Int)), .int .i64 (0 : Int)], [])))) := by kernel_rfl
theorem ans {n : Nat} {p : List Int} {j : Nat} (hA : Sounds Try.prog (A n)) {u : U} {H : Heap} (h : R n p j = some (u, H)) : Answers Try.prog 26 (us p j) (HA p j) u H := answers_env tabOk mixed hA Try.func26 (by kernel_rfl) (by kernel_rfl) h
end I_Simple

namespace I_cj
abbrev num : Nat := 76
noncomputable def A (n : Nat) (fm : Int → Int → Int) : List (Nat × Con) := ((fun (n : Nat) (fm : Int → Int → Int) => ([(54, CMulF fm)] : List (Nat × Con)))) n fm
noncomputable abbrev E (n : Nat) (fm : Int → Int → Int) : Env (U × Heap) := envC tab ios (A n fm)
def L : List (List Nat) := [[3, 4, 0]]
abbrev us (a : Int) : List U := (((fun (a : Int) => (([.int .u16 a] : List U), ([] : Heap)))) a).1
abbrev HA (a : Int) : Heap := (((fun (a : Int) => (([.int .u16 a] : List U), ([] : Heap)))) a).2
def S0 (t4 : Int) (t0 : Int) (o0_0 : List Int) : St := ⟨[(3, .own 0), (4, .int .u16 t4), (0, .int .u16 t0)], 21, [(0, ⟨[.ints .u16 o0_0], true⟩)], [0], 0⟩
noncomputable def N0 (n : Nat) (fm : Int → Int → Int)  (m0 : Nat) (t4 : Int) (t0 : Int) (o0_0 : List Int) : Res := nodeRun (E n fm) n Try.f76 L k0 [true, true, false, true, false] [] m0 (S0 t4 t0 o0_0)
theorem N0_succ (n : Nat) (fm : Int → Int → Int)  (m0 : Nat) (t4 : Int) (t0 : Int) (o0_0 : List Int) : N0 n fm  (m0 + 1) t4 t0 o0_0 =
  bif (t4 != t0) then
   bif decide ((((List.length o0_0) + 1) * 1) ≤ 4398046511104) then
   pif (((u16 t4) ∧ (u16 t4))) (
    N0 n fm m0 (fm t4 t4) t0 (o0_0 ++ [t4]))
   else none
  else
   some (.own 0, [(0, ⟨[.ints .u16 o0_0], true⟩)]) := by kernel_rfl
noncomputable def R (n : Nat) (fm : Int → Int → Int) (a : Int) : Res := run (E n fm) n Try.f76 L (us a) (HA a) k0
theorem R_eq (n : Nat) (fm : Int → Int → Int) (a : Int) : R n fm a =
  pif (((u16 a) ∧ (u16 a))) (
  N0 n fm n (fm a a) a [a]) := by kernel_rfl
theorem ans {n : Nat} {fm : Int → Int → Int} {a : Int} (hA : Sounds Try.prog (A n fm)) {u : U} {H : Heap} (h : R n fm a = some (u, H)) : Answers Try.prog 76 (us a) (HA a) u H := answers_env tabOk mixed hA Try.func76 (by kernel_rfl) (by kernel_rfl) h
end I_cj

namespace S_Cj
abbrev num : Nat := 77
noncomputable def A (n : Nat) (fm : Int → Int → Int) : List (Nat × Con) := ((fun (n : Nat) (fm : Int → Int → Int) => ([(47, CMulF fm)] : List (Nat × Con)))) n fm
noncomputable abbrev E (n : Nat) (fm : Int → Int → Int) : Env (U × Heap) := envC tab ios (A n fm)
def L : List (List Nat) := [[3, 4, 0]]
abbrev us (a : Int) : List U := (((fun (a : Int) => (([.int .u16 a] : List U), ([] : Heap)))) a).1
abbrev HA (a : Int) : Heap := (((fun (a : Int) => (([.int .u16 a] : List U), ([] : Heap)))) a).2
def S0 (t4 : Int) (t0 : Int) (o0_0 : List Int) : St := ⟨[(3, .own 0), (4, .int .u16 t4), (0, .int .u16 t0)], 21, [(0, ⟨[.ints .u16 o0_0], true⟩)], [0], 0⟩
noncomputable def N0 (n : Nat) (fm : Int → Int → Int)  (m0 : Nat) (t4 : Int) (t0 : Int) (o0_0 : List Int) : Res := nodeRun (E n fm) n Try.f77 L k0 [true, true, false, true, false] [] m0 (S0 t4 t0 o0_0)
theorem N0_succ (n : Nat) (fm : Int → Int → Int)  (m0 : Nat) (t4 : Int) (t0 : Int) (o0_0 : List Int) : N0 n fm  (m0 + 1) t4 t0 o0_0 =
  bif (t4 != t0) then
   bif decide ((((List.length o0_0) + 1) * 1) ≤ 4398046511104) then
   pif (((u16 t4) ∧ (u16 t4))) (
    N0 n fm m0 (fm t4 t4) t0 (o0_0 ++ [t4]))
   else none
  else
   some (.own 0, [(0, ⟨[.ints .u16 o0_0], true⟩)]) := by kernel_rfl
noncomputable def R (n : Nat) (fm : Int → Int → Int) (a : Int) : Res := run (E n fm) n Try.f77 L (us a) (HA a) k0
theorem R_eq (n : Nat) (fm : Int → Int → Int) (a : Int) : R n fm a =
  pif (((u16 a) ∧ (u16 a))) (
  N0 n fm n (fm a a) a [a]) := by kernel_rfl
theorem ans {n : Nat} {fm : Int → Int → Int} {a : Int} (hA : Sounds Try.prog (A n fm)) {u : U} {H : Heap} (h : R n fm a = some (u, H)) : Answers Try.prog 77 (us a) (HA a) u H := answers_env tabOk mixed hA Try.func77 (by kernel_rfl) (by kernel_rfl) h
end S_Cj

namespace I_Min
abbrev num : Nat := 28
noncomputable def A (n : Nat) : List (Nat × Con) := ((fun (n : Nat) => ([(76, CConj), (65, CFromR)] : List (Nat × Con)))) n
noncomputable abbrev E (n : Nat) : Env (U × Heap) := envC tab ios (A n)
def L : List (List Nat) := []
abbrev us (a : Int) : List U := (((fun (a : Int) => (([.int .u16 a] : List U), ([] : Heap)))) a).1
abbrev HA (a : Int) : Heap := (((fun (a : Int) => (([.int .u16 a] : List U), ([] : Heap)))) a).2
noncomputable def R (n : Nat) (a : Int) : Res := run (E n) n Try.f28 L (us a) (HA a) k0
theorem R_eq (n : Nat) (a : Int) : R n a =
  pif ((u16 a)) (
  pif ((ul20 (cjI a) (List.length (cjI a)))) (
  some (.own 0, [(0, ⟨[.ints .u16 (frI (cjI a))], true⟩)]))) := by kernel_rfl
theorem ans {n : Nat} {a : Int} (hA : Sounds Try.prog (A n)) {u : U} {H : Heap} (h : R n a = some (u, H)) : Answers Try.prog 28 (us a) (HA a) u H := answers_env tabOk mixed hA Try.func28 (by kernel_rfl) (by kernel_rfl) h
end I_Min

namespace S_Min
abbrev num : Nat := 29
noncomputable def A (n : Nat) : List (Nat × Con) := ((fun (n : Nat) => ([(77, CConj), (66, CFromR)] : List (Nat × Con)))) n
noncomputable abbrev E (n : Nat) : Env (U × Heap) := envC tab ios (A n)
def L : List (List Nat) := []
abbrev us (a : Int) : List U := (((fun (a : Int) => (([.int .u16 a] : List U), ([] : Heap)))) a).1
abbrev HA (a : Int) : Heap := (((fun (a : Int) => (([.int .u16 a] : List U), ([] : Heap)))) a).2
noncomputable def R (n : Nat) (a : Int) : Res := run (E n) n Try.f29 L (us a) (HA a) k0
theorem R_eq (n : Nat) (a : Int) : R n a =
  pif ((u16 a)) (
  pif ((ul20 (cjI a) (List.length (cjI a)))) (
  some (.own 0, [(0, ⟨[.ints .u16 (frI (cjI a))], true⟩)]))) := by kernel_rfl
theorem ans {n : Nat} {a : Int} (hA : Sounds Try.prog (A n)) {u : U} {H : Heap} (h : R n a = some (u, H)) : Answers Try.prog 29 (us a) (HA a) u H := answers_env tabOk mixed hA Try.func29 (by kernel_rfl) (by kernel_rfl) h
end S_Min

namespace S_TimesPoly
abbrev num : Nat := 31
noncomputable def A (n : Nat) : List (Nat × Con) := ((fun (n : Nat) => ([(79, CBoth), (46, CTimesP)] : List (Nat × Con)))) n
noncomputable abbrev E (n : Nat) : Env (U × Heap) := envC tab ios (A n)
def L : List (List Nat) := []
abbrev us (p : List Int) (j : Nat) (q : List Int) (i : Nat) : List U := (((fun (p : List Int) (j : Nat) (q : List Int) (i : Nat) => (([.rsl [.ints .u16 p] j, .rsl [.ints .u16 q] i] : List U), ([] : Heap)))) p j q i).1
abbrev HA (p : List Int) (j : Nat) (q : List Int) (i : Nat) : Heap := (((fun (p : List Int) (j : Nat) (q : List Int) (i : Nat) => (([.rsl [.ints .u16 p] j, .rsl [.ints .u16 q] i] : List U), ([] : Heap)))) p j q i).2
noncomputable def R (n : Nat) (p : List Int) (j : Nat) (q : List Int) (i : Nat) : Res := run (E n) n Try.f31 L (us p j q i) (HA p j q i) k0
theorem R_eq (n : Nat) (p : List Int) (j : Nat) (q : List Int) (i : Nat) : R n p j q i =
  pif (((okP p j) ∧ (okP q i))) (
  pif (((canP p j) ∧ ((canP q i) ∧ ((j + i) ≤ 1048576)))) (
  bif decide ((((List.length (tiP p q)) : Nat) : Int) > (21 : Int)) then
   some (.tup [.own 0, .int .i64 (3 : Int)], [(0, ⟨[.ints .u16 []], true⟩)])
  else
   some (.tup [.own 0, .int .i64 (0 : Int)], [(0, ⟨[.ints .u16 (tiP p q)], true⟩)]))) := by kernel_rfl
theorem ans {n : Nat} {p : List Int} {j : Nat} {q : List Int} {i : Nat} (hA : Sounds Try.prog (A n)) {u : U} {H : Heap} (h : R n p j q i = some (u, H)) : Answers Try.prog 31 (us p j q i) (HA p j q i) u H := answers_env tabOk mixed hA Try.func31 (by kernel_rfl) (by kernel_rfl) h
end S_TimesPoly

namespace I_root
abbrev num : Nat := 80
noncomputable def A (n : Nat) : List (Nat × Con) := ((fun (n : Nat) => ([(54, CMul)] : List (Nat × Con)))) n
noncomputable abbrev E (n : Nat) : Env (U × Heap) := envC tab ios (A n)
def L : List (List Nat) := [[0, 3]]
abbrev us (a : Int) : List U := (((fun (a : Int) => (([.int .u16 a] : List U), ([] : Heap)))) a).1
abbrev HA (a : Int) : Heap := (((fun (a : Int) => (([.int .u16 a] : List U), ([] : Heap)))) a).2
def S0 (t0 : Int) (t3 : Int) : St := ⟨[(0, .int .u16 t0), (3, .int .i64 t3)], 10, [], [], 0⟩
noncomputable def N0 (n : Nat)  (m0 : Nat) (t0 : Int) (t3 : Int) : Res := nodeRun (E n) n Try.f80 L k0 [true, false, true, false] [] m0 (S0 t0 t3)
theorem N0_succ (n : Nat)  (m0 : Nat) (t0 : Int) (t3 : Int) : N0 n  (m0 + 1) t0 t3 =
  bif decide (t3 < (15 : Int)) then
   pif (((u16 t0) ∧ (u16 t0))) (
   N0 n m0 (mulI t0 t0) (IntKind.wrap .i64 (t3 + (1 : Int))))
  else
   some (.int .u16 t0, []) := by kernel_rfl
noncomputable def R (n : Nat) (a : Int) : Res := run (E n) n Try.f80 L (us a) (HA a) k0
theorem R_eq (n : Nat) (a : Int) : R n a =
  N0 n n a (0 : Int) := by kernel_rfl
theorem ans {n : Nat} {a : Int} (hA : Sounds Try.prog (A n)) {u : U} {H : Heap} (h : R n a = some (u, H)) : Answers Try.prog 80 (us a) (HA a) u H := answers_env tabOk mixed hA Try.func80 (by kernel_rfl) (by kernel_rfl) h
end I_root

namespace I_RootOfP
abbrev num : Nat := 32
noncomputable def A (n : Nat) : List (Nat × Con) := ((fun (n : Nat) => ([(64, CValidP), (80, CRoot)] : List (Nat × Con)))) n
noncomputable abbrev E (n : Nat) : Env (U × Heap) := envC tab ios (A n)
def L : List (List Nat) := [[4, 13, 11, 12]]
abbrev us (p : List Int) (j : Nat) : List U := (((fun (p : List Int) (j : Nat) => (([.rsl [.ints .u16 p] j] : List U), ([] : Heap)))) p j).1
abbrev HA (p : List Int) (j : Nat) : Heap := (((fun (p : List Int) (j : Nat) => (([.rsl [.ints .u16 p] j] : List U), ([] : Heap)))) p j).2
def S0 (t13 : Int) (t11_0 : List Int) (t11n : Nat) (t12 : Int) (o0_0 : List Int) : St := ⟨[(4, .own 0), (13, .int .i64 t13), (11, .rsl [.ints .u16 t11_0] t11n), (12, .int .i64 t12)], 32, [(0, ⟨[.ints .u16 o0_0], true⟩)], [0], 0⟩
noncomputable def N0 (n : Nat)  (m0 : Nat) (t13 : Int) (t11_0 : List Int) (t11n : Nat) (t12 : Int) (o0_0 : List Int) : Res := nodeRun (E n) n Try.f32 L k0 [true, true, true, false, true, false] [] m0 (S0 t13 t11_0 t11n t12 o0_0)
theorem N0_succ (n : Nat)  (m0 : Nat) (t13 : Int) (t11_0 : List Int) (t11n : Nat) (t12 : Int) (o0_0 : List Int) : N0 n  (m0 + 1) t13 t11_0 t11n t12 o0_0 =
  bif decide (t13 < t12) then
   bif decide (((0 : Int) ≤ t13) ∧ (t13 < ((t11n : Nat) : Int))) then
   bif ((Int.tmod t13 (2 : Int)) == (0 : Int)) then
     pif ((u16 (List.getD t11_0 (Int.toNat t13) (0 : Int)))) (
     bif decide ((((List.length o0_0) + 1) * 1) ≤ 4398046511104) then
     N0 n m0 (IntKind.wrap .i64 (t13 + (1 : Int))) t11_0 t11n t12 (o0_0 ++ [(powI (List.getD t11_0 (Int.toNat t13) (0 : Int)) (32768 : Int))])
     else none)
    else
     bif ((List.getD t11_0 (Int.toNat t13) (0 : Int)) != (0 : Int)) then
      some (.tup [.nils, .int .i64 (6 : Int)], [])
     else
      N0 n m0 (IntKind.wrap .i64 (t13 + (1 : Int))) t11_0 t11n t12 o0_0
   else none
  else
   some (.tup [.own 0, .int .i64 (0 : Int)], [(0, ⟨[.ints .u16 o0_0], true⟩)]) := by kernel_rfl
noncomputable def R (n : Nat) (p : List Int) (j : Nat) : Res := run (E n) n Try.f32 L (us p j) (HA p j) k0
theorem R_eq (n : Nat) (p : List Int) (j : Nat) : R n p j =
  pif ((okP p j)) (
  N0 n n (0 : Int) p j ((j : Nat) : Int) []) := by kernel_rfl
theorem ans {n : Nat} {p : List Int} {j : Nat} (hA : Sounds Try.prog (A n)) {u : U} {H : Heap} (h : R n p j = some (u, H)) : Answers Try.prog 32 (us p j) (HA p j) u H := answers_env tabOk mixed hA Try.func32 (by kernel_rfl) (by kernel_rfl) h
end I_RootOfP

namespace I_PolyIn
abbrev num : Nat := 34
noncomputable def A (n : Nat) : List (Nat × Con) := ((fun (n : Nat) => ([(81, CAre), (59, CTimesG), (57, CPlusP), (82, CTrimP)] : List (Nat × Con)))) n
noncomputable abbrev E (n : Nat) : Env (U × Heap) := envC tab ios (A n)
def L : List (List Nat) := [[6, 7, 0, 1]]
abbrev us (p : List Int) (j : Nat) (q : List Int) (i : Nat) : List U := (((fun (p : List Int) (j : Nat) (q : List Int) (i : Nat) => (([.rsl [.ints .u16 p] j, .rsl [.ints .u16 q] i] : List U), ([] : Heap)))) p j q i).1
abbrev HA (p : List Int) (j : Nat) (q : List Int) (i : Nat) : Heap := (((fun (p : List Int) (j : Nat) (q : List Int) (i : Nat) => (([.rsl [.ints .u16 p] j, .rsl [.ints .u16 q] i] : List U), ([] : Heap)))) p j q i).2
def S0 (t7 : Int) (t0_0 : List Int) (t0n : Nat) (t1_0 : List Int) (t1n : Nat) (o0_0 : List Int) : St := ⟨[(6, .own 0), (7, .int .i64 t7), (0, .rsl [.ints .u16 t0_0] t0n), (1, .rsl [.ints .u16 t1_0] t1n)], 52, [(0, ⟨[.ints .u16 o0_0], true⟩)], [0], 0⟩
noncomputable def N0 (n : Nat)  (m0 : Nat) (t7 : Int) (t0_0 : List Int) (t0n : Nat) (t1_0 : List Int) (t1n : Nat) (o0_0 : List Int) : Res := nodeRun (E n) n Try.f34 L k0 [true, true, true, false, true, false] [] m0 (S0 t7 t0_0 t0n t1_0 t1n o0_0)
theorem N0_succ (n : Nat)  (m0 : Nat) (t7 : Int) (t0_0 : List Int) (t0n : Nat) (t1_0 : List Int) (t1n : Nat) (o0_0 : List Int) : N0 n  (m0 + 1) t7 t0_0 t0n t1_0 t1n o0_0 =
  bif decide (t7 ≥ (0 : Int)) then
   bif decide (((0 : Int) ≤ t7) ∧ (t7 < ((t0n : Nat) : Int))) then
   pif (((genP o0_0 (List.length o0_0)) ∧ ((genP t1_0 t1n) ∧ (((List.length o0_0) + t1n) ≤ 1048576)))) (
    pif ((genP [(List.getD t0_0 (Int.toNat t7) (0 : Int))] 1)) (
    pif (((genP (tiP o0_0 t1_0) (List.length (tiP o0_0 t1_0))) ∧ (genP (trP [(List.getD t0_0 (Int.toNat t7) (0 : Int))]) (List.length (trP [(List.getD t0_0 (Int.toNat t7) (0 : Int))]))))) (
    N0 n m0 (IntKind.wrap .i64 (t7 - (1 : Int))) t0_0 t0n t1_0 t1n (plP (tiP o0_0 t1_0) (trP [(List.getD t0_0 (Int.toNat t7) (0 : Int))])))))
   else none
  else
   some (.tup [.own 0, .int .i64 (0 : Int)], [(0, ⟨[.ints .u16 o0_0], true⟩)]) := by kernel_rfl
noncomputable def R (n : Nat) (p : List Int) (j : Nat) (q : List Int) (i : Nat) : Res := run (E n) n Try.f34 L (us p j q i) (HA p j q i) k0
theorem R_eq (n : Nat) (p : List Int) (j : Nat) (q : List Int) (i : Nat) : R n p j q i =
  pif ((okL (List.set (List.set (List.replicate 2 []) 0 p) 1 q) 2)) (
  bif decide (((j : Nat) : Int) > (0 : Int)) then
   bif decide (((i : Nat) : Int) > (0 : Int)) then
    bif decide ((IntKind.wrap .i64 ((IntKind.wrap .i64 (((j : Nat) : Int) - (1 : Int))) * (IntKind.wrap .i64 (((i : Nat) : Int) - (1 : Int))))) > (20 : Int)) then
     some (.tup [.nils, .int .i64 (3 : Int)], [])
    else
     N0 n n (IntKind.wrap .i64 (((j : Nat) : Int) - (1 : Int))) p j q i []
   else
    N0 n n (IntKind.wrap .i64 (((j : Nat) : Int) - (1 : Int))) p j q i []
  else
   N0 n n (IntKind.wrap .i64 (((j : Nat) : Int) - (1 : Int))) p j q i []) := by kernel_rfl
theorem ans {n : Nat} {p : List Int} {j : Nat} {q : List Int} {i : Nat} (hA : Sounds Try.prog (A n)) {u : U} {H : Heap} (h : R n p j q i = some (u, H)) : Answers Try.prog 34 (us p j q i) (HA p j q i) u H := answers_env tabOk mixed hA Try.func34 (by kernel_rfl) (by kernel_rfl) h
end I_PolyIn

namespace S_same5
abbrev num : Nat := 63
noncomputable def A (n : Nat) : List (Nat × Con) := ((fun (n : Nat) => ([] : List (Nat × Con)))) n
noncomputable abbrev E (n : Nat) : Env (U × Heap) := envC tab ios (A n)
def L : List (List Nat) := [[5, 1, 0]]
abbrev us (p : List Int) (j : Nat) (q : List Int) (i : Nat) : List U := (((fun (p : List Int) (j : Nat) (q : List Int) (i : Nat) => (([.rsl [.ints .u16 p] j, .rsl [.ints .u16 q] i] : List U), ([] : Heap)))) p j q i).1
abbrev HA (p : List Int) (j : Nat) (q : List Int) (i : Nat) : Heap := (((fun (p : List Int) (j : Nat) (q : List Int) (i : Nat) => (([.rsl [.ints .u16 p] j, .rsl [.ints .u16 q] i] : List U), ([] : Heap)))) p j q i).2
def S0 (t5 : Int) (t1_0 : List Int) (t1n : Nat) (t0_0 : List Int) (t0n : Nat) : St := ⟨[(5, .int .i64 t5), (1, .rsl [.ints .u16 t1_0] t1n), (0, .rsl [.ints .u16 t0_0] t0n)], 26, [], [], 0⟩
noncomputable def N0 (n : Nat)  (m0 : Nat) (t5 : Int) (t1_0 : List Int) (t1n : Nat) (t0_0 : List Int) (t0n : Nat) : Res := nodeRun (E n) n Try.f63 L k0 [true, true, false, true, false] [] m0 (S0 t5 t1_0 t1n t0_0 t0n)
theorem N0_succ (n : Nat)  (m0 : Nat) (t5 : Int) (t1_0 : List Int) (t1n : Nat) (t0_0 : List Int) (t0n : Nat) : N0 n  (m0 + 1) t5 t1_0 t1n t0_0 t0n =
  bif decide (t5 < ((t0n : Nat) : Int)) then
   bif decide (((0 : Int) ≤ t5) ∧ (t5 < ((t0n : Nat) : Int))) then
   bif decide (((0 : Int) ≤ t5) ∧ (t5 < ((t1n : Nat) : Int))) then
    bif ((List.getD t0_0 (Int.toNat t5) (0 : Int)) != (List.getD t1_0 (Int.toNat t5) (0 : Int))) then
      some (.bool false, [])
     else
      N0 n m0 (IntKind.wrap .i64 (t5 + (1 : Int))) t1_0 t1n t0_0 t0n
    else none
   else none
  else
   some (.bool true, []) := by kernel_rfl
noncomputable def R (n : Nat) (p : List Int) (j : Nat) (q : List Int) (i : Nat) : Res := run (E n) n Try.f63 L (us p j q i) (HA p j q i) k0
theorem R_eq (n : Nat) (p : List Int) (j : Nat) (q : List Int) (i : Nat) : R n p j q i =
  bif (((j : Nat) : Int) != ((i : Nat) : Int)) then
   some (.bool false, [])
  else
   N0 n n (0 : Int) q i p j := by kernel_rfl
theorem ans {n : Nat} {p : List Int} {j : Nat} {q : List Int} {i : Nat} (hA : Sounds Try.prog (A n)) {u : U} {H : Heap} (h : R n p j q i = some (u, H)) : Answers Try.prog 63 (us p j q i) (HA p j q i) u H := answers_env tabOk mixed hA Try.func63 (by kernel_rfl) (by kernel_rfl) h
end S_same5

namespace S_SameP
abbrev num : Nat := 17
noncomputable def A (n : Nat) : List (Nat × Con) := ((fun (n : Nat) => ([(63, CSame)] : List (Nat × Con)))) n
noncomputable abbrev E (n : Nat) : Env (U × Heap) := envC tab ios (A n)
def L : List (List Nat) := []
abbrev us (p : List Int) (j : Nat) (q : List Int) (i : Nat) : List U := (((fun (p : List Int) (j : Nat) (q : List Int) (i : Nat) => (([.rsl [.ints .u16 p] j, .rsl [.ints .u16 q] i] : List U), ([] : Heap)))) p j q i).1
abbrev HA (p : List Int) (j : Nat) (q : List Int) (i : Nat) : Heap := (((fun (p : List Int) (j : Nat) (q : List Int) (i : Nat) => (([.rsl [.ints .u16 p] j, .rsl [.ints .u16 q] i] : List U), ([] : Heap)))) p j q i).2
noncomputable def R (n : Nat) (p : List Int) (j : Nat) (q : List Int) (i : Nat) : Res := run (E n) n Try.f17 L (us p j q i) (HA p j q i) k0
theorem R_eq (n : Nat) (p : List Int) (j : Nat) (q : List Int) (i : Nat) : R n p j q i =
  pif ((smP p j q i)) (
  some (.bool true, [])) := by kernel_rfl
theorem ans {n : Nat} {p : List Int} {j : Nat} {q : List Int} {i : Nat} (hA : Sounds Try.prog (A n)) {u : U} {H : Heap} (h : R n p j q i = some (u, H)) : Answers Try.prog 17 (us p j q i) (HA p j q i) u H := answers_env tabOk mixed hA Try.func17 (by kernel_rfl) (by kernel_rfl) h
end S_SameP

namespace S_A2Same
abbrev num : Nat := 24
noncomputable def A (n : Nat) : List (Nat × Con) := ((fun (n : Nat) => ([(63, CSame)] : List (Nat × Con)))) n
noncomputable abbrev E (n : Nat) : Env (U × Heap) := envC tab ios (A n)
def L : List (List Nat) := []
abbrev us (p : List Int) (j : Nat) (q : List Int) (i : Nat) : List U := (((fun (p : List Int) (j : Nat) (q : List Int) (i : Nat) => (([.rsl [.ints .u16 p] j, .rsl [.ints .u16 q] i] : List U), ([] : Heap)))) p j q i).1
abbrev HA (p : List Int) (j : Nat) (q : List Int) (i : Nat) : Heap := (((fun (p : List Int) (j : Nat) (q : List Int) (i : Nat) => (([.rsl [.ints .u16 p] j, .rsl [.ints .u16 q] i] : List U), ([] : Heap)))) p j q i).2
noncomputable def R (n : Nat) (p : List Int) (j : Nat) (q : List Int) (i : Nat) : Res := run (E n) n Try.f24 L (us p j q i) (HA p j q i) k0
theorem R_eq (n : Nat) (p : List Int) (j : Nat) (q : List Int) (i : Nat) : R n p j q i =
  pif ((smP p j q i)) (
  some (.bool true, [])) := by kernel_rfl
theorem ans {n : Nat} {p : List Int} {j : Nat} {q : List Int} {i : Nat} (hA : Sounds Try.prog (A n)) {u : U} {H : Heap} (h : R n p j q i = some (u, H)) : Answers Try.prog 24 (us p j q i) (HA p j q i) u H := answers_env tabOk mixed hA Try.func24 (by kernel_rfl) (by kernel_rfl) h
end S_A2Same

namespace S_A2Has
abbrev num : Nat := 25
noncomputable def A (n : Nat) : List (Nat × Con) := ((fun (n : Nat) => ([] : List (Nat × Con)))) n
noncomputable abbrev E (n : Nat) : Env (U × Heap) := envC tab ios (A n)
def L : List (List Nat) := [[5, 1, 0]]
abbrev us (p : List Int) (j : Nat) (x : Int) : List U := (((fun (p : List Int) (j : Nat) (x : Int) => (([.rsl [.ints .u16 p] j, .int .u16 x] : List U), ([] : Heap)))) p j x).1
abbrev HA (p : List Int) (j : Nat) (x : Int) : Heap := (((fun (p : List Int) (j : Nat) (x : Int) => (([.rsl [.ints .u16 p] j, .int .u16 x] : List U), ([] : Heap)))) p j x).2
def S0 (t5 : Int) (t1 : Int) (t0_0 : List Int) (t0n : Nat) : St := ⟨[(5, .int .i64 t5), (1, .int .u16 t1), (0, .rsl [.ints .u16 t0_0] t0n)], 18, [], [], 0⟩
noncomputable def N0 (n : Nat)  (m0 : Nat) (t5 : Int) (t1 : Int) (t0_0 : List Int) (t0n : Nat) : Res := nodeRun (E n) n Try.f25 L k0 [true, false, true, false] [] m0 (S0 t5 t1 t0_0 t0n)
theorem N0_succ (n : Nat)  (m0 : Nat) (t5 : Int) (t1 : Int) (t0_0 : List Int) (t0n : Nat) : N0 n  (m0 + 1) t5 t1 t0_0 t0n =
  bif decide (t5 < ((t0n : Nat) : Int)) then
   bif decide (((0 : Int) ≤ t5) ∧ (t5 < ((t0n : Nat) : Int))) then
   bif ((List.getD t0_0 (Int.toNat t5) (0 : Int)) == t1) then
     some (.bool true, [])
    else
     N0 n m0 (IntKind.wrap .i64 (t5 + (1 : Int))) t1 t0_0 t0n
   else none
  else
   some (.bool false, []) := by kernel_rfl
noncomputable def R (n : Nat) (p : List Int) (j : Nat) (x : Int) : Res := run (E n) n Try.f25 L (us p j x) (HA p j x) k0
theorem R_eq (n : Nat) (p : List Int) (j : Nat) (x : Int) : R n p j x =
  N0 n n (0 : Int) x p j := by kernel_rfl
theorem ans {n : Nat} {p : List Int} {j : Nat} {x : Int} (hA : Sounds Try.prog (A n)) {u : U} {H : Heap} (h : R n p j x = some (u, H)) : Answers Try.prog 25 (us p j x) (HA p j x) u H := answers_env tabOk mixed hA Try.func25 (by kernel_rfl) (by kernel_rfl) h
end S_A2Has

namespace S_ione
abbrev num : Nat := 107
noncomputable def A (n : Nat) : List (Nat × Con) := ((fun (n : Nat) => ([(104, CPick)] : List (Nat × Con)))) n
noncomputable abbrev E (n : Nat) : Env (U × Heap) := envC tab ios (A n)
def L : List (List Nat) := []
abbrev us (B : List Int) (n0 : Nat) (a : Int) (s : Int) (k : Int) : List U := (((fun (B : List Int) (n0 : Nat) (a s : Int) (k : Int) => (([.ptr 0 0 0 0 1, .int .i64 k] : List U), ([(0, ⟨[.us [.rsl [.ints .u8 B] n0], .ints .i64 [a], .ints .u64 [s]], true⟩)] : Heap)))) B n0 a s k).1
abbrev HA (B : List Int) (n0 : Nat) (a : Int) (s : Int) (k : Int) : Heap := (((fun (B : List Int) (n0 : Nat) (a s : Int) (k : Int) => (([.ptr 0 0 0 0 1, .int .i64 k] : List U), ([(0, ⟨[.us [.rsl [.ints .u8 B] n0], .ints .i64 [a], .ints .u64 [s]], true⟩)] : Heap)))) B n0 a s k).2
noncomputable def R (n : Nat) (B : List Int) (n0 : Nat) (a : Int) (s : Int) (k : Int) : Res := run (E n) n Try.f107 L (us B n0 a s k) (HA B n0 a s k) k0
theorem R_eq (n : Nat) (B : List Int) (n0 : Nat) (a : Int) (s : Int) (k : Int) : R n B n0 a s k =
  pif (((src B n0) ∧ ((inPk a s) ∧ (picks k)))) (
  some (.bool ((pkV B k a s) == (0 : Int)), [(0, ⟨[.us [.rsl [.ints .u8 B] n0], .ints .i64 [(pkA k a)], .ints .u64 [(pkS B k a s)]], true⟩)])) := by kernel_rfl
theorem ans {n : Nat} {B : List Int} {n0 : Nat} {a : Int} {s : Int} {k : Int} (hA : Sounds Try.prog (A n)) {u : U} {H : Heap} (h : R n B n0 a s k = some (u, H)) : Answers Try.prog 107 (us B n0 a s k) (HA B n0 a s k) u H := answers_env tabOk mixed hA Try.func107 (by kernel_rfl) (by kernel_rfl) h
end S_ione

namespace S_many
abbrev num : Nat := 61
noncomputable def A (n : Nat) : List (Nat × Con) := ((fun (n : Nat) => ([(104, CPick), (75, CAny)] : List (Nat × Con)))) n
noncomputable abbrev E (n : Nat) : Env (U × Heap) := envC tab ios (A n)
def L : List (List Nat) := [[3, 4, 0]]
abbrev us (B : List Int) (n0 : Nat) (a : Int) (s : Int) : List U := (((fun (B : List Int) (n0 : Nat) (a s : Int) => (([.ptr 0 0 0 0 1] : List U), ([(0, ⟨[.us [.rsl [.ints .u8 B] n0], .ints .i64 [a], .ints .u64 [s]], true⟩)] : Heap)))) B n0 a s).1
abbrev HA (B : List Int) (n0 : Nat) (a : Int) (s : Int) : Heap := (((fun (B : List Int) (n0 : Nat) (a s : Int) => (([.ptr 0 0 0 0 1] : List U), ([(0, ⟨[.us [.rsl [.ints .u8 B] n0], .ints .i64 [a], .ints .u64 [s]], true⟩)] : Heap)))) B n0 a s).2
def S0 (t4 : Int) (o0_0_0_0 : List Int) (o0_0_0n : Nat) (o0_1 : Int) (o0_2 : Int) (o1_0 : List Int) : St := ⟨[(3, .own 1), (4, .int .i64 t4), (0, .ptr 0 0 0 0 1)], 18, [(0, ⟨[.us [.rsl [.ints .u8 o0_0_0_0] o0_0_0n], .ints .i64 [o0_1], .ints .u64 [o0_2]], true⟩), (1, ⟨[.ints .u16 o1_0], true⟩)], [0, 1], 1⟩
noncomputable def N0 (n : Nat)  (m0 : Nat) (t4 : Int) (o0_0_0_0 : List Int) (o0_0_0n : Nat) (o0_1 : Int) (o0_2 : Int) (o1_0 : List Int) : Res := nodeRun (E n) n Try.f61 L k0 [true, true, false, true, false] [] m0 (S0 t4 o0_0_0_0 o0_0_0n o0_1 o0_2 o1_0)
theorem N0_succ (n : Nat)  (m0 : Nat) (t4 : Int) (o0_0_0_0 : List Int) (o0_0_0n : Nat) (o0_1 : Int) (o0_2 : Int) (o1_0 : List Int) : N0 n  (m0 + 1) t4 o0_0_0_0 o0_0_0n o0_1 o0_2 o1_0 =
  bif decide (t4 > (0 : Int)) then
   pif (((src o0_0_0_0 o0_0_0n) ∧ (inAny o0_1 o0_2))) (
   bif decide ((((List.length o1_0) + 1) * 1) ≤ 4398046511104) then
   N0 n m0 (IntKind.wrap .i64 (t4 - (1 : Int))) o0_0_0_0 o0_0_0n (anyA o0_0_0_0 o0_1 o0_2) (anyS o0_0_0_0 o0_1 o0_2) (o1_0 ++ [(anyV o0_0_0_0 o0_1 o0_2)])
   else none)
  else
   some (.own 1, [(0, ⟨[.us [.rsl [.ints .u8 o0_0_0_0] o0_0_0n], .ints .i64 [o0_1], .ints .u64 [o0_2]], true⟩), (1, ⟨[.ints .u16 o1_0], true⟩)]) := by kernel_rfl
noncomputable def R (n : Nat) (B : List Int) (n0 : Nat) (a : Int) (s : Int) : Res := run (E n) n Try.f61 L (us B n0 a s) (HA B n0 a s) k0
theorem R_eq (n : Nat) (B : List Int) (n0 : Nat) (a : Int) (s : Int) : R n B n0 a s =
  pif (((src B n0) ∧ ((inPk a s) ∧ (picks (7 : Int))))) (
  N0 n n (pkV B (7 : Int) a s) B n0 (pkA (7 : Int) a) (pkS B (7 : Int) a s) []) := by kernel_rfl
theorem ans {n : Nat} {B : List Int} {n0 : Nat} {a : Int} {s : Int} (hA : Sounds Try.prog (A n)) {u : U} {H : Heap} (h : R n B n0 a s = some (u, H)) : Answers Try.prog 61 (us B n0 a s) (HA B n0 a s) u H := answers_env tabOk mixed hA Try.func61 (by kernel_rfl) (by kernel_rfl) h
end S_many

namespace S_A2Nims
abbrev num : Nat := 16
noncomputable def A (n : Nat) : List (Nat × Con) := ((fun (n : Nat) => ([(62, CFrom), (61, CMany)] : List (Nat × Con)))) n
noncomputable abbrev E (n : Nat) : Env (U × Heap) := envC tab ios (A n)
def L : List (List Nat) := []
abbrev us (B : List Int) (n0 : Nat) : List U := (((fun (B : List Int) (n0 : Nat) => (([.rsl [.ints .u8 B] n0] : List U), ([] : Heap)))) B n0).1
abbrev HA (B : List Int) (n0 : Nat) : Heap := (((fun (B : List Int) (n0 : Nat) => (([.rsl [.ints .u8 B] n0] : List U), ([] : Heap)))) B n0).2
noncomputable def R (n : Nat) (B : List Int) (n0 : Nat) : Res := run (E n) n Try.f16 L (us B n0) (HA B n0) k0
theorem R_eq (n : Nat) (B : List Int) (n0 : Nat) : R n B n0 =
  pif (True) (
  pif (((src B n0) ∧ (((0 : Int) = (0 : Int)) ∧ ((0 : Int) = (0 : Int))))) (
  some (.own 0, [(0, ⟨[.ints .u16 (nmsF B (nmN B (0 : Int) (0 : Int)) (pkA (7 : Int) (0 : Int)) (pkS B (7 : Int) (0 : Int) (0 : Int)))], true⟩)]))) := by kernel_rfl
theorem ans {n : Nat} {B : List Int} {n0 : Nat} (hA : Sounds Try.prog (A n)) {u : U} {H : Heap} (h : R n B n0 = some (u, H)) : Answers Try.prog 16 (us B n0) (HA B n0) u H := answers_env tabOk mixed hA Try.func16 (by kernel_rfl) (by kernel_rfl) h
end S_A2Nims

namespace S_drawn
abbrev num : Nat := 78
noncomputable def A (n : Nat) : List (Nat × Con) := ((fun (n : Nat) => ([(104, CPick), (107, COneS), (75, CAny), (99, CTrimP)] : List (Nat × Con)))) n
noncomputable abbrev E (n : Nat) : Env (U × Heap) := envC tab ios (A n)
def L : List (List Nat) := [[5, 7, 6, 0]]
abbrev us (B : List Int) (n0 : Nat) (a : Int) (s : Int) (k : Int) : List U := (((fun (B : List Int) (n0 : Nat) (a s : Int) (k : Int) => (([.ptr 0 0 0 0 1, .int .i64 k] : List U), ([(0, ⟨[.us [.rsl [.ints .u8 B] n0], .ints .i64 [a], .ints .u64 [s]], true⟩)] : Heap)))) B n0 a s k).1
abbrev HA (B : List Int) (n0 : Nat) (a : Int) (s : Int) (k : Int) : Heap := (((fun (B : List Int) (n0 : Nat) (a s : Int) (k : Int) => (([.ptr 0 0 0 0 1, .int .i64 k] : List U), ([(0, ⟨[.us [.rsl [.ints .u8 B] n0], .ints .i64 [a], .ints .u64 [s]], true⟩)] : Heap)))) B n0 a s k).2
def S0 (t7 : Int) (t6 : Bool) (o0_0_0_0 : List Int) (o0_0_0n : Nat) (o0_1 : Int) (o0_2 : Int) (o1_0 : List Int) : St := ⟨[(5, .own 1), (7, .int .i64 t7), (6, .bool t6), (0, .ptr 0 0 0 0 1)], 31, [(0, ⟨[.us [.rsl [.ints .u8 o0_0_0_0] o0_0_0n], .ints .i64 [o0_1], .ints .u64 [o0_2]], true⟩), (1, ⟨[.ints .u16 o1_0], true⟩)], [0, 1], 1⟩
noncomputable def N0 (n : Nat)  (m0 : Nat) (t7 : Int) (t6 : Bool) (o0_0_0_0 : List Int) (o0_0_0n : Nat) (o0_1 : Int) (o0_2 : Int) (o1_0 : List Int) : Res := nodeRun (E n) n Try.f78 L k0 [true, true, true, false, true, false] [] m0 (S0 t7 t6 o0_0_0_0 o0_0_0n o0_1 o0_2 o1_0)
theorem N0_succ (n : Nat)  (m0 : Nat) (t7 : Int) (t6 : Bool) (o0_0_0_0 : List Int) (o0_0_0n : Nat) (o0_1 : Int) (o0_2 : Int) (o1_0 : List Int) : N0 n  (m0 + 1) t7 t6 o0_0_0_0 o0_0_0n o0_1 o0_2 o1_0 =
  bif decide (t7 > (0 : Int)) then
   pif (((src o0_0_0_0 o0_0_0n) ∧ (inAny o0_1 o0_2))) (
   bif t6 then
    bif decide ((((List.length o1_0) + 1) * 1) ≤ 4398046511104) then
    N0 n m0 (IntKind.wrap .i64 (t7 - (1 : Int))) t6 o0_0_0_0 o0_0_0n (anyA o0_0_0_0 o0_1 o0_2) (anyS o0_0_0_0 o0_1 o0_2) (o1_0 ++ [(Int.tmod (anyV o0_0_0_0 o0_1 o0_2) (4 : Int))])
    else none
   else
    bif decide ((((List.length o1_0) + 1) * 1) ≤ 4398046511104) then
    N0 n m0 (IntKind.wrap .i64 (t7 - (1 : Int))) t6 o0_0_0_0 o0_0_0n (anyA o0_0_0_0 o0_1 o0_2) (anyS o0_0_0_0 o0_1 o0_2) (o1_0 ++ [(anyV o0_0_0_0 o0_1 o0_2)])
    else none)
  else
   pif ((genP o1_0 (List.length o1_0))) (
   some (.own 1, [(0, ⟨[.us [.rsl [.ints .u8 o0_0_0_0] o0_0_0n], .ints .i64 [o0_1], .ints .u64 [o0_2]], true⟩), (1, ⟨[.ints .u16 (trP o1_0)], true⟩)])) := by kernel_rfl
noncomputable def R (n : Nat) (B : List Int) (n0 : Nat) (a : Int) (s : Int) (k : Int) : Res := run (E n) n Try.f78 L (us B n0 a s k) (HA B n0 a s k) k0
theorem R_eq (n : Nat) (B : List Int) (n0 : Nat) (a : Int) (s : Int) (k : Int) : R n B n0 a s k =
  pif (((src B n0) ∧ ((inPk a s) ∧ (picks (2 : Int))))) (
  pif (((src B n0) ∧ ((inPk (pkA (2 : Int) a) (pkS B (2 : Int) a s)) ∧ (picks (IntKind.wrap .i64 (k + (2 : Int))))))) (
  N0 n n (pkV B (IntKind.wrap .i64 (k + (2 : Int))) (pkA (2 : Int) a) (pkS B (2 : Int) a s)) ((pkV B (2 : Int) a s) == (0 : Int)) B n0 (pkA (IntKind.wrap .i64 (k + (2 : Int))) (pkA (2 : Int) a)) (pkS B (IntKind.wrap .i64 (k + (2 : Int))) (pkA (2 : Int) a) (pkS B (2 : Int) a s)) [])) := by kernel_rfl
theorem ans {n : Nat} {B : List Int} {n0 : Nat} {a : Int} {s : Int} {k : Int} (hA : Sounds Try.prog (A n)) {u : U} {H : Heap} (h : R n B n0 a s k = some (u, H)) : Answers Try.prog 78 (us B n0 a s k) (HA B n0 a s k) u H := answers_env tabOk mixed hA Try.func78 (by kernel_rfl) (by kernel_rfl) h
end S_drawn

namespace S_A2Poly
abbrev num : Nat := 30
noncomputable def A (n : Nat) : List (Nat × Con) := ((fun (n : Nat) => ([(62, CFrom), (78, CDrawn)] : List (Nat × Con)))) n
noncomputable abbrev E (n : Nat) : Env (U × Heap) := envC tab ios (A n)
def L : List (List Nat) := []
abbrev us (B : List Int) (n0 : Nat) (k : Int) : List U := (((fun (B : List Int) (n0 : Nat) (k : Int) => (([.rsl [.ints .u8 B] n0, .int .i64 k] : List U), ([] : Heap)))) B n0 k).1
abbrev HA (B : List Int) (n0 : Nat) (k : Int) : Heap := (((fun (B : List Int) (n0 : Nat) (k : Int) => (([.rsl [.ints .u8 B] n0, .int .i64 k] : List U), ([] : Heap)))) B n0 k).2
noncomputable def R (n : Nat) (B : List Int) (n0 : Nat) (k : Int) : Res := run (E n) n Try.f30 L (us B n0 k) (HA B n0 k) k0
theorem R_eq (n : Nat) (B : List Int) (n0 : Nat) (k : Int) : R n B n0 k =
  pif (True) (
  pif (((src B n0) ∧ (mostI k (0 : Int) (0 : Int)))) (
  some (.own 0, [(0, ⟨[.ints .u16 (plF B k (0 : Int) (0 : Int))], true⟩)]))) := by kernel_rfl
theorem ans {n : Nat} {B : List Int} {n0 : Nat} {k : Int} (hA : Sounds Try.prog (A n)) {u : U} {H : Heap} (h : R n B n0 k = some (u, H)) : Answers Try.prog 30 (us B n0 k) (HA B n0 k) u H := answers_env tabOk mixed hA Try.func30 (by kernel_rfl) (by kernel_rfl) h
end S_A2Poly

end Go.VM
