/- Written by a program of this session (Lift.lean): what the evaluator comes to, function by function; the kernel checks it. The conditions: those of the contracts. -/
import Derived.Test.YtblhjcolknooeaaVmP4
import Derived.Test.YtblhjcolknooeaaMatT
import Derived.Test.YtblhjcolknooeaaMatTS
import Derived.Test.YtblhjcolknooeaaSolvLConM
import Derived.KernelRfl
set_option linter.unusedVariables false
set_option linter.unusedSimpArgs false
set_option linter.unusedSectionVars false
namespace Go.VM
open Go Go.Proofs Go.Fn NimF
set_option linter.unusedVariables false
set_option maxRecDepth 100000
namespace I_valid
abbrev num : Nat := 59
noncomputable def A (n : Nat) : List (Nat × Con) := ((fun (n : Nat) => ([(60, CIn)] : List (Nat × Con)))) n
noncomputable abbrev E (n : Nat) : Env (U × Heap) := envC tab ios (A n)
def L : List (List Nat) := [[17, 1], [1, 17, 20, 3]]
abbrev us (r : Int) (c : Int) (l : List Int) : List U := (((fun (r c : Int) (l : List Int) => (([.agg [.int .i8 r, .int .i8 c, .vec .u16 36 l]] : List U), ([] : Heap)))) r c l).1
abbrev HA (r : Int) (c : Int) (l : List Int) : Heap := (((fun (r c : Int) (l : List Int) => (([.agg [.int .i8 r, .int .i8 c, .vec .u16 36 l]] : List U), ([] : Heap)))) r c l).2
def S0 (t17 : Int) (o0_0 : Int) (o0_1 : Int) (o0_2 : List Int) : St := ⟨[(17, .int .i8 t17), (1, .ptr 0 0 0 0 1)], 44, [(0, ⟨[.ints .i8 [o0_0], .ints .i8 [o0_1], .vecs .u16 36 [o0_2]], true⟩)], [0], 0⟩
noncomputable def N0 (n : Nat)  (m0 : Nat) (t17 : Int) (o0_0 : Int) (o0_1 : Int) (o0_2 : List Int) : Res := nodeRun (E n) n Try.f59 L k0 [true, true, false, true, false] [] m0 (S0 t17 o0_0 o0_1 o0_2)
def S1 (t17 : Int) (t20 : Int) (t3 : Int) (o0_0 : Int) (o0_1 : Int) (o0_2 : List Int) : St := ⟨[(1, .ptr 0 0 0 0 1), (17, .int .i8 t17), (20, .int .i8 t20), (3, .int .i8 t3)], 44, [(0, ⟨[.ints .i8 [o0_0], .ints .i8 [o0_1], .vecs .u16 36 [o0_2]], true⟩)], [0], 0⟩
noncomputable def N1 (n : Nat) (m0 : Nat) (m1 : Nat) (t17 : Int) (t20 : Int) (t3 : Int) (o0_0 : Int) (o0_1 : Int) (o0_2 : List Int) : Res := nodeRun (E n) n Try.f59 L k0 [true, true, false, true, false, false, true, true, false, false, true, true, false] [m0] m1 (S1 t17 t20 t3 o0_0 o0_1 o0_2)
theorem N0_succ (n : Nat)  (m0 : Nat) (t17 : Int) (o0_0 : Int) (o0_1 : Int) (o0_2 : List Int) : N0 n  (m0 + 1) t17 o0_0 o0_1 o0_2 =
  bif decide (t17 < (6 : Int)) then
   N1 n m0 n t17 (0 : Int) t17 o0_0 o0_1 o0_2
  else
   some (.bool true, []) := by kernel_rfl
theorem N1_succ (n : Nat) (m0 : Nat) (m1 : Nat) (t17 : Int) (t20 : Int) (t3 : Int) (o0_0 : Int) (o0_1 : Int) (o0_2 : List Int) : N1 n m0 (m1 + 1) t17 t20 t3 o0_0 o0_1 o0_2 =
  bif decide (t20 < (6 : Int)) then
   bif decide (((0 : Int) ≤ t3) ∧ (t3 < (6 : Int))) then
   bif decide (((0 : Int) ≤ t20) ∧ (t20 < (6 : Int))) then
    bif ((List.getD o0_2 ((0 + ((Int.toNat t3) * 6)) + ((Int.toNat t20) * 1)) (0 : Int)) != (0 : Int)) then
      bif decide (t3 ≥ o0_0) then
       some (.bool false, [])
      else
       bif decide (t20 ≥ o0_1) then
        some (.bool false, [])
       else
        N1 n m0 m1 t17 (IntKind.wrap .i8 (t20 + (1 : Int))) t3 o0_0 o0_1 o0_2
     else
      N1 n m0 m1 t17 (IntKind.wrap .i8 (t20 + (1 : Int))) t3 o0_0 o0_1 o0_2
    else none
   else none
  else
   N0 n m0 (IntKind.wrap .i8 (t17 + (1 : Int))) o0_0 o0_1 o0_2 := by kernel_rfl
noncomputable def R (n : Nat) (r : Int) (c : Int) (l : List Int) : Res := run (E n) n Try.f59 L (us r c l) (HA r c l) k0
theorem R_eq (n : Nat) (r : Int) (c : Int) (l : List Int) : R n r c l =
  pif (True) (
  bif (!(inB (IntKind.wrap .i64 r) (1 : Int) (6 : Int))) then
   some (.bool false, [])
  else
   pif (True) (
   bif (!(inB (IntKind.wrap .i64 c) (1 : Int) (6 : Int))) then
    some (.bool false, [])
   else
    N0 n n (0 : Int) r c l)) := by kernel_rfl
theorem ans {n : Nat} {r : Int} {c : Int} {l : List Int} (hA : Sounds Try.prog (A n)) {u : U} {H : Heap} (h : R n r c l = some (u, H)) : Answers Try.prog 59 (us r c l) (HA r c l) u H := answers_env tabOk mixed hA Try.func59 (by kernel_rfl) (by kernel_rfl) h
end I_valid

namespace S_ok
abbrev num : Nat := 52
noncomputable def A (n : Nat) : List (Nat × Con) := ((fun (n : Nat) => ([(56, CIn)] : List (Nat × Con)))) n
noncomputable abbrev E (n : Nat) : Env (U × Heap) := envC tab ios (A n)
def L : List (List Nat) := [[3, 0], [0, 3, 4]]
abbrev us (r : Int) (c : Int) (l : List Int) : List U := (((fun (r c : Int) (l : List Int) => (([.rptr [.int .i8 r, .int .i8 c, .vec .u16 36 l] 0 1] : List U), ([] : Heap)))) r c l).1
abbrev HA (r : Int) (c : Int) (l : List Int) : Heap := (((fun (r c : Int) (l : List Int) => (([.rptr [.int .i8 r, .int .i8 c, .vec .u16 36 l] 0 1] : List U), ([] : Heap)))) r c l).2
def S0 (t3 : Int) (t0_0 : Int) (t0_1 : Int) (t0_2 : List Int) : St := ⟨[(3, .int .i64 t3), (0, .rptr [.int .i8 t0_0, .int .i8 t0_1, .vec .u16 36 t0_2] 0 1)], 56, [], [], 0⟩
noncomputable def N0 (n : Nat)  (m0 : Nat) (t3 : Int) (t0_0 : Int) (t0_1 : Int) (t0_2 : List Int) : Res := nodeRun (E n) n Try.f52 L k0 [true, true, false, true, false] [] m0 (S0 t3 t0_0 t0_1 t0_2)
def S1 (t0_0 : Int) (t0_1 : Int) (t0_2 : List Int) (t3 : Int) (t4 : Int) : St := ⟨[(0, .rptr [.int .i8 t0_0, .int .i8 t0_1, .vec .u16 36 t0_2] 0 1), (3, .int .i64 t3), (4, .int .i64 t4)], 56, [], [], 0⟩
noncomputable def N1 (n : Nat) (m0 : Nat) (m1 : Nat) (t0_0 : Int) (t0_1 : Int) (t0_2 : List Int) (t3 : Int) (t4 : Int) : Res := nodeRun (E n) n Try.f52 L k0 [true, true, false, true, false, false, true, false, false, true, false] [m0] m1 (S1 t0_0 t0_1 t0_2 t3 t4)
theorem N0_succ (n : Nat)  (m0 : Nat) (t3 : Int) (t0_0 : Int) (t0_1 : Int) (t0_2 : List Int) : N0 n  (m0 + 1) t3 t0_0 t0_1 t0_2 =
  bif decide (t3 < (6 : Int)) then
   N1 n m0 n t0_0 t0_1 t0_2 t3 (0 : Int)
  else
   some (.bool true, []) := by kernel_rfl
theorem N1_succ (n : Nat) (m0 : Nat) (m1 : Nat) (t0_0 : Int) (t0_1 : Int) (t0_2 : List Int) (t3 : Int) (t4 : Int) : N1 n m0 (m1 + 1) t0_0 t0_1 t0_2 t3 t4 =
  bif decide (t4 < (6 : Int)) then
   bif decide (t3 ≥ (IntKind.wrap .i64 t0_0)) then
    bif decide (((0 : Int) ≤ t3) ∧ (t3 < (6 : Int))) then
    bif decide (((0 : Int) ≤ t4) ∧ (t4 < (6 : Int))) then
     bif ((List.getD t0_2 ((0 + ((Int.toNat t3) * 6)) + ((Int.toNat t4) * 1)) (0 : Int)) != (0 : Int)) then
       some (.bool false, [])
      else
       N1 n m0 m1 t0_0 t0_1 t0_2 t3 (IntKind.wrap .i64 (t4 + (1 : Int)))
     else none
    else none
   else
    bif decide (t4 ≥ (IntKind.wrap .i64 t0_1)) then
     bif decide (((0 : Int) ≤ t3) ∧ (t3 < (6 : Int))) then
     bif decide (((0 : Int) ≤ t4) ∧ (t4 < (6 : Int))) then
      bif ((List.getD t0_2 ((0 + ((Int.toNat t3) * 6)) + ((Int.toNat t4) * 1)) (0 : Int)) != (0 : Int)) then
        some (.bool false, [])
       else
        N1 n m0 m1 t0_0 t0_1 t0_2 t3 (IntKind.wrap .i64 (t4 + (1 : Int)))
      else none
     else none
    else
     N1 n m0 m1 t0_0 t0_1 t0_2 t3 (IntKind.wrap .i64 (t4 + (1 : Int)))
  else
   N0 n m0 (IntKind.wrap .i64 (t3 + (1 : Int))) t0_0 t0_1 t0_2 := by kernel_rfl
noncomputable def R (n : Nat) (r : Int) (c : Int) (l : List Int) : Res := run (E n) n Try.f52 L (us r c l) (HA r c l) k0
theorem R_eq (n : Nat) (r : Int) (c : Int) (l : List Int) : R n r c l =
  pif (True) (
  bif (!(inB (IntKind.wrap .i64 r) (1 : Int) (6 : Int))) then
   some (.bool false, [])
  else
   pif (True) (
   bif (!(inB (IntKind.wrap .i64 c) (1 : Int) (6 : Int))) then
    some (.bool false, [])
   else
    N0 n n (0 : Int) r c l)) := by kernel_rfl
theorem ans {n : Nat} {r : Int} {c : Int} {l : List Int} (hA : Sounds Try.prog (A n)) {u : U} {H : Heap} (h : R n r c l = some (u, H)) : Answers Try.prog 52 (us r c l) (HA r c l) u H := answers_env tabOk mixed hA Try.func52 (by kernel_rfl) (by kernel_rfl) h
end S_ok

namespace I_rowCode
abbrev num : Nat := 49
noncomputable def A (n : Nat) : List (Nat × Con) := ((fun (n : Nat) => ([(59, CValid), (60, CIn)] : List (Nat × Con)))) n
noncomputable abbrev E (n : Nat) : Env (U × Heap) := envC tab ios (A n)
def L : List (List Nat) := []
abbrev us (r : Int) (c : Int) (l : List Int) (x : Int) (y : Int) : List U := (((fun (r c : Int) (l : List Int) (x y : Int) => (([.agg [.int .i8 r, .int .i8 c, .vec .u16 36 l], .int .i64 x, .int .i64 y] : List U), ([] : Heap)))) r c l x y).1
abbrev HA (r : Int) (c : Int) (l : List Int) (x : Int) (y : Int) : Heap := (((fun (r c : Int) (l : List Int) (x y : Int) => (([.agg [.int .i8 r, .int .i8 c, .vec .u16 36 l], .int .i64 x, .int .i64 y] : List U), ([] : Heap)))) r c l x y).2
noncomputable def R (n : Nat) (r : Int) (c : Int) (l : List Int) (x : Int) (y : Int) : Res := run (E n) n Try.f49 L (us r c l x y) (HA r c l x y) k0
theorem R_eq (n : Nat) (r : Int) (c : Int) (l : List Int) (x : Int) (y : Int) : R n r c l x y =
  pif ((Mat r c l)) (
  bif (!(valid r c l)) then
   some (.int .i64 (1 : Int), [])
  else
   pif (True) (
   bif (!(inB x (0 : Int) (IntKind.wrap .i64 ((IntKind.wrap .i64 r) - (1 : Int))))) then
    some (.int .i64 (2 : Int), [])
   else
    pif (True) (
    bif (!(inB y (0 : Int) (IntKind.wrap .i64 ((IntKind.wrap .i64 r) - (1 : Int))))) then
     some (.int .i64 (2 : Int), [])
    else
     some (.int .i64 (0 : Int), [])))) := by kernel_rfl
theorem ans {n : Nat} {r : Int} {c : Int} {l : List Int} {x : Int} {y : Int} (hA : Sounds Try.prog (A n)) {u : U} {H : Heap} (h : R n r c l x y = some (u, H)) : Answers Try.prog 49 (us r c l x y) (HA r c l x y) u H := answers_env tabOk mixed hA Try.func49 (by kernel_rfl) (by kernel_rfl) h
end I_rowCode

namespace S_row
abbrev num : Nat := 46
noncomputable def A (n : Nat) : List (Nat × Con) := ((fun (n : Nat) => ([(52, COk), (56, CIn)] : List (Nat × Con)))) n
noncomputable abbrev E (n : Nat) : Env (U × Heap) := envC tab ios (A n)
def L : List (List Nat) := []
abbrev us (r : Int) (c : Int) (l : List Int) (x : Int) (y : Int) : List U := (((fun (r c : Int) (l : List Int) (x y : Int) => (([.rptr [.int .i8 r, .int .i8 c, .vec .u16 36 l] 0 1, .int .i64 x, .int .i64 y] : List U), ([] : Heap)))) r c l x y).1
abbrev HA (r : Int) (c : Int) (l : List Int) (x : Int) (y : Int) : Heap := (((fun (r c : Int) (l : List Int) (x y : Int) => (([.rptr [.int .i8 r, .int .i8 c, .vec .u16 36 l] 0 1, .int .i64 x, .int .i64 y] : List U), ([] : Heap)))) r c l x y).2
noncomputable def R (n : Nat) (r : Int) (c : Int) (l : List Int) (x : Int) (y : Int) : Res := run (E n) n Try.f46 L (us r c l x y) (HA r c l x y) k0
theorem R_eq (n : Nat) (r : Int) (c : Int) (l : List Int) (x : Int) (y : Int) : R n r c l x y =
  pif ((Mat r c l)) (
  bif (!(valid r c l)) then
   some (.int .i64 (1 : Int), [])
  else
   pif (True) (
   bif (!(inB x (0 : Int) (IntKind.wrap .i64 ((IntKind.wrap .i64 r) - (1 : Int))))) then
    some (.int .i64 (2 : Int), [])
   else
    pif (True) (
    bif (!(inB y (0 : Int) (IntKind.wrap .i64 ((IntKind.wrap .i64 r) - (1 : Int))))) then
     some (.int .i64 (2 : Int), [])
    else
     some (.int .i64 (0 : Int), [])))) := by kernel_rfl
theorem ans {n : Nat} {r : Int} {c : Int} {l : List Int} {x : Int} {y : Int} (hA : Sounds Try.prog (A n)) {u : U} {H : Heap} (h : R n r c l x y = some (u, H)) : Answers Try.prog 46 (us r c l x y) (HA r c l x y) u H := answers_env tabOk mixed hA Try.func46 (by kernel_rfl) (by kernel_rfl) h
end S_row

namespace S_add
abbrev num : Nat := 47
noncomputable def A (n : Nat) : List (Nat × Con) := ((fun (n : Nat) => ([(72, CMul)] : List (Nat × Con)))) n
noncomputable abbrev E (n : Nat) : Env (U × Heap) := envC tab ios (A n)
def L : List (List Nat) := [[8, 3, 1, 0, 2]]
abbrev us (r : Int) (c : Int) (l : List Int) (x : Int) (y : Int) (z : Int) : List U := (((fun (r c : Int) (l : List Int) (x y z : Int) => (([.ptr 0 0 0 0 1, .int .i64 x, .int .i64 y, .int .u16 z] : List U), ([(0, ⟨[.ints .i8 [r], .ints .i8 [c], .vecs .u16 36 [l]], true⟩)] : Heap)))) r c l x y z).1
abbrev HA (r : Int) (c : Int) (l : List Int) (x : Int) (y : Int) (z : Int) : Heap := (((fun (r c : Int) (l : List Int) (x y z : Int) => (([.ptr 0 0 0 0 1, .int .i64 x, .int .i64 y, .int .u16 z] : List U), ([(0, ⟨[.ints .i8 [r], .ints .i8 [c], .vecs .u16 36 [l]], true⟩)] : Heap)))) r c l x y z).2
def S0 (t8 : Int) (t3 : Int) (t1 : Int) (t2 : Int) (o0_0 : Int) (o0_1 : Int) (o0_2 : List Int) : St := ⟨[(8, .int .i64 t8), (3, .int .u16 t3), (1, .int .i64 t1), (0, .ptr 0 0 0 0 1), (2, .int .i64 t2)], 44, [(0, ⟨[.ints .i8 [o0_0], .ints .i8 [o0_1], .vecs .u16 36 [o0_2]], true⟩)], [0], 1⟩
noncomputable def N0 (n : Nat)  (m0 : Nat) (t8 : Int) (t3 : Int) (t1 : Int) (t2 : Int) (o0_0 : Int) (o0_1 : Int) (o0_2 : List Int) : Res := nodeRun (E n) n Try.f47 L k0 [true, false] [] m0 (S0 t8 t3 t1 t2 o0_0 o0_1 o0_2)
theorem N0_succ (n : Nat)  (m0 : Nat) (t8 : Int) (t3 : Int) (t1 : Int) (t2 : Int) (o0_0 : Int) (o0_1 : Int) (o0_2 : List Int) : N0 n  (m0 + 1) t8 t3 t1 t2 o0_0 o0_1 o0_2 =
  bif decide (t8 < (IntKind.wrap .i64 o0_1)) then
   bif decide (((0 : Int) ≤ t2) ∧ (t2 < (6 : Int))) then
   bif decide (((0 : Int) ≤ t8) ∧ (t8 < (6 : Int))) then
    bif decide (((0 : Int) ≤ t1) ∧ (t1 < (6 : Int))) then
     bif decide (((0 : Int) ≤ t8) ∧ (t8 < (6 : Int))) then
      bif decide (((0 : Int) ≤ t2) ∧ (t2 < (6 : Int))) then
       pif (((u16 (List.getD o0_2 ((0 + ((Int.toNat t1) * 6)) + ((Int.toNat t8) * 1)) (0 : Int))) ∧ (u16 t3))) (
        bif decide (((0 : Int) ≤ t8) ∧ (t8 < (6 : Int))) then
        N0 n m0 (IntKind.wrap .i64 (t8 + (1 : Int))) t3 t1 t2 o0_0 o0_1 (List.set o0_2 ((0 + ((Int.toNat t2) * 6)) + ((Int.toNat t8) * 1)) (intBitsV .xor .u16 (List.getD o0_2 ((0 + ((Int.toNat t2) * 6)) + ((Int.toNat t8) * 1)) (0 : Int)) (mulI (List.getD o0_2 ((0 + ((Int.toNat t1) * 6)) + ((Int.toNat t8) * 1)) (0 : Int)) t3)))
        else none)
       else none
      else none
     else none
    else none
   else none
  else
   some (.tup [], [(0, ⟨[.ints .i8 [o0_0], .ints .i8 [o0_1], .vecs .u16 36 [o0_2]], true⟩)]) := by kernel_rfl
noncomputable def R (n : Nat) (r : Int) (c : Int) (l : List Int) (x : Int) (y : Int) (z : Int) : Res := run (E n) n Try.f47 L (us r c l x y z) (HA r c l x y z) k0
theorem R_eq (n : Nat) (r : Int) (c : Int) (l : List Int) (x : Int) (y : Int) (z : Int) : R n r c l x y z =
  N0 n n (0 : Int) z x y r c l := by kernel_rfl
theorem ans {n : Nat} {r : Int} {c : Int} {l : List Int} {x : Int} {y : Int} {z : Int} (hA : Sounds Try.prog (A n)) {u : U} {H : Heap} (h : R n r c l x y z = some (u, H)) : Answers Try.prog 47 (us r c l x y z) (HA r c l x y z) u H := answers_env tabOk mixed hA Try.func47 (by kernel_rfl) (by kernel_rfl) h
end S_add

namespace S_swap
abbrev num : Nat := 78
noncomputable def A (n : Nat) : List (Nat × Con) := ((fun (n : Nat) => ([] : List (Nat × Con)))) n
noncomputable abbrev E (n : Nat) : Env (U × Heap) := envC tab ios (A n)
def L : List (List Nat) := []
abbrev us (r : Int) (c : Int) (l : List Int) (x : Int) (y : Int) : List U := (((fun (r c : Int) (l : List Int) (x y : Int) => (([.ptr 0 0 0 0 1, .int .i64 x, .int .i64 y] : List U), ([(0, ⟨[.ints .i8 [r], .ints .i8 [c], .vecs .u16 36 [l]], true⟩)] : Heap)))) r c l x y).1
abbrev HA (r : Int) (c : Int) (l : List Int) (x : Int) (y : Int) : Heap := (((fun (r c : Int) (l : List Int) (x y : Int) => (([.ptr 0 0 0 0 1, .int .i64 x, .int .i64 y] : List U), ([(0, ⟨[.ints .i8 [r], .ints .i8 [c], .vecs .u16 36 [l]], true⟩)] : Heap)))) r c l x y).2
noncomputable def R (n : Nat) (r : Int) (c : Int) (l : List Int) (x : Int) (y : Int) : Res := run (E n) n Try.f78 L (us r c l x y) (HA r c l x y) k0
theorem R_eq (n : Nat) (r : Int) (c : Int) (l : List Int) (x : Int) (y : Int) : R n r c l x y =
  bif decide (((0 : Int) ≤ x) ∧ (x < (6 : Int))) then
  bif decide (((0 : Int) ≤ y) ∧ (y < (6 : Int))) then
   bif decide (((0 : Int) ≤ x) ∧ (x < (6 : Int))) then
    bif decide (((0 : Int) ≤ y) ∧ (y < (6 : Int))) then
     some (.tup [], [(0, ⟨[.ints .i8 [r], .ints .i8 [c], .vecs .u16 36 [(putRow (0 + ((Int.toNat y) * 6)) 6 (getRow (0 + ((Int.toNat x) * 6)) 6 l) (putRow (0 + ((Int.toNat x) * 6)) 6 (getRow (0 + ((Int.toNat y) * 6)) 6 l) l))]], true⟩)])
     else none
    else none
   else none
  else none := by kernel_rfl
theorem ans {n : Nat} {r : Int} {c : Int} {l : List Int} {x : Int} {y : Int} (hA : Sounds Try.prog (A n)) {u : U} {H : Heap} (h : R n r c l x y = some (u, H)) : Answers Try.prog 78 (us r c l x y) (HA r c l x y) u H := answers_env tabOk mixed hA Try.func78 (by kernel_rfl) (by kernel_rfl) h
end S_swap

namespace I_addRow
abbrev num : Nat := 15
noncomputable def A (n : Nat) : List (Nat × Con) := ((fun (n : Nat) => ([(49, CRow), (50, CMul)] : List (Nat × Con)))) n
noncomputable abbrev E (n : Nat) : Env (U × Heap) := envC tab ios (A n)
def L : List (List Nat) := [[8, 4, 29, 3, 1, 2, 28]]
abbrev us (r : Int) (c : Int) (l : List Int) (x : Int) (y : Int) (z : Int) : List U := (((fun (r c : Int) (l : List Int) (x y z : Int) => (([.agg [.int .i8 r, .int .i8 c, .vec .u16 36 l], .int .i64 x, .int .i64 y, .int .u16 z] : List U), ([] : Heap)))) r c l x y z).1
abbrev HA (r : Int) (c : Int) (l : List Int) (x : Int) (y : Int) (z : Int) : Heap := (((fun (r c : Int) (l : List Int) (x y z : Int) => (([.agg [.int .i8 r, .int .i8 c, .vec .u16 36 l], .int .i64 x, .int .i64 y, .int .u16 z] : List U), ([] : Heap)))) r c l x y z).2
def S0 (t29 : Int) (t3 : Int) (t1 : Int) (t2 : Int) (t28 : Int) (o0_0 : Int) (o0_1 : Int) (o0_2 : List Int) (o1_0 : Int) (o1_1 : Int) (o1_2 : List Int) : St := ⟨[(8, .ptr 0 0 0 0 1), (4, .ptr 1 0 0 0 1), (29, .int .i8 t29), (3, .int .u16 t3), (1, .int .i64 t1), (2, .int .i64 t2), (28, .int .i8 t28)], 52, [(0, ⟨[.ints .i8 [o0_0], .ints .i8 [o0_1], .vecs .u16 36 [o0_2]], true⟩), (1, ⟨[.ints .i8 [o1_0], .ints .i8 [o1_1], .vecs .u16 36 [o1_2]], true⟩)], [0, 1], 0⟩
noncomputable def N0 (n : Nat)  (m0 : Nat) (t29 : Int) (t3 : Int) (t1 : Int) (t2 : Int) (t28 : Int) (o0_0 : Int) (o0_1 : Int) (o0_2 : List Int) (o1_0 : Int) (o1_1 : Int) (o1_2 : List Int) : Res := nodeRun (E n) n Try.f15 L k0 [true, true, true, true, false, true, false] [] m0 (S0 t29 t3 t1 t2 t28 o0_0 o0_1 o0_2 o1_0 o1_1 o1_2)
theorem N0_succ (n : Nat)  (m0 : Nat) (t29 : Int) (t3 : Int) (t1 : Int) (t2 : Int) (t28 : Int) (o0_0 : Int) (o0_1 : Int) (o0_2 : List Int) (o1_0 : Int) (o1_1 : Int) (o1_2 : List Int) : N0 n  (m0 + 1) t29 t3 t1 t2 t28 o0_0 o0_1 o0_2 o1_0 o1_1 o1_2 =
  bif decide (t29 < t28) then
   bif decide (((0 : Int) ≤ t2) ∧ (t2 < (6 : Int))) then
   bif decide (((0 : Int) ≤ t29) ∧ (t29 < (6 : Int))) then
    bif decide (((0 : Int) ≤ t1) ∧ (t1 < (6 : Int))) then
     bif decide (((0 : Int) ≤ t29) ∧ (t29 < (6 : Int))) then
      bif decide (((0 : Int) ≤ t2) ∧ (t2 < (6 : Int))) then
       pif (((u16 (List.getD o1_2 ((0 + ((Int.toNat t1) * 6)) + ((Int.toNat t29) * 1)) (0 : Int))) ∧ (u16 t3))) (
        bif decide (((0 : Int) ≤ t29) ∧ (t29 < (6 : Int))) then
        N0 n m0 (IntKind.wrap .i8 (t29 + (1 : Int))) t3 t1 t2 t28 o0_0 o0_1 o0_2 o1_0 o1_1 (List.set o1_2 ((0 + ((Int.toNat t2) * 6)) + ((Int.toNat t29) * 1)) (intBitsV .xor .u16 (List.getD o1_2 ((0 + ((Int.toNat t2) * 6)) + ((Int.toNat t29) * 1)) (0 : Int)) (mulI (List.getD o1_2 ((0 + ((Int.toNat t1) * 6)) + ((Int.toNat t29) * 1)) (0 : Int)) t3)))
        else none)
       else none
      else none
     else none
    else none
   else none
  else
   some (.tup [.agg [.int .i8 o1_0, .int .i8 o1_1, .vec .u16 36 o1_2], .int .i64 (0 : Int)], []) := by kernel_rfl
noncomputable def R (n : Nat) (r : Int) (c : Int) (l : List Int) (x : Int) (y : Int) (z : Int) : Res := run (E n) n Try.f15 L (us r c l x y z) (HA r c l x y z) k0
theorem R_eq (n : Nat) (r : Int) (c : Int) (l : List Int) (x : Int) (y : Int) (z : Int) : R n r c l x y z =
  pif ((Mat r c l)) (
  bif ((rowC r c l x y) == (0 : Int)) then
   bif (x == y) then
    some (.tup [.agg [.int .i8 (0 : Int), .int .i8 (0 : Int), .vec .u16 36 (List.replicate 36 (0 : Int))], .int .i64 (4 : Int)], [])
   else
    bif ((rowC r c l x y) != (0 : Int)) then
     some (.tup [.agg [.int .i8 (0 : Int), .int .i8 (0 : Int), .vec .u16 36 (List.replicate 36 (0 : Int))], .int .i64 (rowC r c l x y)], [])
    else
     N0 n n (0 : Int) z x y c (0 : Int) (0 : Int) (List.replicate 36 (0 : Int)) r c l
  else
   bif ((rowC r c l x y) != (0 : Int)) then
    some (.tup [.agg [.int .i8 (0 : Int), .int .i8 (0 : Int), .vec .u16 36 (List.replicate 36 (0 : Int))], .int .i64 (rowC r c l x y)], [])
   else
    N0 n n (0 : Int) z x y c (0 : Int) (0 : Int) (List.replicate 36 (0 : Int)) r c l) := by kernel_rfl
theorem ans {n : Nat} {r : Int} {c : Int} {l : List Int} {x : Int} {y : Int} {z : Int} (hA : Sounds Try.prog (A n)) {u : U} {H : Heap} (h : R n r c l x y z = some (u, H)) : Answers Try.prog 15 (us r c l x y z) (HA r c l x y z) u H := answers_env tabOk mixed hA Try.func15 (by kernel_rfl) (by kernel_rfl) h
end I_addRow

namespace S_addRow
abbrev num : Nat := 13
noncomputable def A (n : Nat) : List (Nat × Con) := ((fun (n : Nat) => ([(46, CSRow), (47, CAdd)] : List (Nat × Con)))) n
noncomputable abbrev E (n : Nat) : Env (U × Heap) := envC tab ios (A n)
def L : List (List Nat) := []
abbrev us (r : Int) (c : Int) (l : List Int) (x : Int) (y : Int) (z : Int) : List U := (((fun (r c : Int) (l : List Int) (x y z : Int) => (([.agg [.int .i8 r, .int .i8 c, .vec .u16 36 l], .int .i64 x, .int .i64 y, .int .u16 z] : List U), ([] : Heap)))) r c l x y z).1
abbrev HA (r : Int) (c : Int) (l : List Int) (x : Int) (y : Int) (z : Int) : Heap := (((fun (r c : Int) (l : List Int) (x y z : Int) => (([.agg [.int .i8 r, .int .i8 c, .vec .u16 36 l], .int .i64 x, .int .i64 y, .int .u16 z] : List U), ([] : Heap)))) r c l x y z).2
noncomputable def R (n : Nat) (r : Int) (c : Int) (l : List Int) (x : Int) (y : Int) (z : Int) : Res := run (E n) n Try.f13 L (us r c l x y z) (HA r c l x y z) k0
theorem R_eq (n : Nat) (r : Int) (c : Int) (l : List Int) (x : Int) (y : Int) (z : Int) : R n r c l x y z =
  pif ((Mat r c l)) (
  bif ((rowC r c l x y) == (0 : Int)) then
   bif (x == y) then
    some (.tup [.agg [.int .i8 (0 : Int), .int .i8 (0 : Int), .vec .u16 36 (List.replicate 36 (0 : Int))], .int .i64 (4 : Int)], [])
   else
    bif ((rowC r c l x y) != (0 : Int)) then
     some (.tup [.agg [.int .i8 (0 : Int), .int .i8 (0 : Int), .vec .u16 36 (List.replicate 36 (0 : Int))], .int .i64 (rowC r c l x y)], [])
    else
     pif (((Mat r c l) ∧ ((inRow x) ∧ ((inRow y) ∧ ((c ≤ (6 : Int)) ∧ (u16 z)))))) (
     some (.tup [.agg [.int .i8 r, .int .i8 c, .vec .u16 36 (addTo (Int.toNat x) (Int.toNat y) z (Int.toNat c) 0 l)], .int .i64 (0 : Int)], []))
  else
   bif ((rowC r c l x y) != (0 : Int)) then
    some (.tup [.agg [.int .i8 (0 : Int), .int .i8 (0 : Int), .vec .u16 36 (List.replicate 36 (0 : Int))], .int .i64 (rowC r c l x y)], [])
   else
    pif (((Mat r c l) ∧ ((inRow x) ∧ ((inRow y) ∧ ((c ≤ (6 : Int)) ∧ (u16 z)))))) (
    some (.tup [.agg [.int .i8 r, .int .i8 c, .vec .u16 36 (addTo (Int.toNat x) (Int.toNat y) z (Int.toNat c) 0 l)], .int .i64 (0 : Int)], []))) := by kernel_rfl
theorem ans {n : Nat} {r : Int} {c : Int} {l : List Int} {x : Int} {y : Int} {z : Int} (hA : Sounds Try.prog (A n)) {u : U} {H : Heap} (h : R n r c l x y z = some (u, H)) : Answers Try.prog 13 (us r c l x y z) (HA r c l x y z) u H := answers_env tabOk mixed hA Try.func13 (by kernel_rfl) (by kernel_rfl) h
end S_addRow

namespace L_nim6
abbrev num : Nat := 73
noncomputable def A (n : Nat) : List (Nat × Con) := ((fun (n : Nat) => ([] : List (Nat × Con)))) n
noncomputable abbrev E (n : Nat) : Env (U × Heap) := envC tab ios (A n)
def L : List (List Nat) := [[2, 3, 4, 1]]
abbrev us (l : List Int) : List U := (((fun (l : List Int) => (([.agg [.vec .u16 6 l]] : List U), ([] : Heap)))) l).1
abbrev HA (l : List Int) : Heap := (((fun (l : List Int) => (([.agg [.vec .u16 6 l]] : List U), ([] : Heap)))) l).2
def S0 (t4 : Int) (o0_0 : List Int) (o1_0 : List Int) (o2_0 : List Int) : St := ⟨[(2, .ptr 0 0 0 0 6), (3, .ptr 1 0 0 0 6), (4, .int .i64 t4), (1, .ptr 2 0 0 0 6)], 15, [(0, ⟨[.vecs .u16 6 [o0_0]], true⟩), (1, ⟨[.vecs .u16 6 [o1_0]], true⟩), (2, ⟨[.vecs .u16 6 [o2_0]], true⟩)], [0, 1, 2], 0⟩
noncomputable def N0 (n : Nat)  (m0 : Nat) (t4 : Int) (o0_0 : List Int) (o1_0 : List Int) (o2_0 : List Int) : Res := nodeRun (E n) n Try.f73 L k0 [true, true, false, true, false] [] m0 (S0 t4 o0_0 o1_0 o2_0)
theorem N0_succ (n : Nat)  (m0 : Nat) (t4 : Int) (o0_0 : List Int) (o1_0 : List Int) (o2_0 : List Int) : N0 n  (m0 + 1) t4 o0_0 o1_0 o2_0 =
  bif decide (t4 < (6 : Int)) then
   bif decide (((0 : Int) ≤ t4) ∧ (t4 < (6 : Int))) then
   bif decide (((0 : Int) ≤ t4) ∧ (t4 < (6 : Int))) then
    N0 n m0 (IntKind.wrap .i64 (t4 + (1 : Int))) o0_0 (List.set o1_0 (0 + ((Int.toNat t4) * 1)) (List.getD o2_0 (0 + ((Int.toNat t4) * 1)) (0 : Int))) o2_0
    else none
   else none
  else
   some (.agg [.vec .u16 6 o1_0], []) := by kernel_rfl
noncomputable def R (n : Nat) (l : List Int) : Res := run (E n) n Try.f73 L (us l) (HA l) k0
theorem R_eq (n : Nat) (l : List Int) : R n l =
  N0 n n (0 : Int) (List.replicate 6 (0 : Int)) (List.replicate 6 (0 : Int)) l := by kernel_rfl
theorem ans {n : Nat} {l : List Int} (hA : Sounds Try.prog (A n)) {u : U} {H : Heap} (h : R n l = some (u, H)) : Answers Try.prog 73 (us l) (HA l) u H := answers_env tabOk mixed hA Try.func73 (by kernel_rfl) (by kernel_rfl) h
end L_nim6

namespace L_nim66
abbrev num : Nat := 48
noncomputable def A (n : Nat) : List (Nat × Con) := ((fun (n : Nat) => ([(73, CNim6)] : List (Nat × Con)))) n
noncomputable abbrev E (n : Nat) : Env (U × Heap) := envC tab ios (A n)
def L : List (List Nat) := [[2, 3, 4, 1]]
abbrev us (l : List Int) : List U := (((fun (l : List Int) => (([.agg [.vec .u16 36 l]] : List U), ([] : Heap)))) l).1
abbrev HA (l : List Int) : Heap := (((fun (l : List Int) => (([.agg [.vec .u16 36 l]] : List U), ([] : Heap)))) l).2
def S0 (t4 : Int) (o0_0 : List Int) (o1_0 : List Int) (o2_0 : List Int) : St := ⟨[(2, .ptr 0 0 0 0 36), (3, .ptr 1 0 0 0 36), (4, .int .i64 t4), (1, .ptr 2 0 0 0 36)], 16, [(0, ⟨[.vecs .u16 36 [o0_0]], true⟩), (1, ⟨[.vecs .u16 36 [o1_0]], true⟩), (2, ⟨[.vecs .u16 36 [o2_0]], true⟩)], [0, 1, 2], 0⟩
noncomputable def N0 (n : Nat)  (m0 : Nat) (t4 : Int) (o0_0 : List Int) (o1_0 : List Int) (o2_0 : List Int) : Res := nodeRun (E n) n Try.f48 L k0 [true, true, false, true, false] [] m0 (S0 t4 o0_0 o1_0 o2_0)
theorem N0_succ (n : Nat)  (m0 : Nat) (t4 : Int) (o0_0 : List Int) (o1_0 : List Int) (o2_0 : List Int) : N0 n  (m0 + 1) t4 o0_0 o1_0 o2_0 =
  bif decide (t4 < (6 : Int)) then
   bif decide (((0 : Int) ≤ t4) ∧ (t4 < (6 : Int))) then
   pif ((Vec (getRow (0 + ((Int.toNat t4) * 6)) 6 o2_0))) (
    bif decide (((0 : Int) ≤ t4) ∧ (t4 < (6 : Int))) then
    N0 n m0 (IntKind.wrap .i64 (t4 + (1 : Int))) o0_0 (putRow (0 + ((Int.toNat t4) * 6)) 6 (getRow (0 + ((Int.toNat t4) * 6)) 6 o2_0) o1_0) o2_0
    else none)
   else none
  else
   some (.agg [.vec .u16 36 o1_0], []) := by kernel_rfl
noncomputable def R (n : Nat) (l : List Int) : Res := run (E n) n Try.f48 L (us l) (HA l) k0
theorem R_eq (n : Nat) (l : List Int) : R n l =
  N0 n n (0 : Int) (List.replicate 36 (0 : Int)) (List.replicate 36 (0 : Int)) l := by kernel_rfl
theorem ans {n : Nat} {l : List Int} (hA : Sounds Try.prog (A n)) {u : U} {H : Heap} (h : R n l = some (u, H)) : Answers Try.prog 48 (us l) (HA l) u H := answers_env tabOk mixed hA Try.func48 (by kernel_rfl) (by kernel_rfl) h
end L_nim66

namespace L_toMatrix
abbrev num : Nat := 14
noncomputable def A (n : Nat) : List (Nat × Con) := ((fun (n : Nat) => ([(48, CNim66)] : List (Nat × Con)))) n
noncomputable abbrev E (n : Nat) : Env (U × Heap) := envC tab ios (A n)
def L : List (List Nat) := []
abbrev us (r : Int) (c : Int) (l : List Int) : List U := (((fun (r c : Int) (l : List Int) => (([.agg [.int .i8 r, .int .i8 c, .vec .u16 36 l]] : List U), ([] : Heap)))) r c l).1
abbrev HA (r : Int) (c : Int) (l : List Int) : Heap := (((fun (r c : Int) (l : List Int) => (([.agg [.int .i8 r, .int .i8 c, .vec .u16 36 l]] : List U), ([] : Heap)))) r c l).2
noncomputable def R (n : Nat) (r : Int) (c : Int) (l : List Int) : Res := run (E n) n Try.f14 L (us r c l) (HA r c l) k0
theorem R_eq (n : Nat) (r : Int) (c : Int) (l : List Int) : R n r c l =
  pif ((Vec36 l)) (
  some (.agg [.int .i8 r, .int .i8 c, .vec .u16 36 l], [])) := by kernel_rfl
theorem ans {n : Nat} {r : Int} {c : Int} {l : List Int} (hA : Sounds Try.prog (A n)) {u : U} {H : Heap} (h : R n r c l = some (u, H)) : Answers Try.prog 14 (us r c l) (HA r c l) u H := answers_env tabOk mixed hA Try.func14 (by kernel_rfl) (by kernel_rfl) h
end L_toMatrix

namespace L_eq6
abbrev num : Nat := 75
noncomputable def A (n : Nat) : List (Nat × Con) := ((fun (n : Nat) => ([] : List (Nat × Con)))) n
noncomputable abbrev E (n : Nat) : Env (U × Heap) := envC tab ios (A n)
def L : List (List Nat) := [[5, 3, 2]]
abbrev us (l : List Int) (l' : List Int) : List U := (((fun (l l' : List Int) => (([.agg [.vec .u16 6 l], .agg [.vec .u16 6 l']] : List U), ([] : Heap)))) l l').1
abbrev HA (l : List Int) (l' : List Int) : Heap := (((fun (l l' : List Int) => (([.agg [.vec .u16 6 l], .agg [.vec .u16 6 l']] : List U), ([] : Heap)))) l l').2
def S0 (t5 : Int) (o0_0 : List Int) (o1_0 : List Int) : St := ⟨[(5, .int .i64 t5), (3, .ptr 0 0 0 0 6), (2, .ptr 1 0 0 0 6)], 17, [(0, ⟨[.vecs .u16 6 [o0_0]], true⟩), (1, ⟨[.vecs .u16 6 [o1_0]], true⟩)], [0, 1], 0⟩
noncomputable def N0 (n : Nat)  (m0 : Nat) (t5 : Int) (o0_0 : List Int) (o1_0 : List Int) : Res := nodeRun (E n) n Try.f75 L k0 [true, false, true, false] [] m0 (S0 t5 o0_0 o1_0)
theorem N0_succ (n : Nat)  (m0 : Nat) (t5 : Int) (o0_0 : List Int) (o1_0 : List Int) : N0 n  (m0 + 1) t5 o0_0 o1_0 =
  bif decide (t5 < (6 : Int)) then
   bif decide (((0 : Int) ≤ t5) ∧ (t5 < (6 : Int))) then
   bif decide (((0 : Int) ≤ t5) ∧ (t5 < (6 : Int))) then
    bif ((List.getD o1_0 (0 + ((Int.toNat t5) * 1)) (0 : Int)) != (List.getD o0_0 (0 + ((Int.toNat t5) * 1)) (0 : Int))) then
      some (.bool false, [])
     else
      N0 n m0 (IntKind.wrap .i64 (t5 + (1 : Int))) o0_0 o1_0
    else none
   else none
  else
   some (.bool true, []) := by kernel_rfl
noncomputable def R (n : Nat) (l : List Int) (l' : List Int) : Res := run (E n) n Try.f75 L (us l l') (HA l l') k0
theorem R_eq (n : Nat) (l : List Int) (l' : List Int) : R n l l' =
  N0 n n (0 : Int) l' l := by kernel_rfl
theorem ans {n : Nat} {l : List Int} {l' : List Int} (hA : Sounds Try.prog (A n)) {u : U} {H : Heap} (h : R n l l' = some (u, H)) : Answers Try.prog 75 (us l l') (HA l l') u H := answers_env tabOk mixed hA Try.func75 (by kernel_rfl) (by kernel_rfl) h
end L_eq6

namespace L_eq66
abbrev num : Nat := 51
noncomputable def A (n : Nat) : List (Nat × Con) := ((fun (n : Nat) => ([(75, CEq6)] : List (Nat × Con)))) n
noncomputable abbrev E (n : Nat) : Env (U × Heap) := envC tab ios (A n)
def L : List (List Nat) := [[5, 3, 2]]
abbrev us (l : List Int) (l' : List Int) : List U := (((fun (l l' : List Int) => (([.agg [.vec .u16 36 l], .agg [.vec .u16 36 l']] : List U), ([] : Heap)))) l l').1
abbrev HA (l : List Int) (l' : List Int) : Heap := (((fun (l l' : List Int) => (([.agg [.vec .u16 36 l], .agg [.vec .u16 36 l']] : List U), ([] : Heap)))) l l').2
def S0 (t5 : Int) (o0_0 : List Int) (o1_0 : List Int) : St := ⟨[(5, .int .i64 t5), (3, .ptr 0 0 0 0 36), (2, .ptr 1 0 0 0 36)], 18, [(0, ⟨[.vecs .u16 36 [o0_0]], true⟩), (1, ⟨[.vecs .u16 36 [o1_0]], true⟩)], [0, 1], 0⟩
noncomputable def N0 (n : Nat)  (m0 : Nat) (t5 : Int) (o0_0 : List Int) (o1_0 : List Int) : Res := nodeRun (E n) n Try.f51 L k0 [true, false, true, false] [] m0 (S0 t5 o0_0 o1_0)
theorem N0_succ (n : Nat)  (m0 : Nat) (t5 : Int) (o0_0 : List Int) (o1_0 : List Int) : N0 n  (m0 + 1) t5 o0_0 o1_0 =
  bif decide (t5 < (6 : Int)) then
   bif decide (((0 : Int) ≤ t5) ∧ (t5 < (6 : Int))) then
   bif decide (((0 : Int) ≤ t5) ∧ (t5 < (6 : Int))) then
    pif ((((List.length (getRow (0 + ((Int.toNat t5) * 6)) 6 o1_0)) = 6) ∧ ((List.length (getRow (0 + ((Int.toNat t5) * 6)) 6 o0_0)) = 6))) (
     bif (!((getRow (0 + ((Int.toNat t5) * 6)) 6 o1_0) == (getRow (0 + ((Int.toNat t5) * 6)) 6 o0_0))) then
      some (.bool false, [])
     else
      N0 n m0 (IntKind.wrap .i64 (t5 + (1 : Int))) o0_0 o1_0)
    else none
   else none
  else
   some (.bool true, []) := by kernel_rfl
noncomputable def R (n : Nat) (l : List Int) (l' : List Int) : Res := run (E n) n Try.f51 L (us l l') (HA l l') k0
theorem R_eq (n : Nat) (l : List Int) (l' : List Int) : R n l l' =
  N0 n n (0 : Int) l' l := by kernel_rfl
theorem ans {n : Nat} {l : List Int} {l' : List Int} (hA : Sounds Try.prog (A n)) {u : U} {H : Heap} (h : R n l l' = some (u, H)) : Answers Try.prog 51 (us l l') (HA l l') u H := answers_env tabOk mixed hA Try.func51 (by kernel_rfl) (by kernel_rfl) h
end L_eq66

namespace L_eqMatrix
abbrev num : Nat := 16
noncomputable def A (n : Nat) : List (Nat × Con) := ((fun (n : Nat) => ([(51, CEq66)] : List (Nat × Con)))) n
noncomputable abbrev E (n : Nat) : Env (U × Heap) := envC tab ios (A n)
def L : List (List Nat) := []
abbrev us (r : Int) (c : Int) (l : List Int) (r' : Int) (c' : Int) (l' : List Int) : List U := (((fun (r c : Int) (l : List Int) (r' c' : Int) (l' : List Int) => (([.agg [.int .i8 r, .int .i8 c, .vec .u16 36 l], .agg [.int .i8 r', .int .i8 c', .vec .u16 36 l']] : List U), ([] : Heap)))) r c l r' c' l').1
abbrev HA (r : Int) (c : Int) (l : List Int) (r' : Int) (c' : Int) (l' : List Int) : Heap := (((fun (r c : Int) (l : List Int) (r' c' : Int) (l' : List Int) => (([.agg [.int .i8 r, .int .i8 c, .vec .u16 36 l], .agg [.int .i8 r', .int .i8 c', .vec .u16 36 l']] : List U), ([] : Heap)))) r c l r' c' l').2
noncomputable def R (n : Nat) (r : Int) (c : Int) (l : List Int) (r' : Int) (c' : Int) (l' : List Int) : Res := run (E n) n Try.f16 L (us r c l r' c' l') (HA r c l r' c' l') k0
theorem R_eq (n : Nat) (r : Int) (c : Int) (l : List Int) (r' : Int) (c' : Int) (l' : List Int) : R n r c l r' c' l' =
  bif (r != r') then
   some (.bool false, [])
  else
   bif (c != c') then
    some (.bool false, [])
   else
    pif ((((List.length l) = 36) ∧ ((List.length l') = 36))) (
    bif (!(l == l')) then
     some (.bool false, [])
    else
     some (.bool true, [])) := by kernel_rfl
theorem ans {n : Nat} {r : Int} {c : Int} {l : List Int} {r' : Int} {c' : Int} {l' : List Int} (hA : Sounds Try.prog (A n)) {u : U} {H : Heap} (h : R n r c l r' c' l' = some (u, H)) : Answers Try.prog 16 (us r c l r' c' l') (HA r c l r' c' l') u H := answers_env tabOk mixed hA Try.func16 (by kernel_rfl) (by kernel_rfl) h
end L_eqMatrix

namespace L_AddRow
abbrev num : Nat := 3
noncomputable def A (n : Nat) : List (Nat × Con) := ((fun (n : Nat) => ([(13, CAddRow), (15, CAddRow), (14, CToMat), (16, CEqMat)] : List (Nat × Con)))) n
noncomputable abbrev E (n : Nat) : Env (U × Heap) := envC tab ios (A n)
def L : List (List Nat) := []
abbrev us (r : Int) (c : Int) (l : List Int) (x : Int) (y : Int) (z : Int) : List U := (((fun (r c : Int) (l : List Int) (x y z : Int) => (([.agg [.int .i8 r, .int .i8 c, .vec .u16 36 l], .int .i64 x, .int .i64 y, .int .u16 z] : List U), ([] : Heap)))) r c l x y z).1
abbrev HA (r : Int) (c : Int) (l : List Int) (x : Int) (y : Int) (z : Int) : Heap := (((fun (r c : Int) (l : List Int) (x y z : Int) => (([.agg [.int .i8 r, .int .i8 c, .vec .u16 36 l], .int .i64 x, .int .i64 y, .int .u16 z] : List U), ([] : Heap)))) r c l x y z).2
noncomputable def R (n : Nat) (r : Int) (c : Int) (l : List Int) (x : Int) (y : Int) (z : Int) : Res := run (E n) n Try.f3 L (us r c l x y z) (HA r c l x y z) k0
theorem R_eq (n : Nat) (r : Int) (c : Int) (l : List Int) (x : Int) (y : Int) (z : Int) : R n r c l x y z =
  pif ((Mat r c l)) (
  pif (((Mat r c l) ∧ (u16 z))) (
  pif ((Mat r c l)) (
  pif (((Mat r c l) ∧ (u16 z))) (
  pif ((((List.length (okL (addRowC r c l x y) (addTo (Int.toNat x) (Int.toNat y) z (Int.toNat c) 0 l))) = 36) ∧ ((List.length (okL (addRowC r c l x y) (addTo (Int.toNat x) (Int.toNat y) z (Int.toNat c) 0 l))) = 36))) (
  bif (!((((okR (addRowC r c l x y) r) == (okR (addRowC r c l x y) r)) && ((okR (addRowC r c l x y) c) == (okR (addRowC r c l x y) c))) && ((okL (addRowC r c l x y) (addTo (Int.toNat x) (Int.toNat y) z (Int.toNat c) 0 l)) == (okL (addRowC r c l x y) (addTo (Int.toNat x) (Int.toNat y) z (Int.toNat c) 0 l))))) then
   some (.bool false, [])
  else
   bif ((addRowC r c l x y) != (addRowC r c l x y)) then
    some (.bool false, [])
   else
    some (.bool true, [])))))) := by kernel_rfl
theorem ans {n : Nat} {r : Int} {c : Int} {l : List Int} {x : Int} {y : Int} {z : Int} (hA : Sounds Try.prog (A n)) {u : U} {H : Heap} (h : R n r c l x y z = some (u, H)) : Answers Try.prog 3 (us r c l x y z) (HA r c l x y z) u H := answers_env tabOk mixed hA Try.func3 (by kernel_rfl) (by kernel_rfl) h
end L_AddRow

end Go.VM

