/- Written by a program of this session (Lift.lean): what the evaluator comes to, function by function; the kernel checks it. The conditions: those of the contracts. -/
import Derived.Test.YtblhjcolknooeaaVmP4
import Derived.Test.YtblhjcolknooeaaMatT
import Derived.Test.YtblhjcolknooeaaMatTS
import Derived.Test.YtblhjcolknooeaaSolvLConM
import Derived.KernelRfl
set_option linter.unusedVariables false
set_option linter.unusedSimpArgs false
set_option linter.unusedSectionVars false
namespace Go.VM
open Go Go.Proofs Go.Fn NimF
set_option linter.unusedVariables false
set_option maxRecDepth 100000
namespace S_kerT
abbrev num : Nat := 31
noncomputable def A (n : Nat) : List (Nat × Con) := ((fun (n : Nat) => ([(52, COk), (63, CRed)] : List (Nat × Con)))) n
noncomputable abbrev E (n : Nat) : Env (U × Heap) := envC tab ios (A n)
def L : List (List Nat) := [[5, 7, 1, 4, 6], [1, 4, 6, 7, 8, 5, 9]]
abbrev us (r : Int) (c : Int) (l : List Int) : List U := (((fun (r c : Int) (l : List Int) => (([.agg [.int .i8 r, .int .i8 c, .vec .u16 36 l]] : List U), ([] : Heap)))) r c l).1
abbrev HA (r : Int) (c : Int) (l : List Int) : Heap := (((fun (r c : Int) (l : List Int) => (([.agg [.int .i8 r, .int .i8 c, .vec .u16 36 l]] : List U), ([] : Heap)))) r c l).2
def S0 (t7 : Int) (t6 : Int) (o0_0 : List (List Int)) (o1_0 : Int) (o1_1 : Int) (o1_2 : List Int) (o2_0 : List Int) : St := ⟨[(5, .own 0), (7, .int .i64 t7), (1, .ptr 1 0 0 0 1), (4, .own 2), (6, .int .i64 t6)], 61, [(0, ⟨[.vecs .u16 6 o0_0], true⟩), (1, ⟨[.ints .i8 [o1_0], .ints .i8 [o1_1], .vecs .u16 36 [o1_2]], true⟩), (2, ⟨[.ints .i64 o2_0], true⟩)], [0, 1, 2], 0⟩
noncomputable def N0 (n : Nat)  (m0 : Nat) (t7 : Int) (t6 : Int) (o0_0 : List (List Int)) (o1_0 : Int) (o1_1 : Int) (o1_2 : List Int) (o2_0 : List Int) : Res := nodeRun (E n) n Try.f31 L k0 [true, true, true, true, true, false, true, false] [] m0 (S0 t7 t6 o0_0 o1_0 o1_1 o1_2 o2_0)
def S1 (t6 : Int) (t7 : Int) (t9 : Int) (o0_0 : Int) (o0_1 : Int) (o0_2 : List Int) (o1_0 : List Int) (o2_0 : List Int) (o3_0 : List (List Int)) : St := ⟨[(1, .ptr 0 0 0 0 1), (4, .own 1), (6, .int .i64 t6), (7, .int .i64 t7), (8, .ptr 2 0 0 0 6), (5, .own 3), (9, .int .i64 t9)], 61, [(0, ⟨[.ints .i8 [o0_0], .ints .i8 [o0_1], .vecs .u16 36 [o0_2]], true⟩), (1, ⟨[.ints .i64 o1_0], true⟩), (2, ⟨[.vecs .u16 6 [o2_0]], true⟩), (3, ⟨[.vecs .u16 6 o3_0], true⟩)], [0, 1, 2, 3], 0⟩
noncomputable def N1 (n : Nat) (m0 : Nat) (m1 : Nat) (t6 : Int) (t7 : Int) (t9 : Int) (o0_0 : Int) (o0_1 : Int) (o0_2 : List Int) (o1_0 : List Int) (o2_0 : List Int) (o3_0 : List (List Int)) : Res := nodeRun (E n) n Try.f31 L k0 [true, true, true, true, true, false, true, false, false, true, false, false, true, true, true, false, true, false] [m0] m1 (S1 t6 t7 t9 o0_0 o0_1 o0_2 o1_0 o2_0 o3_0)
theorem N0_succ (n : Nat)  (m0 : Nat) (t7 : Int) (t6 : Int) (o0_0 : List (List Int)) (o1_0 : Int) (o1_1 : Int) (o1_2 : List Int) (o2_0 : List Int) : N0 n  (m0 + 1) t7 t6 o0_0 o1_0 o1_1 o1_2 o2_0 =
  bif decide (t7 < (IntKind.wrap .i64 o1_1)) then
   bif decide (t6 < (((List.length o2_0) : Nat) : Int)) then
    bif decide (((0 : Int) ≤ t6) ∧ (t6 < (((List.length o2_0) : Nat) : Int))) then
    bif ((List.getD o2_0 (Int.toNat t6) (0 : Int)) == t7) then
      N0 n m0 (IntKind.wrap .i64 (t7 + (1 : Int))) (IntKind.wrap .i64 (t6 + (1 : Int))) o0_0 o1_0 o1_1 o1_2 o2_0
     else
      bif decide (((0 : Int) ≤ t7) ∧ (t7 < (6 : Int))) then
      N1 n m0 n t6 t7 (0 : Int) o1_0 o1_1 o1_2 o2_0 (List.set (List.replicate 6 (0 : Int)) (0 + ((Int.toNat t7) * 1)) (1 : Int)) o0_0
      else none
    else none
   else
    bif decide (((0 : Int) ≤ t7) ∧ (t7 < (6 : Int))) then
    N1 n m0 n t6 t7 (0 : Int) o1_0 o1_1 o1_2 o2_0 (List.set (List.replicate 6 (0 : Int)) (0 + ((Int.toNat t7) * 1)) (1 : Int)) o0_0
    else none
  else
   some (.tup [.own 0, .int .i64 (0 : Int)], [(0, ⟨[.vecs .u16 6 o0_0], true⟩)]) := by kernel_rfl
theorem N1_succ (n : Nat) (m0 : Nat) (m1 : Nat) (t6 : Int) (t7 : Int) (t9 : Int) (o0_0 : Int) (o0_1 : Int) (o0_2 : List Int) (o1_0 : List Int) (o2_0 : List Int) (o3_0 : List (List Int)) : N1 n m0 (m1 + 1) t6 t7 t9 o0_0 o0_1 o0_2 o1_0 o2_0 o3_0 =
  bif decide (t9 < (((List.length o1_0) : Nat) : Int)) then
   bif decide (((0 : Int) ≤ t9) ∧ (t9 < (((List.length o1_0) : Nat) : Int))) then
   bif decide (((0 : Int) ≤ t9) ∧ (t9 < (6 : Int))) then
    bif decide (((0 : Int) ≤ t7) ∧ (t7 < (6 : Int))) then
     bif decide (((0 : Int) ≤ (List.getD o1_0 (Int.toNat t9) (0 : Int))) ∧ ((List.getD o1_0 (Int.toNat t9) (0 : Int)) < (6 : Int))) then
      N1 n m0 m1 t6 t7 (IntKind.wrap .i64 (t9 + (1 : Int))) o0_0 o0_1 o0_2 o1_0 (List.set o2_0 (0 + ((Int.toNat (List.getD o1_0 (Int.toNat t9) (0 : Int))) * 1)) (List.getD o0_2 ((0 + ((Int.toNat t9) * 6)) + ((Int.toNat t7) * 1)) (0 : Int))) o3_0
      else none
     else none
    else none
   else none
  else
   bif decide ((((List.length o3_0) + 1) * 6) ≤ 4398046511104) then
   N0 n m0 (IntKind.wrap .i64 (t7 + (1 : Int))) t6 (o3_0 ++ [o2_0]) o0_0 o0_1 o0_2 o1_0
   else none := by kernel_rfl
noncomputable def R (n : Nat) (r : Int) (c : Int) (l : List Int) : Res := run (E n) n Try.f31 L (us r c l) (HA r c l) k0
theorem R_eq (n : Nat) (r : Int) (c : Int) (l : List Int) : R n r c l =
  pif ((Mat r c l)) (
  bif (!(valid r c l)) then
   some (.tup [.own 0, .int .i64 (1 : Int)], [(0, ⟨[.vecs .u16 6 []], true⟩)])
  else
   pif ((inMat r c l)) (
   N0 n n (0 : Int) (0 : Int) [] r c (redL (Int.toNat r) (Int.toNat c) l zeros) (redF (Int.toNat r) (Int.toNat c) l))) := by kernel_rfl
theorem ans {n : Nat} {r : Int} {c : Int} {l : List Int} (hA : Sounds Try.prog (A n)) {u : U} {H : Heap} (h : R n r c l = some (u, H)) : Answers Try.prog 31 (us r c l) (HA r c l) u H := answers_env tabOk mixed hA Try.func31 (by kernel_rfl) (by kernel_rfl) h
end S_kerT

namespace I_kerT
abbrev num : Nat := 32
noncomputable def A (n : Nat) : List (Nat × Con) := ((fun (n : Nat) => ([(59, CValid), (55, CReduced)] : List (Nat × Con)))) n
noncomputable abbrev E (n : Nat) : Env (U × Heap) := envC tab ios (A n)
def L : List (List Nat) := [[8, 28, 4, 6, 27], [8, 4, 6, 27, 28, 10, 11, 9, 34, 32, 33]]
abbrev us (r : Int) (c : Int) (l : List Int) : List U := (((fun (r c : Int) (l : List Int) => (([.agg [.int .i8 r, .int .i8 c, .vec .u16 36 l]] : List U), ([] : Heap)))) r c l).1
abbrev HA (r : Int) (c : Int) (l : List Int) : Heap := (((fun (r c : Int) (l : List Int) => (([.agg [.int .i8 r, .int .i8 c, .vec .u16 36 l]] : List U), ([] : Heap)))) r c l).2
def S0 (t28 : Int) (t27 : Int) (o0_0 : List (List Int)) (o1_0 : Int) (o1_1 : Int) (o1_2 : List Int) (o2_0 : List Int) : St := ⟨[(8, .own 0), (28, .int .i8 t28), (4, .ptr 1 0 0 0 1), (6, .own 2), (27, .int .i8 t27)], 63, [(0, ⟨[.vecs .u16 6 o0_0], true⟩), (1, ⟨[.ints .i8 [o1_0], .ints .i8 [o1_1], .vecs .u16 36 [o1_2]], true⟩), (2, ⟨[.ints .i8 o2_0], true⟩)], [0, 1, 2], 0⟩
noncomputable def N0 (n : Nat)  (m0 : Nat) (t28 : Int) (t27 : Int) (o0_0 : List (List Int)) (o1_0 : Int) (o1_1 : Int) (o1_2 : List Int) (o2_0 : List Int) : Res := nodeRun (E n) n Try.f32 L k0 [true, true, true, true, false, true, false] [] m0 (S0 t28 t27 o0_0 o1_0 o1_1 o1_2 o2_0)
def S1 (t27 : Int) (t28 : Int) (t11 : Bool) (t9 : Int) (t34 : Int) (t33 : Int) (o0_0 : List (List Int)) (o1_0 : Int) (o1_1 : Int) (o1_2 : List Int) (o2_0 : List Int) (o3_0 : List Int) : St := ⟨[(8, .own 0), (4, .ptr 1 0 0 0 1), (6, .own 2), (27, .int .i8 t27), (28, .int .i8 t28), (10, .ptr 3 0 0 0 6), (11, .bool t11), (9, .int .i8 t9), (34, .int .i64 t34), (32, .own 2), (33, .int .i64 t33)], 63, [(0, ⟨[.vecs .u16 6 o0_0], true⟩), (1, ⟨[.ints .i8 [o1_0], .ints .i8 [o1_1], .vecs .u16 36 [o1_2]], true⟩), (2, ⟨[.ints .i8 o2_0], true⟩), (3, ⟨[.vecs .u16 6 [o3_0]], true⟩)], [0, 1, 2, 3], 0⟩
noncomputable def N1 (n : Nat) (m0 : Nat) (m1 : Nat) (t27 : Int) (t28 : Int) (t11 : Bool) (t9 : Int) (t34 : Int) (t33 : Int) (o0_0 : List (List Int)) (o1_0 : Int) (o1_1 : Int) (o1_2 : List Int) (o2_0 : List Int) (o3_0 : List Int) : Res := nodeRun (E n) n Try.f32 L k0 [true, true, true, true, false, true, false, false, true, true, false, false, true, true, false, true, false] [m0] m1 (S1 t27 t28 t11 t9 t34 t33 o0_0 o1_0 o1_1 o1_2 o2_0 o3_0)
theorem N0_succ (n : Nat)  (m0 : Nat) (t28 : Int) (t27 : Int) (o0_0 : List (List Int)) (o1_0 : Int) (o1_1 : Int) (o1_2 : List Int) (o2_0 : List Int) : N0 n  (m0 + 1) t28 t27 o0_0 o1_0 o1_1 o1_2 o2_0 =
  bif decide (t28 < t27) then
   N1 n m0 n t27 t28 true t28 (0 : Int) (((List.length o2_0) : Nat) : Int) o0_0 o1_0 o1_1 o1_2 o2_0 (List.replicate 6 (0 : Int))
  else
   some (.tup [.own 0, .int .i64 (0 : Int)], [(0, ⟨[.vecs .u16 6 o0_0], true⟩)]) := by kernel_rfl
theorem N1_succ (n : Nat) (m0 : Nat) (m1 : Nat) (t27 : Int) (t28 : Int) (t11 : Bool) (t9 : Int) (t34 : Int) (t33 : Int) (o0_0 : List (List Int)) (o1_0 : Int) (o1_1 : Int) (o1_2 : List Int) (o2_0 : List Int) (o3_0 : List Int) : N1 n m0 (m1 + 1) t27 t28 t11 t9 t34 t33 o0_0 o1_0 o1_1 o1_2 o2_0 o3_0 =
  bif decide (t34 < t33) then
   bif decide (((0 : Int) ≤ t34) ∧ (t34 < (((List.length o2_0) : Nat) : Int))) then
   bif t11 then
     bif decide (((0 : Int) ≤ t34) ∧ (t34 < (6 : Int))) then
     bif decide (((0 : Int) ≤ t9) ∧ (t9 < (6 : Int))) then
      bif decide (((0 : Int) ≤ (List.getD o2_0 (Int.toNat t34) (0 : Int))) ∧ ((List.getD o2_0 (Int.toNat t34) (0 : Int)) < (6 : Int))) then
       N1 n m0 m1 t27 t28 ((List.getD o2_0 (Int.toNat t34) (0 : Int)) != t9) t9 (IntKind.wrap .i64 (t34 + (1 : Int))) t33 o0_0 o1_0 o1_1 o1_2 o2_0 (List.set o3_0 (0 + ((Int.toNat (List.getD o2_0 (Int.toNat t34) (0 : Int))) * 1)) (List.getD o1_2 ((0 + ((Int.toNat t34) * 6)) + ((Int.toNat t9) * 1)) (0 : Int)))
       else none
      else none
     else none
    else
     bif decide (((0 : Int) ≤ t34) ∧ (t34 < (6 : Int))) then
     bif decide (((0 : Int) ≤ t9) ∧ (t9 < (6 : Int))) then
      bif decide (((0 : Int) ≤ (List.getD o2_0 (Int.toNat t34) (0 : Int))) ∧ ((List.getD o2_0 (Int.toNat t34) (0 : Int)) < (6 : Int))) then
       N1 n m0 m1 t27 t28 false t9 (IntKind.wrap .i64 (t34 + (1 : Int))) t33 o0_0 o1_0 o1_1 o1_2 o2_0 (List.set o3_0 (0 + ((Int.toNat (List.getD o2_0 (Int.toNat t34) (0 : Int))) * 1)) (List.getD o1_2 ((0 + ((Int.toNat t34) * 6)) + ((Int.toNat t9) * 1)) (0 : Int)))
       else none
      else none
     else none
   else none
  else
   bif decide (((0 : Int) ≤ t9) ∧ (t9 < (6 : Int))) then
   bif t11 then
     bif decide ((((List.length o0_0) + 1) * 6) ≤ 4398046511104) then
     N0 n m0 (IntKind.wrap .i8 (t28 + (1 : Int))) t27 (o0_0 ++ [(List.set o3_0 (0 + ((Int.toNat t9) * 1)) (1 : Int))]) o1_0 o1_1 o1_2 o2_0
     else none
    else
     N0 n m0 (IntKind.wrap .i8 (t28 + (1 : Int))) t27 o0_0 o1_0 o1_1 o1_2 o2_0
   else none := by kernel_rfl
noncomputable def R (n : Nat) (r : Int) (c : Int) (l : List Int) : Res := run (E n) n Try.f32 L (us r c l) (HA r c l) k0
theorem R_eq (n : Nat) (r : Int) (c : Int) (l : List Int) : R n r c l =
  pif ((Mat r c l)) (
  bif (!(valid r c l)) then
   some (.tup [.nils, .int .i64 (1 : Int)], [])
  else
   pif (((inMat r c l) ∧ (Vec36 (List.replicate 36 (0 : Int))))) (
   N0 n n (0 : Int) c [] r c (redL (Int.toNat r) (Int.toNat c) l (List.replicate 36 (0 : Int))) (redF (Int.toNat r) (Int.toNat c) l))) := by kernel_rfl
theorem ans {n : Nat} {r : Int} {c : Int} {l : List Int} (hA : Sounds Try.prog (A n)) {u : U} {H : Heap} (h : R n r c l = some (u, H)) : Answers Try.prog 32 (us r c l) (HA r c l) u H := answers_env tabOk mixed hA Try.func32 (by kernel_rfl) (by kernel_rfl) h
end I_kerT

namespace L_eqVecs
abbrev num : Nat := 33
noncomputable def A (n : Nat) : List (Nat × Con) := ((fun (n : Nat) => ([(30, CEqVec)] : List (Nat × Con)))) n
noncomputable abbrev E (n : Nat) : Env (U × Heap) := envC tab ios (A n)
def L : List (List Nat) := [[5, 1, 0]]
abbrev us (L1 : List (List Int)) (L2 : List (List Int)) (n1 : Nat) (n2 : Nat) : List U := (((fun (L1 L2 : List (List Int)) (n1 n2 : Nat) => (([.rsl [.vecs .u16 6 L1] n1, .rsl [.vecs .u16 6 L2] n2] : List U), ([] : Heap)))) L1 L2 n1 n2).1
abbrev HA (L1 : List (List Int)) (L2 : List (List Int)) (n1 : Nat) (n2 : Nat) : Heap := (((fun (L1 L2 : List (List Int)) (n1 n2 : Nat) => (([.rsl [.vecs .u16 6 L1] n1, .rsl [.vecs .u16 6 L2] n2] : List U), ([] : Heap)))) L1 L2 n1 n2).2
def S0 (t5 : Int) (t1_0 : List (List Int)) (t1n : Nat) (t0_0 : List (List Int)) (t0n : Nat) : St := ⟨[(5, .int .i64 t5), (1, .rsl [.vecs .u16 6 t1_0] t1n), (0, .rsl [.vecs .u16 6 t0_0] t0n)], 27, [], [], 0⟩
noncomputable def N0 (n : Nat)  (m0 : Nat) (t5 : Int) (t1_0 : List (List Int)) (t1n : Nat) (t0_0 : List (List Int)) (t0n : Nat) : Res := nodeRun (E n) n Try.f33 L k0 [true, true, false, true, false] [] m0 (S0 t5 t1_0 t1n t0_0 t0n)
theorem N0_succ (n : Nat)  (m0 : Nat) (t5 : Int) (t1_0 : List (List Int)) (t1n : Nat) (t0_0 : List (List Int)) (t0n : Nat) : N0 n  (m0 + 1) t5 t1_0 t1n t0_0 t0n =
  bif decide (t5 < ((t0n : Nat) : Int)) then
   bif decide (((0 : Int) ≤ t5) ∧ (t5 < ((t0n : Nat) : Int))) then
   bif decide (((0 : Int) ≤ t5) ∧ (t5 < ((t1n : Nat) : Int))) then
    pif ((((List.length (List.getD t0_0 (Int.toNat t5) [])) = 6) ∧ ((List.length (List.getD t1_0 (Int.toNat t5) [])) = 6))) (
     bif (!((List.getD t0_0 (Int.toNat t5) []) == (List.getD t1_0 (Int.toNat t5) []))) then
      some (.bool false, [])
     else
      N0 n m0 (IntKind.wrap .i64 (t5 + (1 : Int))) t1_0 t1n t0_0 t0n)
    else none
   else none
  else
   some (.bool true, []) := by kernel_rfl
noncomputable def R (n : Nat) (L1 : List (List Int)) (L2 : List (List Int)) (n1 : Nat) (n2 : Nat) : Res := run (E n) n Try.f33 L (us L1 L2 n1 n2) (HA L1 L2 n1 n2) k0
theorem R_eq (n : Nat) (L1 : List (List Int)) (L2 : List (List Int)) (n1 : Nat) (n2 : Nat) : R n L1 L2 n1 n2 =
  bif (((n1 : Nat) : Int) != ((n2 : Nat) : Int)) then
   some (.bool false, [])
  else
   N0 n n (0 : Int) L2 n2 L1 n1 := by kernel_rfl
theorem ans {n : Nat} {L1 : List (List Int)} {L2 : List (List Int)} {n1 : Nat} {n2 : Nat} (hA : Sounds Try.prog (A n)) {u : U} {H : Heap} (h : R n L1 L2 n1 n2 = some (u, H)) : Answers Try.prog 33 (us L1 L2 n1 n2) (HA L1 L2 n1 n2) u H := answers_env tabOk mixed hA Try.func33 (by kernel_rfl) (by kernel_rfl) h
end L_eqVecs

namespace L_eqVecsN
abbrev num : Nat := 33
noncomputable def A (n : Nat) : List (Nat × Con) := ((fun (n : Nat) => ([(30, CEqVec)] : List (Nat × Con)))) n
noncomputable abbrev E (n : Nat) : Env (U × Heap) := envC tab ios (A n)
def L : List (List Nat) := [[5, 1, 0]]
abbrev us (L2 : List (List Int)) (n2 : Nat) : List U := (((fun (L2 : List (List Int)) (n2 : Nat) => (([.nils, .rsl [.vecs .u16 6 L2] n2] : List U), ([] : Heap)))) L2 n2).1
abbrev HA (L2 : List (List Int)) (n2 : Nat) : Heap := (((fun (L2 : List (List Int)) (n2 : Nat) => (([.nils, .rsl [.vecs .u16 6 L2] n2] : List U), ([] : Heap)))) L2 n2).2
def S0 (t5 : Int) (t1_0 : List (List Int)) (t1n : Nat) : St := ⟨[(5, .int .i64 t5), (1, .rsl [.vecs .u16 6 t1_0] t1n), (0, .nils)], 27, [], [], 0⟩
noncomputable def N0 (n : Nat)  (m0 : Nat) (t5 : Int) (t1_0 : List (List Int)) (t1n : Nat) : Res := nodeRun (E n) n Try.f33 L k0 [true, true, false, true, false] [] m0 (S0 t5 t1_0 t1n)
theorem N0_succ (n : Nat)  (m0 : Nat) (t5 : Int) (t1_0 : List (List Int)) (t1n : Nat) : N0 n  (m0 + 1) t5 t1_0 t1n =
  bif decide (t5 < (0 : Int)) then
   none
  else
   some (.bool true, []) := by kernel_rfl
noncomputable def R (n : Nat) (L2 : List (List Int)) (n2 : Nat) : Res := run (E n) n Try.f33 L (us L2 n2) (HA L2 n2) k0
theorem R_eq (n : Nat) (L2 : List (List Int)) (n2 : Nat) : R n L2 n2 =
  bif ((0 : Int) != ((n2 : Nat) : Int)) then
   some (.bool false, [])
  else
   N0 n n (0 : Int) L2 n2 := by kernel_rfl
theorem ans {n : Nat} {L2 : List (List Int)} {n2 : Nat} (hA : Sounds Try.prog (A n)) {u : U} {H : Heap} (h : R n L2 n2 = some (u, H)) : Answers Try.prog 33 (us L2 n2) (HA L2 n2) u H := answers_env tabOk mixed hA Try.func33 (by kernel_rfl) (by kernel_rfl) h
end L_eqVecsN

namespace L_mark
abbrev num : Nat := 34
noncomputable def A (n : Nat) : List (Nat × Con) := ((fun (n : Nat) => ([] : List (Nat × Con)))) n
noncomputable abbrev E (n : Nat) : Env (U × Heap) := envC tab ios (A n)
def L : List (List Nat) := [[1, 5, 0], [1, 0, 5, 6]]
abbrev us (L1 : List (List Int)) (k : Int) : List U := (((fun (L1 : List (List Int)) (k : Int) => (([.own 0, .int .i64 k] : List U), ([(0, ⟨[.vecs .u16 6 L1], true⟩)] : Heap)))) L1 k).1
abbrev HA (L1 : List (List Int)) (k : Int) : Heap := (((fun (L1 : List (List Int)) (k : Int) => (([.own 0, .int .i64 k] : List U), ([(0, ⟨[.vecs .u16 6 L1], true⟩)] : Heap)))) L1 k).2
def S0 (t1 : Int) (t5 : Int) (o0_0 : List (List Int)) : St := ⟨[(1, .int .i64 t1), (5, .int .i64 t5), (0, .own 0)], 27, [(0, ⟨[.vecs .u16 6 o0_0], true⟩)], [0], 1⟩
noncomputable def N0 (n : Nat)  (m0 : Nat) (t1 : Int) (t5 : Int) (o0_0 : List (List Int)) : Res := nodeRun (E n) n Try.f34 L k0 [true, false, true, false] [] m0 (S0 t1 t5 o0_0)
def S1 (t1 : Int) (t5 : Int) (t6 : Int) (o0_0 : List (List Int)) : St := ⟨[(1, .int .i64 t1), (0, .own 0), (5, .int .i64 t5), (6, .int .i64 t6)], 27, [(0, ⟨[.vecs .u16 6 o0_0], true⟩)], [0], 1⟩
noncomputable def N1 (n : Nat) (m0 : Nat) (m1 : Nat) (t1 : Int) (t5 : Int) (t6 : Int) (o0_0 : List (List Int)) : Res := nodeRun (E n) n Try.f34 L k0 [true, false, true, false, false, true, false, false, true, false] [m0] m1 (S1 t1 t5 t6 o0_0)
theorem N0_succ (n : Nat)  (m0 : Nat) (t1 : Int) (t5 : Int) (o0_0 : List (List Int)) : N0 n  (m0 + 1) t1 t5 o0_0 =
  bif decide (t5 < (((List.length o0_0) : Nat) : Int)) then
   N1 n m0 n t1 t5 (0 : Int) o0_0
  else
   some (.int .i64 t1, [(0, ⟨[.vecs .u16 6 o0_0], true⟩)]) := by kernel_rfl
theorem N1_succ (n : Nat) (m0 : Nat) (m1 : Nat) (t1 : Int) (t5 : Int) (t6 : Int) (o0_0 : List (List Int)) : N1 n m0 (m1 + 1) t1 t5 t6 o0_0 =
  bif decide (t6 < (6 : Int)) then
   bif decide (((0 : Int) ≤ t5) ∧ (t5 < (((List.length o0_0) : Nat) : Int))) then
   bif decide (((0 : Int) ≤ t6) ∧ (t6 < (6 : Int))) then
    N1 n m0 m1 (IntKind.wrap .i64 (t1 + (1 : Int))) t5 (IntKind.wrap .i64 (t6 + (1 : Int))) (List.set o0_0 (Int.toNat t5) (List.set (List.getD o0_0 (Int.toNat t5) []) (0 + ((Int.toNat t6) * 1)) (IntKind.wrap .u16 t1)))
    else none
   else none
  else
   N0 n m0 t1 (IntKind.wrap .i64 (t5 + (1 : Int))) o0_0 := by kernel_rfl
noncomputable def R (n : Nat) (L1 : List (List Int)) (k : Int) : Res := run (E n) n Try.f34 L (us L1 k) (HA L1 k) k0
theorem R_eq (n : Nat) (L1 : List (List Int)) (k : Int) : R n L1 k =
  N0 n n k (0 : Int) L1 := by kernel_rfl
theorem ans {n : Nat} {L1 : List (List Int)} {k : Int} (hA : Sounds Try.prog (A n)) {u : U} {H : Heap} (h : R n L1 k = some (u, H)) : Answers Try.prog 34 (us L1 k) (HA L1 k) u H := answers_env tabOk mixed hA Try.func34 (by kernel_rfl) (by kernel_rfl) h
end L_mark

namespace L_markN
abbrev num : Nat := 34
noncomputable def A (n : Nat) : List (Nat × Con) := ((fun (n : Nat) => ([] : List (Nat × Con)))) n
noncomputable abbrev E (n : Nat) : Env (U × Heap) := envC tab ios (A n)
def L : List (List Nat) := [[1, 5, 0], [1, 0, 5, 6]]
abbrev us (k : Int) : List U := (((fun (k : Int) => (([.nils, .int .i64 k] : List U), ([] : Heap)))) k).1
abbrev HA (k : Int) : Heap := (((fun (k : Int) => (([.nils, .int .i64 k] : List U), ([] : Heap)))) k).2
def S0 (t1 : Int) (t5 : Int) : St := ⟨[(1, .int .i64 t1), (5, .int .i64 t5), (0, .nils)], 27, [], [], 0⟩
noncomputable def N0 (n : Nat)  (m0 : Nat) (t1 : Int) (t5 : Int) : Res := nodeRun (E n) n Try.f34 L k0 [true, false, true, false] [] m0 (S0 t1 t5)
def S1 (t1 : Int) (t5 : Int) (t6 : Int) : St := ⟨[(1, .int .i64 t1), (0, .nils), (5, .int .i64 t5), (6, .int .i64 t6)], 27, [], [], 0⟩
noncomputable def N1 (n : Nat) (m0 : Nat) (m1 : Nat) (t1 : Int) (t5 : Int) (t6 : Int) : Res := nodeRun (E n) n Try.f34 L k0 [true, false, true, false, false, true, false, false, true, false] [m0] m1 (S1 t1 t5 t6)
theorem N0_succ (n : Nat)  (m0 : Nat) (t1 : Int) (t5 : Int) : N0 n  (m0 + 1) t1 t5 =
  bif decide (t5 < (0 : Int)) then
   N1 n m0 n t1 t5 (0 : Int)
  else
   some (.int .i64 t1, []) := by kernel_rfl
theorem N1_succ (n : Nat) (m0 : Nat) (m1 : Nat) (t1 : Int) (t5 : Int) (t6 : Int) : N1 n m0 (m1 + 1) t1 t5 t6 =
  bif decide (t6 < (6 : Int)) then
   none
  else
   N0 n m0 t1 (IntKind.wrap .i64 (t5 + (1 : Int))) := by kernel_rfl
noncomputable def R (n : Nat) (k : Int) : Res := run (E n) n Try.f34 L (us k) (HA k) k0
theorem R_eq (n : Nat) (k : Int) : R n k =
  N0 n n k (0 : Int) := by kernel_rfl
theorem ans {n : Nat} {k : Int} (hA : Sounds Try.prog (A n)) {u : U} {H : Heap} (h : R n k = some (u, H)) : Answers Try.prog 34 (us k) (HA k) u H := answers_env tabOk mixed hA Try.func34 (by kernel_rfl) (by kernel_rfl) h
end L_markN

namespace L_held
abbrev num : Nat := 35
noncomputable def A (n : Nat) : List (Nat × Con) := ((fun (n : Nat) => ([] : List (Nat × Con)))) n
noncomputable abbrev E (n : Nat) : Env (U × Heap) := envC tab ios (A n)
def L : List (List Nat) := [[1, 5, 0], [1, 0, 5, 6]]
abbrev us (L1 : List (List Int)) (n1 : Nat) (k : Int) : List U := (((fun (L1 : List (List Int)) (n1 : Nat) (k : Int) => (([.rsl [.vecs .u16 6 L1] n1, .int .i64 k] : List U), ([] : Heap)))) L1 n1 k).1
abbrev HA (L1 : List (List Int)) (n1 : Nat) (k : Int) : Heap := (((fun (L1 : List (List Int)) (n1 : Nat) (k : Int) => (([.rsl [.vecs .u16 6 L1] n1, .int .i64 k] : List U), ([] : Heap)))) L1 n1 k).2
def S0 (t1 : Int) (t5 : Int) (t0_0 : List (List Int)) (t0n : Nat) : St := ⟨[(1, .int .i64 t1), (5, .int .i64 t5), (0, .rsl [.vecs .u16 6 t0_0] t0n)], 29, [], [], 0⟩
noncomputable def N0 (n : Nat)  (m0 : Nat) (t1 : Int) (t5 : Int) (t0_0 : List (List Int)) (t0n : Nat) : Res := nodeRun (E n) n Try.f35 L k0 [true, false, true, false] [] m0 (S0 t1 t5 t0_0 t0n)
def S1 (t1 : Int) (t0_0 : List (List Int)) (t0n : Nat) (t5 : Int) (t6 : Int) : St := ⟨[(1, .int .i64 t1), (0, .rsl [.vecs .u16 6 t0_0] t0n), (5, .int .i64 t5), (6, .int .i64 t6)], 29, [], [], 0⟩
noncomputable def N1 (n : Nat) (m0 : Nat) (m1 : Nat) (t1 : Int) (t0_0 : List (List Int)) (t0n : Nat) (t5 : Int) (t6 : Int) : Res := nodeRun (E n) n Try.f35 L k0 [true, false, true, false, false, true, false, false, true, false] [m0] m1 (S1 t1 t0_0 t0n t5 t6)
theorem N0_succ (n : Nat)  (m0 : Nat) (t1 : Int) (t5 : Int) (t0_0 : List (List Int)) (t0n : Nat) : N0 n  (m0 + 1) t1 t5 t0_0 t0n =
  bif decide (t5 < ((t0n : Nat) : Int)) then
   N1 n m0 n t1 t0_0 t0n t5 (0 : Int)
  else
   some (.int .i64 t1, []) := by kernel_rfl
theorem N1_succ (n : Nat) (m0 : Nat) (m1 : Nat) (t1 : Int) (t0_0 : List (List Int)) (t0n : Nat) (t5 : Int) (t6 : Int) : N1 n m0 (m1 + 1) t1 t0_0 t0n t5 t6 =
  bif decide (t6 < (6 : Int)) then
   bif decide (((0 : Int) ≤ t5) ∧ (t5 < ((t0n : Nat) : Int))) then
   bif decide (((0 : Int) ≤ t6) ∧ (t6 < (6 : Int))) then
    bif ((List.getD (List.getD t0_0 (Int.toNat t5) []) (0 + ((Int.toNat t6) * 1)) (0 : Int)) != (IntKind.wrap .u16 t1)) then
      some (.int .i64 (-1 : Int), [])
     else
      N1 n m0 m1 (IntKind.wrap .i64 (t1 + (1 : Int))) t0_0 t0n t5 (IntKind.wrap .i64 (t6 + (1 : Int)))
    else none
   else none
  else
   N0 n m0 t1 (IntKind.wrap .i64 (t5 + (1 : Int))) t0_0 t0n := by kernel_rfl
noncomputable def R (n : Nat) (L1 : List (List Int)) (n1 : Nat) (k : Int) : Res := run (E n) n Try.f35 L (us L1 n1 k) (HA L1 n1 k) k0
theorem R_eq (n : Nat) (L1 : List (List Int)) (n1 : Nat) (k : Int) : R n L1 n1 k =
  N0 n n k (0 : Int) L1 n1 := by kernel_rfl
theorem ans {n : Nat} {L1 : List (List Int)} {n1 : Nat} {k : Int} (hA : Sounds Try.prog (A n)) {u : U} {H : Heap} (h : R n L1 n1 k = some (u, H)) : Answers Try.prog 35 (us L1 n1 k) (HA L1 n1 k) u H := answers_env tabOk mixed hA Try.func35 (by kernel_rfl) (by kernel_rfl) h
end L_held

namespace L_heldN
abbrev num : Nat := 35
noncomputable def A (n : Nat) : List (Nat × Con) := ((fun (n : Nat) => ([] : List (Nat × Con)))) n
noncomputable abbrev E (n : Nat) : Env (U × Heap) := envC tab ios (A n)
def L : List (List Nat) := [[1, 5, 0], [1, 0, 5, 6]]
abbrev us (k : Int) : List U := (((fun (k : Int) => (([.nils, .int .i64 k] : List U), ([] : Heap)))) k).1
abbrev HA (k : Int) : Heap := (((fun (k : Int) => (([.nils, .int .i64 k] : List U), ([] : Heap)))) k).2
def S0 (t1 : Int) (t5 : Int) : St := ⟨[(1, .int .i64 t1), (5, .int .i64 t5), (0, .nils)], 29, [], [], 0⟩
noncomputable def N0 (n : Nat)  (m0 : Nat) (t1 : Int) (t5 : Int) : Res := nodeRun (E n) n Try.f35 L k0 [true, false, true, false] [] m0 (S0 t1 t5)
def S1 (t1 : Int) (t5 : Int) (t6 : Int) : St := ⟨[(1, .int .i64 t1), (0, .nils), (5, .int .i64 t5), (6, .int .i64 t6)], 29, [], [], 0⟩
noncomputable def N1 (n : Nat) (m0 : Nat) (m1 : Nat) (t1 : Int) (t5 : Int) (t6 : Int) : Res := nodeRun (E n) n Try.f35 L k0 [true, false, true, false, false, true, false, false, true, false] [m0] m1 (S1 t1 t5 t6)
theorem N0_succ (n : Nat)  (m0 : Nat) (t1 : Int) (t5 : Int) : N0 n  (m0 + 1) t1 t5 =
  bif decide (t5 < (0 : Int)) then
   N1 n m0 n t1 t5 (0 : Int)
  else
   some (.int .i64 t1, []) := by kernel_rfl
theorem N1_succ (n : Nat) (m0 : Nat) (m1 : Nat) (t1 : Int) (t5 : Int) (t6 : Int) : N1 n m0 (m1 + 1) t1 t5 t6 =
  bif decide (t6 < (6 : Int)) then
   none
  else
   N0 n m0 t1 (IntKind.wrap .i64 (t5 + (1 : Int))) := by kernel_rfl
noncomputable def R (n : Nat) (k : Int) : Res := run (E n) n Try.f35 L (us k) (HA k) k0
theorem R_eq (n : Nat) (k : Int) : R n k =
  N0 n n k (0 : Int) := by kernel_rfl
theorem ans {n : Nat} {k : Int} (hA : Sounds Try.prog (A n)) {u : U} {H : Heap} (h : R n k = some (u, H)) : Answers Try.prog 35 (us k) (HA k) u H := answers_env tabOk mixed hA Try.func35 (by kernel_rfl) (by kernel_rfl) h
end L_heldN

namespace L_KernelT
abbrev num : Nat := 10
noncomputable def A (n : Nat) : List (Nat × Con) := ((fun (n : Nat) => ([(31, CKernel), (32, CKernel), (14, CToMat), (33, CEqVecs), (34, CMark), (35, CHeld)] : List (Nat × Con)))) n
noncomputable abbrev E (n : Nat) : Env (U × Heap) := envC tab ios (A n)
def L : List (List Nat) := []
abbrev us (r : Int) (c : Int) (l : List Int) : List U := (((fun (r c : Int) (l : List Int) => (([.agg [.int .i8 r, .int .i8 c, .vec .u16 36 l]] : List U), ([] : Heap)))) r c l).1
abbrev HA (r : Int) (c : Int) (l : List Int) : Heap := (((fun (r c : Int) (l : List Int) => (([.agg [.int .i8 r, .int .i8 c, .vec .u16 36 l]] : List U), ([] : Heap)))) r c l).2
noncomputable def R (n : Nat) (r : Int) (c : Int) (l : List Int) : Res := run (E n) n Try.f10 L (us r c l) (HA r c l) k0
theorem R_eq (n : Nat) (r : Int) (c : Int) (l : List Int) : R n r c l =
  pif ((Mat r c l)) (
  pif ((inMat r c l)) (
  pif ((Mat r c l)) (
  pif ((inMat r c l)) (
  pif (((six (ker (Int.toNat r) (Int.toNat c) l)) ∧ ((six (ker (Int.toNat r) (Int.toNat c) l)) ∧ (((List.length (ker (Int.toNat r) (Int.toNat c) l)) = (List.length (ker (Int.toNat r) (Int.toNat c) l))) ∧ ((List.length (ker (Int.toNat r) (Int.toNat c) l)) = (List.length (ker (Int.toNat r) (Int.toNat c) l))))))) (
  bif (!(eqVs (ker (Int.toNat r) (Int.toNat c) l) (ker (Int.toNat r) (Int.toNat c) l))) then
   some (.bool false, [])
  else
   pif (((six (ker (Int.toNat r) (Int.toNat c) l)) ∧ ((1 : Int) = (1 : Int)))) (
   pif (((six (markW (1 : Int) (ker (Int.toNat r) (Int.toNat c) l))) ∧ (((List.length (markW (1 : Int) (ker (Int.toNat r) (Int.toNat c) l))) = (List.length (markW (1 : Int) (ker (Int.toNat r) (Int.toNat c) l)))) ∧ (((1 : Int) = (1 : Int)) ∧ (marked (1 : Int) (markW (1 : Int) (ker (Int.toNat r) (Int.toNat c) l))))))) (
   bif ((cnt (1 : Int) (markW (1 : Int) (ker (Int.toNat r) (Int.toNat c) l))) != (cnt (1 : Int) (ker (Int.toNat r) (Int.toNat c) l))) then
    some (.bool false, [])
   else
    pif ((Mat r c l)) (
    pif ((inMat r c l)) (
    pif (((six (ker (Int.toNat r) (Int.toNat c) l)) ∧ ((six (ker (Int.toNat r) (Int.toNat c) l)) ∧ (((List.length (ker (Int.toNat r) (Int.toNat c) l)) = (List.length (ker (Int.toNat r) (Int.toNat c) l))) ∧ ((List.length (ker (Int.toNat r) (Int.toNat c) l)) = (List.length (ker (Int.toNat r) (Int.toNat c) l))))))) (
    bif (!(eqVs (ker (Int.toNat r) (Int.toNat c) l) (ker (Int.toNat r) (Int.toNat c) l))) then
     some (.bool false, [])
    else
     pif (((six (markW (1 : Int) (ker (Int.toNat r) (Int.toNat c) l))) ∧ (((List.length (markW (1 : Int) (ker (Int.toNat r) (Int.toNat c) l))) = (List.length (markW (1 : Int) (ker (Int.toNat r) (Int.toNat c) l)))) ∧ (((1 : Int) = (1 : Int)) ∧ (marked (1 : Int) (markW (1 : Int) (ker (Int.toNat r) (Int.toNat c) l))))))) (
     bif ((cnt (1 : Int) (markW (1 : Int) (ker (Int.toNat r) (Int.toNat c) l))) != (cnt (1 : Int) (ker (Int.toNat r) (Int.toNat c) l))) then
      some (.bool false, [])
     else
      some (.bool true, [])))))))))))) := by kernel_rfl
theorem ans {n : Nat} {r : Int} {c : Int} {l : List Int} (hA : Sounds Try.prog (A n)) {u : U} {H : Heap} (h : R n r c l = some (u, H)) : Answers Try.prog 10 (us r c l) (HA r c l) u H := answers_env tabOk mixed hA Try.func10 (by kernel_rfl) (by kernel_rfl) h
end L_KernelT

namespace L_KernelF
abbrev num : Nat := 10
noncomputable def A (n : Nat) : List (Nat × Con) := ((fun (n : Nat) => ([(31, CKernelS), (32, CKernelI), (14, CToMat), (33, CEqVecs), (34, CMark), (35, CHeld)] : List (Nat × Con)))) n
noncomputable abbrev E (n : Nat) : Env (U × Heap) := envC tab ios (A n)
def L : List (List Nat) := []
abbrev us (r : Int) (c : Int) (l : List Int) : List U := (((fun (r c : Int) (l : List Int) => (([.agg [.int .i8 r, .int .i8 c, .vec .u16 36 l]] : List U), ([] : Heap)))) r c l).1
abbrev HA (r : Int) (c : Int) (l : List Int) : Heap := (((fun (r c : Int) (l : List Int) => (([.agg [.int .i8 r, .int .i8 c, .vec .u16 36 l]] : List U), ([] : Heap)))) r c l).2
noncomputable def R (n : Nat) (r : Int) (c : Int) (l : List Int) : Res := run (E n) n Try.f10 L (us r c l) (HA r c l) k0
theorem R_eq (n : Nat) (r : Int) (c : Int) (l : List Int) : R n r c l =
  pif ((Mat r c l)) (
  pif ((bad r c l)) (
  pif ((Mat r c l)) (
  pif ((bad r c l)) (
  pif (((noVs []) ∧ (0 = 0))) (
  pif (True) (
  pif (True) (
  pif ((Mat r c l)) (
  pif ((bad r c l)) (
  pif (((noVs []) ∧ (0 = 0))) (
  pif (True) (
  some (.bool true, [])))))))))))) := by kernel_rfl
theorem ans {n : Nat} {r : Int} {c : Int} {l : List Int} (hA : Sounds Try.prog (A n)) {u : U} {H : Heap} (h : R n r c l = some (u, H)) : Answers Try.prog 10 (us r c l) (HA r c l) u H := answers_env tabOk mixed hA Try.func10 (by kernel_rfl) (by kernel_rfl) h
end L_KernelF

end Go.VM

