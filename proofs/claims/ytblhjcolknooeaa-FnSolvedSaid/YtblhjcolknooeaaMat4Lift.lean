/- Written by a program of this session (Lift.lean): what the evaluator comes to, function by function; the kernel checks it. The conditions: those of the contracts. -/
import Derived.Test.YtblhjcolknooeaaVmP4
import Derived.Test.YtblhjcolknooeaaMatT
import Derived.Test.YtblhjcolknooeaaMatTS
import Derived.Test.YtblhjcolknooeaaSolvLConM
import Derived.KernelRfl
set_option linter.unusedVariables false
set_option linter.unusedSimpArgs false
set_option linter.unusedSectionVars false
namespace Go.VM
open Go Go.Proofs Go.Fn NimF
set_option linter.unusedVariables false
set_option maxRecDepth 100000
namespace I_isFor
abbrev num : Nat := 66
noncomputable def A (n : Nat) : List (Nat × Con) := ((fun (n : Nat) => ([] : List (Nat × Con)))) n
noncomputable abbrev E (n : Nat) : Env (U × Heap) := envC tab ios (A n)
def L : List (List Nat) := [[6, 2, 1]]
abbrev us (v : List Int) (x : Int) : List U := (((fun (v : List Int) (x : Int) => (([.agg [.vec .u16 6 v], .int .i8 x] : List U), ([] : Heap)))) v x).1
abbrev HA (v : List Int) (x : Int) : Heap := (((fun (v : List Int) (x : Int) => (([.agg [.vec .u16 6 v], .int .i8 x] : List U), ([] : Heap)))) v x).2
def S0 (t6 : Int) (t1 : Int) (o0_0 : List Int) : St := ⟨[(6, .int .i8 t6), (2, .ptr 0 0 0 0 6), (1, .int .i8 t1)], 19, [(0, ⟨[.vecs .u16 6 [o0_0]], true⟩)], [0], 0⟩
noncomputable def N0 (n : Nat)  (m0 : Nat) (t6 : Int) (t1 : Int) (o0_0 : List Int) : Res := nodeRun (E n) n Try.f66 L k0 [true, false, true, false] [] m0 (S0 t6 t1 o0_0)
theorem N0_succ (n : Nat)  (m0 : Nat) (t6 : Int) (t1 : Int) (o0_0 : List Int) : N0 n  (m0 + 1) t6 t1 o0_0 =
  bif decide (t6 < (6 : Int)) then
   bif decide (t6 ≥ t1) then
    bif decide (((0 : Int) ≤ t6) ∧ (t6 < (6 : Int))) then
    bif ((List.getD o0_0 (0 + ((Int.toNat t6) * 1)) (0 : Int)) != (0 : Int)) then
      some (.bool false, [])
     else
      N0 n m0 (IntKind.wrap .i8 (t6 + (1 : Int))) t1 o0_0
    else none
   else
    N0 n m0 (IntKind.wrap .i8 (t6 + (1 : Int))) t1 o0_0
  else
   some (.bool true, []) := by kernel_rfl
noncomputable def R (n : Nat) (v : List Int) (x : Int) : Res := run (E n) n Try.f66 L (us v x) (HA v x) k0
theorem R_eq (n : Nat) (v : List Int) (x : Int) : R n v x =
  N0 n n (0 : Int) x v := by kernel_rfl
theorem ans {n : Nat} {v : List Int} {x : Int} (hA : Sounds Try.prog (A n)) {u : U} {H : Heap} (h : R n v x = some (u, H)) : Answers Try.prog 66 (us v x) (HA v x) u H := answers_env tabOk mixed hA Try.func66 (by kernel_rfl) (by kernel_rfl) h
end I_isFor

namespace S_vector
abbrev num : Nat := 64
noncomputable def A (n : Nat) : List (Nat × Con) := ((fun (n : Nat) => ([] : List (Nat × Con)))) n
noncomputable abbrev E (n : Nat) : Env (U × Heap) := envC tab ios (A n)
def L : List (List Nat) := [[5, 0]]
abbrev us (v : List Int) (x : Int) : List U := (((fun (v : List Int) (x : Int) => (([.rptr [.vec .u16 6 v] 0 6, .int .i8 x] : List U), ([] : Heap)))) v x).1
abbrev HA (v : List Int) (x : Int) : Heap := (((fun (v : List Int) (x : Int) => (([.rptr [.vec .u16 6 v] 0 6, .int .i8 x] : List U), ([] : Heap)))) v x).2
def S0 (t5 : Int) (t0_0 : List Int) : St := ⟨[(5, .int .i64 t5), (0, .rptr [.vec .u16 6 t0_0] 0 6)], 18, [], [], 0⟩
noncomputable def N0 (n : Nat)  (m0 : Nat) (t5 : Int) (t0_0 : List Int) : Res := nodeRun (E n) n Try.f64 L k0 [true, false, true, false] [] m0 (S0 t5 t0_0)
theorem N0_succ (n : Nat)  (m0 : Nat) (t5 : Int) (t0_0 : List Int) : N0 n  (m0 + 1) t5 t0_0 =
  bif decide (t5 < (6 : Int)) then
   bif decide (((0 : Int) ≤ t5) ∧ (t5 < (6 : Int))) then
   bif ((List.getD t0_0 (0 + ((Int.toNat t5) * 1)) (0 : Int)) != (0 : Int)) then
     some (.bool false, [])
    else
     N0 n m0 (IntKind.wrap .i64 (t5 + (1 : Int))) t0_0
   else none
  else
   some (.bool true, []) := by kernel_rfl
noncomputable def R (n : Nat) (v : List Int) (x : Int) : Res := run (E n) n Try.f64 L (us v x) (HA v x) k0
theorem R_eq (n : Nat) (v : List Int) (x : Int) : R n v x =
  N0 n n (IntKind.wrap .i64 x) v := by kernel_rfl
theorem ans {n : Nat} {v : List Int} {x : Int} (hA : Sounds Try.prog (A n)) {u : U} {H : Heap} (h : R n v x = some (u, H)) : Answers Try.prog 64 (us v x) (HA v x) u H := answers_env tabOk mixed hA Try.func64 (by kernel_rfl) (by kernel_rfl) h
end S_vector

namespace S_solve
abbrev num : Nat := 65
noncomputable def A (n : Nat) : List (Nat × Con) := ((fun (n : Nat) => ([(72, CMul), (79, CInv), (47, CAdd), (78, CSwap)] : List (Nat × Con)))) n
noncomputable abbrev E (n : Nat) : Env (U × Heap) := envC tab ios (A n)
def L : List (List Nat) := [[4, 6, 3, 7, 2, 8], [4, 6, 3, 2, 8, 7, 9, 10], [4, 6, 3, 2, 8, 7, 9, 13, 12], [4, 6, 3, 2, 8, 7, 14, 9], [4, 6, 16, 3, 7, 2]]
abbrev us (r : Int) (c : Int) (l : List Int) (v : List Int) : List U := (((fun (r c : Int) (l : List Int) (v : List Int) => (([.agg [.int .i8 r, .int .i8 c, .vec .u16 36 l], .agg [.vec .u16 6 v]] : List U), ([] : Heap)))) r c l v).1
abbrev HA (r : Int) (c : Int) (l : List Int) (v : List Int) : Heap := (((fun (r c : Int) (l : List Int) (v : List Int) => (([.agg [.int .i8 r, .int .i8 c, .vec .u16 36 l], .agg [.vec .u16 6 v]] : List U), ([] : Heap)))) r c l v).2
def S0 (t8 : Int) (o0_0 : List Int) (o1_0 : List Int) (o2_0 : List Int) (o3_0 : List Int) (o4_0 : Int) (o4_1 : Int) (o4_2 : List Int) : St := ⟨[(4, .ptr 0 0 0 0 6), (6, .ptr 1 0 0 0 6), (3, .ptr 2 0 0 0 6), (7, .own 3), (2, .ptr 4 0 0 0 1), (8, .int .i64 t8)], 153, [(0, ⟨[.vecs .u16 6 [o0_0]], true⟩), (1, ⟨[.vecs .u16 6 [o1_0]], true⟩), (2, ⟨[.vecs .u16 6 [o2_0]], true⟩), (3, ⟨[.ints .i64 o3_0], true⟩), (4, ⟨[.ints .i8 [o4_0], .ints .i8 [o4_1], .vecs .u16 36 [o4_2]], true⟩)], [0, 1, 2, 3, 4], 0⟩
noncomputable def N0 (n : Nat)  (m0 : Nat) (t8 : Int) (o0_0 : List Int) (o1_0 : List Int) (o2_0 : List Int) (o3_0 : List Int) (o4_0 : Int) (o4_1 : Int) (o4_2 : List Int) : Res := nodeRun (E n) n Try.f65 L k0 [true, true, true, false, true, false] [] m0 (S0 t8 o0_0 o1_0 o2_0 o3_0 o4_0 o4_1 o4_2)
def S1 (t8 : Int) (t9 : Int) (t10 : Int) (o0_0 : List Int) (o1_0 : List Int) (o2_0 : List Int) (o3_0 : Int) (o3_1 : Int) (o3_2 : List Int) (o4_0 : List Int) : St := ⟨[(4, .ptr 0 0 0 0 6), (6, .ptr 1 0 0 0 6), (3, .ptr 2 0 0 0 6), (2, .ptr 3 0 0 0 1), (8, .int .i64 t8), (7, .own 4), (9, .int .i64 t9), (10, .int .i64 t10)], 153, [(0, ⟨[.vecs .u16 6 [o0_0]], true⟩), (1, ⟨[.vecs .u16 6 [o1_0]], true⟩), (2, ⟨[.vecs .u16 6 [o2_0]], true⟩), (3, ⟨[.ints .i8 [o3_0], .ints .i8 [o3_1], .vecs .u16 36 [o3_2]], true⟩), (4, ⟨[.ints .i64 o4_0], true⟩)], [0, 1, 2, 3, 4], 0⟩
noncomputable def N1 (n : Nat) (m0 : Nat) (m1 : Nat) (t8 : Int) (t9 : Int) (t10 : Int) (o0_0 : List Int) (o1_0 : List Int) (o2_0 : List Int) (o3_0 : Int) (o3_1 : Int) (o3_2 : List Int) (o4_0 : List Int) : Res := nodeRun (E n) n Try.f65 L k0 [true, true, true, false, true, false, false, true, false, false, true, true, false, false] [m0] m1 (S1 t8 t9 t10 o0_0 o1_0 o2_0 o3_0 o3_1 o3_2 o4_0)
def S2 (t8 : Int) (t9 : Int) (t13 : Int) (t12 : Int) (o0_0 : List Int) (o1_0 : List Int) (o2_0 : List Int) (o3_0 : Int) (o3_1 : Int) (o3_2 : List Int) (o4_0 : List Int) : St := ⟨[(4, .ptr 0 0 0 0 6), (6, .ptr 1 0 0 0 6), (3, .ptr 2 0 0 0 6), (2, .ptr 3 0 0 0 1), (8, .int .i64 t8), (7, .own 4), (9, .int .i64 t9), (13, .int .i64 t13), (12, .int .u16 t12)], 153, [(0, ⟨[.vecs .u16 6 [o0_0]], true⟩), (1, ⟨[.vecs .u16 6 [o1_0]], true⟩), (2, ⟨[.vecs .u16 6 [o2_0]], true⟩), (3, ⟨[.ints .i8 [o3_0], .ints .i8 [o3_1], .vecs .u16 36 [o3_2]], true⟩), (4, ⟨[.ints .i64 o4_0], true⟩)], [0, 1, 2, 3, 4], 0⟩
noncomputable def N2 (n : Nat) (m0 : Nat) (m2 : Nat) (t8 : Int) (t9 : Int) (t13 : Int) (t12 : Int) (o0_0 : List Int) (o1_0 : List Int) (o2_0 : List Int) (o3_0 : Int) (o3_1 : Int) (o3_2 : List Int) (o4_0 : List Int) : Res := nodeRun (E n) n Try.f65 L k0 [true, true, true, false, true, false, false, true, false, false, true, true, true, true, true, true, true, true, true, false, true, false] [m0] m2 (S2 t8 t9 t13 t12 o0_0 o1_0 o2_0 o3_0 o3_1 o3_2 o4_0)
def S3 (t8 : Int) (t14 : Int) (t9 : Int) (o0_0 : List Int) (o1_0 : List Int) (o2_0 : List Int) (o3_0 : Int) (o3_1 : Int) (o3_2 : List Int) (o4_0 : List Int) : St := ⟨[(4, .ptr 0 0 0 0 6), (6, .ptr 1 0 0 0 6), (3, .ptr 2 0 0 0 6), (2, .ptr 3 0 0 0 1), (8, .int .i64 t8), (7, .own 4), (14, .int .i64 t14), (9, .int .i64 t9)], 153, [(0, ⟨[.vecs .u16 6 [o0_0]], true⟩), (1, ⟨[.vecs .u16 6 [o1_0]], true⟩), (2, ⟨[.vecs .u16 6 [o2_0]], true⟩), (3, ⟨[.ints .i8 [o3_0], .ints .i8 [o3_1], .vecs .u16 36 [o3_2]], true⟩), (4, ⟨[.ints .i64 o4_0], true⟩)], [0, 1, 2, 3, 4], 0⟩
noncomputable def N3 (n : Nat) (m0 : Nat) (m3 : Nat) (t8 : Int) (t14 : Int) (t9 : Int) (o0_0 : List Int) (o1_0 : List Int) (o2_0 : List Int) (o3_0 : Int) (o3_1 : Int) (o3_2 : List Int) (o4_0 : List Int) : Res := nodeRun (E n) n Try.f65 L k0 [true, true, true, false, true, false, false, true, false, false, true, true, true, true, true, true, true, true, true, true, false, true, false] [m0] m3 (S3 t8 t14 t9 o0_0 o1_0 o2_0 o3_0 o3_1 o3_2 o4_0)
def S4 (t16 : Int) (o0_0 : List Int) (o1_0 : List Int) (o2_0 : List Int) (o3_0 : List Int) (o4_0 : Int) (o4_1 : Int) (o4_2 : List Int) : St := ⟨[(4, .ptr 0 0 0 0 6), (6, .ptr 1 0 0 0 6), (16, .int .i64 t16), (3, .ptr 2 0 0 0 6), (7, .own 3), (2, .ptr 4 0 0 0 1)], 153, [(0, ⟨[.vecs .u16 6 [o0_0]], true⟩), (1, ⟨[.vecs .u16 6 [o1_0]], true⟩), (2, ⟨[.vecs .u16 6 [o2_0]], true⟩), (3, ⟨[.ints .i64 o3_0], true⟩), (4, ⟨[.ints .i8 [o4_0], .ints .i8 [o4_1], .vecs .u16 36 [o4_2]], true⟩)], [0, 1, 2, 3, 4], 0⟩
noncomputable def N4 (n : Nat)  (m4 : Nat) (t16 : Int) (o0_0 : List Int) (o1_0 : List Int) (o2_0 : List Int) (o3_0 : List Int) (o4_0 : Int) (o4_1 : Int) (o4_2 : List Int) : Res := nodeRun (E n) n Try.f65 L k0 [true, true, true, true, false, true, false] [] m4 (S4 t16 o0_0 o1_0 o2_0 o3_0 o4_0 o4_1 o4_2)
theorem N0_succ (n : Nat)  (m0 : Nat) (t8 : Int) (o0_0 : List Int) (o1_0 : List Int) (o2_0 : List Int) (o3_0 : List Int) (o4_0 : Int) (o4_1 : Int) (o4_2 : List Int) : N0 n  (m0 + 1) t8 o0_0 o1_0 o2_0 o3_0 o4_0 o4_1 o4_2 =
  bif decide (t8 < (IntKind.wrap .i64 o4_1)) then
   N1 n m0 n t8 (((List.length o3_0) : Nat) : Int) (((List.length o3_0) : Nat) : Int) o0_0 o1_0 o2_0 o4_0 o4_1 o4_2 o3_0
  else
   N4 n n (0 : Int) o0_0 o1_0 o2_0 o3_0 o4_0 o4_1 o4_2 := by kernel_rfl
theorem N1_succ (n : Nat) (m0 : Nat) (m1 : Nat) (t8 : Int) (t9 : Int) (t10 : Int) (o0_0 : List Int) (o1_0 : List Int) (o2_0 : List Int) (o3_0 : Int) (o3_1 : Int) (o3_2 : List Int) (o4_0 : List Int) : N1 n m0 (m1 + 1) t8 t9 t10 o0_0 o1_0 o2_0 o3_0 o3_1 o3_2 o4_0 =
  bif decide (t10 < (IntKind.wrap .i64 o3_0)) then
   bif decide (((0 : Int) ≤ t10) ∧ (t10 < (6 : Int))) then
   bif decide (((0 : Int) ≤ t8) ∧ (t8 < (6 : Int))) then
    bif ((List.getD o3_2 ((0 + ((Int.toNat t10) * 6)) + ((Int.toNat t8) * 1)) (0 : Int)) == (0 : Int)) then
      N1 n m0 m1 t8 t9 (IntKind.wrap .i64 (t10 + (1 : Int))) o0_0 o1_0 o2_0 o3_0 o3_1 o3_2 o4_0
     else
      bif (t10 == (IntKind.wrap .i64 o3_0)) then
       N0 n m0 (IntKind.wrap .i64 (t8 + (1 : Int))) o0_0 o1_0 o2_0 o4_0 o3_0 o3_1 o3_2
      else
       pif (((Mat o3_0 o3_1 o3_2) ∧ ((inRow t9) ∧ (inRow t10)))) (
       bif decide (((0 : Int) ≤ t10) ∧ (t10 < (6 : Int))) then
       bif decide (((0 : Int) ≤ t9) ∧ (t9 < (6 : Int))) then
        bif decide (((0 : Int) ≤ t10) ∧ (t10 < (6 : Int))) then
         bif decide (((0 : Int) ≤ t9) ∧ (t9 < (6 : Int))) then
          bif decide (((0 : Int) ≤ t8) ∧ (t8 < (6 : Int))) then
           pif ((u16 (List.getD (swapR (Int.toNat t9) (Int.toNat t10) o3_2) ((0 + ((Int.toNat t9) * 6)) + ((Int.toNat t8) * 1)) (0 : Int)))) (
            pif (((u16 (List.getD o2_0 (0 + ((Int.toNat t10) * 1)) (0 : Int))) ∧ (u16 (invI (List.getD (swapR (Int.toNat t9) (Int.toNat t10) o3_2) ((0 + ((Int.toNat t9) * 6)) + ((Int.toNat t8) * 1)) (0 : Int)))))) (
            bif decide (((0 : Int) ≤ t9) ∧ (t9 < (6 : Int))) then
            N2 n m0 n t8 t9 (0 : Int) (invI (List.getD (swapR (Int.toNat t9) (Int.toNat t10) o3_2) ((0 + ((Int.toNat t9) * 6)) + ((Int.toNat t8) * 1)) (0 : Int))) o0_0 o1_0 (List.set (List.set o2_0 (0 + ((Int.toNat t10) * 1)) (List.getD o2_0 (0 + ((Int.toNat t9) * 1)) (0 : Int))) (0 + ((Int.toNat t9) * 1)) (mulI (List.getD o2_0 (0 + ((Int.toNat t10) * 1)) (0 : Int)) (invI (List.getD (swapR (Int.toNat t9) (Int.toNat t10) o3_2) ((0 + ((Int.toNat t9) * 6)) + ((Int.toNat t8) * 1)) (0 : Int))))) o3_0 o3_1 (swapR (Int.toNat t9) (Int.toNat t10) o3_2) o4_0
            else none))
           else none
          else none
         else none
        else none
       else none)
    else none
   else none
  else
   bif (t10 == (IntKind.wrap .i64 o3_0)) then
    N0 n m0 (IntKind.wrap .i64 (t8 + (1 : Int))) o0_0 o1_0 o2_0 o4_0 o3_0 o3_1 o3_2
   else
    pif (((Mat o3_0 o3_1 o3_2) ∧ ((inRow t9) ∧ (inRow t10)))) (
    bif decide (((0 : Int) ≤ t10) ∧ (t10 < (6 : Int))) then
    bif decide (((0 : Int) ≤ t9) ∧ (t9 < (6 : Int))) then
     bif decide (((0 : Int) ≤ t10) ∧ (t10 < (6 : Int))) then
      bif decide (((0 : Int) ≤ t9) ∧ (t9 < (6 : Int))) then
       bif decide (((0 : Int) ≤ t8) ∧ (t8 < (6 : Int))) then
        pif ((u16 (List.getD (swapR (Int.toNat t9) (Int.toNat t10) o3_2) ((0 + ((Int.toNat t9) * 6)) + ((Int.toNat t8) * 1)) (0 : Int)))) (
         pif (((u16 (List.getD o2_0 (0 + ((Int.toNat t10) * 1)) (0 : Int))) ∧ (u16 (invI (List.getD (swapR (Int.toNat t9) (Int.toNat t10) o3_2) ((0 + ((Int.toNat t9) * 6)) + ((Int.toNat t8) * 1)) (0 : Int)))))) (
         bif decide (((0 : Int) ≤ t9) ∧ (t9 < (6 : Int))) then
         N2 n m0 n t8 t9 (0 : Int) (invI (List.getD (swapR (Int.toNat t9) (Int.toNat t10) o3_2) ((0 + ((Int.toNat t9) * 6)) + ((Int.toNat t8) * 1)) (0 : Int))) o0_0 o1_0 (List.set (List.set o2_0 (0 + ((Int.toNat t10) * 1)) (List.getD o2_0 (0 + ((Int.toNat t9) * 1)) (0 : Int))) (0 + ((Int.toNat t9) * 1)) (mulI (List.getD o2_0 (0 + ((Int.toNat t10) * 1)) (0 : Int)) (invI (List.getD (swapR (Int.toNat t9) (Int.toNat t10) o3_2) ((0 + ((Int.toNat t9) * 6)) + ((Int.toNat t8) * 1)) (0 : Int))))) o3_0 o3_1 (swapR (Int.toNat t9) (Int.toNat t10) o3_2) o4_0
         else none))
        else none
       else none
      else none
     else none
    else none) := by kernel_rfl
theorem N2_succ (n : Nat) (m0 : Nat) (m2 : Nat) (t8 : Int) (t9 : Int) (t13 : Int) (t12 : Int) (o0_0 : List Int) (o1_0 : List Int) (o2_0 : List Int) (o3_0 : Int) (o3_1 : Int) (o3_2 : List Int) (o4_0 : List Int) : N2 n m0 (m2 + 1) t8 t9 t13 t12 o0_0 o1_0 o2_0 o3_0 o3_1 o3_2 o4_0 =
  bif decide (t13 < (IntKind.wrap .i64 o3_1)) then
   bif decide (((0 : Int) ≤ t9) ∧ (t9 < (6 : Int))) then
   bif decide (((0 : Int) ≤ t13) ∧ (t13 < (6 : Int))) then
    bif decide (((0 : Int) ≤ t9) ∧ (t9 < (6 : Int))) then
     pif (((u16 (List.getD o3_2 ((0 + ((Int.toNat t9) * 6)) + ((Int.toNat t13) * 1)) (0 : Int))) ∧ (u16 t12))) (
      bif decide (((0 : Int) ≤ t13) ∧ (t13 < (6 : Int))) then
      N2 n m0 m2 t8 t9 (IntKind.wrap .i64 (t13 + (1 : Int))) t12 o0_0 o1_0 o2_0 o3_0 o3_1 (List.set o3_2 ((0 + ((Int.toNat t9) * 6)) + ((Int.toNat t13) * 1)) (mulI (List.getD o3_2 ((0 + ((Int.toNat t9) * 6)) + ((Int.toNat t13) * 1)) (0 : Int)) t12)) o4_0
      else none)
     else none
    else none
   else none
  else
   N3 n m0 n t8 (0 : Int) t9 o0_0 o1_0 o2_0 o3_0 o3_1 o3_2 o4_0 := by kernel_rfl
theorem N3_succ (n : Nat) (m0 : Nat) (m3 : Nat) (t8 : Int) (t14 : Int) (t9 : Int) (o0_0 : List Int) (o1_0 : List Int) (o2_0 : List Int) (o3_0 : Int) (o3_1 : Int) (o3_2 : List Int) (o4_0 : List Int) : N3 n m0 (m3 + 1) t8 t14 t9 o0_0 o1_0 o2_0 o3_0 o3_1 o3_2 o4_0 =
  bif decide (t14 < (IntKind.wrap .i64 o3_0)) then
   bif (t14 != t9) then
    bif decide (((0 : Int) ≤ t14) ∧ (t14 < (6 : Int))) then
    bif decide (((0 : Int) ≤ t8) ∧ (t8 < (6 : Int))) then
     pif (((Mat o3_0 o3_1 o3_2) ∧ ((inRow t9) ∧ ((inRow t14) ∧ ((o3_1 ≤ (6 : Int)) ∧ (u16 (List.getD o3_2 ((0 + ((Int.toNat t14) * 6)) + ((Int.toNat t8) * 1)) (0 : Int)))))))) (
      bif decide (((0 : Int) ≤ t14) ∧ (t14 < (6 : Int))) then
      bif decide (((0 : Int) ≤ t9) ∧ (t9 < (6 : Int))) then
       pif (((u16 (List.getD o2_0 (0 + ((Int.toNat t9) * 1)) (0 : Int))) ∧ (u16 (List.getD o3_2 ((0 + ((Int.toNat t14) * 6)) + ((Int.toNat t8) * 1)) (0 : Int))))) (
        bif decide (((0 : Int) ≤ t14) ∧ (t14 < (6 : Int))) then
        N3 n m0 m3 t8 (IntKind.wrap .i64 (t14 + (1 : Int))) t9 o0_0 o1_0 (List.set o2_0 (0 + ((Int.toNat t14) * 1)) (intBitsV .xor .u16 (List.getD o2_0 (0 + ((Int.toNat t14) * 1)) (0 : Int)) (mulI (List.getD o2_0 (0 + ((Int.toNat t9) * 1)) (0 : Int)) (List.getD o3_2 ((0 + ((Int.toNat t14) * 6)) + ((Int.toNat t8) * 1)) (0 : Int))))) o3_0 o3_1 (addTo (Int.toNat t9) (Int.toNat t14) (List.getD o3_2 ((0 + ((Int.toNat t14) * 6)) + ((Int.toNat t8) * 1)) (0 : Int)) (Int.toNat o3_1) 0 o3_2) o4_0
        else none)
       else none
      else none)
     else none
    else none
   else
    N3 n m0 m3 t8 (IntKind.wrap .i64 (t14 + (1 : Int))) t9 o0_0 o1_0 o2_0 o3_0 o3_1 o3_2 o4_0
  else
   bif decide ((((List.length o4_0) + 1) * 1) ≤ 4398046511104) then
   N0 n m0 (IntKind.wrap .i64 (t8 + (1 : Int))) o0_0 o1_0 o2_0 (o4_0 ++ [t8]) o3_0 o3_1 o3_2
   else none := by kernel_rfl
theorem N4_succ (n : Nat)  (m4 : Nat) (t16 : Int) (o0_0 : List Int) (o1_0 : List Int) (o2_0 : List Int) (o3_0 : List Int) (o4_0 : Int) (o4_1 : Int) (o4_2 : List Int) : N4 n  (m4 + 1) t16 o0_0 o1_0 o2_0 o3_0 o4_0 o4_1 o4_2 =
  bif decide (t16 < (IntKind.wrap .i64 o4_0)) then
   bif decide (t16 < (((List.length o3_0) : Nat) : Int)) then
    bif decide (((0 : Int) ≤ t16) ∧ (t16 < (((List.length o3_0) : Nat) : Int))) then
    bif decide (((0 : Int) ≤ t16) ∧ (t16 < (6 : Int))) then
     bif decide (((0 : Int) ≤ (List.getD o3_0 (Int.toNat t16) (0 : Int))) ∧ ((List.getD o3_0 (Int.toNat t16) (0 : Int)) < (6 : Int))) then
      N4 n m4 (IntKind.wrap .i64 (t16 + (1 : Int))) o0_0 (List.set o1_0 (0 + ((Int.toNat (List.getD o3_0 (Int.toNat t16) (0 : Int))) * 1)) (List.getD o2_0 (0 + ((Int.toNat t16) * 1)) (0 : Int))) o2_0 o3_0 o4_0 o4_1 o4_2
      else none
     else none
    else none
   else
    bif decide (((0 : Int) ≤ t16) ∧ (t16 < (6 : Int))) then
    bif ((List.getD o2_0 (0 + ((Int.toNat t16) * 1)) (0 : Int)) != (0 : Int)) then
      some (.tup [.agg [.vec .u16 6 (List.replicate 6 (0 : Int))], .bool false], [])
     else
      N4 n m4 (IntKind.wrap .i64 (t16 + (1 : Int))) o0_0 o1_0 o2_0 o3_0 o4_0 o4_1 o4_2
    else none
  else
   some (.tup [.agg [.vec .u16 6 o1_0], .bool true], []) := by kernel_rfl
noncomputable def R (n : Nat) (r : Int) (c : Int) (l : List Int) (v : List Int) : Res := run (E n) n Try.f65 L (us r c l v) (HA r c l v) k0
theorem R_eq (n : Nat) (r : Int) (c : Int) (l : List Int) (v : List Int) : R n r c l v =
  N0 n n (0 : Int) (List.replicate 6 (0 : Int)) (List.replicate 6 (0 : Int)) v [] r c l := by kernel_rfl
theorem ans {n : Nat} {r : Int} {c : Int} {l : List Int} {v : List Int} (hA : Sounds Try.prog (A n)) {u : U} {H : Heap} (h : R n r c l v = some (u, H)) : Answers Try.prog 65 (us r c l v) (HA r c l v) u H := answers_env tabOk mixed hA Try.func65 (by kernel_rfl) (by kernel_rfl) h
end S_solve

namespace S_Solve
abbrev num : Nat := 27
noncomputable def A (n : Nat) : List (Nat × Con) := ((fun (n : Nat) => ([(52, COk), (64, CVecOk), (65, CSolve0)] : List (Nat × Con)))) n
noncomputable abbrev E (n : Nat) : Env (U × Heap) := envC tab ios (A n)
def L : List (List Nat) := []
abbrev us (r : Int) (c : Int) (l : List Int) (v : List Int) : List U := (((fun (r c : Int) (l : List Int) (v : List Int) => (([.agg [.int .i8 r, .int .i8 c, .vec .u16 36 l], .agg [.vec .u16 6 v]] : List U), ([] : Heap)))) r c l v).1
abbrev HA (r : Int) (c : Int) (l : List Int) (v : List Int) : Heap := (((fun (r c : Int) (l : List Int) (v : List Int) => (([.agg [.int .i8 r, .int .i8 c, .vec .u16 36 l], .agg [.vec .u16 6 v]] : List U), ([] : Heap)))) r c l v).2
noncomputable def R (n : Nat) (r : Int) (c : Int) (l : List Int) (v : List Int) : Res := run (E n) n Try.f27 L (us r c l v) (HA r c l v) k0
theorem R_eq (n : Nat) (r : Int) (c : Int) (l : List Int) (v : List Int) : R n r c l v =
  pif ((Mat r c l)) (
  bif (!(valid r c l)) then
   some (.tup [.agg [.vec .u16 6 (List.replicate 6 (0 : Int))], .int .i64 (1 : Int)], [])
  else
   pif (((Vec v) ∧ (side r))) (
   bif (!(vecOk v r)) then
    some (.tup [.agg [.vec .u16 6 (List.replicate 6 (0 : Int))], .int .i64 (1 : Int)], [])
   else
    pif (((inMat r c l) ∧ ((Vec v) ∧ ((vecOk v r) = true)))) (
    bif (!(solB r c l v)) then
     some (.tup [.agg [.vec .u16 6 (List.replicate 6 (0 : Int))], .int .i64 (6 : Int)], [])
    else
     some (.tup [.agg [.vec .u16 6 (solL r c l v)], .int .i64 (0 : Int)], [])))) := by kernel_rfl
theorem ans {n : Nat} {r : Int} {c : Int} {l : List Int} {v : List Int} (hA : Sounds Try.prog (A n)) {u : U} {H : Heap} (h : R n r c l v = some (u, H)) : Answers Try.prog 27 (us r c l v) (HA r c l v) u H := answers_env tabOk mixed hA Try.func27 (by kernel_rfl) (by kernel_rfl) h
end S_Solve

namespace I_Solve
abbrev num : Nat := 29
noncomputable def A (n : Nat) : List (Nat × Con) := ((fun (n : Nat) => ([(59, CValid), (66, CIsFor), (55, CReduced)] : List (Nat × Con)))) n
noncomputable abbrev E (n : Nat) : Env (U × Heap) := envC tab ios (A n)
def L : List (List Nat) := [[4, 6, 2, 30, 3, 29], [4, 12, 50, 9, 10]]
abbrev us (r : Int) (c : Int) (l : List Int) (v : List Int) : List U := (((fun (r c : Int) (l : List Int) (v : List Int) => (([.agg [.int .i8 r, .int .i8 c, .vec .u16 36 l], .agg [.vec .u16 6 v]] : List U), ([] : Heap)))) r c l v).1
abbrev HA (r : Int) (c : Int) (l : List Int) (v : List Int) : Heap := (((fun (r c : Int) (l : List Int) (v : List Int) => (([.agg [.int .i8 r, .int .i8 c, .vec .u16 36 l], .agg [.vec .u16 6 v]] : List U), ([] : Heap)))) r c l v).2
def S0 (t30 : Int) (t29 : Int) (o0_0 : List Int) (o1_0 : Int) (o1_1 : Int) (o1_2 : List Int) (o2_0 : Int) (o2_1 : Int) (o2_2 : List Int) (o3_0 : List Int) : St := ⟨[(4, .ptr 0 0 0 0 6), (6, .ptr 1 0 0 0 1), (2, .ptr 2 0 0 0 1), (30, .int .i8 t30), (3, .ptr 3 0 0 0 6), (29, .int .i8 t29)], 78, [(0, ⟨[.vecs .u16 6 [o0_0]], true⟩), (1, ⟨[.ints .i8 [o1_0], .ints .i8 [o1_1], .vecs .u16 36 [o1_2]], true⟩), (2, ⟨[.ints .i8 [o2_0], .ints .i8 [o2_1], .vecs .u16 36 [o2_2]], true⟩), (3, ⟨[.vecs .u16 6 [o3_0]], true⟩)], [0, 1, 2, 3], 0⟩
noncomputable def N0 (n : Nat)  (m0 : Nat) (t30 : Int) (t29 : Int) (o0_0 : List Int) (o1_0 : Int) (o1_1 : Int) (o1_2 : List Int) (o2_0 : Int) (o2_1 : Int) (o2_2 : List Int) (o3_0 : List Int) : Res := nodeRun (E n) n Try.f29 L k0 [true, true, true, false, true, false] [] m0 (S0 t30 t29 o0_0 o1_0 o1_1 o1_2 o2_0 o2_1 o2_2 o3_0)
def S1 (t50 : Int) (o0_0 : List Int) (o1_0 : List Int) (o2_0 : Int) (o2_1 : Int) (o2_2 : List Int) (o3_0 : List Int) : St := ⟨[(4, .ptr 0 0 0 0 6), (12, .ptr 1 0 0 0 6), (50, .int .i64 t50), (9, .ptr 2 0 0 0 1), (10, .own 3)], 78, [(0, ⟨[.vecs .u16 6 [o0_0]], true⟩), (1, ⟨[.vecs .u16 6 [o1_0]], true⟩), (2, ⟨[.ints .i8 [o2_0], .ints .i8 [o2_1], .vecs .u16 36 [o2_2]], true⟩), (3, ⟨[.ints .i8 o3_0], true⟩)], [0, 1, 2, 3], 0⟩
noncomputable def N1 (n : Nat)  (m1 : Nat) (t50 : Int) (o0_0 : List Int) (o1_0 : List Int) (o2_0 : Int) (o2_1 : Int) (o2_2 : List Int) (o3_0 : List Int) : Res := nodeRun (E n) n Try.f29 L k0 [true, true, true, true, true, true, false, true, false] [] m1 (S1 t50 o0_0 o1_0 o2_0 o2_1 o2_2 o3_0)
theorem N0_succ (n : Nat)  (m0 : Nat) (t30 : Int) (t29 : Int) (o0_0 : List Int) (o1_0 : Int) (o1_1 : Int) (o1_2 : List Int) (o2_0 : Int) (o2_1 : Int) (o2_2 : List Int) (o3_0 : List Int) : N0 n  (m0 + 1) t30 t29 o0_0 o1_0 o1_1 o1_2 o2_0 o2_1 o2_2 o3_0 =
  bif decide (t30 < t29) then
   bif decide (((0 : Int) ≤ t30) ∧ (t30 < (6 : Int))) then
   bif decide (((0 : Int) ≤ t30) ∧ (t30 < (6 : Int))) then
    N0 n m0 (IntKind.wrap .i8 (t30 + (1 : Int))) t29 o0_0 o1_0 o1_1 (List.set o1_2 ((0 + ((Int.toNat t30) * 6)) + 0) (List.getD o3_0 (0 + ((Int.toNat t30) * 1)) (0 : Int))) o2_0 o2_1 o2_2 o3_0
    else none
   else none
  else
   pif (((inMat o2_0 o2_1 o2_2) ∧ (Vec36 o1_2))) (
   N1 n n (0 : Int) o0_0 (List.replicate 6 (0 : Int)) o1_0 o1_1 (redO (Int.toNat o2_0) (Int.toNat o2_1) o2_2 o1_2) (redF (Int.toNat o2_0) (Int.toNat o2_1) o2_2)) := by kernel_rfl
theorem N1_succ (n : Nat)  (m1 : Nat) (t50 : Int) (o0_0 : List Int) (o1_0 : List Int) (o2_0 : Int) (o2_1 : Int) (o2_2 : List Int) (o3_0 : List Int) : N1 n  (m1 + 1) t50 o0_0 o1_0 o2_0 o2_1 o2_2 o3_0 =
  bif decide (t50 < (6 : Int)) then
   bif decide (t50 < (((List.length o3_0) : Nat) : Int)) then
    bif decide (((0 : Int) ≤ t50) ∧ (t50 < (((List.length o3_0) : Nat) : Int))) then
    bif decide (((0 : Int) ≤ t50) ∧ (t50 < (6 : Int))) then
     bif decide (((0 : Int) ≤ (List.getD o3_0 (Int.toNat t50) (0 : Int))) ∧ ((List.getD o3_0 (Int.toNat t50) (0 : Int)) < (6 : Int))) then
      N1 n m1 (IntKind.wrap .i64 (t50 + (1 : Int))) o0_0 (List.set o1_0 (0 + ((Int.toNat (List.getD o3_0 (Int.toNat t50) (0 : Int))) * 1)) (List.getD o2_2 ((0 + ((Int.toNat t50) * 6)) + 0) (0 : Int))) o2_0 o2_1 o2_2 o3_0
      else none
     else none
    else none
   else
    bif decide (((0 : Int) ≤ t50) ∧ (t50 < (6 : Int))) then
    bif ((List.getD o2_2 ((0 + ((Int.toNat t50) * 6)) + 0) (0 : Int)) != (0 : Int)) then
      some (.tup [.agg [.vec .u16 6 (List.replicate 6 (0 : Int))], .int .i64 (6 : Int)], [])
     else
      N1 n m1 (IntKind.wrap .i64 (t50 + (1 : Int))) o0_0 o1_0 o2_0 o2_1 o2_2 o3_0
    else none
  else
   some (.tup [.agg [.vec .u16 6 o1_0], .int .i64 (0 : Int)], []) := by kernel_rfl
noncomputable def R (n : Nat) (r : Int) (c : Int) (l : List Int) (v : List Int) : Res := run (E n) n Try.f29 L (us r c l v) (HA r c l v) k0
theorem R_eq (n : Nat) (r : Int) (c : Int) (l : List Int) (v : List Int) : R n r c l v =
  pif ((Mat r c l)) (
  bif (!(valid r c l)) then
   some (.tup [.agg [.vec .u16 6 (List.replicate 6 (0 : Int))], .int .i64 (1 : Int)], [])
  else
   pif (((Vec v) ∧ (i8 r))) (
   bif (!(vecOk v r)) then
    some (.tup [.agg [.vec .u16 6 (List.replicate 6 (0 : Int))], .int .i64 (1 : Int)], [])
   else
    N0 n n (0 : Int) r (List.replicate 6 (0 : Int)) r (1 : Int) (List.replicate 36 (0 : Int)) r c l v)) := by kernel_rfl
theorem ans {n : Nat} {r : Int} {c : Int} {l : List Int} {v : List Int} (hA : Sounds Try.prog (A n)) {u : U} {H : Heap} (h : R n r c l v = some (u, H)) : Answers Try.prog 29 (us r c l v) (HA r c l v) u H := answers_env tabOk mixed hA Try.func29 (by kernel_rfl) (by kernel_rfl) h
end I_Solve

namespace L_toVector
abbrev num : Nat := 28
noncomputable def A (n : Nat) : List (Nat × Con) := ((fun (n : Nat) => ([] : List (Nat × Con)))) n
noncomputable abbrev E (n : Nat) : Env (U × Heap) := envC tab ios (A n)
def L : List (List Nat) := [[2, 3, 4, 1]]
abbrev us (l : List Int) : List U := (((fun (l : List Int) => (([.agg [.vec .u16 6 l]] : List U), ([] : Heap)))) l).1
abbrev HA (l : List Int) : Heap := (((fun (l : List Int) => (([.agg [.vec .u16 6 l]] : List U), ([] : Heap)))) l).2
def S0 (t4 : Int) (o0_0 : List Int) (o1_0 : List Int) (o2_0 : List Int) : St := ⟨[(2, .ptr 0 0 0 0 6), (3, .ptr 1 0 0 0 6), (4, .int .i64 t4), (1, .ptr 2 0 0 0 6)], 15, [(0, ⟨[.vecs .u16 6 [o0_0]], true⟩), (1, ⟨[.vecs .u16 6 [o1_0]], true⟩), (2, ⟨[.vecs .u16 6 [o2_0]], true⟩)], [0, 1, 2], 0⟩
noncomputable def N0 (n : Nat)  (m0 : Nat) (t4 : Int) (o0_0 : List Int) (o1_0 : List Int) (o2_0 : List Int) : Res := nodeRun (E n) n Try.f28 L k0 [true, true, false, true, false] [] m0 (S0 t4 o0_0 o1_0 o2_0)
theorem N0_succ (n : Nat)  (m0 : Nat) (t4 : Int) (o0_0 : List Int) (o1_0 : List Int) (o2_0 : List Int) : N0 n  (m0 + 1) t4 o0_0 o1_0 o2_0 =
  bif decide (t4 < (6 : Int)) then
   bif decide (((0 : Int) ≤ t4) ∧ (t4 < (6 : Int))) then
   bif decide (((0 : Int) ≤ t4) ∧ (t4 < (6 : Int))) then
    N0 n m0 (IntKind.wrap .i64 (t4 + (1 : Int))) o0_0 (List.set o1_0 (0 + ((Int.toNat t4) * 1)) (List.getD o2_0 (0 + ((Int.toNat t4) * 1)) (0 : Int))) o2_0
    else none
   else none
  else
   some (.agg [.vec .u16 6 o1_0], []) := by kernel_rfl
noncomputable def R (n : Nat) (l : List Int) : Res := run (E n) n Try.f28 L (us l) (HA l) k0
theorem R_eq (n : Nat) (l : List Int) : R n l =
  N0 n n (0 : Int) (List.replicate 6 (0 : Int)) (List.replicate 6 (0 : Int)) l := by kernel_rfl
theorem ans {n : Nat} {l : List Int} (hA : Sounds Try.prog (A n)) {u : U} {H : Heap} (h : R n l = some (u, H)) : Answers Try.prog 28 (us l) (HA l) u H := answers_env tabOk mixed hA Try.func28 (by kernel_rfl) (by kernel_rfl) h
end L_toVector

namespace L_eqVector
abbrev num : Nat := 30
noncomputable def A (n : Nat) : List (Nat × Con) := ((fun (n : Nat) => ([] : List (Nat × Con)))) n
noncomputable abbrev E (n : Nat) : Env (U × Heap) := envC tab ios (A n)
def L : List (List Nat) := [[5, 3, 2]]
abbrev us (l : List Int) (l' : List Int) : List U := (((fun (l l' : List Int) => (([.agg [.vec .u16 6 l], .agg [.vec .u16 6 l']] : List U), ([] : Heap)))) l l').1
abbrev HA (l : List Int) (l' : List Int) : Heap := (((fun (l l' : List Int) => (([.agg [.vec .u16 6 l], .agg [.vec .u16 6 l']] : List U), ([] : Heap)))) l l').2
def S0 (t5 : Int) (o0_0 : List Int) (o1_0 : List Int) : St := ⟨[(5, .int .i64 t5), (3, .ptr 0 0 0 0 6), (2, .ptr 1 0 0 0 6)], 17, [(0, ⟨[.vecs .u16 6 [o0_0]], true⟩), (1, ⟨[.vecs .u16 6 [o1_0]], true⟩)], [0, 1], 0⟩
noncomputable def N0 (n : Nat)  (m0 : Nat) (t5 : Int) (o0_0 : List Int) (o1_0 : List Int) : Res := nodeRun (E n) n Try.f30 L k0 [true, false, true, false] [] m0 (S0 t5 o0_0 o1_0)
theorem N0_succ (n : Nat)  (m0 : Nat) (t5 : Int) (o0_0 : List Int) (o1_0 : List Int) : N0 n  (m0 + 1) t5 o0_0 o1_0 =
  bif decide (t5 < (6 : Int)) then
   bif decide (((0 : Int) ≤ t5) ∧ (t5 < (6 : Int))) then
   bif decide (((0 : Int) ≤ t5) ∧ (t5 < (6 : Int))) then
    bif ((List.getD o1_0 (0 + ((Int.toNat t5) * 1)) (0 : Int)) != (List.getD o0_0 (0 + ((Int.toNat t5) * 1)) (0 : Int))) then
      some (.bool false, [])
     else
      N0 n m0 (IntKind.wrap .i64 (t5 + (1 : Int))) o0_0 o1_0
    else none
   else none
  else
   some (.bool true, []) := by kernel_rfl
noncomputable def R (n : Nat) (l : List Int) (l' : List Int) : Res := run (E n) n Try.f30 L (us l l') (HA l l') k0
theorem R_eq (n : Nat) (l : List Int) (l' : List Int) : R n l l' =
  N0 n n (0 : Int) l' l := by kernel_rfl
theorem ans {n : Nat} {l : List Int} {l' : List Int} (hA : Sounds Try.prog (A n)) {u : U} {H : Heap} (h : R n l l' = some (u, H)) : Answers Try.prog 30 (us l l') (HA l l') u H := answers_env tabOk mixed hA Try.func30 (by kernel_rfl) (by kernel_rfl) h
end L_eqVector

namespace L_Solve
abbrev num : Nat := 9
noncomputable def A (n : Nat) : List (Nat × Con) := ((fun (n : Nat) => ([(27, CSolve), (29, CSolve), (14, CToMat), (28, CNim6), (30, CEqVec)] : List (Nat × Con)))) n
noncomputable abbrev E (n : Nat) : Env (U × Heap) := envC tab ios (A n)
def L : List (List Nat) := []
abbrev us (r : Int) (c : Int) (l : List Int) (v : List Int) : List U := (((fun (r c : Int) (l : List Int) (v : List Int) => (([.agg [.int .i8 r, .int .i8 c, .vec .u16 36 l], .agg [.vec .u16 6 v]] : List U), ([] : Heap)))) r c l v).1
abbrev HA (r : Int) (c : Int) (l : List Int) (v : List Int) : Heap := (((fun (r c : Int) (l : List Int) (v : List Int) => (([.agg [.int .i8 r, .int .i8 c, .vec .u16 36 l], .agg [.vec .u16 6 v]] : List U), ([] : Heap)))) r c l v).2
noncomputable def R (n : Nat) (r : Int) (c : Int) (l : List Int) (v : List Int) : Res := run (E n) n Try.f9 L (us r c l v) (HA r c l v) k0
theorem R_eq (n : Nat) (r : Int) (c : Int) (l : List Int) (v : List Int) : R n r c l v =
  pif ((Mat r c l)) (
  pif ((Vec v)) (
  pif (((Mat r c l) ∧ (Vec v))) (
  pif ((Mat r c l)) (
  pif ((Vec v)) (
  pif (((Mat r c l) ∧ (Vec v))) (
  pif ((((List.length (okV (solC r c l v) (solL r c l v))) = 6) ∧ ((List.length (okV (solC r c l v) (solL r c l v))) = 6))) (
  bif (!((okV (solC r c l v) (solL r c l v)) == (okV (solC r c l v) (solL r c l v)))) then
   some (.bool false, [])
  else
   bif ((solC r c l v) != (solC r c l v)) then
    some (.bool false, [])
   else
    some (.bool true, [])))))))) := by kernel_rfl
theorem ans {n : Nat} {r : Int} {c : Int} {l : List Int} {v : List Int} (hA : Sounds Try.prog (A n)) {u : U} {H : Heap} (h : R n r c l v = some (u, H)) : Answers Try.prog 9 (us r c l v) (HA r c l v) u H := answers_env tabOk mixed hA Try.func9 (by kernel_rfl) (by kernel_rfl) h
end L_Solve

end Go.VM

