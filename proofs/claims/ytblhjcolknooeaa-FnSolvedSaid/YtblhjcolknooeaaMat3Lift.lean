/- Written by a program of this session (Lift.lean): what the evaluator comes to, function by function; the kernel checks it. The conditions: those of the contracts. -/
import Derived.Test.YtblhjcolknooeaaVmP4
import Derived.Test.YtblhjcolknooeaaMatT
import Derived.Test.YtblhjcolknooeaaMatTS
import Derived.Test.YtblhjcolknooeaaSolvLConM
import Derived.KernelRfl
set_option linter.unusedVariables false
set_option linter.unusedSimpArgs false
set_option linter.unusedSectionVars false
namespace Go.VM
open Go Go.Proofs Go.Fn NimF
set_option linter.unusedVariables false
set_option maxRecDepth 100000
namespace S_reduce
abbrev num : Nat := 63
noncomputable def A (n : Nat) : List (Nat × Con) := ((fun (n : Nat) => ([(72, CMul), (79, CInv), (47, CAdd), (78, CSwap)] : List (Nat × Con)))) n
noncomputable abbrev E (n : Nat) : Env (U × Heap) := envC tab ios (A n)
def L : List (List Nat) := [[3, 4, 0], [0, 4, 3, 5, 6], [0, 4, 3, 5, 8, 7], [0, 4, 3, 9, 5]]
abbrev us (r : Int) (c : Int) (l : List Int) : List U := (((fun (r c : Int) (l : List Int) => (([.ptr 0 0 0 0 1] : List U), ([(0, ⟨[.ints .i8 [r], .ints .i8 [c], .vecs .u16 36 [l]], true⟩)] : Heap)))) r c l).1
abbrev HA (r : Int) (c : Int) (l : List Int) : Heap := (((fun (r c : Int) (l : List Int) => (([.ptr 0 0 0 0 1] : List U), ([(0, ⟨[.ints .i8 [r], .ints .i8 [c], .vecs .u16 36 [l]], true⟩)] : Heap)))) r c l).2
def S0 (t4 : Int) (o0_0 : Int) (o0_1 : Int) (o0_2 : List Int) (o1_0 : List Int) : St := ⟨[(3, .own 1), (4, .int .i64 t4), (0, .ptr 0 0 0 0 1)], 120, [(0, ⟨[.ints .i8 [o0_0], .ints .i8 [o0_1], .vecs .u16 36 [o0_2]], true⟩), (1, ⟨[.ints .i64 o1_0], true⟩)], [0, 1], 1⟩
noncomputable def N0 (n : Nat)  (m0 : Nat) (t4 : Int) (o0_0 : Int) (o0_1 : Int) (o0_2 : List Int) (o1_0 : List Int) : Res := nodeRun (E n) n Try.f63 L k0 [true, true, false, true, false] [] m0 (S0 t4 o0_0 o0_1 o0_2 o1_0)
def S1 (t4 : Int) (t5 : Int) (t6 : Int) (o0_0 : Int) (o0_1 : Int) (o0_2 : List Int) (o1_0 : List Int) : St := ⟨[(0, .ptr 0 0 0 0 1), (4, .int .i64 t4), (3, .own 1), (5, .int .i64 t5), (6, .int .i64 t6)], 120, [(0, ⟨[.ints .i8 [o0_0], .ints .i8 [o0_1], .vecs .u16 36 [o0_2]], true⟩), (1, ⟨[.ints .i64 o1_0], true⟩)], [0, 1], 1⟩
noncomputable def N1 (n : Nat) (m0 : Nat) (m1 : Nat) (t4 : Int) (t5 : Int) (t6 : Int) (o0_0 : Int) (o0_1 : Int) (o0_2 : List Int) (o1_0 : List Int) : Res := nodeRun (E n) n Try.f63 L k0 [true, true, false, true, false, false, true, false, false, true, true, false, false] [m0] m1 (S1 t4 t5 t6 o0_0 o0_1 o0_2 o1_0)
def S2 (t4 : Int) (t5 : Int) (t8 : Int) (t7 : Int) (o0_0 : Int) (o0_1 : Int) (o0_2 : List Int) (o1_0 : List Int) : St := ⟨[(0, .ptr 0 0 0 0 1), (4, .int .i64 t4), (3, .own 1), (5, .int .i64 t5), (8, .int .i64 t8), (7, .int .u16 t7)], 120, [(0, ⟨[.ints .i8 [o0_0], .ints .i8 [o0_1], .vecs .u16 36 [o0_2]], true⟩), (1, ⟨[.ints .i64 o1_0], true⟩)], [0, 1], 1⟩
noncomputable def N2 (n : Nat) (m0 : Nat) (m2 : Nat) (t4 : Int) (t5 : Int) (t8 : Int) (t7 : Int) (o0_0 : Int) (o0_1 : Int) (o0_2 : List Int) (o1_0 : List Int) : Res := nodeRun (E n) n Try.f63 L k0 [true, true, false, true, false, false, true, false, false, true, true, true, true, true, true, false, true, false] [m0] m2 (S2 t4 t5 t8 t7 o0_0 o0_1 o0_2 o1_0)
def S3 (t4 : Int) (t9 : Int) (t5 : Int) (o0_0 : Int) (o0_1 : Int) (o0_2 : List Int) (o1_0 : List Int) : St := ⟨[(0, .ptr 0 0 0 0 1), (4, .int .i64 t4), (3, .own 1), (9, .int .i64 t9), (5, .int .i64 t5)], 120, [(0, ⟨[.ints .i8 [o0_0], .ints .i8 [o0_1], .vecs .u16 36 [o0_2]], true⟩), (1, ⟨[.ints .i64 o1_0], true⟩)], [0, 1], 1⟩
noncomputable def N3 (n : Nat) (m0 : Nat) (m3 : Nat) (t4 : Int) (t9 : Int) (t5 : Int) (o0_0 : Int) (o0_1 : Int) (o0_2 : List Int) (o1_0 : List Int) : Res := nodeRun (E n) n Try.f63 L k0 [true, true, false, true, false, false, true, false, false, true, true, true, true, true, true, true, false, true, false] [m0] m3 (S3 t4 t9 t5 o0_0 o0_1 o0_2 o1_0)
theorem N0_succ (n : Nat)  (m0 : Nat) (t4 : Int) (o0_0 : Int) (o0_1 : Int) (o0_2 : List Int) (o1_0 : List Int) : N0 n  (m0 + 1) t4 o0_0 o0_1 o0_2 o1_0 =
  bif decide (t4 < (IntKind.wrap .i64 o0_1)) then
   N1 n m0 n t4 (((List.length o1_0) : Nat) : Int) (((List.length o1_0) : Nat) : Int) o0_0 o0_1 o0_2 o1_0
  else
   some (.own 1, [(0, ⟨[.ints .i8 [o0_0], .ints .i8 [o0_1], .vecs .u16 36 [o0_2]], true⟩), (1, ⟨[.ints .i64 o1_0], true⟩)]) := by kernel_rfl
theorem N1_succ (n : Nat) (m0 : Nat) (m1 : Nat) (t4 : Int) (t5 : Int) (t6 : Int) (o0_0 : Int) (o0_1 : Int) (o0_2 : List Int) (o1_0 : List Int) : N1 n m0 (m1 + 1) t4 t5 t6 o0_0 o0_1 o0_2 o1_0 =
  bif decide (t6 < (IntKind.wrap .i64 o0_0)) then
   bif decide (((0 : Int) ≤ t6) ∧ (t6 < (6 : Int))) then
   bif decide (((0 : Int) ≤ t4) ∧ (t4 < (6 : Int))) then
    bif ((List.getD o0_2 ((0 + ((Int.toNat t6) * 6)) + ((Int.toNat t4) * 1)) (0 : Int)) == (0 : Int)) then
      N1 n m0 m1 t4 t5 (IntKind.wrap .i64 (t6 + (1 : Int))) o0_0 o0_1 o0_2 o1_0
     else
      bif (t6 == (IntKind.wrap .i64 o0_0)) then
       N0 n m0 (IntKind.wrap .i64 (t4 + (1 : Int))) o0_0 o0_1 o0_2 o1_0
      else
       pif (((Mat o0_0 o0_1 o0_2) ∧ ((inRow t5) ∧ (inRow t6)))) (
       bif decide (((0 : Int) ≤ t5) ∧ (t5 < (6 : Int))) then
       bif decide (((0 : Int) ≤ t4) ∧ (t4 < (6 : Int))) then
        pif ((u16 (List.getD (swapR (Int.toNat t5) (Int.toNat t6) o0_2) ((0 + ((Int.toNat t5) * 6)) + ((Int.toNat t4) * 1)) (0 : Int)))) (
         N2 n m0 n t4 t5 (0 : Int) (invI (List.getD (swapR (Int.toNat t5) (Int.toNat t6) o0_2) ((0 + ((Int.toNat t5) * 6)) + ((Int.toNat t4) * 1)) (0 : Int))) o0_0 o0_1 (swapR (Int.toNat t5) (Int.toNat t6) o0_2) o1_0)
        else none
       else none)
    else none
   else none
  else
   bif (t6 == (IntKind.wrap .i64 o0_0)) then
    N0 n m0 (IntKind.wrap .i64 (t4 + (1 : Int))) o0_0 o0_1 o0_2 o1_0
   else
    pif (((Mat o0_0 o0_1 o0_2) ∧ ((inRow t5) ∧ (inRow t6)))) (
    bif decide (((0 : Int) ≤ t5) ∧ (t5 < (6 : Int))) then
    bif decide (((0 : Int) ≤ t4) ∧ (t4 < (6 : Int))) then
     pif ((u16 (List.getD (swapR (Int.toNat t5) (Int.toNat t6) o0_2) ((0 + ((Int.toNat t5) * 6)) + ((Int.toNat t4) * 1)) (0 : Int)))) (
      N2 n m0 n t4 t5 (0 : Int) (invI (List.getD (swapR (Int.toNat t5) (Int.toNat t6) o0_2) ((0 + ((Int.toNat t5) * 6)) + ((Int.toNat t4) * 1)) (0 : Int))) o0_0 o0_1 (swapR (Int.toNat t5) (Int.toNat t6) o0_2) o1_0)
     else none
    else none) := by kernel_rfl
theorem N2_succ (n : Nat) (m0 : Nat) (m2 : Nat) (t4 : Int) (t5 : Int) (t8 : Int) (t7 : Int) (o0_0 : Int) (o0_1 : Int) (o0_2 : List Int) (o1_0 : List Int) : N2 n m0 (m2 + 1) t4 t5 t8 t7 o0_0 o0_1 o0_2 o1_0 =
  bif decide (t8 < (IntKind.wrap .i64 o0_1)) then
   bif decide (((0 : Int) ≤ t5) ∧ (t5 < (6 : Int))) then
   bif decide (((0 : Int) ≤ t8) ∧ (t8 < (6 : Int))) then
    bif decide (((0 : Int) ≤ t5) ∧ (t5 < (6 : Int))) then
     pif (((u16 (List.getD o0_2 ((0 + ((Int.toNat t5) * 6)) + ((Int.toNat t8) * 1)) (0 : Int))) ∧ (u16 t7))) (
      bif decide (((0 : Int) ≤ t8) ∧ (t8 < (6 : Int))) then
      N2 n m0 m2 t4 t5 (IntKind.wrap .i64 (t8 + (1 : Int))) t7 o0_0 o0_1 (List.set o0_2 ((0 + ((Int.toNat t5) * 6)) + ((Int.toNat t8) * 1)) (mulI (List.getD o0_2 ((0 + ((Int.toNat t5) * 6)) + ((Int.toNat t8) * 1)) (0 : Int)) t7)) o1_0
      else none)
     else none
    else none
   else none
  else
   N3 n m0 n t4 (0 : Int) t5 o0_0 o0_1 o0_2 o1_0 := by kernel_rfl
theorem N3_succ (n : Nat) (m0 : Nat) (m3 : Nat) (t4 : Int) (t9 : Int) (t5 : Int) (o0_0 : Int) (o0_1 : Int) (o0_2 : List Int) (o1_0 : List Int) : N3 n m0 (m3 + 1) t4 t9 t5 o0_0 o0_1 o0_2 o1_0 =
  bif decide (t9 < (IntKind.wrap .i64 o0_0)) then
   bif (t9 != t5) then
    bif decide (((0 : Int) ≤ t9) ∧ (t9 < (6 : Int))) then
    bif decide (((0 : Int) ≤ t4) ∧ (t4 < (6 : Int))) then
     pif (((Mat o0_0 o0_1 o0_2) ∧ ((inRow t5) ∧ ((inRow t9) ∧ ((o0_1 ≤ (6 : Int)) ∧ (u16 (List.getD o0_2 ((0 + ((Int.toNat t9) * 6)) + ((Int.toNat t4) * 1)) (0 : Int)))))))) (
      N3 n m0 m3 t4 (IntKind.wrap .i64 (t9 + (1 : Int))) t5 o0_0 o0_1 (addTo (Int.toNat t5) (Int.toNat t9) (List.getD o0_2 ((0 + ((Int.toNat t9) * 6)) + ((Int.toNat t4) * 1)) (0 : Int)) (Int.toNat o0_1) 0 o0_2) o1_0)
     else none
    else none
   else
    N3 n m0 m3 t4 (IntKind.wrap .i64 (t9 + (1 : Int))) t5 o0_0 o0_1 o0_2 o1_0
  else
   bif decide ((((List.length o1_0) + 1) * 1) ≤ 4398046511104) then
   N0 n m0 (IntKind.wrap .i64 (t4 + (1 : Int))) o0_0 o0_1 o0_2 (o1_0 ++ [t4])
   else none := by kernel_rfl
noncomputable def R (n : Nat) (r : Int) (c : Int) (l : List Int) : Res := run (E n) n Try.f63 L (us r c l) (HA r c l) k0
theorem R_eq (n : Nat) (r : Int) (c : Int) (l : List Int) : R n r c l =
  N0 n n (0 : Int) r c l [] := by kernel_rfl
theorem ans {n : Nat} {r : Int} {c : Int} {l : List Int} (hA : Sounds Try.prog (A n)) {u : U} {H : Heap} (h : R n r c l = some (u, H)) : Answers Try.prog 63 (us r c l) (HA r c l) u H := answers_env tabOk mixed hA Try.func63 (by kernel_rfl) (by kernel_rfl) h
end S_reduce

namespace I_reduced
abbrev num : Nat := 55
noncomputable def A (n : Nat) : List (Nat × Con) := ((fun (n : Nat) => ([(50, CMul), (77, CInv)] : List (Nat × Con)))) n
noncomputable abbrev E (n : Nat) : Env (U × Heap) := envC tab ios (A n)
def L : List (List Nat) := [[4, 5, 9, 8, 3, 2, 22, 10, 21], [4, 5, 3, 2, 21, 22, 10, 11, 8, 9, 12], [4, 5, 9, 3, 2, 21, 22, 10, 11, 8, 84, 14], [4, 5, 9, 3, 2, 21, 22, 10, 11, 8, 116, 115], [4, 5, 9, 3, 2, 21, 22, 10, 11, 8, 115, 116, 132, 17, 16]]
abbrev us (r : Int) (c : Int) (l : List Int) (r' : Int) (c' : Int) (l' : List Int) : List U := (((fun (r c : Int) (l : List Int) (r' c' : Int) (l' : List Int) => (([.agg [.int .i8 r, .int .i8 c, .vec .u16 36 l], .agg [.int .i8 r', .int .i8 c', .vec .u16 36 l']] : List U), ([] : Heap)))) r c l r' c' l').1
abbrev HA (r : Int) (c : Int) (l : List Int) (r' : Int) (c' : Int) (l' : List Int) : Heap := (((fun (r c : Int) (l : List Int) (r' c' : Int) (l' : List Int) => (([.agg [.int .i8 r, .int .i8 c, .vec .u16 36 l], .agg [.int .i8 r', .int .i8 c', .vec .u16 36 l']] : List U), ([] : Heap)))) r c l r' c' l').2
def S0 (t9 : Int) (t22 : Int) (t10 : Int) (t21 : Int) (o0_0 : Int) (o0_1 : Int) (o0_2 : List Int) (o1_0 : Int) (o1_1 : Int) (o1_2 : List Int) (o2_0 : List Int) (o3_0 : Int) (o3_1 : Int) (o3_2 : List Int) (o4_0 : Int) (o4_1 : Int) (o4_2 : List Int) : St := ⟨[(4, .ptr 0 0 0 0 1), (5, .ptr 1 0 0 0 1), (9, .int .u16 t9), (8, .own 2), (3, .ptr 3 0 0 0 1), (2, .ptr 4 0 0 0 1), (22, .int .i8 t22), (10, .int .i8 t10), (21, .int .i8 t21)], 190, [(0, ⟨[.ints .i8 [o0_0], .ints .i8 [o0_1], .vecs .u16 36 [o0_2]], true⟩), (1, ⟨[.ints .i8 [o1_0], .ints .i8 [o1_1], .vecs .u16 36 [o1_2]], true⟩), (2, ⟨[.ints .i8 o2_0], true⟩), (3, ⟨[.ints .i8 [o3_0], .ints .i8 [o3_1], .vecs .u16 36 [o3_2]], true⟩), (4, ⟨[.ints .i8 [o4_0], .ints .i8 [o4_1], .vecs .u16 36 [o4_2]], true⟩)], [0, 1, 2, 3, 4], 0⟩
noncomputable def N0 (n : Nat)  (m0 : Nat) (t9 : Int) (t22 : Int) (t10 : Int) (t21 : Int) (o0_0 : Int) (o0_1 : Int) (o0_2 : List Int) (o1_0 : Int) (o1_1 : Int) (o1_2 : List Int) (o2_0 : List Int) (o3_0 : Int) (o3_1 : Int) (o3_2 : List Int) (o4_0 : Int) (o4_1 : Int) (o4_2 : List Int) : Res := nodeRun (E n) n Try.f55 L k0 [true, false, true, true, false, true, false] [] m0 (S0 t9 t22 t10 t21 o0_0 o0_1 o0_2 o1_0 o1_1 o1_2 o2_0 o3_0 o3_1 o3_2 o4_0 o4_1 o4_2)
def S1 (t21 : Int) (t22 : Int) (t10 : Int) (t11 : Int) (t9 : Int) (t12 : Int) (o0_0 : Int) (o0_1 : Int) (o0_2 : List Int) (o1_0 : Int) (o1_1 : Int) (o1_2 : List Int) (o2_0 : Int) (o2_1 : Int) (o2_2 : List Int) (o3_0 : Int) (o3_1 : Int) (o3_2 : List Int) (o4_0 : List Int) : St := ⟨[(4, .ptr 0 0 0 0 1), (5, .ptr 1 0 0 0 1), (3, .ptr 2 0 0 0 1), (2, .ptr 3 0 0 0 1), (21, .int .i8 t21), (22, .int .i8 t22), (10, .int .i8 t10), (11, .int .i8 t11), (8, .own 4), (9, .int .u16 t9), (12, .int .i8 t12)], 190, [(0, ⟨[.ints .i8 [o0_0], .ints .i8 [o0_1], .vecs .u16 36 [o0_2]], true⟩), (1, ⟨[.ints .i8 [o1_0], .ints .i8 [o1_1], .vecs .u16 36 [o1_2]], true⟩), (2, ⟨[.ints .i8 [o2_0], .ints .i8 [o2_1], .vecs .u16 36 [o2_2]], true⟩), (3, ⟨[.ints .i8 [o3_0], .ints .i8 [o3_1], .vecs .u16 36 [o3_2]], true⟩), (4, ⟨[.ints .i8 o4_0], true⟩)], [0, 1, 2, 3, 4], 0⟩
noncomputable def N1 (n : Nat) (m0 : Nat) (m1 : Nat) (t21 : Int) (t22 : Int) (t10 : Int) (t11 : Int) (t9 : Int) (t12 : Int) (o0_0 : Int) (o0_1 : Int) (o0_2 : List Int) (o1_0 : Int) (o1_1 : Int) (o1_2 : List Int) (o2_0 : Int) (o2_1 : Int) (o2_2 : List Int) (o3_0 : Int) (o3_1 : Int) (o3_2 : List Int) (o4_0 : List Int) : Res := nodeRun (E n) n Try.f55 L k0 [true, false, true, true, false, true, false, false, true, true, false, false, true, true, false, false] [m0] m1 (S1 t21 t22 t10 t11 t9 t12 o0_0 o0_1 o0_2 o1_0 o1_1 o1_2 o2_0 o2_1 o2_2 o3_0 o3_1 o3_2 o4_0)
def S2 (t9 : Int) (t21 : Int) (t22 : Int) (t10 : Int) (t11 : Int) (t84 : Int) (t14 : Int) (o0_0 : Int) (o0_1 : Int) (o0_2 : List Int) (o1_0 : Int) (o1_1 : Int) (o1_2 : List Int) (o2_0 : Int) (o2_1 : Int) (o2_2 : List Int) (o3_0 : Int) (o3_1 : Int) (o3_2 : List Int) (o4_0 : List Int) : St := ⟨[(4, .ptr 0 0 0 0 1), (5, .ptr 1 0 0 0 1), (9, .int .u16 t9), (3, .ptr 2 0 0 0 1), (2, .ptr 3 0 0 0 1), (21, .int .i8 t21), (22, .int .i8 t22), (10, .int .i8 t10), (11, .int .i8 t11), (8, .own 4), (84, .int .i64 t84), (14, .int .u16 t14)], 190, [(0, ⟨[.ints .i8 [o0_0], .ints .i8 [o0_1], .vecs .u16 36 [o0_2]], true⟩), (1, ⟨[.ints .i8 [o1_0], .ints .i8 [o1_1], .vecs .u16 36 [o1_2]], true⟩), (2, ⟨[.ints .i8 [o2_0], .ints .i8 [o2_1], .vecs .u16 36 [o2_2]], true⟩), (3, ⟨[.ints .i8 [o3_0], .ints .i8 [o3_1], .vecs .u16 36 [o3_2]], true⟩), (4, ⟨[.ints .i8 o4_0], true⟩)], [0, 1, 2, 3, 4], 0⟩
noncomputable def N2 (n : Nat) (m0 : Nat) (m2 : Nat) (t9 : Int) (t21 : Int) (t22 : Int) (t10 : Int) (t11 : Int) (t84 : Int) (t14 : Int) (o0_0 : Int) (o0_1 : Int) (o0_2 : List Int) (o1_0 : Int) (o1_1 : Int) (o1_2 : List Int) (o2_0 : Int) (o2_1 : Int) (o2_2 : List Int) (o3_0 : Int) (o3_1 : Int) (o3_2 : List Int) (o4_0 : List Int) : Res := nodeRun (E n) n Try.f55 L k0 [true, false, true, true, false, true, false, false, true, true, false, false, true, true, true, true, true, true, true, true, true, false, true, false] [m0] m2 (S2 t9 t21 t22 t10 t11 t84 t14 o0_0 o0_1 o0_2 o1_0 o1_1 o1_2 o2_0 o2_1 o2_2 o3_0 o3_1 o3_2 o4_0)
def S3 (t9 : Int) (t21 : Int) (t22 : Int) (t10 : Int) (t11 : Int) (t116 : Int) (t115 : Int) (o0_0 : Int) (o0_1 : Int) (o0_2 : List Int) (o1_0 : Int) (o1_1 : Int) (o1_2 : List Int) (o2_0 : Int) (o2_1 : Int) (o2_2 : List Int) (o3_0 : Int) (o3_1 : Int) (o3_2 : List Int) (o4_0 : List Int) : St := ⟨[(4, .ptr 0 0 0 0 1), (5, .ptr 1 0 0 0 1), (9, .int .u16 t9), (3, .ptr 2 0 0 0 1), (2, .ptr 3 0 0 0 1), (21, .int .i8 t21), (22, .int .i8 t22), (10, .int .i8 t10), (11, .int .i8 t11), (8, .own 4), (116, .int .i8 t116), (115, .int .i8 t115)], 190, [(0, ⟨[.ints .i8 [o0_0], .ints .i8 [o0_1], .vecs .u16 36 [o0_2]], true⟩), (1, ⟨[.ints .i8 [o1_0], .ints .i8 [o1_1], .vecs .u16 36 [o1_2]], true⟩), (2, ⟨[.ints .i8 [o2_0], .ints .i8 [o2_1], .vecs .u16 36 [o2_2]], true⟩), (3, ⟨[.ints .i8 [o3_0], .ints .i8 [o3_1], .vecs .u16 36 [o3_2]], true⟩), (4, ⟨[.ints .i8 o4_0], true⟩)], [0, 1, 2, 3, 4], 0⟩
noncomputable def N3 (n : Nat) (m0 : Nat) (m3 : Nat) (t9 : Int) (t21 : Int) (t22 : Int) (t10 : Int) (t11 : Int) (t116 : Int) (t115 : Int) (o0_0 : Int) (o0_1 : Int) (o0_2 : List Int) (o1_0 : Int) (o1_1 : Int) (o1_2 : List Int) (o2_0 : Int) (o2_1 : Int) (o2_2 : List Int) (o3_0 : Int) (o3_1 : Int) (o3_2 : List Int) (o4_0 : List Int) : Res := nodeRun (E n) n Try.f55 L k0 [true, false, true, true, false, true, false, false, true, true, false, false, true, true, true, true, true, true, true, true, true, true, false, true, false] [m0] m3 (S3 t9 t21 t22 t10 t11 t116 t115 o0_0 o0_1 o0_2 o1_0 o1_1 o1_2 o2_0 o2_1 o2_2 o3_0 o3_1 o3_2 o4_0)
def S4 (t9 : Int) (t21 : Int) (t22 : Int) (t10 : Int) (t11 : Int) (t115 : Int) (t116 : Int) (t132 : Int) (t17 : Int) (t16 : Int) (o0_0 : Int) (o0_1 : Int) (o0_2 : List Int) (o1_0 : Int) (o1_1 : Int) (o1_2 : List Int) (o2_0 : Int) (o2_1 : Int) (o2_2 : List Int) (o3_0 : Int) (o3_1 : Int) (o3_2 : List Int) (o4_0 : List Int) : St := ⟨[(4, .ptr 0 0 0 0 1), (5, .ptr 1 0 0 0 1), (9, .int .u16 t9), (3, .ptr 2 0 0 0 1), (2, .ptr 3 0 0 0 1), (21, .int .i8 t21), (22, .int .i8 t22), (10, .int .i8 t10), (11, .int .i8 t11), (8, .own 4), (115, .int .i8 t115), (116, .int .i8 t116), (132, .int .i64 t132), (17, .int .u16 t17), (16, .int .i8 t16)], 190, [(0, ⟨[.ints .i8 [o0_0], .ints .i8 [o0_1], .vecs .u16 36 [o0_2]], true⟩), (1, ⟨[.ints .i8 [o1_0], .ints .i8 [o1_1], .vecs .u16 36 [o1_2]], true⟩), (2, ⟨[.ints .i8 [o2_0], .ints .i8 [o2_1], .vecs .u16 36 [o2_2]], true⟩), (3, ⟨[.ints .i8 [o3_0], .ints .i8 [o3_1], .vecs .u16 36 [o3_2]], true⟩), (4, ⟨[.ints .i8 o4_0], true⟩)], [0, 1, 2, 3, 4], 0⟩
noncomputable def N4 (n : Nat) (m0 : Nat) (m3 : Nat) (m4 : Nat) (t9 : Int) (t21 : Int) (t22 : Int) (t10 : Int) (t11 : Int) (t115 : Int) (t116 : Int) (t132 : Int) (t17 : Int) (t16 : Int) (o0_0 : Int) (o0_1 : Int) (o0_2 : List Int) (o1_0 : Int) (o1_1 : Int) (o1_2 : List Int) (o2_0 : Int) (o2_1 : Int) (o2_2 : List Int) (o3_0 : Int) (o3_1 : Int) (o3_2 : List Int) (o4_0 : List Int) : Res := nodeRun (E n) n Try.f55 L k0 [true, false, true, true, false, true, false, false, true, true, false, false, true, true, true, true, true, true, true, true, true, true, false, true, false, false, true, true, false, false, true, true, true, false, true, false] [m0, m3] m4 (S4 t9 t21 t22 t10 t11 t115 t116 t132 t17 t16 o0_0 o0_1 o0_2 o1_0 o1_1 o1_2 o2_0 o2_1 o2_2 o3_0 o3_1 o3_2 o4_0)
theorem N0_succ (n : Nat)  (m0 : Nat) (t9 : Int) (t22 : Int) (t10 : Int) (t21 : Int) (o0_0 : Int) (o0_1 : Int) (o0_2 : List Int) (o1_0 : Int) (o1_1 : Int) (o1_2 : List Int) (o2_0 : List Int) (o3_0 : Int) (o3_1 : Int) (o3_2 : List Int) (o4_0 : Int) (o4_1 : Int) (o4_2 : List Int) : N0 n  (m0 + 1) t9 t22 t10 t21 o0_0 o0_1 o0_2 o1_0 o1_1 o1_2 o2_0 o3_0 o3_1 o3_2 o4_0 o4_1 o4_2 =
  bif decide (t22 < t21) then
   N1 n m0 n t21 t22 t10 t22 t9 t10 o0_0 o0_1 o0_2 o1_0 o1_1 o1_2 o3_0 o3_1 o3_2 o4_0 o4_1 o4_2 o2_0
  else
   bif decide ((((List.length o2_0) : Nat) : Int) < (IntKind.wrap .i64 o4_0)) then
    some (.tup [.agg [.int .i8 o4_0, .int .i8 o4_1, .vec .u16 36 o4_2], .agg [.int .i8 o3_0, .int .i8 o3_1, .vec .u16 36 o3_2], .own 0, .int .u16 (0 : Int)], [(0, ⟨[.ints .i8 o2_0], true⟩)])
   else
    some (.tup [.agg [.int .i8 o4_0, .int .i8 o4_1, .vec .u16 36 o4_2], .agg [.int .i8 o3_0, .int .i8 o3_1, .vec .u16 36 o3_2], .own 0, .int .u16 t9], [(0, ⟨[.ints .i8 o2_0], true⟩)]) := by kernel_rfl
theorem N1_succ (n : Nat) (m0 : Nat) (m1 : Nat) (t21 : Int) (t22 : Int) (t10 : Int) (t11 : Int) (t9 : Int) (t12 : Int) (o0_0 : Int) (o0_1 : Int) (o0_2 : List Int) (o1_0 : Int) (o1_1 : Int) (o1_2 : List Int) (o2_0 : Int) (o2_1 : Int) (o2_2 : List Int) (o3_0 : Int) (o3_1 : Int) (o3_2 : List Int) (o4_0 : List Int) : N1 n m0 (m1 + 1) t21 t22 t10 t11 t9 t12 o0_0 o0_1 o0_2 o1_0 o1_1 o1_2 o2_0 o2_1 o2_2 o3_0 o3_1 o3_2 o4_0 =
  bif decide (t12 < o3_0) then
   bif decide (((0 : Int) ≤ t12) ∧ (t12 < (6 : Int))) then
   bif decide (((0 : Int) ≤ t11) ∧ (t11 < (6 : Int))) then
    bif ((List.getD o3_2 ((0 + ((Int.toNat t12) * 6)) + ((Int.toNat t11) * 1)) (0 : Int)) == (0 : Int)) then
      N1 n m0 m1 t21 t22 t10 t11 t9 (IntKind.wrap .i8 (t12 + (1 : Int))) o0_0 o0_1 o0_2 o1_0 o1_1 o1_2 o2_0 o2_1 o2_2 o3_0 o3_1 o3_2 o4_0
     else
      bif (t12 == o3_0) then
       N0 n m0 t9 (IntKind.wrap .i8 (t22 + (1 : Int))) t10 t21 o0_0 o0_1 o0_2 o1_0 o1_1 o1_2 o4_0 o2_0 o2_1 o2_2 o3_0 o3_1 o3_2
      else
       bif decide (((0 : Int) ≤ t12) ∧ (t12 < (6 : Int))) then
       bif decide (((0 : Int) ≤ t10) ∧ (t10 < (6 : Int))) then
        bif decide (((0 : Int) ≤ t10) ∧ (t10 < (6 : Int))) then
         bif decide (((0 : Int) ≤ t12) ∧ (t12 < (6 : Int))) then
          bif decide (((0 : Int) ≤ t12) ∧ (t12 < (6 : Int))) then
           bif decide (((0 : Int) ≤ t10) ∧ (t10 < (6 : Int))) then
            bif decide (((0 : Int) ≤ t10) ∧ (t10 < (6 : Int))) then
             bif decide (((0 : Int) ≤ t12) ∧ (t12 < (6 : Int))) then
              bif decide (((0 : Int) ≤ t10) ∧ (t10 < (6 : Int))) then
               bif decide (((0 : Int) ≤ t11) ∧ (t11 < (6 : Int))) then
                pif (((u16 t9) ∧ (u16 (List.getD (putRow (0 + ((Int.toNat t12) * 6)) 6 (getRow (0 + ((Int.toNat t10) * 6)) 6 o3_2) (putRow (0 + ((Int.toNat t10) * 6)) 6 (getRow (0 + ((Int.toNat t12) * 6)) 6 o3_2) o3_2)) ((0 + ((Int.toNat t10) * 6)) + ((Int.toNat t11) * 1)) (0 : Int))))) (
                 pif ((u16 (List.getD (putRow (0 + ((Int.toNat t12) * 6)) 6 (getRow (0 + ((Int.toNat t10) * 6)) 6 o3_2) (putRow (0 + ((Int.toNat t10) * 6)) 6 (getRow (0 + ((Int.toNat t12) * 6)) 6 o3_2) o3_2)) ((0 + ((Int.toNat t10) * 6)) + ((Int.toNat t11) * 1)) (0 : Int)))) (
                 N2 n m0 n (mulI t9 (List.getD (putRow (0 + ((Int.toNat t12) * 6)) 6 (getRow (0 + ((Int.toNat t10) * 6)) 6 o3_2) (putRow (0 + ((Int.toNat t10) * 6)) 6 (getRow (0 + ((Int.toNat t12) * 6)) 6 o3_2) o3_2)) ((0 + ((Int.toNat t10) * 6)) + ((Int.toNat t11) * 1)) (0 : Int))) t21 t22 t10 t11 (0 : Int) (invI (List.getD (putRow (0 + ((Int.toNat t12) * 6)) 6 (getRow (0 + ((Int.toNat t10) * 6)) 6 o3_2) (putRow (0 + ((Int.toNat t10) * 6)) 6 (getRow (0 + ((Int.toNat t12) * 6)) 6 o3_2) o3_2)) ((0 + ((Int.toNat t10) * 6)) + ((Int.toNat t11) * 1)) (0 : Int))) o0_0 o0_1 o0_2 o1_0 o1_1 o1_2 o2_0 o2_1 (putRow (0 + ((Int.toNat t12) * 6)) 6 (getRow (0 + ((Int.toNat t10) * 6)) 6 o2_2) (putRow (0 + ((Int.toNat t10) * 6)) 6 (getRow (0 + ((Int.toNat t12) * 6)) 6 o2_2) o2_2)) o3_0 o3_1 (putRow (0 + ((Int.toNat t12) * 6)) 6 (getRow (0 + ((Int.toNat t10) * 6)) 6 o3_2) (putRow (0 + ((Int.toNat t10) * 6)) 6 (getRow (0 + ((Int.toNat t12) * 6)) 6 o3_2) o3_2)) o4_0))
                else none
               else none
              else none
             else none
            else none
           else none
          else none
         else none
        else none
       else none
    else none
   else none
  else
   bif (t12 == o3_0) then
    N0 n m0 t9 (IntKind.wrap .i8 (t22 + (1 : Int))) t10 t21 o0_0 o0_1 o0_2 o1_0 o1_1 o1_2 o4_0 o2_0 o2_1 o2_2 o3_0 o3_1 o3_2
   else
    bif decide (((0 : Int) ≤ t12) ∧ (t12 < (6 : Int))) then
    bif decide (((0 : Int) ≤ t10) ∧ (t10 < (6 : Int))) then
     bif decide (((0 : Int) ≤ t10) ∧ (t10 < (6 : Int))) then
      bif decide (((0 : Int) ≤ t12) ∧ (t12 < (6 : Int))) then
       bif decide (((0 : Int) ≤ t12) ∧ (t12 < (6 : Int))) then
        bif decide (((0 : Int) ≤ t10) ∧ (t10 < (6 : Int))) then
         bif decide (((0 : Int) ≤ t10) ∧ (t10 < (6 : Int))) then
          bif decide (((0 : Int) ≤ t12) ∧ (t12 < (6 : Int))) then
           bif decide (((0 : Int) ≤ t10) ∧ (t10 < (6 : Int))) then
            bif decide (((0 : Int) ≤ t11) ∧ (t11 < (6 : Int))) then
             pif (((u16 t9) ∧ (u16 (List.getD (putRow (0 + ((Int.toNat t12) * 6)) 6 (getRow (0 + ((Int.toNat t10) * 6)) 6 o3_2) (putRow (0 + ((Int.toNat t10) * 6)) 6 (getRow (0 + ((Int.toNat t12) * 6)) 6 o3_2) o3_2)) ((0 + ((Int.toNat t10) * 6)) + ((Int.toNat t11) * 1)) (0 : Int))))) (
              pif ((u16 (List.getD (putRow (0 + ((Int.toNat t12) * 6)) 6 (getRow (0 + ((Int.toNat t10) * 6)) 6 o3_2) (putRow (0 + ((Int.toNat t10) * 6)) 6 (getRow (0 + ((Int.toNat t12) * 6)) 6 o3_2) o3_2)) ((0 + ((Int.toNat t10) * 6)) + ((Int.toNat t11) * 1)) (0 : Int)))) (
              N2 n m0 n (mulI t9 (List.getD (putRow (0 + ((Int.toNat t12) * 6)) 6 (getRow (0 + ((Int.toNat t10) * 6)) 6 o3_2) (putRow (0 + ((Int.toNat t10) * 6)) 6 (getRow (0 + ((Int.toNat t12) * 6)) 6 o3_2) o3_2)) ((0 + ((Int.toNat t10) * 6)) + ((Int.toNat t11) * 1)) (0 : Int))) t21 t22 t10 t11 (0 : Int) (invI (List.getD (putRow (0 + ((Int.toNat t12) * 6)) 6 (getRow (0 + ((Int.toNat t10) * 6)) 6 o3_2) (putRow (0 + ((Int.toNat t10) * 6)) 6 (getRow (0 + ((Int.toNat t12) * 6)) 6 o3_2) o3_2)) ((0 + ((Int.toNat t10) * 6)) + ((Int.toNat t11) * 1)) (0 : Int))) o0_0 o0_1 o0_2 o1_0 o1_1 o1_2 o2_0 o2_1 (putRow (0 + ((Int.toNat t12) * 6)) 6 (getRow (0 + ((Int.toNat t10) * 6)) 6 o2_2) (putRow (0 + ((Int.toNat t10) * 6)) 6 (getRow (0 + ((Int.toNat t12) * 6)) 6 o2_2) o2_2)) o3_0 o3_1 (putRow (0 + ((Int.toNat t12) * 6)) 6 (getRow (0 + ((Int.toNat t10) * 6)) 6 o3_2) (putRow (0 + ((Int.toNat t10) * 6)) 6 (getRow (0 + ((Int.toNat t12) * 6)) 6 o3_2) o3_2)) o4_0))
             else none
            else none
           else none
          else none
         else none
        else none
       else none
      else none
     else none
    else none := by kernel_rfl
theorem N2_succ (n : Nat) (m0 : Nat) (m2 : Nat) (t9 : Int) (t21 : Int) (t22 : Int) (t10 : Int) (t11 : Int) (t84 : Int) (t14 : Int) (o0_0 : Int) (o0_1 : Int) (o0_2 : List Int) (o1_0 : Int) (o1_1 : Int) (o1_2 : List Int) (o2_0 : Int) (o2_1 : Int) (o2_2 : List Int) (o3_0 : Int) (o3_1 : Int) (o3_2 : List Int) (o4_0 : List Int) : N2 n m0 (m2 + 1) t9 t21 t22 t10 t11 t84 t14 o0_0 o0_1 o0_2 o1_0 o1_1 o1_2 o2_0 o2_1 o2_2 o3_0 o3_1 o3_2 o4_0 =
  bif decide (t84 < (6 : Int)) then
   bif decide (((0 : Int) ≤ t10) ∧ (t10 < (6 : Int))) then
   bif decide (((0 : Int) ≤ t84) ∧ (t84 < (6 : Int))) then
    bif decide (((0 : Int) ≤ t10) ∧ (t10 < (6 : Int))) then
     pif (((u16 (List.getD o3_2 ((0 + ((Int.toNat t10) * 6)) + ((Int.toNat t84) * 1)) (0 : Int))) ∧ (u16 t14))) (
      bif decide (((0 : Int) ≤ t84) ∧ (t84 < (6 : Int))) then
      bif decide (((0 : Int) ≤ t10) ∧ (t10 < (6 : Int))) then
       bif decide (((0 : Int) ≤ t84) ∧ (t84 < (6 : Int))) then
        bif decide (((0 : Int) ≤ t10) ∧ (t10 < (6 : Int))) then
         pif (((u16 (List.getD o2_2 ((0 + ((Int.toNat t10) * 6)) + ((Int.toNat t84) * 1)) (0 : Int))) ∧ (u16 t14))) (
          bif decide (((0 : Int) ≤ t84) ∧ (t84 < (6 : Int))) then
          N2 n m0 m2 t9 t21 t22 t10 t11 (IntKind.wrap .i64 (t84 + (1 : Int))) t14 o0_0 o0_1 o0_2 o1_0 o1_1 o1_2 o2_0 o2_1 (List.set o2_2 ((0 + ((Int.toNat t10) * 6)) + ((Int.toNat t84) * 1)) (mulI (List.getD o2_2 ((0 + ((Int.toNat t10) * 6)) + ((Int.toNat t84) * 1)) (0 : Int)) t14)) o3_0 o3_1 (List.set o3_2 ((0 + ((Int.toNat t10) * 6)) + ((Int.toNat t84) * 1)) (mulI (List.getD o3_2 ((0 + ((Int.toNat t10) * 6)) + ((Int.toNat t84) * 1)) (0 : Int)) t14)) o4_0
          else none)
         else none
        else none
       else none
      else none)
     else none
    else none
   else none
  else
   N3 n m0 n t9 t21 t22 t10 t11 (0 : Int) o3_0 o0_0 o0_1 o0_2 o1_0 o1_1 o1_2 o2_0 o2_1 o2_2 o3_0 o3_1 o3_2 o4_0 := by kernel_rfl
theorem N3_succ (n : Nat) (m0 : Nat) (m3 : Nat) (t9 : Int) (t21 : Int) (t22 : Int) (t10 : Int) (t11 : Int) (t116 : Int) (t115 : Int) (o0_0 : Int) (o0_1 : Int) (o0_2 : List Int) (o1_0 : Int) (o1_1 : Int) (o1_2 : List Int) (o2_0 : Int) (o2_1 : Int) (o2_2 : List Int) (o3_0 : Int) (o3_1 : Int) (o3_2 : List Int) (o4_0 : List Int) : N3 n m0 (m3 + 1) t9 t21 t22 t10 t11 t116 t115 o0_0 o0_1 o0_2 o1_0 o1_1 o1_2 o2_0 o2_1 o2_2 o3_0 o3_1 o3_2 o4_0 =
  bif decide (t116 < t115) then
   bif decide (((0 : Int) ≤ t116) ∧ (t116 < (6 : Int))) then
   bif decide (((0 : Int) ≤ t11) ∧ (t11 < (6 : Int))) then
    bif (t116 != t10) then
      bif ((List.getD o3_2 ((0 + ((Int.toNat t116) * 6)) + ((Int.toNat t11) * 1)) (0 : Int)) != (0 : Int)) then
       N4 n m0 m3 n t9 t21 t22 t10 t11 t115 t116 (0 : Int) (List.getD o3_2 ((0 + ((Int.toNat t116) * 6)) + ((Int.toNat t11) * 1)) (0 : Int)) t116 o0_0 o0_1 o0_2 o1_0 o1_1 o1_2 o2_0 o2_1 o2_2 o3_0 o3_1 o3_2 o4_0
      else
       N3 n m0 m3 t9 t21 t22 t10 t11 (IntKind.wrap .i8 (t116 + (1 : Int))) t115 o0_0 o0_1 o0_2 o1_0 o1_1 o1_2 o2_0 o2_1 o2_2 o3_0 o3_1 o3_2 o4_0
     else
      N3 n m0 m3 t9 t21 t22 t10 t11 (IntKind.wrap .i8 (t116 + (1 : Int))) t115 o0_0 o0_1 o0_2 o1_0 o1_1 o1_2 o2_0 o2_1 o2_2 o3_0 o3_1 o3_2 o4_0
    else none
   else none
  else
   bif decide ((((List.length o4_0) + 1) * 1) ≤ 4398046511104) then
   N0 n m0 t9 (IntKind.wrap .i8 (t22 + (1 : Int))) (IntKind.wrap .i8 (t10 + (1 : Int))) t21 o0_0 o0_1 o0_2 o1_0 o1_1 o1_2 (o4_0 ++ [t11]) o2_0 o2_1 o2_2 o3_0 o3_1 o3_2
   else none := by kernel_rfl
theorem N4_succ (n : Nat) (m0 : Nat) (m3 : Nat) (m4 : Nat) (t9 : Int) (t21 : Int) (t22 : Int) (t10 : Int) (t11 : Int) (t115 : Int) (t116 : Int) (t132 : Int) (t17 : Int) (t16 : Int) (o0_0 : Int) (o0_1 : Int) (o0_2 : List Int) (o1_0 : Int) (o1_1 : Int) (o1_2 : List Int) (o2_0 : Int) (o2_1 : Int) (o2_2 : List Int) (o3_0 : Int) (o3_1 : Int) (o3_2 : List Int) (o4_0 : List Int) : N4 n m0 m3 (m4 + 1) t9 t21 t22 t10 t11 t115 t116 t132 t17 t16 o0_0 o0_1 o0_2 o1_0 o1_1 o1_2 o2_0 o2_1 o2_2 o3_0 o3_1 o3_2 o4_0 =
  bif decide (t132 < (6 : Int)) then
   bif decide (((0 : Int) ≤ t16) ∧ (t16 < (6 : Int))) then
   bif decide (((0 : Int) ≤ t132) ∧ (t132 < (6 : Int))) then
    bif decide (((0 : Int) ≤ t10) ∧ (t10 < (6 : Int))) then
     bif decide (((0 : Int) ≤ t132) ∧ (t132 < (6 : Int))) then
      bif decide (((0 : Int) ≤ t16) ∧ (t16 < (6 : Int))) then
       pif (((u16 t17) ∧ (u16 (List.getD o3_2 ((0 + ((Int.toNat t10) * 6)) + ((Int.toNat t132) * 1)) (0 : Int))))) (
        bif decide (((0 : Int) ≤ t132) ∧ (t132 < (6 : Int))) then
        bif decide (((0 : Int) ≤ t16) ∧ (t16 < (6 : Int))) then
         bif decide (((0 : Int) ≤ t132) ∧ (t132 < (6 : Int))) then
          bif decide (((0 : Int) ≤ t10) ∧ (t10 < (6 : Int))) then
           bif decide (((0 : Int) ≤ t132) ∧ (t132 < (6 : Int))) then
            bif decide (((0 : Int) ≤ t16) ∧ (t16 < (6 : Int))) then
             pif (((u16 t17) ∧ (u16 (List.getD o2_2 ((0 + ((Int.toNat t10) * 6)) + ((Int.toNat t132) * 1)) (0 : Int))))) (
              bif decide (((0 : Int) ≤ t132) ∧ (t132 < (6 : Int))) then
              N4 n m0 m3 m4 t9 t21 t22 t10 t11 t115 t116 (IntKind.wrap .i64 (t132 + (1 : Int))) t17 t16 o0_0 o0_1 o0_2 o1_0 o1_1 o1_2 o2_0 o2_1 (List.set o2_2 ((0 + ((Int.toNat t16) * 6)) + ((Int.toNat t132) * 1)) (intBitsV .xor .u16 (List.getD o2_2 ((0 + ((Int.toNat t16) * 6)) + ((Int.toNat t132) * 1)) (0 : Int)) (mulI t17 (List.getD o2_2 ((0 + ((Int.toNat t10) * 6)) + ((Int.toNat t132) * 1)) (0 : Int))))) o3_0 o3_1 (List.set o3_2 ((0 + ((Int.toNat t16) * 6)) + ((Int.toNat t132) * 1)) (intBitsV .xor .u16 (List.getD o3_2 ((0 + ((Int.toNat t16) * 6)) + ((Int.toNat t132) * 1)) (0 : Int)) (mulI t17 (List.getD o3_2 ((0 + ((Int.toNat t10) * 6)) + ((Int.toNat t132) * 1)) (0 : Int))))) o4_0
              else none)
             else none
            else none
           else none
          else none
         else none
        else none)
       else none
      else none
     else none
    else none
   else none
  else
   N3 n m0 m3 t9 t21 t22 t10 t11 (IntKind.wrap .i8 (t116 + (1 : Int))) t115 o0_0 o0_1 o0_2 o1_0 o1_1 o1_2 o2_0 o2_1 o2_2 o3_0 o3_1 o3_2 o4_0 := by kernel_rfl
noncomputable def R (n : Nat) (r : Int) (c : Int) (l : List Int) (r' : Int) (c' : Int) (l' : List Int) : Res := run (E n) n Try.f55 L (us r c l r' c' l') (HA r c l r' c' l') k0
theorem R_eq (n : Nat) (r : Int) (c : Int) (l : List Int) (r' : Int) (c' : Int) (l' : List Int) : R n r c l r' c' l' =
  N0 n n (1 : Int) (0 : Int) (0 : Int) c (0 : Int) (0 : Int) (List.replicate 36 (0 : Int)) (0 : Int) (0 : Int) (List.replicate 36 (0 : Int)) [] r' c' l' r c l := by kernel_rfl
theorem ans {n : Nat} {r : Int} {c : Int} {l : List Int} {r' : Int} {c' : Int} {l' : List Int} (hA : Sounds Try.prog (A n)) {u : U} {H : Heap} (h : R n r c l r' c' l' = some (u, H)) : Answers Try.prog 55 (us r c l r' c' l') (HA r c l r' c' l') u H := answers_env tabOk mixed hA Try.func55 (by kernel_rfl) (by kernel_rfl) h
end I_reduced

namespace S_Reduce
abbrev num : Nat := 25
noncomputable def A (n : Nat) : List (Nat × Con) := ((fun (n : Nat) => ([(52, COk), (63, CRed)] : List (Nat × Con)))) n
noncomputable abbrev E (n : Nat) : Env (U × Heap) := envC tab ios (A n)
def L : List (List Nat) := []
abbrev us (r : Int) (c : Int) (l : List Int) : List U := (((fun (r c : Int) (l : List Int) => (([.agg [.int .i8 r, .int .i8 c, .vec .u16 36 l]] : List U), ([] : Heap)))) r c l).1
abbrev HA (r : Int) (c : Int) (l : List Int) : Heap := (((fun (r c : Int) (l : List Int) => (([.agg [.int .i8 r, .int .i8 c, .vec .u16 36 l]] : List U), ([] : Heap)))) r c l).2
noncomputable def R (n : Nat) (r : Int) (c : Int) (l : List Int) : Res := run (E n) n Try.f25 L (us r c l) (HA r c l) k0
theorem R_eq (n : Nat) (r : Int) (c : Int) (l : List Int) : R n r c l =
  pif ((Mat r c l)) (
  bif (!(valid r c l)) then
   some (.tup [.agg [.int .i8 (0 : Int), .int .i8 (0 : Int), .vec .u16 36 (List.replicate 36 (0 : Int))], .int .i64 (1 : Int)], [])
  else
   pif ((inMat r c l)) (
   some (.tup [.agg [.int .i8 r, .int .i8 c, .vec .u16 36 (redL (Int.toNat r) (Int.toNat c) l zeros)], .int .i64 (0 : Int)], []))) := by kernel_rfl
theorem ans {n : Nat} {r : Int} {c : Int} {l : List Int} (hA : Sounds Try.prog (A n)) {u : U} {H : Heap} (h : R n r c l = some (u, H)) : Answers Try.prog 25 (us r c l) (HA r c l) u H := answers_env tabOk mixed hA Try.func25 (by kernel_rfl) (by kernel_rfl) h
end S_Reduce

namespace I_Reduce
abbrev num : Nat := 26
noncomputable def A (n : Nat) : List (Nat × Con) := ((fun (n : Nat) => ([(59, CValid), (55, CReduced)] : List (Nat × Con)))) n
noncomputable abbrev E (n : Nat) : Env (U × Heap) := envC tab ios (A n)
def L : List (List Nat) := []
abbrev us (r : Int) (c : Int) (l : List Int) : List U := (((fun (r c : Int) (l : List Int) => (([.agg [.int .i8 r, .int .i8 c, .vec .u16 36 l]] : List U), ([] : Heap)))) r c l).1
abbrev HA (r : Int) (c : Int) (l : List Int) : Heap := (((fun (r c : Int) (l : List Int) => (([.agg [.int .i8 r, .int .i8 c, .vec .u16 36 l]] : List U), ([] : Heap)))) r c l).2
noncomputable def R (n : Nat) (r : Int) (c : Int) (l : List Int) : Res := run (E n) n Try.f26 L (us r c l) (HA r c l) k0
theorem R_eq (n : Nat) (r : Int) (c : Int) (l : List Int) : R n r c l =
  pif ((Mat r c l)) (
  bif (!(valid r c l)) then
   some (.tup [.agg [.int .i8 (0 : Int), .int .i8 (0 : Int), .vec .u16 36 (List.replicate 36 (0 : Int))], .int .i64 (1 : Int)], [])
  else
   pif (((inMat r c l) ∧ (Vec36 (List.replicate 36 (0 : Int))))) (
   some (.tup [.agg [.int .i8 r, .int .i8 c, .vec .u16 36 (redL (Int.toNat r) (Int.toNat c) l (List.replicate 36 (0 : Int)))], .int .i64 (0 : Int)], []))) := by kernel_rfl
theorem ans {n : Nat} {r : Int} {c : Int} {l : List Int} (hA : Sounds Try.prog (A n)) {u : U} {H : Heap} (h : R n r c l = some (u, H)) : Answers Try.prog 26 (us r c l) (HA r c l) u H := answers_env tabOk mixed hA Try.func26 (by kernel_rfl) (by kernel_rfl) h
end I_Reduce

namespace S_Rank
abbrev num : Nat := 21
noncomputable def A (n : Nat) : List (Nat × Con) := ((fun (n : Nat) => ([(52, COk), (63, CRed)] : List (Nat × Con)))) n
noncomputable abbrev E (n : Nat) : Env (U × Heap) := envC tab ios (A n)
def L : List (List Nat) := []
abbrev us (r : Int) (c : Int) (l : List Int) : List U := (((fun (r c : Int) (l : List Int) => (([.agg [.int .i8 r, .int .i8 c, .vec .u16 36 l]] : List U), ([] : Heap)))) r c l).1
abbrev HA (r : Int) (c : Int) (l : List Int) : Heap := (((fun (r c : Int) (l : List Int) => (([.agg [.int .i8 r, .int .i8 c, .vec .u16 36 l]] : List U), ([] : Heap)))) r c l).2
noncomputable def R (n : Nat) (r : Int) (c : Int) (l : List Int) : Res := run (E n) n Try.f21 L (us r c l) (HA r c l) k0
theorem R_eq (n : Nat) (r : Int) (c : Int) (l : List Int) : R n r c l =
  pif ((Mat r c l)) (
  bif (!(valid r c l)) then
   some (.tup [.int .i64 (0 : Int), .int .i64 (1 : Int)], [])
  else
   pif ((inMat r c l)) (
   some (.tup [.int .i64 (((List.length (redF (Int.toNat r) (Int.toNat c) l)) : Nat) : Int), .int .i64 (0 : Int)], []))) := by kernel_rfl
theorem ans {n : Nat} {r : Int} {c : Int} {l : List Int} (hA : Sounds Try.prog (A n)) {u : U} {H : Heap} (h : R n r c l = some (u, H)) : Answers Try.prog 21 (us r c l) (HA r c l) u H := answers_env tabOk mixed hA Try.func21 (by kernel_rfl) (by kernel_rfl) h
end S_Rank

namespace I_Rank
abbrev num : Nat := 22
noncomputable def A (n : Nat) : List (Nat × Con) := ((fun (n : Nat) => ([(59, CValid), (55, CReduced)] : List (Nat × Con)))) n
noncomputable abbrev E (n : Nat) : Env (U × Heap) := envC tab ios (A n)
def L : List (List Nat) := []
abbrev us (r : Int) (c : Int) (l : List Int) : List U := (((fun (r c : Int) (l : List Int) => (([.agg [.int .i8 r, .int .i8 c, .vec .u16 36 l]] : List U), ([] : Heap)))) r c l).1
abbrev HA (r : Int) (c : Int) (l : List Int) : Heap := (((fun (r c : Int) (l : List Int) => (([.agg [.int .i8 r, .int .i8 c, .vec .u16 36 l]] : List U), ([] : Heap)))) r c l).2
noncomputable def R (n : Nat) (r : Int) (c : Int) (l : List Int) : Res := run (E n) n Try.f22 L (us r c l) (HA r c l) k0
theorem R_eq (n : Nat) (r : Int) (c : Int) (l : List Int) : R n r c l =
  pif ((Mat r c l)) (
  bif (!(valid r c l)) then
   some (.tup [.int .i64 (0 : Int), .int .i64 (1 : Int)], [])
  else
   pif (((inMat r c l) ∧ (Vec36 (List.replicate 36 (0 : Int))))) (
   some (.tup [.int .i64 (((List.length (redF (Int.toNat r) (Int.toNat c) l)) : Nat) : Int), .int .i64 (0 : Int)], []))) := by kernel_rfl
theorem ans {n : Nat} {r : Int} {c : Int} {l : List Int} (hA : Sounds Try.prog (A n)) {u : U} {H : Heap} (h : R n r c l = some (u, H)) : Answers Try.prog 22 (us r c l) (HA r c l) u H := answers_env tabOk mixed hA Try.func22 (by kernel_rfl) (by kernel_rfl) h
end I_Rank

namespace L_Reduce
abbrev num : Nat := 8
noncomputable def A (n : Nat) : List (Nat × Con) := ((fun (n : Nat) => ([(25, CReduce), (26, CReduce), (14, CToMat), (16, CEqMat)] : List (Nat × Con)))) n
noncomputable abbrev E (n : Nat) : Env (U × Heap) := envC tab ios (A n)
def L : List (List Nat) := []
abbrev us (r : Int) (c : Int) (l : List Int) : List U := (((fun (r c : Int) (l : List Int) => (([.agg [.int .i8 r, .int .i8 c, .vec .u16 36 l]] : List U), ([] : Heap)))) r c l).1
abbrev HA (r : Int) (c : Int) (l : List Int) : Heap := (((fun (r c : Int) (l : List Int) => (([.agg [.int .i8 r, .int .i8 c, .vec .u16 36 l]] : List U), ([] : Heap)))) r c l).2
noncomputable def R (n : Nat) (r : Int) (c : Int) (l : List Int) : Res := run (E n) n Try.f8 L (us r c l) (HA r c l) k0
theorem R_eq (n : Nat) (r : Int) (c : Int) (l : List Int) : R n r c l =
  pif ((Mat r c l)) (
  pif ((Mat r c l)) (
  pif ((Mat r c l)) (
  pif ((Mat r c l)) (
  pif ((((List.length (okL (okC r c l) (redL (Int.toNat r) (Int.toNat c) l zeros))) = 36) ∧ ((List.length (okL (okC r c l) (redL (Int.toNat r) (Int.toNat c) l zeros))) = 36))) (
  bif (!((((okR (okC r c l) r) == (okR (okC r c l) r)) && ((okR (okC r c l) c) == (okR (okC r c l) c))) && ((okL (okC r c l) (redL (Int.toNat r) (Int.toNat c) l zeros)) == (okL (okC r c l) (redL (Int.toNat r) (Int.toNat c) l zeros))))) then
   some (.bool false, [])
  else
   bif ((okC r c l) != (okC r c l)) then
    some (.bool false, [])
   else
    some (.bool true, [])))))) := by kernel_rfl
theorem ans {n : Nat} {r : Int} {c : Int} {l : List Int} (hA : Sounds Try.prog (A n)) {u : U} {H : Heap} (h : R n r c l = some (u, H)) : Answers Try.prog 8 (us r c l) (HA r c l) u H := answers_env tabOk mixed hA Try.func8 (by kernel_rfl) (by kernel_rfl) h
end L_Reduce

namespace L_Rank
abbrev num : Nat := 6
noncomputable def A (n : Nat) : List (Nat × Con) := ((fun (n : Nat) => ([(21, CRank), (22, CRank), (14, CToMat)] : List (Nat × Con)))) n
noncomputable abbrev E (n : Nat) : Env (U × Heap) := envC tab ios (A n)
def L : List (List Nat) := []
abbrev us (r : Int) (c : Int) (l : List Int) : List U := (((fun (r c : Int) (l : List Int) => (([.agg [.int .i8 r, .int .i8 c, .vec .u16 36 l]] : List U), ([] : Heap)))) r c l).1
abbrev HA (r : Int) (c : Int) (l : List Int) : Heap := (((fun (r c : Int) (l : List Int) => (([.agg [.int .i8 r, .int .i8 c, .vec .u16 36 l]] : List U), ([] : Heap)))) r c l).2
noncomputable def R (n : Nat) (r : Int) (c : Int) (l : List Int) : Res := run (E n) n Try.f6 L (us r c l) (HA r c l) k0
theorem R_eq (n : Nat) (r : Int) (c : Int) (l : List Int) : R n r c l =
  pif ((Mat r c l)) (
  pif ((Mat r c l)) (
  pif ((Mat r c l)) (
  pif ((Mat r c l)) (
  bif ((okR (okC r c l) (rank (Int.toNat r) (Int.toNat c) l)) != (okR (okC r c l) (rank (Int.toNat r) (Int.toNat c) l))) then
   some (.bool false, [])
  else
   bif ((okC r c l) != (okC r c l)) then
    some (.bool false, [])
   else
    some (.bool true, []))))) := by kernel_rfl
theorem ans {n : Nat} {r : Int} {c : Int} {l : List Int} (hA : Sounds Try.prog (A n)) {u : U} {H : Heap} (h : R n r c l = some (u, H)) : Answers Try.prog 6 (us r c l) (HA r c l) u H := answers_env tabOk mixed hA Try.func6 (by kernel_rfl) (by kernel_rfl) h
end L_Rank

end Go.VM

