/- Written by a program of this session (Lift.lean): what the evaluator comes to, function by function; the kernel checks it. The conditions: those of the contracts. -/
import Derived.Test.YtblhjcolknooeaaVmP4
import Derived.Test.YtblhjcolknooeaaMatT
import Derived.Test.YtblhjcolknooeaaMatTS
import Derived.Test.YtblhjcolknooeaaSolvLConM
import Derived.KernelRfl
set_option linter.unusedVariables false
set_option linter.unusedSimpArgs false
set_option linter.unusedSectionVars false
namespace Go.VM
open Go Go.Proofs Go.Fn NimF
set_option linter.unusedVariables false
set_option maxRecDepth 100000
namespace S_one
abbrev num : Nat := 57
noncomputable def A (n : Nat) : List (Nat × Con) := ((fun (n : Nat) => ([] : List (Nat × Con)))) n
noncomputable abbrev E (n : Nat) : Env (U × Heap) := envC tab ios (A n)
def L : List (List Nat) := [[2, 3, 4, 0]]
abbrev us (r : Int) : List U := (((fun (r : Int) => (([.int .i8 r] : List U), ([] : Heap)))) r).1
abbrev HA (r : Int) : Heap := (((fun (r : Int) => (([.int .i8 r] : List U), ([] : Heap)))) r).2
def S0 (t4 : Int) (t0 : Int) (o0_0 : Int) (o0_1 : Int) (o0_2 : List Int) (o1_0 : Int) (o1_1 : Int) (o1_2 : List Int) : St := ⟨[(2, .ptr 0 0 0 0 1), (3, .ptr 1 0 0 0 1), (4, .int .i64 t4), (0, .int .i8 t0)], 20, [(0, ⟨[.ints .i8 [o0_0], .ints .i8 [o0_1], .vecs .u16 36 [o0_2]], true⟩), (1, ⟨[.ints .i8 [o1_0], .ints .i8 [o1_1], .vecs .u16 36 [o1_2]], true⟩)], [0, 1], 0⟩
noncomputable def N0 (n : Nat)  (m0 : Nat) (t4 : Int) (t0 : Int) (o0_0 : Int) (o0_1 : Int) (o0_2 : List Int) (o1_0 : Int) (o1_1 : Int) (o1_2 : List Int) : Res := nodeRun (E n) n Try.f57 L k0 [true, true, false, true, false] [] m0 (S0 t4 t0 o0_0 o0_1 o0_2 o1_0 o1_1 o1_2)
theorem N0_succ (n : Nat)  (m0 : Nat) (t4 : Int) (t0 : Int) (o0_0 : Int) (o0_1 : Int) (o0_2 : List Int) (o1_0 : Int) (o1_1 : Int) (o1_2 : List Int) : N0 n  (m0 + 1) t4 t0 o0_0 o0_1 o0_2 o1_0 o1_1 o1_2 =
  bif decide (t4 < (IntKind.wrap .i64 t0)) then
   bif decide (((0 : Int) ≤ t4) ∧ (t4 < (6 : Int))) then
   bif decide (((0 : Int) ≤ t4) ∧ (t4 < (6 : Int))) then
    N0 n m0 (IntKind.wrap .i64 (t4 + (1 : Int))) t0 o0_0 o0_1 o0_2 o1_0 o1_1 (List.set o1_2 ((0 + ((Int.toNat t4) * 6)) + ((Int.toNat t4) * 1)) (1 : Int))
    else none
   else none
  else
   some (.agg [.int .i8 o1_0, .int .i8 o1_1, .vec .u16 36 o1_2], []) := by kernel_rfl
noncomputable def R (n : Nat) (r : Int) : Res := run (E n) n Try.f57 L (us r) (HA r) k0
theorem R_eq (n : Nat) (r : Int) : R n r =
  N0 n n (0 : Int) r (0 : Int) (0 : Int) (List.replicate 36 (0 : Int)) r r (List.replicate 36 (0 : Int)) := by kernel_rfl
theorem ans {n : Nat} {r : Int} (hA : Sounds Try.prog (A n)) {u : U} {H : Heap} (h : R n r = some (u, H)) : Answers Try.prog 57 (us r) (HA r) u H := answers_env tabOk mixed hA Try.func57 (by kernel_rfl) (by kernel_rfl) h
end S_one

namespace I_one
abbrev num : Nat := 61
noncomputable def A (n : Nat) : List (Nat × Con) := ((fun (n : Nat) => ([] : List (Nat × Con)))) n
noncomputable abbrev E (n : Nat) : Env (U × Heap) := envC tab ios (A n)
def L : List (List Nat) := [[2, 3, 9, 8]]
abbrev us (r : Int) : List U := (((fun (r : Int) => (([.int .i8 r] : List U), ([] : Heap)))) r).1
abbrev HA (r : Int) : Heap := (((fun (r : Int) => (([.int .i8 r] : List U), ([] : Heap)))) r).2
def S0 (t9 : Int) (t8 : Int) (o0_0 : Int) (o0_1 : Int) (o0_2 : List Int) (o1_0 : Int) (o1_1 : Int) (o1_2 : List Int) : St := ⟨[(2, .ptr 0 0 0 0 1), (3, .ptr 1 0 0 0 1), (9, .int .i8 t9), (8, .int .i8 t8)], 19, [(0, ⟨[.ints .i8 [o0_0], .ints .i8 [o0_1], .vecs .u16 36 [o0_2]], true⟩), (1, ⟨[.ints .i8 [o1_0], .ints .i8 [o1_1], .vecs .u16 36 [o1_2]], true⟩)], [0, 1], 0⟩
noncomputable def N0 (n : Nat)  (m0 : Nat) (t9 : Int) (t8 : Int) (o0_0 : Int) (o0_1 : Int) (o0_2 : List Int) (o1_0 : Int) (o1_1 : Int) (o1_2 : List Int) : Res := nodeRun (E n) n Try.f61 L k0 [true, true, false, true, false] [] m0 (S0 t9 t8 o0_0 o0_1 o0_2 o1_0 o1_1 o1_2)
theorem N0_succ (n : Nat)  (m0 : Nat) (t9 : Int) (t8 : Int) (o0_0 : Int) (o0_1 : Int) (o0_2 : List Int) (o1_0 : Int) (o1_1 : Int) (o1_2 : List Int) : N0 n  (m0 + 1) t9 t8 o0_0 o0_1 o0_2 o1_0 o1_1 o1_2 =
  bif decide (t9 < t8) then
   bif decide (((0 : Int) ≤ t9) ∧ (t9 < (6 : Int))) then
   bif decide (((0 : Int) ≤ t9) ∧ (t9 < (6 : Int))) then
    N0 n m0 (IntKind.wrap .i8 (t9 + (1 : Int))) t8 o0_0 o0_1 o0_2 o1_0 o1_1 (List.set o1_2 ((0 + ((Int.toNat t9) * 6)) + ((Int.toNat t9) * 1)) (1 : Int))
    else none
   else none
  else
   some (.agg [.int .i8 o1_0, .int .i8 o1_1, .vec .u16 36 o1_2], []) := by kernel_rfl
noncomputable def R (n : Nat) (r : Int) : Res := run (E n) n Try.f61 L (us r) (HA r) k0
theorem R_eq (n : Nat) (r : Int) : R n r =
  N0 n n (0 : Int) r (0 : Int) (0 : Int) (List.replicate 36 (0 : Int)) r r (List.replicate 36 (0 : Int)) := by kernel_rfl
theorem ans {n : Nat} {r : Int} (hA : Sounds Try.prog (A n)) {u : U} {H : Heap} (h : R n r = some (u, H)) : Answers Try.prog 61 (us r) (HA r) u H := answers_env tabOk mixed hA Try.func61 (by kernel_rfl) (by kernel_rfl) h
end I_one

namespace S_mtimes
abbrev num : Nat := 58
noncomputable def A (n : Nat) : List (Nat × Con) := ((fun (n : Nat) => ([(72, CMul)] : List (Nat × Con)))) n
noncomputable abbrev E (n : Nat) : Env (U × Heap) := envC tab ios (A n)
def L : List (List Nat) := [[4, 5, 6, 1, 0], [4, 5, 1, 0, 6, 7], [4, 5, 1, 0, 6, 7, 8, 9]]
abbrev us (r : Int) (c : Int) (l : List Int) (r' : Int) (c' : Int) (l' : List Int) : List U := (((fun (r c : Int) (l : List Int) (r' c' : Int) (l' : List Int) => (([.rptr [.int .i8 r, .int .i8 c, .vec .u16 36 l] 0 1, .rptr [.int .i8 r', .int .i8 c', .vec .u16 36 l'] 0 1] : List U), ([] : Heap)))) r c l r' c' l').1
abbrev HA (r : Int) (c : Int) (l : List Int) (r' : Int) (c' : Int) (l' : List Int) : Heap := (((fun (r c : Int) (l : List Int) (r' c' : Int) (l' : List Int) => (([.rptr [.int .i8 r, .int .i8 c, .vec .u16 36 l] 0 1, .rptr [.int .i8 r', .int .i8 c', .vec .u16 36 l'] 0 1] : List U), ([] : Heap)))) r c l r' c' l').2
def S0 (t6 : Int) (t1_0 : Int) (t1_1 : Int) (t1_2 : List Int) (t0_0 : Int) (t0_1 : Int) (t0_2 : List Int) (o0_0 : Int) (o0_1 : Int) (o0_2 : List Int) (o1_0 : Int) (o1_1 : Int) (o1_2 : List Int) : St := ⟨[(4, .ptr 0 0 0 0 1), (5, .ptr 1 0 0 0 1), (6, .int .i64 t6), (1, .rptr [.int .i8 t1_0, .int .i8 t1_1, .vec .u16 36 t1_2] 0 1), (0, .rptr [.int .i8 t0_0, .int .i8 t0_1, .vec .u16 36 t0_2] 0 1)], 72, [(0, ⟨[.ints .i8 [o0_0], .ints .i8 [o0_1], .vecs .u16 36 [o0_2]], true⟩), (1, ⟨[.ints .i8 [o1_0], .ints .i8 [o1_1], .vecs .u16 36 [o1_2]], true⟩)], [0, 1], 0⟩
noncomputable def N0 (n : Nat)  (m0 : Nat) (t6 : Int) (t1_0 : Int) (t1_1 : Int) (t1_2 : List Int) (t0_0 : Int) (t0_1 : Int) (t0_2 : List Int) (o0_0 : Int) (o0_1 : Int) (o0_2 : List Int) (o1_0 : Int) (o1_1 : Int) (o1_2 : List Int) : Res := nodeRun (E n) n Try.f58 L k0 [true, true, false, true, false] [] m0 (S0 t6 t1_0 t1_1 t1_2 t0_0 t0_1 t0_2 o0_0 o0_1 o0_2 o1_0 o1_1 o1_2)
def S1 (t1_0 : Int) (t1_1 : Int) (t1_2 : List Int) (t0_0 : Int) (t0_1 : Int) (t0_2 : List Int) (t6 : Int) (t7 : Int) (o0_0 : Int) (o0_1 : Int) (o0_2 : List Int) (o1_0 : Int) (o1_1 : Int) (o1_2 : List Int) : St := ⟨[(4, .ptr 0 0 0 0 1), (5, .ptr 1 0 0 0 1), (1, .rptr [.int .i8 t1_0, .int .i8 t1_1, .vec .u16 36 t1_2] 0 1), (0, .rptr [.int .i8 t0_0, .int .i8 t0_1, .vec .u16 36 t0_2] 0 1), (6, .int .i64 t6), (7, .int .i64 t7)], 72, [(0, ⟨[.ints .i8 [o0_0], .ints .i8 [o0_1], .vecs .u16 36 [o0_2]], true⟩), (1, ⟨[.ints .i8 [o1_0], .ints .i8 [o1_1], .vecs .u16 36 [o1_2]], true⟩)], [0, 1], 0⟩
noncomputable def N1 (n : Nat) (m0 : Nat) (m1 : Nat) (t1_0 : Int) (t1_1 : Int) (t1_2 : List Int) (t0_0 : Int) (t0_1 : Int) (t0_2 : List Int) (t6 : Int) (t7 : Int) (o0_0 : Int) (o0_1 : Int) (o0_2 : List Int) (o1_0 : Int) (o1_1 : Int) (o1_2 : List Int) : Res := nodeRun (E n) n Try.f58 L k0 [true, true, false, true, false, false, true, false, false, true, false] [m0] m1 (S1 t1_0 t1_1 t1_2 t0_0 t0_1 t0_2 t6 t7 o0_0 o0_1 o0_2 o1_0 o1_1 o1_2)
def S2 (t1_0 : Int) (t1_1 : Int) (t1_2 : List Int) (t0_0 : Int) (t0_1 : Int) (t0_2 : List Int) (t6 : Int) (t7 : Int) (t8 : Int) (t9 : Int) (o0_0 : Int) (o0_1 : Int) (o0_2 : List Int) (o1_0 : Int) (o1_1 : Int) (o1_2 : List Int) : St := ⟨[(4, .ptr 0 0 0 0 1), (5, .ptr 1 0 0 0 1), (1, .rptr [.int .i8 t1_0, .int .i8 t1_1, .vec .u16 36 t1_2] 0 1), (0, .rptr [.int .i8 t0_0, .int .i8 t0_1, .vec .u16 36 t0_2] 0 1), (6, .int .i64 t6), (7, .int .i64 t7), (8, .int .u16 t8), (9, .int .i64 t9)], 72, [(0, ⟨[.ints .i8 [o0_0], .ints .i8 [o0_1], .vecs .u16 36 [o0_2]], true⟩), (1, ⟨[.ints .i8 [o1_0], .ints .i8 [o1_1], .vecs .u16 36 [o1_2]], true⟩)], [0, 1], 0⟩
noncomputable def N2 (n : Nat) (m0 : Nat) (m1 : Nat) (m2 : Nat) (t1_0 : Int) (t1_1 : Int) (t1_2 : List Int) (t0_0 : Int) (t0_1 : Int) (t0_2 : List Int) (t6 : Int) (t7 : Int) (t8 : Int) (t9 : Int) (o0_0 : Int) (o0_1 : Int) (o0_2 : List Int) (o1_0 : Int) (o1_1 : Int) (o1_2 : List Int) : Res := nodeRun (E n) n Try.f58 L k0 [true, true, false, true, false, false, true, false, false, true, false, false, true, false, false, true, false, true, false] [m0, m1] m2 (S2 t1_0 t1_1 t1_2 t0_0 t0_1 t0_2 t6 t7 t8 t9 o0_0 o0_1 o0_2 o1_0 o1_1 o1_2)
theorem N0_succ (n : Nat)  (m0 : Nat) (t6 : Int) (t1_0 : Int) (t1_1 : Int) (t1_2 : List Int) (t0_0 : Int) (t0_1 : Int) (t0_2 : List Int) (o0_0 : Int) (o0_1 : Int) (o0_2 : List Int) (o1_0 : Int) (o1_1 : Int) (o1_2 : List Int) : N0 n  (m0 + 1) t6 t1_0 t1_1 t1_2 t0_0 t0_1 t0_2 o0_0 o0_1 o0_2 o1_0 o1_1 o1_2 =
  bif decide (t6 < (IntKind.wrap .i64 t0_0)) then
   N1 n m0 n t1_0 t1_1 t1_2 t0_0 t0_1 t0_2 t6 (0 : Int) o0_0 o0_1 o0_2 o1_0 o1_1 o1_2
  else
   some (.agg [.int .i8 o1_0, .int .i8 o1_1, .vec .u16 36 o1_2], []) := by kernel_rfl
theorem N1_succ (n : Nat) (m0 : Nat) (m1 : Nat) (t1_0 : Int) (t1_1 : Int) (t1_2 : List Int) (t0_0 : Int) (t0_1 : Int) (t0_2 : List Int) (t6 : Int) (t7 : Int) (o0_0 : Int) (o0_1 : Int) (o0_2 : List Int) (o1_0 : Int) (o1_1 : Int) (o1_2 : List Int) : N1 n m0 (m1 + 1) t1_0 t1_1 t1_2 t0_0 t0_1 t0_2 t6 t7 o0_0 o0_1 o0_2 o1_0 o1_1 o1_2 =
  bif decide (t7 < (IntKind.wrap .i64 t1_1)) then
   N2 n m0 m1 n t1_0 t1_1 t1_2 t0_0 t0_1 t0_2 t6 t7 (0 : Int) (0 : Int) o0_0 o0_1 o0_2 o1_0 o1_1 o1_2
  else
   N0 n m0 (IntKind.wrap .i64 (t6 + (1 : Int))) t1_0 t1_1 t1_2 t0_0 t0_1 t0_2 o0_0 o0_1 o0_2 o1_0 o1_1 o1_2 := by kernel_rfl
theorem N2_succ (n : Nat) (m0 : Nat) (m1 : Nat) (m2 : Nat) (t1_0 : Int) (t1_1 : Int) (t1_2 : List Int) (t0_0 : Int) (t0_1 : Int) (t0_2 : List Int) (t6 : Int) (t7 : Int) (t8 : Int) (t9 : Int) (o0_0 : Int) (o0_1 : Int) (o0_2 : List Int) (o1_0 : Int) (o1_1 : Int) (o1_2 : List Int) : N2 n m0 m1 (m2 + 1) t1_0 t1_1 t1_2 t0_0 t0_1 t0_2 t6 t7 t8 t9 o0_0 o0_1 o0_2 o1_0 o1_1 o1_2 =
  bif decide (t9 < (IntKind.wrap .i64 t0_1)) then
   bif decide (((0 : Int) ≤ t6) ∧ (t6 < (6 : Int))) then
   bif decide (((0 : Int) ≤ t9) ∧ (t9 < (6 : Int))) then
    bif decide (((0 : Int) ≤ t9) ∧ (t9 < (6 : Int))) then
     bif decide (((0 : Int) ≤ t7) ∧ (t7 < (6 : Int))) then
      pif (((u16 (List.getD t0_2 ((0 + ((Int.toNat t6) * 6)) + ((Int.toNat t9) * 1)) (0 : Int))) ∧ (u16 (List.getD t1_2 ((0 + ((Int.toNat t9) * 6)) + ((Int.toNat t7) * 1)) (0 : Int))))) (
       N2 n m0 m1 m2 t1_0 t1_1 t1_2 t0_0 t0_1 t0_2 t6 t7 (intBitsV .xor .u16 t8 (mulI (List.getD t0_2 ((0 + ((Int.toNat t6) * 6)) + ((Int.toNat t9) * 1)) (0 : Int)) (List.getD t1_2 ((0 + ((Int.toNat t9) * 6)) + ((Int.toNat t7) * 1)) (0 : Int)))) (IntKind.wrap .i64 (t9 + (1 : Int))) o0_0 o0_1 o0_2 o1_0 o1_1 o1_2)
      else none
     else none
    else none
   else none
  else
   bif decide (((0 : Int) ≤ t6) ∧ (t6 < (6 : Int))) then
   bif decide (((0 : Int) ≤ t7) ∧ (t7 < (6 : Int))) then
    N1 n m0 m1 t1_0 t1_1 t1_2 t0_0 t0_1 t0_2 t6 (IntKind.wrap .i64 (t7 + (1 : Int))) o0_0 o0_1 o0_2 o1_0 o1_1 (List.set o1_2 ((0 + ((Int.toNat t6) * 6)) + ((Int.toNat t7) * 1)) t8)
    else none
   else none := by kernel_rfl
noncomputable def R (n : Nat) (r : Int) (c : Int) (l : List Int) (r' : Int) (c' : Int) (l' : List Int) : Res := run (E n) n Try.f58 L (us r c l r' c' l') (HA r c l r' c' l') k0
theorem R_eq (n : Nat) (r : Int) (c : Int) (l : List Int) (r' : Int) (c' : Int) (l' : List Int) : R n r c l r' c' l' =
  N0 n n (0 : Int) r' c' l' r c l (0 : Int) (0 : Int) (List.replicate 36 (0 : Int)) r c' (List.replicate 36 (0 : Int)) := by kernel_rfl
theorem ans {n : Nat} {r : Int} {c : Int} {l : List Int} {r' : Int} {c' : Int} {l' : List Int} (hA : Sounds Try.prog (A n)) {u : U} {H : Heap} (h : R n r c l r' c' l' = some (u, H)) : Answers Try.prog 58 (us r c l r' c' l') (HA r c l r' c' l') u H := answers_env tabOk mixed hA Try.func58 (by kernel_rfl) (by kernel_rfl) h
end S_mtimes

namespace I_mtimes
abbrev num : Nat := 62
noncomputable def A (n : Nat) : List (Nat × Con) := ((fun (n : Nat) => ([(50, CMul)] : List (Nat × Con)))) n
noncomputable abbrev E (n : Nat) : Env (U × Heap) := envC tab ios (A n)
def L : List (List Nat) := [[4, 5, 16, 3, 2, 15], [4, 5, 3, 2, 15, 16, 21, 6, 20], [4, 5, 3, 2, 15, 16, 6, 20, 21, 26, 7, 25]]
abbrev us (r : Int) (c : Int) (l : List Int) (r' : Int) (c' : Int) (l' : List Int) : List U := (((fun (r c : Int) (l : List Int) (r' c' : Int) (l' : List Int) => (([.agg [.int .i8 r, .int .i8 c, .vec .u16 36 l], .agg [.int .i8 r', .int .i8 c', .vec .u16 36 l']] : List U), ([] : Heap)))) r c l r' c' l').1
abbrev HA (r : Int) (c : Int) (l : List Int) (r' : Int) (c' : Int) (l' : List Int) : Heap := (((fun (r c : Int) (l : List Int) (r' c' : Int) (l' : List Int) => (([.agg [.int .i8 r, .int .i8 c, .vec .u16 36 l], .agg [.int .i8 r', .int .i8 c', .vec .u16 36 l']] : List U), ([] : Heap)))) r c l r' c' l').2
def S0 (t16 : Int) (t15 : Int) (o0_0 : Int) (o0_1 : Int) (o0_2 : List Int) (o1_0 : Int) (o1_1 : Int) (o1_2 : List Int) (o2_0 : Int) (o2_1 : Int) (o2_2 : List Int) (o3_0 : Int) (o3_1 : Int) (o3_2 : List Int) : St := ⟨[(4, .ptr 0 0 0 0 1), (5, .ptr 1 0 0 0 1), (16, .int .i8 t16), (3, .ptr 2 0 0 0 1), (2, .ptr 3 0 0 0 1), (15, .int .i8 t15)], 56, [(0, ⟨[.ints .i8 [o0_0], .ints .i8 [o0_1], .vecs .u16 36 [o0_2]], true⟩), (1, ⟨[.ints .i8 [o1_0], .ints .i8 [o1_1], .vecs .u16 36 [o1_2]], true⟩), (2, ⟨[.ints .i8 [o2_0], .ints .i8 [o2_1], .vecs .u16 36 [o2_2]], true⟩), (3, ⟨[.ints .i8 [o3_0], .ints .i8 [o3_1], .vecs .u16 36 [o3_2]], true⟩)], [0, 1, 2, 3], 0⟩
noncomputable def N0 (n : Nat)  (m0 : Nat) (t16 : Int) (t15 : Int) (o0_0 : Int) (o0_1 : Int) (o0_2 : List Int) (o1_0 : Int) (o1_1 : Int) (o1_2 : List Int) (o2_0 : Int) (o2_1 : Int) (o2_2 : List Int) (o3_0 : Int) (o3_1 : Int) (o3_2 : List Int) : Res := nodeRun (E n) n Try.f62 L k0 [true, true, false, true, false] [] m0 (S0 t16 t15 o0_0 o0_1 o0_2 o1_0 o1_1 o1_2 o2_0 o2_1 o2_2 o3_0 o3_1 o3_2)
def S1 (t15 : Int) (t16 : Int) (t21 : Int) (t6 : Int) (t20 : Int) (o0_0 : Int) (o0_1 : Int) (o0_2 : List Int) (o1_0 : Int) (o1_1 : Int) (o1_2 : List Int) (o2_0 : Int) (o2_1 : Int) (o2_2 : List Int) (o3_0 : Int) (o3_1 : Int) (o3_2 : List Int) : St := ⟨[(4, .ptr 0 0 0 0 1), (5, .ptr 1 0 0 0 1), (3, .ptr 2 0 0 0 1), (2, .ptr 3 0 0 0 1), (15, .int .i8 t15), (16, .int .i8 t16), (21, .int .i8 t21), (6, .int .i8 t6), (20, .int .i8 t20)], 56, [(0, ⟨[.ints .i8 [o0_0], .ints .i8 [o0_1], .vecs .u16 36 [o0_2]], true⟩), (1, ⟨[.ints .i8 [o1_0], .ints .i8 [o1_1], .vecs .u16 36 [o1_2]], true⟩), (2, ⟨[.ints .i8 [o2_0], .ints .i8 [o2_1], .vecs .u16 36 [o2_2]], true⟩), (3, ⟨[.ints .i8 [o3_0], .ints .i8 [o3_1], .vecs .u16 36 [o3_2]], true⟩)], [0, 1, 2, 3], 0⟩
noncomputable def N1 (n : Nat) (m0 : Nat) (m1 : Nat) (t15 : Int) (t16 : Int) (t21 : Int) (t6 : Int) (t20 : Int) (o0_0 : Int) (o0_1 : Int) (o0_2 : List Int) (o1_0 : Int) (o1_1 : Int) (o1_2 : List Int) (o2_0 : Int) (o2_1 : Int) (o2_2 : List Int) (o3_0 : Int) (o3_1 : Int) (o3_2 : List Int) : Res := nodeRun (E n) n Try.f62 L k0 [true, true, false, true, false, false, true, true, false, false, true, true, false] [m0] m1 (S1 t15 t16 t21 t6 t20 o0_0 o0_1 o0_2 o1_0 o1_1 o1_2 o2_0 o2_1 o2_2 o3_0 o3_1 o3_2)
def S2 (t15 : Int) (t16 : Int) (t6 : Int) (t20 : Int) (t21 : Int) (t26 : Int) (t7 : Int) (t25 : Int) (o0_0 : Int) (o0_1 : Int) (o0_2 : List Int) (o1_0 : Int) (o1_1 : Int) (o1_2 : List Int) (o2_0 : Int) (o2_1 : Int) (o2_2 : List Int) (o3_0 : Int) (o3_1 : Int) (o3_2 : List Int) : St := ⟨[(4, .ptr 0 0 0 0 1), (5, .ptr 1 0 0 0 1), (3, .ptr 2 0 0 0 1), (2, .ptr 3 0 0 0 1), (15, .int .i8 t15), (16, .int .i8 t16), (6, .int .i8 t6), (20, .int .i8 t20), (21, .int .i8 t21), (26, .int .i8 t26), (7, .int .i8 t7), (25, .int .i8 t25)], 56, [(0, ⟨[.ints .i8 [o0_0], .ints .i8 [o0_1], .vecs .u16 36 [o0_2]], true⟩), (1, ⟨[.ints .i8 [o1_0], .ints .i8 [o1_1], .vecs .u16 36 [o1_2]], true⟩), (2, ⟨[.ints .i8 [o2_0], .ints .i8 [o2_1], .vecs .u16 36 [o2_2]], true⟩), (3, ⟨[.ints .i8 [o3_0], .ints .i8 [o3_1], .vecs .u16 36 [o3_2]], true⟩)], [0, 1, 2, 3], 0⟩
noncomputable def N2 (n : Nat) (m0 : Nat) (m1 : Nat) (m2 : Nat) (t15 : Int) (t16 : Int) (t6 : Int) (t20 : Int) (t21 : Int) (t26 : Int) (t7 : Int) (t25 : Int) (o0_0 : Int) (o0_1 : Int) (o0_2 : List Int) (o1_0 : Int) (o1_1 : Int) (o1_2 : List Int) (o2_0 : Int) (o2_1 : Int) (o2_2 : List Int) (o3_0 : Int) (o3_1 : Int) (o3_2 : List Int) : Res := nodeRun (E n) n Try.f62 L k0 [true, true, false, true, false, false, true, true, false, false, true, true, false, false, true, true, false, false, true, true, false] [m0, m1] m2 (S2 t15 t16 t6 t20 t21 t26 t7 t25 o0_0 o0_1 o0_2 o1_0 o1_1 o1_2 o2_0 o2_1 o2_2 o3_0 o3_1 o3_2)
theorem N0_succ (n : Nat)  (m0 : Nat) (t16 : Int) (t15 : Int) (o0_0 : Int) (o0_1 : Int) (o0_2 : List Int) (o1_0 : Int) (o1_1 : Int) (o1_2 : List Int) (o2_0 : Int) (o2_1 : Int) (o2_2 : List Int) (o3_0 : Int) (o3_1 : Int) (o3_2 : List Int) : N0 n  (m0 + 1) t16 t15 o0_0 o0_1 o0_2 o1_0 o1_1 o1_2 o2_0 o2_1 o2_2 o3_0 o3_1 o3_2 =
  bif decide (t16 < t15) then
   N1 n m0 n t15 t16 (0 : Int) t16 o2_1 o0_0 o0_1 o0_2 o1_0 o1_1 o1_2 o2_0 o2_1 o2_2 o3_0 o3_1 o3_2
  else
   some (.agg [.int .i8 o1_0, .int .i8 o1_1, .vec .u16 36 o1_2], []) := by kernel_rfl
theorem N1_succ (n : Nat) (m0 : Nat) (m1 : Nat) (t15 : Int) (t16 : Int) (t21 : Int) (t6 : Int) (t20 : Int) (o0_0 : Int) (o0_1 : Int) (o0_2 : List Int) (o1_0 : Int) (o1_1 : Int) (o1_2 : List Int) (o2_0 : Int) (o2_1 : Int) (o2_2 : List Int) (o3_0 : Int) (o3_1 : Int) (o3_2 : List Int) : N1 n m0 (m1 + 1) t15 t16 t21 t6 t20 o0_0 o0_1 o0_2 o1_0 o1_1 o1_2 o2_0 o2_1 o2_2 o3_0 o3_1 o3_2 =
  bif decide (t21 < t20) then
   N2 n m0 m1 n t15 t16 t6 t20 t21 (0 : Int) t21 o3_1 o0_0 o0_1 o0_2 o1_0 o1_1 o1_2 o2_0 o2_1 o2_2 o3_0 o3_1 o3_2
  else
   N0 n m0 (IntKind.wrap .i8 (t16 + (1 : Int))) t15 o0_0 o0_1 o0_2 o1_0 o1_1 o1_2 o2_0 o2_1 o2_2 o3_0 o3_1 o3_2 := by kernel_rfl
theorem N2_succ (n : Nat) (m0 : Nat) (m1 : Nat) (m2 : Nat) (t15 : Int) (t16 : Int) (t6 : Int) (t20 : Int) (t21 : Int) (t26 : Int) (t7 : Int) (t25 : Int) (o0_0 : Int) (o0_1 : Int) (o0_2 : List Int) (o1_0 : Int) (o1_1 : Int) (o1_2 : List Int) (o2_0 : Int) (o2_1 : Int) (o2_2 : List Int) (o3_0 : Int) (o3_1 : Int) (o3_2 : List Int) : N2 n m0 m1 (m2 + 1) t15 t16 t6 t20 t21 t26 t7 t25 o0_0 o0_1 o0_2 o1_0 o1_1 o1_2 o2_0 o2_1 o2_2 o3_0 o3_1 o3_2 =
  bif decide (t26 < t25) then
   bif decide (((0 : Int) ≤ t6) ∧ (t6 < (6 : Int))) then
   bif decide (((0 : Int) ≤ t7) ∧ (t7 < (6 : Int))) then
    bif decide (((0 : Int) ≤ t6) ∧ (t6 < (6 : Int))) then
     bif decide (((0 : Int) ≤ t26) ∧ (t26 < (6 : Int))) then
      bif decide (((0 : Int) ≤ t26) ∧ (t26 < (6 : Int))) then
       bif decide (((0 : Int) ≤ t7) ∧ (t7 < (6 : Int))) then
        bif decide (((0 : Int) ≤ t6) ∧ (t6 < (6 : Int))) then
         pif (((u16 (List.getD o3_2 ((0 + ((Int.toNat t6) * 6)) + ((Int.toNat t26) * 1)) (0 : Int))) ∧ (u16 (List.getD o2_2 ((0 + ((Int.toNat t26) * 6)) + ((Int.toNat t7) * 1)) (0 : Int))))) (
          bif decide (((0 : Int) ≤ t7) ∧ (t7 < (6 : Int))) then
          N2 n m0 m1 m2 t15 t16 t6 t20 t21 (IntKind.wrap .i8 (t26 + (1 : Int))) t7 t25 o0_0 o0_1 o0_2 o1_0 o1_1 (List.set o1_2 ((0 + ((Int.toNat t6) * 6)) + ((Int.toNat t7) * 1)) (intBitsV .xor .u16 (List.getD o1_2 ((0 + ((Int.toNat t6) * 6)) + ((Int.toNat t7) * 1)) (0 : Int)) (mulI (List.getD o3_2 ((0 + ((Int.toNat t6) * 6)) + ((Int.toNat t26) * 1)) (0 : Int)) (List.getD o2_2 ((0 + ((Int.toNat t26) * 6)) + ((Int.toNat t7) * 1)) (0 : Int))))) o2_0 o2_1 o2_2 o3_0 o3_1 o3_2
          else none)
         else none
        else none
       else none
      else none
     else none
    else none
   else none
  else
   N1 n m0 m1 t15 t16 (IntKind.wrap .i8 (t21 + (1 : Int))) t6 t20 o0_0 o0_1 o0_2 o1_0 o1_1 o1_2 o2_0 o2_1 o2_2 o3_0 o3_1 o3_2 := by kernel_rfl
noncomputable def R (n : Nat) (r : Int) (c : Int) (l : List Int) (r' : Int) (c' : Int) (l' : List Int) : Res := run (E n) n Try.f62 L (us r c l r' c' l') (HA r c l r' c' l') k0
theorem R_eq (n : Nat) (r : Int) (c : Int) (l : List Int) (r' : Int) (c' : Int) (l' : List Int) : R n r c l r' c' l' =
  N0 n n (0 : Int) r (0 : Int) (0 : Int) (List.replicate 36 (0 : Int)) r c' (List.replicate 36 (0 : Int)) r' c' l' r c l := by kernel_rfl
theorem ans {n : Nat} {r : Int} {c : Int} {l : List Int} {r' : Int} {c' : Int} {l' : List Int} (hA : Sounds Try.prog (A n)) {u : U} {H : Heap} (h : R n r c l r' c' l' = some (u, H)) : Answers Try.prog 62 (us r c l r' c' l') (HA r c l r' c' l') u H := answers_env tabOk mixed hA Try.func62 (by kernel_rfl) (by kernel_rfl) h
end I_mtimes

namespace S_mpow
abbrev num : Nat := 19
noncomputable def A (n : Nat) : List (Nat × Con) := ((fun (n : Nat) => ([(52, COk), (56, CIn), (57, COne), (58, CSMtimes)] : List (Nat × Con)))) n
noncomputable abbrev E (n : Nat) : Env (U × Heap) := envC tab ios (A n)
def L : List (List Nat) := [[4, 6, 1, 2]]
abbrev us (r : Int) (c : Int) (l : List Int) (x : Int) : List U := (((fun (r c : Int) (l : List Int) (x : Int) => (([.agg [.int .i8 r, .int .i8 c, .vec .u16 36 l], .int .i64 x] : List U), ([] : Heap)))) r c l x).1
abbrev HA (r : Int) (c : Int) (l : List Int) (x : Int) : Heap := (((fun (r c : Int) (l : List Int) (x : Int) => (([.agg [.int .i8 r, .int .i8 c, .vec .u16 36 l], .int .i64 x] : List U), ([] : Heap)))) r c l x).2
def S0 (t1 : Int) (o0_0 : Int) (o0_1 : Int) (o0_2 : List Int) (o1_0 : Int) (o1_1 : Int) (o1_2 : List Int) (o2_0 : Int) (o2_1 : Int) (o2_2 : List Int) : St := ⟨[(4, .ptr 0 0 0 0 1), (6, .ptr 1 0 0 0 1), (1, .int .i64 t1), (2, .ptr 2 0 0 0 1)], 33, [(0, ⟨[.ints .i8 [o0_0], .ints .i8 [o0_1], .vecs .u16 36 [o0_2]], true⟩), (1, ⟨[.ints .i8 [o1_0], .ints .i8 [o1_1], .vecs .u16 36 [o1_2]], true⟩), (2, ⟨[.ints .i8 [o2_0], .ints .i8 [o2_1], .vecs .u16 36 [o2_2]], true⟩)], [0, 1, 2], 0⟩
noncomputable def N0 (n : Nat)  (m0 : Nat) (t1 : Int) (o0_0 : Int) (o0_1 : Int) (o0_2 : List Int) (o1_0 : Int) (o1_1 : Int) (o1_2 : List Int) (o2_0 : Int) (o2_1 : Int) (o2_2 : List Int) : Res := nodeRun (E n) n Try.f19 L k0 [true, true, true, true, true, false, false] [] m0 (S0 t1 o0_0 o0_1 o0_2 o1_0 o1_1 o1_2 o2_0 o2_1 o2_2)
theorem N0_succ (n : Nat)  (m0 : Nat) (t1 : Int) (o0_0 : Int) (o0_1 : Int) (o0_2 : List Int) (o1_0 : Int) (o1_1 : Int) (o1_2 : List Int) (o2_0 : Int) (o2_1 : Int) (o2_2 : List Int) : N0 n  (m0 + 1) t1 o0_0 o0_1 o0_2 o1_0 o1_1 o1_2 o2_0 o2_1 o2_2 =
  bif decide (t1 > (0 : Int)) then
   bif ((Int.tmod t1 (2 : Int)) == (1 : Int)) then
    pif ((((Mat o1_0 o1_1 o1_2) ∧ (Mat o2_0 o2_1 o2_2)) ∧ ((side o1_0) ∧ ((side o1_1) ∧ (side o2_1))))) (
    pif ((((Mat o2_0 o2_1 o2_2) ∧ (Mat o2_0 o2_1 o2_2)) ∧ ((side o2_0) ∧ ((side o2_1) ∧ (side o2_1))))) (
    N0 n m0 (IntKind.wrap .i64 (Int.tdiv t1 (2 : Int))) o0_0 o0_1 o0_2 o1_0 o2_1 (mulM (Int.toNat o1_0) (Int.toNat o1_1) (Int.toNat o2_1) o1_2 o2_2) o2_0 o2_1 (mulM (Int.toNat o2_0) (Int.toNat o2_1) (Int.toNat o2_1) o2_2 o2_2)))
   else
    pif ((((Mat o2_0 o2_1 o2_2) ∧ (Mat o2_0 o2_1 o2_2)) ∧ ((side o2_0) ∧ ((side o2_1) ∧ (side o2_1))))) (
    N0 n m0 (IntKind.wrap .i64 (Int.tdiv t1 (2 : Int))) o0_0 o0_1 o0_2 o1_0 o1_1 o1_2 o2_0 o2_1 (mulM (Int.toNat o2_0) (Int.toNat o2_1) (Int.toNat o2_1) o2_2 o2_2))
  else
   some (.tup [.agg [.int .i8 o1_0, .int .i8 o1_1, .vec .u16 36 o1_2], .int .i64 (0 : Int)], []) := by kernel_rfl
noncomputable def R (n : Nat) (r : Int) (c : Int) (l : List Int) (x : Int) : Res := run (E n) n Try.f19 L (us r c l x) (HA r c l x) k0
theorem R_eq (n : Nat) (r : Int) (c : Int) (l : List Int) (x : Int) : R n r c l x =
  pif ((Mat r c l)) (
  bif (!(valid r c l)) then
   some (.tup [.agg [.int .i8 (0 : Int), .int .i8 (0 : Int), .vec .u16 36 (List.replicate 36 (0 : Int))], .int .i64 (1 : Int)], [])
  else
   pif (True) (
   bif (!(inB x (0 : Int) (1000000 : Int))) then
    some (.tup [.agg [.int .i8 (0 : Int), .int .i8 (0 : Int), .vec .u16 36 (List.replicate 36 (0 : Int))], .int .i64 (2 : Int)], [])
   else
    bif (r != c) then
     some (.tup [.agg [.int .i8 (0 : Int), .int .i8 (0 : Int), .vec .u16 36 (List.replicate 36 (0 : Int))], .int .i64 (4 : Int)], [])
    else
     pif ((side r)) (
     N0 n n x (0 : Int) (0 : Int) (List.replicate 36 (0 : Int)) r r (oneM (Int.toNat r)) r c l))) := by kernel_rfl
theorem ans {n : Nat} {r : Int} {c : Int} {l : List Int} {x : Int} (hA : Sounds Try.prog (A n)) {u : U} {H : Heap} (h : R n r c l x = some (u, H)) : Answers Try.prog 19 (us r c l x) (HA r c l x) u H := answers_env tabOk mixed hA Try.func19 (by kernel_rfl) (by kernel_rfl) h
end S_mpow

namespace I_mpow
abbrev num : Nat := 20
noncomputable def A (n : Nat) : List (Nat × Con) := ((fun (n : Nat) => ([(59, CValid), (60, CIn), (61, COne), (62, CMtimes)] : List (Nat × Con)))) n
noncomputable abbrev E (n : Nat) : Env (U × Heap) := envC tab ios (A n)
def L : List (List Nat) := [[4, 6, 1, 2]]
abbrev us (r : Int) (c : Int) (l : List Int) (x : Int) : List U := (((fun (r c : Int) (l : List Int) (x : Int) => (([.agg [.int .i8 r, .int .i8 c, .vec .u16 36 l], .int .i64 x] : List U), ([] : Heap)))) r c l x).1
abbrev HA (r : Int) (c : Int) (l : List Int) (x : Int) : Heap := (((fun (r c : Int) (l : List Int) (x : Int) => (([.agg [.int .i8 r, .int .i8 c, .vec .u16 36 l], .int .i64 x] : List U), ([] : Heap)))) r c l x).2
def S0 (t1 : Int) (o0_0 : Int) (o0_1 : Int) (o0_2 : List Int) (o1_0 : Int) (o1_1 : Int) (o1_2 : List Int) (o2_0 : Int) (o2_1 : Int) (o2_2 : List Int) : St := ⟨[(4, .ptr 0 0 0 0 1), (6, .ptr 1 0 0 0 1), (1, .int .i64 t1), (2, .ptr 2 0 0 0 1)], 41, [(0, ⟨[.ints .i8 [o0_0], .ints .i8 [o0_1], .vecs .u16 36 [o0_2]], true⟩), (1, ⟨[.ints .i8 [o1_0], .ints .i8 [o1_1], .vecs .u16 36 [o1_2]], true⟩), (2, ⟨[.ints .i8 [o2_0], .ints .i8 [o2_1], .vecs .u16 36 [o2_2]], true⟩)], [0, 1, 2], 0⟩
noncomputable def N0 (n : Nat)  (m0 : Nat) (t1 : Int) (o0_0 : Int) (o0_1 : Int) (o0_2 : List Int) (o1_0 : Int) (o1_1 : Int) (o1_2 : List Int) (o2_0 : Int) (o2_1 : Int) (o2_2 : List Int) : Res := nodeRun (E n) n Try.f20 L k0 [true, true, true, false, false] [] m0 (S0 t1 o0_0 o0_1 o0_2 o1_0 o1_1 o1_2 o2_0 o2_1 o2_2)
theorem N0_succ (n : Nat)  (m0 : Nat) (t1 : Int) (o0_0 : Int) (o0_1 : Int) (o0_2 : List Int) (o1_0 : Int) (o1_1 : Int) (o1_2 : List Int) (o2_0 : Int) (o2_1 : Int) (o2_2 : List Int) : N0 n  (m0 + 1) t1 o0_0 o0_1 o0_2 o1_0 o1_1 o1_2 o2_0 o2_1 o2_2 =
  bif decide (t1 > (0 : Int)) then
   bif ((intBitsV .and .i64 t1 (1 : Int)) == (1 : Int)) then
    pif ((((Mat o1_0 o1_1 o1_2) ∧ (Mat o2_0 o2_1 o2_2)) ∧ ((side o1_0) ∧ ((side o1_1) ∧ (side o2_1))))) (
    pif ((((Mat o2_0 o2_1 o2_2) ∧ (Mat o2_0 o2_1 o2_2)) ∧ ((side o2_0) ∧ ((side o2_1) ∧ (side o2_1))))) (
    N0 n m0 (Int.fdiv t1 (2 : Int)) o0_0 o0_1 o0_2 o1_0 o2_1 (mulM (Int.toNat o1_0) (Int.toNat o1_1) (Int.toNat o2_1) o1_2 o2_2) o2_0 o2_1 (mulM (Int.toNat o2_0) (Int.toNat o2_1) (Int.toNat o2_1) o2_2 o2_2)))
   else
    pif ((((Mat o2_0 o2_1 o2_2) ∧ (Mat o2_0 o2_1 o2_2)) ∧ ((side o2_0) ∧ ((side o2_1) ∧ (side o2_1))))) (
    N0 n m0 (Int.fdiv t1 (2 : Int)) o0_0 o0_1 o0_2 o1_0 o1_1 o1_2 o2_0 o2_1 (mulM (Int.toNat o2_0) (Int.toNat o2_1) (Int.toNat o2_1) o2_2 o2_2))
  else
   some (.tup [.agg [.int .i8 o1_0, .int .i8 o1_1, .vec .u16 36 o1_2], .int .i64 (0 : Int)], []) := by kernel_rfl
noncomputable def R (n : Nat) (r : Int) (c : Int) (l : List Int) (x : Int) : Res := run (E n) n Try.f20 L (us r c l x) (HA r c l x) k0
theorem R_eq (n : Nat) (r : Int) (c : Int) (l : List Int) (x : Int) : R n r c l x =
  pif ((Mat r c l)) (
  bif (!(valid r c l)) then
   some (.tup [.agg [.int .i8 (0 : Int), .int .i8 (0 : Int), .vec .u16 36 (List.replicate 36 (0 : Int))], .int .i64 (1 : Int)], [])
  else
   pif (True) (
   bif (!(inB x (0 : Int) (1000000 : Int))) then
    some (.tup [.agg [.int .i8 (0 : Int), .int .i8 (0 : Int), .vec .u16 36 (List.replicate 36 (0 : Int))], .int .i64 (2 : Int)], [])
   else
    bif (r != c) then
     some (.tup [.agg [.int .i8 (0 : Int), .int .i8 (0 : Int), .vec .u16 36 (List.replicate 36 (0 : Int))], .int .i64 (4 : Int)], [])
    else
     pif ((side r)) (
     N0 n n x (0 : Int) (0 : Int) (List.replicate 36 (0 : Int)) r r (oneM (Int.toNat r)) r c l))) := by kernel_rfl
theorem ans {n : Nat} {r : Int} {c : Int} {l : List Int} {x : Int} (hA : Sounds Try.prog (A n)) {u : U} {H : Heap} (h : R n r c l x = some (u, H)) : Answers Try.prog 20 (us r c l x) (HA r c l x) u H := answers_env tabOk mixed hA Try.func20 (by kernel_rfl) (by kernel_rfl) h
end I_mpow

namespace L_Power
abbrev num : Nat := 5
noncomputable def A (n : Nat) : List (Nat × Con) := ((fun (n : Nat) => ([(19, CMpow), (20, CMpow), (14, CToMat), (16, CEqMat)] : List (Nat × Con)))) n
noncomputable abbrev E (n : Nat) : Env (U × Heap) := envC tab ios (A n)
def L : List (List Nat) := []
abbrev us (r : Int) (c : Int) (l : List Int) (x : Int) : List U := (((fun (r c : Int) (l : List Int) (x : Int) => (([.agg [.int .i8 r, .int .i8 c, .vec .u16 36 l], .int .i64 x] : List U), ([] : Heap)))) r c l x).1
abbrev HA (r : Int) (c : Int) (l : List Int) (x : Int) : Heap := (((fun (r c : Int) (l : List Int) (x : Int) => (([.agg [.int .i8 r, .int .i8 c, .vec .u16 36 l], .int .i64 x] : List U), ([] : Heap)))) r c l x).2
noncomputable def R (n : Nat) (r : Int) (c : Int) (l : List Int) (x : Int) : Res := run (E n) n Try.f5 L (us r c l x) (HA r c l x) k0
theorem R_eq (n : Nat) (r : Int) (c : Int) (l : List Int) (x : Int) : R n r c l x =
  pif ((Mat r c l)) (
  pif ((Mat r c l)) (
  pif ((Mat r c l)) (
  pif ((Mat r c l)) (
  pif ((((List.length (okL (mpowC r c l x) (powM (Int.toNat r) 63 (Int.toNat x) (oneM (Int.toNat r)) l))) = 36) ∧ ((List.length (okL (mpowC r c l x) (powM (Int.toNat r) 63 (Int.toNat x) (oneM (Int.toNat r)) l))) = 36))) (
  bif (!((((okR (mpowC r c l x) r) == (okR (mpowC r c l x) r)) && ((okR (mpowC r c l x) r) == (okR (mpowC r c l x) r))) && ((okL (mpowC r c l x) (powM (Int.toNat r) 63 (Int.toNat x) (oneM (Int.toNat r)) l)) == (okL (mpowC r c l x) (powM (Int.toNat r) 63 (Int.toNat x) (oneM (Int.toNat r)) l))))) then
   some (.bool false, [])
  else
   bif ((mpowC r c l x) != (mpowC r c l x)) then
    some (.bool false, [])
   else
    some (.bool true, [])))))) := by kernel_rfl
theorem ans {n : Nat} {r : Int} {c : Int} {l : List Int} {x : Int} (hA : Sounds Try.prog (A n)) {u : U} {H : Heap} (h : R n r c l x = some (u, H)) : Answers Try.prog 5 (us r c l x) (HA r c l x) u H := answers_env tabOk mixed hA Try.func5 (by kernel_rfl) (by kernel_rfl) h
end L_Power

end Go.VM

