/- Written by a program of this session (Lift.lean): what the evaluator comes to, function by function; the kernel checks it. The conditions: those of the contracts. -/
import Derived.Test.YtblhjcolknooeaaVmP4
import Derived.Test.YtblhjcolknooeaaMatT
import Derived.Test.YtblhjcolknooeaaMatTS
import Derived.Test.YtblhjcolknooeaaNimCon
import Derived.Test.YtblhjcolknooeaaMatCon
import Derived.Test.YtblhjcolknooeaaMatCon2
import Derived.Test.YtblhjcolknooeaaMatCon3
import Derived.Test.YtblhjcolknooeaaMatCon4
import Derived.Test.YtblhjcolknooeaaMatCon6
import Derived.KernelRfl
set_option linter.unusedVariables false
set_option linter.unusedSimpArgs false
set_option linter.unusedSectionVars false
namespace Go.VM
open Go Go.Proofs Go.Fn NimF
set_option linter.unusedVariables false
set_option maxRecDepth 100000
namespace I_square
abbrev num : Nat := 54
noncomputable def A (n : Nat) : List (Nat × Con) := ((fun (n : Nat) => ([(59, CValid)] : List (Nat × Con)))) n
noncomputable abbrev E (n : Nat) : Env (U × Heap) := envC tab ios (A n)
def L : List (List Nat) := []
abbrev us (r : Int) (c : Int) (l : List Int) : List U := (((fun (r c : Int) (l : List Int) => (([.agg [.int .i8 r, .int .i8 c, .vec .u16 36 l]] : List U), ([] : Heap)))) r c l).1
abbrev HA (r : Int) (c : Int) (l : List Int) : Heap := (((fun (r c : Int) (l : List Int) => (([.agg [.int .i8 r, .int .i8 c, .vec .u16 36 l]] : List U), ([] : Heap)))) r c l).2
noncomputable def R (n : Nat) (r : Int) (c : Int) (l : List Int) : Res := run (E n) n Try.f54 L (us r c l) (HA r c l) k0
theorem R_eq (n : Nat) (r : Int) (c : Int) (l : List Int) : R n r c l =
  pif ((Mat r c l)) (
  bif (!(valid r c l)) then
   some (.int .i64 (1 : Int), [])
  else
   bif (r != c) then
    some (.int .i64 (4 : Int), [])
   else
    some (.int .i64 (0 : Int), [])) := by kernel_rfl
theorem ans {n : Nat} {r : Int} {c : Int} {l : List Int} (hA : Sounds Try.prog (A n)) {u : U} {H : Heap} (h : R n r c l = some (u, H)) : Answers Try.prog 54 (us r c l) (HA r c l) u H := answers_env tabOk mixed hA Try.func54 (by kernel_rfl) (by kernel_rfl) h
end I_square

namespace S_inv
abbrev num : Nat := 36
noncomputable def A (n : Nat) : List (Nat × Con) := ((fun (n : Nat) => ([(52, COk), (65, CSolve0)] : List (Nat × Con)))) n
noncomputable abbrev E (n : Nat) : Env (U × Heap) := envC tab ios (A n)
def L : List (List Nat) := [[2, 4, 5, 1], [2, 4, 1, 5, 9, 7]]
abbrev us (r : Int) (c : Int) (l : List Int) : List U := (((fun (r c : Int) (l : List Int) => (([.agg [.int .i8 r, .int .i8 c, .vec .u16 36 l]] : List U), ([] : Heap)))) r c l).1
abbrev HA (r : Int) (c : Int) (l : List Int) : Heap := (((fun (r c : Int) (l : List Int) => (([.agg [.int .i8 r, .int .i8 c, .vec .u16 36 l]] : List U), ([] : Heap)))) r c l).2
def S0 (t5 : Int) (o0_0 : Int) (o0_1 : Int) (o0_2 : List Int) (o1_0 : Int) (o1_1 : Int) (o1_2 : List Int) (o2_0 : Int) (o2_1 : Int) (o2_2 : List Int) : St := ⟨[(2, .ptr 0 0 0 0 1), (4, .ptr 1 0 0 0 1), (5, .int .i64 t5), (1, .ptr 2 0 0 0 1)], 59, [(0, ⟨[.ints .i8 [o0_0], .ints .i8 [o0_1], .vecs .u16 36 [o0_2]], true⟩), (1, ⟨[.ints .i8 [o1_0], .ints .i8 [o1_1], .vecs .u16 36 [o1_2]], true⟩), (2, ⟨[.ints .i8 [o2_0], .ints .i8 [o2_1], .vecs .u16 36 [o2_2]], true⟩)], [0, 1, 2], 0⟩
noncomputable def N0 (n : Nat)  (m0 : Nat) (t5 : Int) (o0_0 : Int) (o0_1 : Int) (o0_2 : List Int) (o1_0 : Int) (o1_1 : Int) (o1_2 : List Int) (o2_0 : Int) (o2_1 : Int) (o2_2 : List Int) : Res := nodeRun (E n) n Try.f36 L k0 [true, true, true, true, false, true, false] [] m0 (S0 t5 o0_0 o0_1 o0_2 o1_0 o1_1 o1_2 o2_0 o2_1 o2_2)
def S1 (t5 : Int) (t9 : Int) (o0_0 : Int) (o0_1 : Int) (o0_2 : List Int) (o1_0 : Int) (o1_1 : Int) (o1_2 : List Int) (o2_0 : Int) (o2_1 : Int) (o2_2 : List Int) (o3_0 : List Int) : St := ⟨[(2, .ptr 0 0 0 0 1), (4, .ptr 1 0 0 0 1), (1, .ptr 2 0 0 0 1), (5, .int .i64 t5), (9, .int .i64 t9), (7, .ptr 3 0 0 0 6)], 59, [(0, ⟨[.ints .i8 [o0_0], .ints .i8 [o0_1], .vecs .u16 36 [o0_2]], true⟩), (1, ⟨[.ints .i8 [o1_0], .ints .i8 [o1_1], .vecs .u16 36 [o1_2]], true⟩), (2, ⟨[.ints .i8 [o2_0], .ints .i8 [o2_1], .vecs .u16 36 [o2_2]], true⟩), (3, ⟨[.vecs .u16 6 [o3_0]], true⟩)], [0, 1, 2, 3], 0⟩
noncomputable def N1 (n : Nat) (m0 : Nat) (m1 : Nat) (t5 : Int) (t9 : Int) (o0_0 : Int) (o0_1 : Int) (o0_2 : List Int) (o1_0 : Int) (o1_1 : Int) (o1_2 : List Int) (o2_0 : Int) (o2_1 : Int) (o2_2 : List Int) (o3_0 : List Int) : Res := nodeRun (E n) n Try.f36 L k0 [true, true, true, true, false, true, false, false, true, false, false, true, true, true, true, true, false] [m0] m1 (S1 t5 t9 o0_0 o0_1 o0_2 o1_0 o1_1 o1_2 o2_0 o2_1 o2_2 o3_0)
theorem N0_succ (n : Nat)  (m0 : Nat) (t5 : Int) (o0_0 : Int) (o0_1 : Int) (o0_2 : List Int) (o1_0 : Int) (o1_1 : Int) (o1_2 : List Int) (o2_0 : Int) (o2_1 : Int) (o2_2 : List Int) : N0 n  (m0 + 1) t5 o0_0 o0_1 o0_2 o1_0 o1_1 o1_2 o2_0 o2_1 o2_2 =
  bif decide (t5 < (IntKind.wrap .i64 o2_1)) then
   bif decide (((0 : Int) ≤ t5) ∧ (t5 < (6 : Int))) then
   pif (((inMat o2_0 o2_1 o2_2) ∧ ((Vec (List.set (List.replicate 6 (0 : Int)) (0 + ((Int.toNat t5) * 1)) (1 : Int))) ∧ ((vecOk (List.set (List.replicate 6 (0 : Int)) (0 + ((Int.toNat t5) * 1)) (1 : Int)) o2_0) = true)))) (
    bif (!(solB o2_0 o2_1 o2_2 (List.set (List.replicate 6 (0 : Int)) (0 + ((Int.toNat t5) * 1)) (1 : Int)))) then
     some (.tup [.agg [.int .i8 (0 : Int), .int .i8 (0 : Int), .vec .u16 36 (List.replicate 36 (0 : Int))], .int .i64 (6 : Int)], [])
    else
     N1 n m0 n t5 (0 : Int) o0_0 o0_1 o0_2 o1_0 o1_1 o1_2 o2_0 o2_1 o2_2 (solL o2_0 o2_1 o2_2 (List.set (List.replicate 6 (0 : Int)) (0 + ((Int.toNat t5) * 1)) (1 : Int))))
   else none
  else
   some (.tup [.agg [.int .i8 o1_0, .int .i8 o1_1, .vec .u16 36 o1_2], .int .i64 (0 : Int)], []) := by kernel_rfl
theorem N1_succ (n : Nat) (m0 : Nat) (m1 : Nat) (t5 : Int) (t9 : Int) (o0_0 : Int) (o0_1 : Int) (o0_2 : List Int) (o1_0 : Int) (o1_1 : Int) (o1_2 : List Int) (o2_0 : Int) (o2_1 : Int) (o2_2 : List Int) (o3_0 : List Int) : N1 n m0 (m1 + 1) t5 t9 o0_0 o0_1 o0_2 o1_0 o1_1 o1_2 o2_0 o2_1 o2_2 o3_0 =
  bif decide (t9 < (IntKind.wrap .i64 o2_0)) then
   bif decide (((0 : Int) ≤ t9) ∧ (t9 < (6 : Int))) then
   bif decide (((0 : Int) ≤ t9) ∧ (t9 < (6 : Int))) then
    bif decide (((0 : Int) ≤ t5) ∧ (t5 < (6 : Int))) then
     N1 n m0 m1 t5 (IntKind.wrap .i64 (t9 + (1 : Int))) o0_0 o0_1 o0_2 o1_0 o1_1 (List.set o1_2 ((0 + ((Int.toNat t9) * 6)) + ((Int.toNat t5) * 1)) (List.getD o3_0 (0 + ((Int.toNat t9) * 1)) (0 : Int))) o2_0 o2_1 o2_2 o3_0
     else none
    else none
   else none
  else
   N0 n m0 (IntKind.wrap .i64 (t5 + (1 : Int))) o0_0 o0_1 o0_2 o1_0 o1_1 o1_2 o2_0 o2_1 o2_2 := by kernel_rfl
noncomputable def R (n : Nat) (r : Int) (c : Int) (l : List Int) : Res := run (E n) n Try.f36 L (us r c l) (HA r c l) k0
theorem R_eq (n : Nat) (r : Int) (c : Int) (l : List Int) : R n r c l =
  pif ((Mat r c l)) (
  bif (!(valid r c l)) then
   some (.tup [.agg [.int .i8 (0 : Int), .int .i8 (0 : Int), .vec .u16 36 (List.replicate 36 (0 : Int))], .int .i64 (1 : Int)], [])
  else
   bif (r != c) then
    some (.tup [.agg [.int .i8 (0 : Int), .int .i8 (0 : Int), .vec .u16 36 (List.replicate 36 (0 : Int))], .int .i64 (4 : Int)], [])
   else
    N0 n n (0 : Int) (0 : Int) (0 : Int) (List.replicate 36 (0 : Int)) r c (List.replicate 36 (0 : Int)) r c l) := by kernel_rfl
theorem ans {n : Nat} {r : Int} {c : Int} {l : List Int} (hA : Sounds Try.prog (A n)) {u : U} {H : Heap} (h : R n r c l = some (u, H)) : Answers Try.prog 36 (us r c l) (HA r c l) u H := answers_env tabOk mixed hA Try.func36 (by kernel_rfl) (by kernel_rfl) h
end S_inv

namespace I_inv
abbrev num : Nat := 37
noncomputable def A (n : Nat) : List (Nat × Con) := ((fun (n : Nat) => ([(54, CSquare), (61, COne), (55, CReduced)] : List (Nat × Con)))) n
noncomputable abbrev E (n : Nat) : Env (U × Heap) := envC tab ios (A n)
def L : List (List Nat) := []
abbrev us (r : Int) (c : Int) (l : List Int) : List U := (((fun (r c : Int) (l : List Int) => (([.agg [.int .i8 r, .int .i8 c, .vec .u16 36 l]] : List U), ([] : Heap)))) r c l).1
abbrev HA (r : Int) (c : Int) (l : List Int) : Heap := (((fun (r c : Int) (l : List Int) => (([.agg [.int .i8 r, .int .i8 c, .vec .u16 36 l]] : List U), ([] : Heap)))) r c l).2
noncomputable def R (n : Nat) (r : Int) (c : Int) (l : List Int) : Res := run (E n) n Try.f37 L (us r c l) (HA r c l) k0
theorem R_eq (n : Nat) (r : Int) (c : Int) (l : List Int) : R n r c l =
  pif ((Mat r c l)) (
  bif ((sqC r c l) != (0 : Int)) then
   some (.tup [.agg [.int .i8 (0 : Int), .int .i8 (0 : Int), .vec .u16 36 (List.replicate 36 (0 : Int))], .int .i64 (sqC r c l)], [])
  else
   pif ((side r)) (
   pif (((inMat r c l) ∧ (Vec36 (oneM (Int.toNat r))))) (
   bif ((redDet (Int.toNat r) (Int.toNat c) l) == (0 : Int)) then
    some (.tup [.agg [.int .i8 (0 : Int), .int .i8 (0 : Int), .vec .u16 36 (List.replicate 36 (0 : Int))], .int .i64 (6 : Int)], [])
   else
    some (.tup [.agg [.int .i8 r, .int .i8 r, .vec .u16 36 (redO (Int.toNat r) (Int.toNat c) l (oneM (Int.toNat r)))], .int .i64 (0 : Int)], [])))) := by kernel_rfl
theorem ans {n : Nat} {r : Int} {c : Int} {l : List Int} (hA : Sounds Try.prog (A n)) {u : U} {H : Heap} (h : R n r c l = some (u, H)) : Answers Try.prog 37 (us r c l) (HA r c l) u H := answers_env tabOk mixed hA Try.func37 (by kernel_rfl) (by kernel_rfl) h
end I_inv

namespace L_Inverse
abbrev num : Nat := 11
noncomputable def A (n : Nat) : List (Nat × Con) := ((fun (n : Nat) => ([(36, CInverse), (37, CInverse), (14, CToMat), (16, CEqMat)] : List (Nat × Con)))) n
noncomputable abbrev E (n : Nat) : Env (U × Heap) := envC tab ios (A n)
def L : List (List Nat) := []
abbrev us (r : Int) (c : Int) (l : List Int) : List U := (((fun (r c : Int) (l : List Int) => (([.agg [.int .i8 r, .int .i8 c, .vec .u16 36 l]] : List U), ([] : Heap)))) r c l).1
abbrev HA (r : Int) (c : Int) (l : List Int) : Heap := (((fun (r c : Int) (l : List Int) => (([.agg [.int .i8 r, .int .i8 c, .vec .u16 36 l]] : List U), ([] : Heap)))) r c l).2
noncomputable def R (n : Nat) (r : Int) (c : Int) (l : List Int) : Res := run (E n) n Try.f11 L (us r c l) (HA r c l) k0
theorem R_eq (n : Nat) (r : Int) (c : Int) (l : List Int) : R n r c l =
  pif ((Mat r c l)) (
  pif ((Mat r c l)) (
  pif ((Mat r c l)) (
  pif ((Mat r c l)) (
  pif ((((List.length (okL (invC r c l) (redO (Int.toNat r) (Int.toNat r) l (oneM (Int.toNat r))))) = 36) ∧ ((List.length (okL (invC r c l) (redO (Int.toNat r) (Int.toNat r) l (oneM (Int.toNat r))))) = 36))) (
  bif (!((((okR (invC r c l) r) == (okR (invC r c l) r)) && ((okR (invC r c l) c) == (okR (invC r c l) c))) && ((okL (invC r c l) (redO (Int.toNat r) (Int.toNat r) l (oneM (Int.toNat r)))) == (okL (invC r c l) (redO (Int.toNat r) (Int.toNat r) l (oneM (Int.toNat r))))))) then
   some (.bool false, [])
  else
   bif ((invC r c l) != (invC r c l)) then
    some (.bool false, [])
   else
    some (.bool true, [])))))) := by kernel_rfl
theorem ans {n : Nat} {r : Int} {c : Int} {l : List Int} (hA : Sounds Try.prog (A n)) {u : U} {H : Heap} (h : R n r c l = some (u, H)) : Answers Try.prog 11 (us r c l) (HA r c l) u H := answers_env tabOk mixed hA Try.func11 (by kernel_rfl) (by kernel_rfl) h
end L_Inverse

end Go.VM
