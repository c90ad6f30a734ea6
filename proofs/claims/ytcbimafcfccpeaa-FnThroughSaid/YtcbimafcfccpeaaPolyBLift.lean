/- Written by a program of this session (Lift.lean): what the evaluator comes to, function by function; the kernel checks it. The conditions: those of the contracts. -/
import Derived.Test.YtcbimafcfccpeaaVmP5
import Derived.Test.YtcbimafcfccpeaaPolyT
import Derived.Test.YtcbimafcfccpeaaPolyTS
import Derived.Test.YtcbimafcfccpeaaNimCon
import Derived.Test.YtcbimafcfccpeaaIntsCon
import Derived.Test.YtcbimafcfccpeaaPolyCon
import Derived.Test.YtcbimafcfccpeaaPolyCon2
import Derived.KernelRfl
set_option linter.unusedVariables false
set_option linter.unusedSimpArgs false
set_option linter.unusedSectionVars false
namespace Go.VM
open Go Go.Proofs Go.Fn NimF
set_option linter.unusedVariables false
set_option maxRecDepth 100000
namespace I_ixX
abbrev num : Nat := 101
noncomputable def A (n : Nat) : List (Nat × Con) := ((fun (n : Nat) => ([] : List (Nat × Con)))) n
noncomputable def I : Inl := ([(53, Try.f53, [])] : Inl)
theorem inl_ok : InlOk Try.prog I := (inl_cons Try.func53 (by kernel_rfl) (by kernel_rfl) inl_nil)
noncomputable abbrev E (n : Nat) : Env (U × Heap) := envI tab ios (A n) I n 1
def L : List (List Nat) := [[8, 0, 1, 7]]
abbrev us (X : List Int) (Y : List Int) (j : Nat) (x : Int) (y : Int) : List U := (((fun (X Y : List Int) (j : Nat) (x y : Int) => (([.rsl [.ints .u16 X, .ints .u16 Y] j, .fn 53 [.rptr [.int .u16 x, .int .u16 y] 0 1]] : List U), ([] : Heap)))) X Y j x y).1
abbrev HA (X : List Int) (Y : List Int) (j : Nat) (x : Int) (y : Int) : Heap := (((fun (X Y : List Int) (j : Nat) (x y : Int) => (([.rsl [.ints .u16 X, .ints .u16 Y] j, .fn 53 [.rptr [.int .u16 x, .int .u16 y] 0 1]] : List U), ([] : Heap)))) X Y j x y).2
def S0 (t8 : Int) (t0_0 : List Int) (t0_1 : List Int) (t0n : Nat) (t1_0_0 : Int) (t1_0_1 : Int) (t7 : Int) : St := ⟨[(8, .int .i64 t8), (0, .rsl [.ints .u16 t0_0, .ints .u16 t0_1] t0n), (1, .fn 53 [.rptr [.int .u16 t1_0_0, .int .u16 t1_0_1] 0 1]), (7, .int .i64 t7)], 19, [], [], 0⟩
noncomputable def N0 (n : Nat)  (m0 : Nat) (t8 : Int) (t0_0 : List Int) (t0_1 : List Int) (t0n : Nat) (t1_0_0 : Int) (t1_0_1 : Int) (t7 : Int) : Res := nodeRun (E n) n Try.f101 L k0 [true, false, true, false] [] m0 (S0 t8 t0_0 t0_1 t0n t1_0_0 t1_0_1 t7)
theorem N0_succ (n : Nat)  (m0 : Nat) (t8 : Int) (t0_0 : List Int) (t0_1 : List Int) (t0n : Nat) (t1_0_0 : Int) (t1_0_1 : Int) (t7 : Int) : N0 n  (m0 + 1) t8 t0_0 t0_1 t0n t1_0_0 t1_0_1 t7 =
  bif decide (t8 < t7) then
   bif decide (((0 : Int) ≤ t8) ∧ (t8 < ((t0n : Nat) : Int))) then
   bif ((List.getD t0_0 (Int.toNat t8) (0 : Int)) == t1_0_0) then
     some (.int .i64 t8, [])
    else
     N0 n m0 (IntKind.wrap .i64 (t8 + (1 : Int))) t0_0 t0_1 t0n t1_0_0 t1_0_1 t7
   else none
  else
   some (.int .i64 (-1 : Int), []) := by kernel_rfl
noncomputable def R (n : Nat) (X : List Int) (Y : List Int) (j : Nat) (x : Int) (y : Int) : Res := run (E n) n Try.f101 L (us X Y j x y) (HA X Y j x y) k0
theorem R_eq (n : Nat) (X : List Int) (Y : List Int) (j : Nat) (x : Int) (y : Int) : R n X Y j x y =
  N0 n n (0 : Int) X Y j x y ((j : Nat) : Int) := by kernel_rfl
theorem ans {n : Nat} {X : List Int} {Y : List Int} {j : Nat} {x : Int} {y : Int} (hA : Sounds Try.prog (A n)) {u : U} {H : Heap} (h : R n X Y j x y = some (u, H)) : Answers Try.prog 101 (us X Y j x y) (HA X Y j x y) u H := answers_inl tabOk mixed hA inl_ok Try.func101 (by kernel_rfl) (by kernel_rfl) h
end I_ixX

namespace I_hasX
abbrev num : Nat := 52
noncomputable def A (n : Nat) : List (Nat × Con) := ((fun (n : Nat) => ([(101, CIxX)] : List (Nat × Con)))) n
noncomputable abbrev E (n : Nat) : Env (U × Heap) := envC tab ios (A n)
def L : List (List Nat) := []
abbrev us (X : List Int) (Y : List Int) (j : Nat) (x : Int) (y : Int) : List U := (((fun (X Y : List Int) (j : Nat) (x y : Int) => (([.rsl [.ints .u16 X, .ints .u16 Y] j, .fn 53 [.rptr [.int .u16 x, .int .u16 y] 0 1]] : List U), ([] : Heap)))) X Y j x y).1
abbrev HA (X : List Int) (Y : List Int) (j : Nat) (x : Int) (y : Int) : Heap := (((fun (X Y : List Int) (j : Nat) (x y : Int) => (([.rsl [.ints .u16 X, .ints .u16 Y] j, .fn 53 [.rptr [.int .u16 x, .int .u16 y] 0 1]] : List U), ([] : Heap)))) X Y j x y).2
noncomputable def R (n : Nat) (X : List Int) (Y : List Int) (j : Nat) (x : Int) (y : Int) : Res := run (E n) n Try.f52 L (us X Y j x y) (HA X Y j x y) k0
theorem R_eq (n : Nat) (X : List Int) (Y : List Int) (j : Nat) (x : Int) (y : Int) : R n X Y j x y =
  pif (((isThr 53) ∧ (spt X Y j))) (
  some (.bool (decide ((ixF x X j 0) ≥ (0 : Int))), [])) := by kernel_rfl
theorem ans {n : Nat} {X : List Int} {Y : List Int} {j : Nat} {x : Int} {y : Int} (hA : Sounds Try.prog (A n)) {u : U} {H : Heap} (h : R n X Y j x y = some (u, H)) : Answers Try.prog 52 (us X Y j x y) (HA X Y j x y) u H := answers_env tabOk mixed hA Try.func52 (by kernel_rfl) (by kernel_rfl) h
end I_hasX

namespace S_thr
abbrev num : Nat := 7
noncomputable def A (n : Nat) : List (Nat × Con) := ((fun (n : Nat) => ([(46, CTimesP), (48, CPlusP), (49, CScaleP), (47, CMul), (50, CInv)] : List (Nat × Con)))) n
noncomputable abbrev E (n : Nat) : Env (U × Heap) := envC tab ios (A n)
def L : List (List Nat) := [[0, 4], [0, 4, 5], [6, 7, 0], [0, 7, 9, 8, 6, 10]]
abbrev us (X : List Int) (Y : List Int) (j : Nat) : List U := (((fun (X Y : List Int) (j : Nat) => (([.rsl [.ints .u16 X, .ints .u16 Y] j] : List U), ([] : Heap)))) X Y j).1
abbrev HA (X : List Int) (Y : List Int) (j : Nat) : Heap := (((fun (X Y : List Int) (j : Nat) => (([.rsl [.ints .u16 X, .ints .u16 Y] j] : List U), ([] : Heap)))) X Y j).2
def S0 (t0_0 : List Int) (t0_1 : List Int) (t0n : Nat) (t4 : Int) : St := ⟨[(0, .rsl [.ints .u16 t0_0, .ints .u16 t0_1] t0n), (4, .int .i64 t4)], 89, [], [], 0⟩
noncomputable def N0 (n : Nat)  (m0 : Nat) (t0_0 : List Int) (t0_1 : List Int) (t0n : Nat) (t4 : Int) : Res := nodeRun (E n) n Try.f7 L k0 [true, true, false, true, false] [] m0 (S0 t0_0 t0_1 t0n t4)
def S1 (t0_0 : List Int) (t0_1 : List Int) (t0n : Nat) (t4 : Int) (t5 : Int) : St := ⟨[(0, .rsl [.ints .u16 t0_0, .ints .u16 t0_1] t0n), (4, .int .i64 t4), (5, .int .i64 t5)], 89, [], [], 0⟩
noncomputable def N1 (n : Nat) (m0 : Nat) (m1 : Nat) (t0_0 : List Int) (t0_1 : List Int) (t0n : Nat) (t4 : Int) (t5 : Int) : Res := nodeRun (E n) n Try.f7 L k0 [true, true, false, true, false, false, true, false, false, true, false] [m0] m1 (S1 t0_0 t0_1 t0n t4 t5)
def S2 (t7 : Int) (t0_0 : List Int) (t0_1 : List Int) (t0n : Nat) (o0_0 : List Int) : St := ⟨[(6, .own 0), (7, .int .i64 t7), (0, .rsl [.ints .u16 t0_0, .ints .u16 t0_1] t0n)], 89, [(0, ⟨[.ints .u16 o0_0], true⟩)], [0], 0⟩
noncomputable def N2 (n : Nat)  (m2 : Nat) (t7 : Int) (t0_0 : List Int) (t0_1 : List Int) (t0n : Nat) (o0_0 : List Int) : Res := nodeRun (E n) n Try.f7 L k0 [true, true, true, true, false, true, false] [] m2 (S2 t7 t0_0 t0_1 t0n o0_0)
def S3 (t0_0 : List Int) (t0_1 : List Int) (t0n : Nat) (t7 : Int) (t9 : Int) (t10 : Int) (o0_0 : List Int) (o1_0 : List Int) : St := ⟨[(0, .rsl [.ints .u16 t0_0, .ints .u16 t0_1] t0n), (7, .int .i64 t7), (9, .int .u16 t9), (8, .own 0), (6, .own 1), (10, .int .i64 t10)], 89, [(0, ⟨[.ints .u16 o0_0], true⟩), (1, ⟨[.ints .u16 o1_0], true⟩)], [0, 1], 0⟩
noncomputable def N3 (n : Nat) (m2 : Nat) (m3 : Nat) (t0_0 : List Int) (t0_1 : List Int) (t0n : Nat) (t7 : Int) (t9 : Int) (t10 : Int) (o0_0 : List Int) (o1_0 : List Int) : Res := nodeRun (E n) n Try.f7 L k0 [true, true, true, true, false, true, false, false, true, false, false, true, true, false, true, false] [m2] m3 (S3 t0_0 t0_1 t0n t7 t9 t10 o0_0 o1_0)
theorem N0_succ (n : Nat)  (m0 : Nat) (t0_0 : List Int) (t0_1 : List Int) (t0n : Nat) (t4 : Int) : N0 n  (m0 + 1) t0_0 t0_1 t0n t4 =
  bif decide (t4 < ((t0n : Nat) : Int)) then
   N1 n m0 n t0_0 t0_1 t0n t4 (0 : Int)
  else
   N2 n n (0 : Int) t0_0 t0_1 t0n [] := by kernel_rfl
theorem N1_succ (n : Nat) (m0 : Nat) (m1 : Nat) (t0_0 : List Int) (t0_1 : List Int) (t0n : Nat) (t4 : Int) (t5 : Int) : N1 n m0 (m1 + 1) t0_0 t0_1 t0n t4 t5 =
  bif decide (t5 < t4) then
   bif decide (((0 : Int) ≤ t5) ∧ (t5 < ((t0n : Nat) : Int))) then
   bif decide (((0 : Int) ≤ t4) ∧ (t4 < ((t0n : Nat) : Int))) then
    bif ((List.getD t0_0 (Int.toNat t5) (0 : Int)) == (List.getD t0_0 (Int.toNat t4) (0 : Int))) then
      some (.tup [.own 0, .int .i64 (4 : Int)], [(0, ⟨[.ints .u16 []], true⟩)])
     else
      N1 n m0 m1 t0_0 t0_1 t0n t4 (IntKind.wrap .i64 (t5 + (1 : Int)))
    else none
   else none
  else
   N0 n m0 t0_0 t0_1 t0n (IntKind.wrap .i64 (t4 + (1 : Int))) := by kernel_rfl
theorem N2_succ (n : Nat)  (m2 : Nat) (t7 : Int) (t0_0 : List Int) (t0_1 : List Int) (t0n : Nat) (o0_0 : List Int) : N2 n  (m2 + 1) t7 t0_0 t0_1 t0n o0_0 =
  bif decide (t7 < ((t0n : Nat) : Int)) then
   N3 n m2 n t0_0 t0_1 t0n t7 (1 : Int) (0 : Int) [(1 : Int)] o0_0
  else
   some (.tup [.own 0, .int .i64 (0 : Int)], [(0, ⟨[.ints .u16 o0_0], true⟩)]) := by kernel_rfl
theorem N3_succ (n : Nat) (m2 : Nat) (m3 : Nat) (t0_0 : List Int) (t0_1 : List Int) (t0n : Nat) (t7 : Int) (t9 : Int) (t10 : Int) (o0_0 : List Int) (o1_0 : List Int) : N3 n m2 (m3 + 1) t0_0 t0_1 t0n t7 t9 t10 o0_0 o1_0 =
  bif decide (t10 < ((t0n : Nat) : Int)) then
   bif (t10 != t7) then
    bif decide (((0 : Int) ≤ t10) ∧ (t10 < ((t0n : Nat) : Int))) then
    pif (((canP o0_0 (List.length o0_0)) ∧ ((canP (List.set (List.set (List.replicate 2 (0 : Int)) 0 (List.getD t0_0 (Int.toNat t10) (0 : Int))) 1 (1 : Int)) 2) ∧ (((List.length o0_0) + 2) ≤ 1048576)))) (
     bif decide (((0 : Int) ≤ t7) ∧ (t7 < ((t0n : Nat) : Int))) then
     bif decide (((0 : Int) ≤ t10) ∧ (t10 < ((t0n : Nat) : Int))) then
      pif (((u16 t9) ∧ (u16 (intBitsV .xor .u16 (List.getD t0_0 (Int.toNat t7) (0 : Int)) (List.getD t0_0 (Int.toNat t10) (0 : Int)))))) (
       N3 n m2 m3 t0_0 t0_1 t0n t7 (mulI t9 (intBitsV .xor .u16 (List.getD t0_0 (Int.toNat t7) (0 : Int)) (List.getD t0_0 (Int.toNat t10) (0 : Int)))) (IntKind.wrap .i64 (t10 + (1 : Int))) (tiP o0_0 (List.set (List.set (List.replicate 2 (0 : Int)) 0 (List.getD t0_0 (Int.toNat t10) (0 : Int))) 1 (1 : Int))) o1_0)
      else none
     else none)
    else none
   else
    N3 n m2 m3 t0_0 t0_1 t0n t7 t9 (IntKind.wrap .i64 (t10 + (1 : Int))) o0_0 o1_0
  else
   bif decide (((0 : Int) ≤ t7) ∧ (t7 < ((t0n : Nat) : Int))) then
   pif ((u16 t9)) (
    pif (((u16 (List.getD t0_1 (Int.toNat t7) (0 : Int))) ∧ (u16 (invI t9)))) (
    pif (((canP o0_0 (List.length o0_0)) ∧ (((List.length o0_0) ≤ 1000000) ∧ (u16 (mulI (List.getD t0_1 (Int.toNat t7) (0 : Int)) (invI t9)))))) (
    pif (((genP o1_0 (List.length o1_0)) ∧ (genP (scP o0_0 (mulI (List.getD t0_1 (Int.toNat t7) (0 : Int)) (invI t9))) (List.length (scP o0_0 (mulI (List.getD t0_1 (Int.toNat t7) (0 : Int)) (invI t9))))))) (
    N2 n m2 (IntKind.wrap .i64 (t7 + (1 : Int))) t0_0 t0_1 t0n (plP o1_0 (scP o0_0 (mulI (List.getD t0_1 (Int.toNat t7) (0 : Int)) (invI t9))))))))
   else none := by kernel_rfl
noncomputable def R (n : Nat) (X : List Int) (Y : List Int) (j : Nat) : Res := run (E n) n Try.f7 L (us X Y j) (HA X Y j) k0
theorem R_eq (n : Nat) (X : List Int) (Y : List Int) (j : Nat) : R n X Y j =
  bif decide (((j : Nat) : Int) > (20 : Int)) then
   some (.tup [.own 0, .int .i64 (3 : Int)], [(0, ⟨[.ints .u16 []], true⟩)])
  else
   N0 n n X Y j (0 : Int) := by kernel_rfl
theorem ans {n : Nat} {X : List Int} {Y : List Int} {j : Nat} (hA : Sounds Try.prog (A n)) {u : U} {H : Heap} (h : R n X Y j = some (u, H)) : Answers Try.prog 7 (us X Y j) (HA X Y j) u H := answers_env tabOk mixed hA Try.func7 (by kernel_rfl) (by kernel_rfl) h
end S_thr

namespace I_thr
abbrev num : Nat := 9
noncomputable def A (n : Nat) : List (Nat × Con) := ((fun (n : Nat) => ([(52, CHasX), (54, CMul), (56, CInv), (55, CAtP), (57, CPlusP), (58, CScaleP), (59, CTimesG)] : List (Nat × Con)))) n
noncomputable abbrev E (n : Nat) : Env (U × Heap) := envC tab ios (A n)
def L : List (List Nat) := [[0, 16, 14, 15], [6, 31, 7, 29, 30]]
abbrev us (X : List Int) (Y : List Int) (j : Nat) : List U := (((fun (X Y : List Int) (j : Nat) => (([.rsl [.ints .u16 X, .ints .u16 Y] j] : List U), ([] : Heap)))) X Y j).1
abbrev HA (X : List Int) (Y : List Int) (j : Nat) : Heap := (((fun (X Y : List Int) (j : Nat) => (([.rsl [.ints .u16 X, .ints .u16 Y] j] : List U), ([] : Heap)))) X Y j).2
def S0 (t0_0 : List Int) (t0_1 : List Int) (t0n : Nat) (t16 : Int) (t14_0 : List Int) (t14_1 : List Int) (t14n : Nat) (t15 : Int) : St := ⟨[(0, .rsl [.ints .u16 t0_0, .ints .u16 t0_1] t0n), (16, .int .i64 t16), (14, .rsl [.ints .u16 t14_0, .ints .u16 t14_1] t14n), (15, .int .i64 t15)], 60, [], [], 0⟩
noncomputable def N0 (n : Nat)  (m0 : Nat) (t0_0 : List Int) (t0_1 : List Int) (t0n : Nat) (t16 : Int) (t14_0 : List Int) (t14_1 : List Int) (t14n : Nat) (t15 : Int) : Res := nodeRun (E n) n Try.f9 L k0 [true, true, false, true, false] [] m0 (S0 t0_0 t0_1 t0n t16 t14_0 t14_1 t14n t15)
def S1 (t31 : Int) (t29_0 : List Int) (t29_1 : List Int) (t29n : Nat) (t30 : Int) (o0_0 : List Int) (o1_0 : List Int) : St := ⟨[(6, .own 0), (31, .int .i64 t31), (7, .own 1), (29, .rsl [.ints .u16 t29_0, .ints .u16 t29_1] t29n), (30, .int .i64 t30)], 60, [(0, ⟨[.ints .u16 o0_0], true⟩), (1, ⟨[.ints .u16 o1_0], true⟩)], [0, 1], 0⟩
noncomputable def N1 (n : Nat)  (m1 : Nat) (t31 : Int) (t29_0 : List Int) (t29_1 : List Int) (t29n : Nat) (t30 : Int) (o0_0 : List Int) (o1_0 : List Int) : Res := nodeRun (E n) n Try.f9 L k0 [true, true, true, true, false, true, false] [] m1 (S1 t31 t29_0 t29_1 t29n t30 o0_0 o1_0)
theorem N0_succ (n : Nat)  (m0 : Nat) (t0_0 : List Int) (t0_1 : List Int) (t0n : Nat) (t16 : Int) (t14_0 : List Int) (t14_1 : List Int) (t14n : Nat) (t15 : Int) : N0 n  (m0 + 1) t0_0 t0_1 t0n t16 t14_0 t14_1 t14n t15 =
  bif decide (t16 < t15) then
   bif decide (((0 : Int) ≤ t16) ∧ (t16 < ((t14n : Nat) : Int))) then
   bif decide (((0 : Int) ≤ t16) ∧ ((t16 ≤ ((t0n : Nat) : Int)) ∧ (((0 : Int) ≤ (0 : Int)) ∧ ((0 : Int) ≤ t16)))) then
    pif (((isThr 53) ∧ (spt (getRow 0 ((Int.toNat t16) - 0) t0_0) (getRow 0 ((Int.toNat t16) - 0) t0_1) ((Int.toNat t16) - 0)))) (
     bif (hasF (List.getD t14_0 (Int.toNat t16) (0 : Int)) (getRow 0 ((Int.toNat t16) - 0) t0_0) ((Int.toNat t16) - 0) 0) then
      some (.tup [.nils, .int .i64 (4 : Int)], [])
     else
      N0 n m0 t0_0 t0_1 t0n (IntKind.wrap .i64 (t16 + (1 : Int))) t14_0 t14_1 t14n t15)
    else none
   else none
  else
   N1 n n (0 : Int) t0_0 t0_1 t0n ((t0n : Nat) : Int) [] [(1 : Int)] := by kernel_rfl
theorem N1_succ (n : Nat)  (m1 : Nat) (t31 : Int) (t29_0 : List Int) (t29_1 : List Int) (t29n : Nat) (t30 : Int) (o0_0 : List Int) (o1_0 : List Int) : N1 n  (m1 + 1) t31 t29_0 t29_1 t29n t30 o0_0 o1_0 =
  bif decide (t31 < t30) then
   bif decide (((0 : Int) ≤ t31) ∧ (t31 < ((t29n : Nat) : Int))) then
   pif (((genP o0_0 (List.length o0_0)) ∧ (u16 (List.getD t29_0 (Int.toNat t31) (0 : Int))))) (
    pif (((genP o1_0 (List.length o1_0)) ∧ (u16 (List.getD t29_0 (Int.toNat t31) (0 : Int))))) (
    pif ((u16 (atP o1_0 (List.getD t29_0 (Int.toNat t31) (0 : Int))))) (
    pif (((u16 (intBitsV .xor .u16 (atP o0_0 (List.getD t29_0 (Int.toNat t31) (0 : Int))) (List.getD t29_1 (Int.toNat t31) (0 : Int)))) ∧ (u16 (invI (atP o1_0 (List.getD t29_0 (Int.toNat t31) (0 : Int))))))) (
    pif (((canP o1_0 (List.length o1_0)) ∧ (((List.length o1_0) ≤ 1000000) ∧ (u16 (mulI (intBitsV .xor .u16 (atP o0_0 (List.getD t29_0 (Int.toNat t31) (0 : Int))) (List.getD t29_1 (Int.toNat t31) (0 : Int))) (invI (atP o1_0 (List.getD t29_0 (Int.toNat t31) (0 : Int))))))))) (
    pif (((genP o0_0 (List.length o0_0)) ∧ (genP (scP o1_0 (mulI (intBitsV .xor .u16 (atP o0_0 (List.getD t29_0 (Int.toNat t31) (0 : Int))) (List.getD t29_1 (Int.toNat t31) (0 : Int))) (invI (atP o1_0 (List.getD t29_0 (Int.toNat t31) (0 : Int)))))) (List.length (scP o1_0 (mulI (intBitsV .xor .u16 (atP o0_0 (List.getD t29_0 (Int.toNat t31) (0 : Int))) (List.getD t29_1 (Int.toNat t31) (0 : Int))) (invI (atP o1_0 (List.getD t29_0 (Int.toNat t31) (0 : Int)))))))))) (
    pif (((genP o1_0 (List.length o1_0)) ∧ ((genP (List.set (List.set (List.replicate 2 (0 : Int)) 0 (List.getD t29_0 (Int.toNat t31) (0 : Int))) 1 (1 : Int)) 2) ∧ (((List.length o1_0) + 2) ≤ 1048576)))) (
    N1 n m1 (IntKind.wrap .i64 (t31 + (1 : Int))) t29_0 t29_1 t29n t30 (plP o0_0 (scP o1_0 (mulI (intBitsV .xor .u16 (atP o0_0 (List.getD t29_0 (Int.toNat t31) (0 : Int))) (List.getD t29_1 (Int.toNat t31) (0 : Int))) (invI (atP o1_0 (List.getD t29_0 (Int.toNat t31) (0 : Int))))))) (tiP o1_0 (List.set (List.set (List.replicate 2 (0 : Int)) 0 (List.getD t29_0 (Int.toNat t31) (0 : Int))) 1 (1 : Int))))))))))
   else none
  else
   some (.tup [.own 0, .int .i64 (0 : Int)], [(0, ⟨[.ints .u16 o0_0], true⟩)]) := by kernel_rfl
noncomputable def R (n : Nat) (X : List Int) (Y : List Int) (j : Nat) : Res := run (E n) n Try.f9 L (us X Y j) (HA X Y j) k0
theorem R_eq (n : Nat) (X : List Int) (Y : List Int) (j : Nat) : R n X Y j =
  bif decide (((j : Nat) : Int) > (20 : Int)) then
   some (.tup [.nils, .int .i64 (3 : Int)], [])
  else
   N0 n n X Y j (0 : Int) X Y j ((j : Nat) : Int) := by kernel_rfl
theorem ans {n : Nat} {X : List Int} {Y : List Int} {j : Nat} (hA : Sounds Try.prog (A n)) {u : U} {H : Heap} (h : R n X Y j = some (u, H)) : Answers Try.prog 9 (us X Y j) (HA X Y j) u H := answers_env tabOk mixed hA Try.func9 (by kernel_rfl) (by kernel_rfl) h
end I_thr

namespace L_szSp
abbrev num : Nat := 6
noncomputable def A (n : Nat) : List (Nat × Con) := ((fun (n : Nat) => ([] : List (Nat × Con)))) n
noncomputable abbrev E (n : Nat) : Env (U × Heap) := envC tab ios (A n)
def L : List (List Nat) := []
abbrev us (X : List Int) (Y : List Int) (j : Nat) (x : Int) : List U := (((fun (X Y : List Int) (j : Nat) (x : Int) => (([.rsl [.ints .u16 X, .ints .u16 Y] j, .int .i64 x] : List U), ([] : Heap)))) X Y j x).1
abbrev HA (X : List Int) (Y : List Int) (j : Nat) (x : Int) : Heap := (((fun (X Y : List Int) (j : Nat) (x : Int) => (([.rsl [.ints .u16 X, .ints .u16 Y] j, .int .i64 x] : List U), ([] : Heap)))) X Y j x).2
noncomputable def R (n : Nat) (X : List Int) (Y : List Int) (j : Nat) (x : Int) : Res := run (E n) n Try.f6 L (us X Y j x) (HA X Y j x) k0
theorem R_eq (n : Nat) (X : List Int) (Y : List Int) (j : Nat) (x : Int) : R n X Y j x =
  bif decide ((IntKind.wrap .i64 (x - ((j : Nat) : Int))) < (0 : Int)) then
   some (.int .i64 (-1 : Int), [])
  else
   some (.int .i64 (IntKind.wrap .i64 (x - ((j : Nat) : Int))), []) := by kernel_rfl
theorem ans {n : Nat} {X : List Int} {Y : List Int} {j : Nat} {x : Int} (hA : Sounds Try.prog (A n)) {u : U} {H : Heap} (h : R n X Y j x = some (u, H)) : Answers Try.prog 6 (us X Y j x) (HA X Y j x) u H := answers_env tabOk mixed hA Try.func6 (by kernel_rfl) (by kernel_rfl) h
end L_szSp

namespace L_toSp
abbrev num : Nat := 8
noncomputable def A (n : Nat) : List (Nat × Con) := ((fun (n : Nat) => ([] : List (Nat × Con)))) n
noncomputable def I : Inl := ([(51, Try.f51, [])] : Inl)
theorem inl_ok : InlOk Try.prog I := (inl_cons Try.func51 (by kernel_rfl) (by kernel_rfl) inl_nil)
noncomputable abbrev E (n : Nat) : Env (U × Heap) := envI tab ios (A n) I n 1
def L : List (List Nat) := [[3, 4, 0]]
abbrev us (X : List Int) (Y : List Int) (j : Nat) : List U := (((fun (X Y : List Int) (j : Nat) => (([.rsl [.ints .u16 X, .ints .u16 Y] j] : List U), ([] : Heap)))) X Y j).1
abbrev HA (X : List Int) (Y : List Int) (j : Nat) : Heap := (((fun (X Y : List Int) (j : Nat) => (([.rsl [.ints .u16 X, .ints .u16 Y] j] : List U), ([] : Heap)))) X Y j).2
def S0 (t4 : Int) (t0_0 : List Int) (t0_1 : List Int) (t0n : Nat) (o0_0 : List Int) (o0_1 : List Int) : St := ⟨[(3, .own 0), (4, .int .i64 t4), (0, .rsl [.ints .u16 t0_0, .ints .u16 t0_1] t0n)], 23, [(0, ⟨[.ints .u16 o0_0, .ints .u16 o0_1], true⟩)], [0], 0⟩
noncomputable def N0 (n : Nat)  (m0 : Nat) (t4 : Int) (t0_0 : List Int) (t0_1 : List Int) (t0n : Nat) (o0_0 : List Int) (o0_1 : List Int) : Res := nodeRun (E n) n Try.f8 L k0 [true, true, false, true, false] [] m0 (S0 t4 t0_0 t0_1 t0n o0_0 o0_1)
theorem N0_succ (n : Nat)  (m0 : Nat) (t4 : Int) (t0_0 : List Int) (t0_1 : List Int) (t0n : Nat) (o0_0 : List Int) (o0_1 : List Int) : N0 n  (m0 + 1) t4 t0_0 t0_1 t0n o0_0 o0_1 =
  bif decide (t4 < ((t0n : Nat) : Int)) then
   bif decide (((0 : Int) ≤ t4) ∧ (t4 < ((t0n : Nat) : Int))) then
   bif decide (((0 : Int) ≤ t4) ∧ (t4 < (((List.length o0_0) : Nat) : Int))) then
    N0 n m0 (IntKind.wrap .i64 (t4 + (1 : Int))) t0_0 t0_1 t0n (List.set o0_0 (Int.toNat t4) (List.getD t0_0 (Int.toNat t4) (0 : Int))) (List.set o0_1 (Int.toNat t4) (List.getD t0_1 (Int.toNat t4) (0 : Int)))
    else none
   else none
  else
   some (.own 0, [(0, ⟨[.ints .u16 o0_0, .ints .u16 o0_1], true⟩)]) := by kernel_rfl
noncomputable def R (n : Nat) (X : List Int) (Y : List Int) (j : Nat) : Res := run (E n) n Try.f8 L (us X Y j) (HA X Y j) k0
theorem R_eq (n : Nat) (X : List Int) (Y : List Int) (j : Nat) : R n X Y j =
  bif decide (((0 : Int) ≤ ((j : Nat) : Int)) ∧ ((((j : Nat) : Int) * (2 : Int)) ≤ (4398046511104 : Int))) then
  N0 n n (0 : Int) X Y j (List.replicate (Int.toNat ((j : Nat) : Int)) (0 : Int)) (List.replicate (Int.toNat ((j : Nat) : Int)) (0 : Int))
  else none := by kernel_rfl
theorem ans {n : Nat} {X : List Int} {Y : List Int} {j : Nat} (hA : Sounds Try.prog (A n)) {u : U} {H : Heap} (h : R n X Y j = some (u, H)) : Answers Try.prog 8 (us X Y j) (HA X Y j) u H := answers_inl tabOk mixed hA inl_ok Try.func8 (by kernel_rfl) (by kernel_rfl) h
end L_toSp

namespace L_eqSp
abbrev num : Nat := 11
noncomputable def A (n : Nat) : List (Nat × Con) := ((fun (n : Nat) => ([] : List (Nat × Con)))) n
noncomputable def I : Inl := ([(60, Try.f60, [])] : Inl)
theorem inl_ok : InlOk Try.prog I := (inl_cons Try.func60 (by kernel_rfl) (by kernel_rfl) inl_nil)
noncomputable abbrev E (n : Nat) : Env (U × Heap) := envI tab ios (A n) I n 1
def L : List (List Nat) := [[5, 1, 0]]
abbrev us (X : List Int) (Y : List Int) (j : Nat) (X' : List Int) (Y' : List Int) (j' : Nat) : List U := (((fun (X Y : List Int) (j : Nat) (X' Y' : List Int) (j' : Nat) => (([.rsl [.ints .u16 X, .ints .u16 Y] j, .rsl [.ints .u16 X', .ints .u16 Y'] j'] : List U), ([] : Heap)))) X Y j X' Y' j').1
abbrev HA (X : List Int) (Y : List Int) (j : Nat) (X' : List Int) (Y' : List Int) (j' : Nat) : Heap := (((fun (X Y : List Int) (j : Nat) (X' Y' : List Int) (j' : Nat) => (([.rsl [.ints .u16 X, .ints .u16 Y] j, .rsl [.ints .u16 X', .ints .u16 Y'] j'] : List U), ([] : Heap)))) X Y j X' Y' j').2
def S0 (t5 : Int) (t1_0 : List Int) (t1_1 : List Int) (t1n : Nat) (t0_0 : List Int) (t0_1 : List Int) (t0n : Nat) : St := ⟨[(5, .int .i64 t5), (1, .rsl [.ints .u16 t1_0, .ints .u16 t1_1] t1n), (0, .rsl [.ints .u16 t0_0, .ints .u16 t0_1] t0n)], 27, [], [], 0⟩
noncomputable def N0 (n : Nat)  (m0 : Nat) (t5 : Int) (t1_0 : List Int) (t1_1 : List Int) (t1n : Nat) (t0_0 : List Int) (t0_1 : List Int) (t0n : Nat) : Res := nodeRun (E n) n Try.f11 L k0 [true, true, false, true, false] [] m0 (S0 t5 t1_0 t1_1 t1n t0_0 t0_1 t0n)
theorem N0_succ (n : Nat)  (m0 : Nat) (t5 : Int) (t1_0 : List Int) (t1_1 : List Int) (t1n : Nat) (t0_0 : List Int) (t0_1 : List Int) (t0n : Nat) : N0 n  (m0 + 1) t5 t1_0 t1_1 t1n t0_0 t0_1 t0n =
  bif decide (t5 < ((t0n : Nat) : Int)) then
   bif decide (((0 : Int) ≤ t5) ∧ (t5 < ((t0n : Nat) : Int))) then
   bif decide (((0 : Int) ≤ t5) ∧ (t5 < ((t1n : Nat) : Int))) then
    bif ((List.getD t0_0 (Int.toNat t5) (0 : Int)) != (List.getD t1_0 (Int.toNat t5) (0 : Int))) then
      some (.bool false, [])
     else
      bif ((List.getD t0_1 (Int.toNat t5) (0 : Int)) != (List.getD t1_1 (Int.toNat t5) (0 : Int))) then
       some (.bool false, [])
      else
       N0 n m0 (IntKind.wrap .i64 (t5 + (1 : Int))) t1_0 t1_1 t1n t0_0 t0_1 t0n
    else none
   else none
  else
   some (.bool true, []) := by kernel_rfl
noncomputable def R (n : Nat) (X : List Int) (Y : List Int) (j : Nat) (X' : List Int) (Y' : List Int) (j' : Nat) : Res := run (E n) n Try.f11 L (us X Y j X' Y' j') (HA X Y j X' Y' j') k0
theorem R_eq (n : Nat) (X : List Int) (Y : List Int) (j : Nat) (X' : List Int) (Y' : List Int) (j' : Nat) : R n X Y j X' Y' j' =
  bif (((j : Nat) : Int) != ((j' : Nat) : Int)) then
   some (.bool false, [])
  else
   N0 n n (0 : Int) X' Y' j' X Y j := by kernel_rfl
theorem ans {n : Nat} {X : List Int} {Y : List Int} {j : Nat} {X' : List Int} {Y' : List Int} {j' : Nat} (hA : Sounds Try.prog (A n)) {u : U} {H : Heap} (h : R n X Y j X' Y' j' = some (u, H)) : Answers Try.prog 11 (us X Y j X' Y' j') (HA X Y j X' Y' j') u H := answers_inl tabOk mixed hA inl_ok Try.func11 (by kernel_rfl) (by kernel_rfl) h
end L_eqSp

namespace L_markSp
abbrev num : Nat := 12
noncomputable def A (n : Nat) : List (Nat × Con) := ((fun (n : Nat) => ([] : List (Nat × Con)))) n
noncomputable abbrev E (n : Nat) : Env (U × Heap) := envC tab ios (A n)
def L : List (List Nat) := [[1, 5, 0]]
abbrev us (X : List Int) (Y : List Int) (k : Int) : List U := (((fun (X Y : List Int) (k : Int) => (([.own 0, .int .i64 k] : List U), ([(0, ⟨[.ints .u16 X, .ints .u16 Y], true⟩)] : Heap)))) X Y k).1
abbrev HA (X : List Int) (Y : List Int) (k : Int) : Heap := (((fun (X Y : List Int) (k : Int) => (([.own 0, .int .i64 k] : List U), ([(0, ⟨[.ints .u16 X, .ints .u16 Y], true⟩)] : Heap)))) X Y k).2
def S0 (t1 : Int) (t5 : Int) (o0_0 : List Int) (o0_1 : List Int) : St := ⟨[(1, .int .i64 t1), (5, .int .i64 t5), (0, .own 0)], 29, [(0, ⟨[.ints .u16 o0_0, .ints .u16 o0_1], true⟩)], [0], 1⟩
noncomputable def N0 (n : Nat)  (m0 : Nat) (t1 : Int) (t5 : Int) (o0_0 : List Int) (o0_1 : List Int) : Res := nodeRun (E n) n Try.f12 L k0 [true, false, true, false] [] m0 (S0 t1 t5 o0_0 o0_1)
theorem N0_succ (n : Nat)  (m0 : Nat) (t1 : Int) (t5 : Int) (o0_0 : List Int) (o0_1 : List Int) : N0 n  (m0 + 1) t1 t5 o0_0 o0_1 =
  bif decide (t5 < (((List.length o0_0) : Nat) : Int)) then
   bif decide (((0 : Int) ≤ t5) ∧ (t5 < (((List.length o0_0) : Nat) : Int))) then
   bif decide (((0 : Int) ≤ t5) ∧ (t5 < (((List.length (List.set o0_0 (Int.toNat t5) (IntKind.wrap .u16 t1))) : Nat) : Int))) then
    N0 n m0 (IntKind.wrap .i64 ((IntKind.wrap .i64 (t1 + (1 : Int))) + (1 : Int))) (IntKind.wrap .i64 (t5 + (1 : Int))) (List.set o0_0 (Int.toNat t5) (IntKind.wrap .u16 t1)) (List.set o0_1 (Int.toNat t5) (IntKind.wrap .u16 (IntKind.wrap .i64 (t1 + (1 : Int)))))
    else none
   else none
  else
   some (.int .i64 t1, [(0, ⟨[.ints .u16 o0_0, .ints .u16 o0_1], true⟩)]) := by kernel_rfl
noncomputable def R (n : Nat) (X : List Int) (Y : List Int) (k : Int) : Res := run (E n) n Try.f12 L (us X Y k) (HA X Y k) k0
theorem R_eq (n : Nat) (X : List Int) (Y : List Int) (k : Int) : R n X Y k =
  N0 n n k (0 : Int) X Y := by kernel_rfl
theorem ans {n : Nat} {X : List Int} {Y : List Int} {k : Int} (hA : Sounds Try.prog (A n)) {u : U} {H : Heap} (h : R n X Y k = some (u, H)) : Answers Try.prog 12 (us X Y k) (HA X Y k) u H := answers_env tabOk mixed hA Try.func12 (by kernel_rfl) (by kernel_rfl) h
end L_markSp

namespace L_eqP
abbrev num : Nat := 10
noncomputable def A (n : Nat) : List (Nat × Con) := ((fun (n : Nat) => ([] : List (Nat × Con)))) n
noncomputable abbrev E (n : Nat) : Env (U × Heap) := envC tab ios (A n)
def L : List (List Nat) := [[5, 1, 0]]
abbrev us (lo : List Int) (lo' : List Int) (jo : Nat) (jo' : Nat) : List U := (((fun (lo lo' : List Int) (jo jo' : Nat) => (([.rsl [.ints .u16 lo] jo, .rsl [.ints .u16 lo'] jo'] : List U), ([] : Heap)))) lo lo' jo jo').1
abbrev HA (lo : List Int) (lo' : List Int) (jo : Nat) (jo' : Nat) : Heap := (((fun (lo lo' : List Int) (jo jo' : Nat) => (([.rsl [.ints .u16 lo] jo, .rsl [.ints .u16 lo'] jo'] : List U), ([] : Heap)))) lo lo' jo jo').2
def S0 (t5 : Int) (t1_0 : List Int) (t1n : Nat) (t0_0 : List Int) (t0n : Nat) : St := ⟨[(5, .int .i64 t5), (1, .rsl [.ints .u16 t1_0] t1n), (0, .rsl [.ints .u16 t0_0] t0n)], 26, [], [], 0⟩
noncomputable def N0 (n : Nat)  (m0 : Nat) (t5 : Int) (t1_0 : List Int) (t1n : Nat) (t0_0 : List Int) (t0n : Nat) : Res := nodeRun (E n) n Try.f10 L k0 [true, true, false, true, false] [] m0 (S0 t5 t1_0 t1n t0_0 t0n)
theorem N0_succ (n : Nat)  (m0 : Nat) (t5 : Int) (t1_0 : List Int) (t1n : Nat) (t0_0 : List Int) (t0n : Nat) : N0 n  (m0 + 1) t5 t1_0 t1n t0_0 t0n =
  bif decide (t5 < ((t0n : Nat) : Int)) then
   bif decide (((0 : Int) ≤ t5) ∧ (t5 < ((t0n : Nat) : Int))) then
   bif decide (((0 : Int) ≤ t5) ∧ (t5 < ((t1n : Nat) : Int))) then
    bif ((List.getD t0_0 (Int.toNat t5) (0 : Int)) != (List.getD t1_0 (Int.toNat t5) (0 : Int))) then
      some (.bool false, [])
     else
      N0 n m0 (IntKind.wrap .i64 (t5 + (1 : Int))) t1_0 t1n t0_0 t0n
    else none
   else none
  else
   some (.bool true, []) := by kernel_rfl
noncomputable def R (n : Nat) (lo : List Int) (lo' : List Int) (jo : Nat) (jo' : Nat) : Res := run (E n) n Try.f10 L (us lo lo' jo jo') (HA lo lo' jo jo') k0
theorem R_eq (n : Nat) (lo : List Int) (lo' : List Int) (jo : Nat) (jo' : Nat) : R n lo lo' jo jo' =
  bif (((jo : Nat) : Int) != ((jo' : Nat) : Int)) then
   some (.bool false, [])
  else
   N0 n n (0 : Int) lo' jo' lo jo := by kernel_rfl
theorem ans {n : Nat} {lo : List Int} {lo' : List Int} {jo : Nat} {jo' : Nat} (hA : Sounds Try.prog (A n)) {u : U} {H : Heap} (h : R n lo lo' jo jo' = some (u, H)) : Answers Try.prog 10 (us lo lo' jo jo') (HA lo lo' jo jo') u H := answers_env tabOk mixed hA Try.func10 (by kernel_rfl) (by kernel_rfl) h
end L_eqP

namespace L_markP
abbrev num : Nat := 13
noncomputable def A (n : Nat) : List (Nat × Con) := ((fun (n : Nat) => ([] : List (Nat × Con)))) n
noncomputable abbrev E (n : Nat) : Env (U × Heap) := envC tab ios (A n)
def L : List (List Nat) := [[1, 5, 0]]
abbrev us (O : List Int) (k : Int) : List U := (((fun (O : List Int) (k : Int) => (([.own 0, .int .i64 k] : List U), ([(0, ⟨[.ints .u16 O], true⟩)] : Heap)))) O k).1
abbrev HA (O : List Int) (k : Int) : Heap := (((fun (O : List Int) (k : Int) => (([.own 0, .int .i64 k] : List U), ([(0, ⟨[.ints .u16 O], true⟩)] : Heap)))) O k).2
def S0 (t1 : Int) (t5 : Int) (o0_0 : List Int) : St := ⟨[(1, .int .i64 t1), (5, .int .i64 t5), (0, .own 0)], 20, [(0, ⟨[.ints .u16 o0_0], true⟩)], [0], 1⟩
noncomputable def N0 (n : Nat)  (m0 : Nat) (t1 : Int) (t5 : Int) (o0_0 : List Int) : Res := nodeRun (E n) n Try.f13 L k0 [true, false, true, false] [] m0 (S0 t1 t5 o0_0)
theorem N0_succ (n : Nat)  (m0 : Nat) (t1 : Int) (t5 : Int) (o0_0 : List Int) : N0 n  (m0 + 1) t1 t5 o0_0 =
  bif decide (t5 < (((List.length o0_0) : Nat) : Int)) then
   bif decide (((0 : Int) ≤ t5) ∧ (t5 < (((List.length o0_0) : Nat) : Int))) then
   N0 n m0 (IntKind.wrap .i64 (t1 + (1 : Int))) (IntKind.wrap .i64 (t5 + (1 : Int))) (List.set o0_0 (Int.toNat t5) (IntKind.wrap .u16 t1))
   else none
  else
   some (.int .i64 t1, [(0, ⟨[.ints .u16 o0_0], true⟩)]) := by kernel_rfl
noncomputable def R (n : Nat) (O : List Int) (k : Int) : Res := run (E n) n Try.f13 L (us O k) (HA O k) k0
theorem R_eq (n : Nat) (O : List Int) (k : Int) : R n O k =
  N0 n n k (0 : Int) O := by kernel_rfl
theorem ans {n : Nat} {O : List Int} {k : Int} (hA : Sounds Try.prog (A n)) {u : U} {H : Heap} (h : R n O k = some (u, H)) : Answers Try.prog 13 (us O k) (HA O k) u H := answers_env tabOk mixed hA Try.func13 (by kernel_rfl) (by kernel_rfl) h
end L_markP

namespace L_heldP
abbrev num : Nat := 14
noncomputable def A (n : Nat) : List (Nat × Con) := ((fun (n : Nat) => ([] : List (Nat × Con)))) n
noncomputable abbrev E (n : Nat) : Env (U × Heap) := envC tab ios (A n)
def L : List (List Nat) := [[1, 5, 0]]
abbrev us (lo : List Int) (jo : Nat) (k : Int) : List U := (((fun (lo : List Int) (jo : Nat) (k : Int) => (([.rsl [.ints .u16 lo] jo, .int .i64 k] : List U), ([] : Heap)))) lo jo k).1
abbrev HA (lo : List Int) (jo : Nat) (k : Int) : Heap := (((fun (lo : List Int) (jo : Nat) (k : Int) => (([.rsl [.ints .u16 lo] jo, .int .i64 k] : List U), ([] : Heap)))) lo jo k).2
def S0 (t1 : Int) (t5 : Int) (t0_0 : List Int) (t0n : Nat) : St := ⟨[(1, .int .i64 t1), (5, .int .i64 t5), (0, .rsl [.ints .u16 t0_0] t0n)], 22, [], [], 0⟩
noncomputable def N0 (n : Nat)  (m0 : Nat) (t1 : Int) (t5 : Int) (t0_0 : List Int) (t0n : Nat) : Res := nodeRun (E n) n Try.f14 L k0 [true, false, true, false] [] m0 (S0 t1 t5 t0_0 t0n)
theorem N0_succ (n : Nat)  (m0 : Nat) (t1 : Int) (t5 : Int) (t0_0 : List Int) (t0n : Nat) : N0 n  (m0 + 1) t1 t5 t0_0 t0n =
  bif decide (t5 < ((t0n : Nat) : Int)) then
   bif decide (((0 : Int) ≤ t5) ∧ (t5 < ((t0n : Nat) : Int))) then
   bif ((List.getD t0_0 (Int.toNat t5) (0 : Int)) != (IntKind.wrap .u16 t1)) then
     some (.int .i64 (-1 : Int), [])
    else
     N0 n m0 (IntKind.wrap .i64 (t1 + (1 : Int))) (IntKind.wrap .i64 (t5 + (1 : Int))) t0_0 t0n
   else none
  else
   some (.int .i64 t1, []) := by kernel_rfl
noncomputable def R (n : Nat) (lo : List Int) (jo : Nat) (k : Int) : Res := run (E n) n Try.f14 L (us lo jo k) (HA lo jo k) k0
theorem R_eq (n : Nat) (lo : List Int) (jo : Nat) (k : Int) : R n lo jo k =
  N0 n n k (0 : Int) lo jo := by kernel_rfl
theorem ans {n : Nat} {lo : List Int} {jo : Nat} {k : Int} (hA : Sounds Try.prog (A n)) {u : U} {H : Heap} (h : R n lo jo k = some (u, H)) : Answers Try.prog 14 (us lo jo k) (HA lo jo k) u H := answers_env tabOk mixed hA Try.func14 (by kernel_rfl) (by kernel_rfl) h
end L_heldP

namespace L_thr
abbrev num : Nat := 3
noncomputable def A (n : Nat) : List (Nat × Con) := ((fun (n : Nat) => ([(6, CSzSp), (8, CToSp), (11, CEqSp), (12, CMarkSp), (7, CThr), (9, CThr), (10, CEqU), (13, CMarkU), (14, CHeldU)] : List (Nat × Con)))) n
noncomputable abbrev E (n : Nat) : Env (U × Heap) := envC tab ios (A n)
def L : List (List Nat) := []
abbrev us (X : List Int) (Y : List Int) (j : Nat) : List U := (((fun (X Y : List Int) (j : Nat) => (([.rsl [.ints .u16 X, .ints .u16 Y] j] : List U), ([] : Heap)))) X Y j).1
abbrev HA (X : List Int) (Y : List Int) (j : Nat) : Heap := (((fun (X Y : List Int) (j : Nat) => (([.rsl [.ints .u16 X, .ints .u16 Y] j] : List U), ([] : Heap)))) X Y j).2
noncomputable def R (n : Nat) (X : List Int) (Y : List Int) (j : Nat) : Res := run (E n) n Try.f3 L (us X Y j) (HA X Y j) k0
theorem R_eq (n : Nat) (X : List Int) (Y : List Int) (j : Nat) : R n X Y j =
  pif ((((List.length X) = j) ∧ ((j ≤ 9223372036854775807) ∧ (((0 : Int) ≤ (1048576 : Int)) ∧ ((1048576 : Int) ≤ (1048576 : Int)))))) (
  bif decide ((if (((1048576 : Int) - ((j : Nat) : Int)) < (0 : Int)) then (-1 : Int) else ((1048576 : Int) - ((j : Nat) : Int))) < (0 : Int)) then
   some (.bool true, [])
  else
   pif ((spt X Y j)) (
   pif ((spt X Y (List.length X))) (
   pif ((spt X Y j)) (
   pif ((spt X Y (List.length X))) (
   pif (((ul (thP X Y) (List.length (thP X Y))) ∧ (ul (thP X Y) (List.length (thP X Y))))) (
   bif (!(eqI (thP X Y) (thP X Y))) then
    some (.bool false, [])
   else
    bif ((thE X) != (thE X)) then
     some (.bool false, [])
    else
     pif ((spt X Y j)) (
     pif (((spt X Y (List.length X)) ∧ (spt X Y (List.length X)))) (
     bif (!decide ((X = X) ∧ (Y = Y))) then
      some (.bool false, [])
     else
      pif (((spt X Y (List.length X)) ∧ (few (1 : Int)))) (
      pif (((ul (thP X Y) (List.length (thP X Y))) ∧ (ul (thP X Y) (List.length (thP X Y))))) (
      bif (!(eqI (thP X Y) (thP X Y))) then
       some (.bool false, [])
      else
       bif ((thE X) != (thE X)) then
        some (.bool false, [])
       else
        pif (((ul (thP X Y) (List.length (thP X Y))) ∧ (few (1 : Int)))) (
        pif (((ul (mkU (1 : Int) (thP X Y)) (List.length (mkU (1 : Int) (thP X Y)))) ∧ ((few (1 : Int)) ∧ (markedU (1 : Int) (mkU (1 : Int) (thP X Y)))))) (
        bif ((cnt1 (1 : Int) (mkU (1 : Int) (thP X Y))) != (cnt1 (1 : Int) (thP X Y))) then
         some (.bool false, [])
        else
         pif ((spt X Y j)) (
         pif ((spt X Y (List.length X))) (
         pif (((ul (thP X Y) (List.length (thP X Y))) ∧ (ul (thP X Y) (List.length (thP X Y))))) (
         bif (!(eqI (thP X Y) (thP X Y))) then
          some (.bool false, [])
         else
          bif ((thE X) != (thE X)) then
           some (.bool false, [])
          else
           pif (((ul (mkU (1 : Int) (thP X Y)) (List.length (mkU (1 : Int) (thP X Y)))) ∧ ((few (1 : Int)) ∧ (markedU (1 : Int) (mkU (1 : Int) (thP X Y)))))) (
           bif ((cnt1 (1 : Int) (mkU (1 : Int) (thP X Y))) != (cnt1 (1 : Int) (thP X Y))) then
            some (.bool false, [])
           else
            some (.bool true, []))))))))))))))))) := by kernel_rfl
theorem ans {n : Nat} {X : List Int} {Y : List Int} {j : Nat} (hA : Sounds Try.prog (A n)) {u : U} {H : Heap} (h : R n X Y j = some (u, H)) : Answers Try.prog 3 (us X Y j) (HA X Y j) u H := answers_env tabOk mixed hA Try.func3 (by kernel_rfl) (by kernel_rfl) h
end L_thr

end Go.VM
