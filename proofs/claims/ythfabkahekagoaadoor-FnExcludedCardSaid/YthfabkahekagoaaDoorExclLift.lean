/- Written by a program of this session (Lift.lean): what the evaluator comes to, function by function; the kernel checks it. The conditions: those of the contracts. -/
import Derived.Test.YthfabkahekagoaaDoorVmP4
import Derived.Test.YthfabkahekagoaaDoorNimST
import Derived.Test.YthfabkahekagoaaDoorNimSTS
import Derived.Test.YthfabkahekagoaaDoorNimCon
import Derived.Test.YthfabkahekagoaaDoorOrdCon
import Derived.Test.YthfabkahekagoaaDoorSrcCon
import Derived.Test.YthfabkahekagoaaDoorTxtCon
import Derived.Test.YthfabkahekagoaaDoorFldCon
import Derived.Test.YthfabkahekagoaaDoorIntsCon
import Derived.Test.YthfabkahekagoaaDoorExclCon
import Derived.KernelRfl
set_option linter.unusedVariables false
set_option linter.unusedSimpArgs false
set_option linter.unusedSectionVars false
namespace Go.VM
open Go Go.Proofs Go.Fn NimF
set_option linter.unusedVariables false
set_option maxRecDepth 100000
namespace I_idxF
abbrev num : Nat := 65
noncomputable def A (n : Nat) : List (Nat × Con) := ((fun (n : Nat) => ([] : List (Nat × Con)))) n
noncomputable abbrev E (n : Nat) : Env (U × Heap) := envC tab ios (A n)
def L : List (List Nat) := [[8, 0, 1, 7]]
abbrev us (V : List Bool) (j : Nat) : List U := (((fun (V : List Bool) (j : Nat) => (([.rsl [.bools V] j, .bool false] : List U), ([] : Heap)))) V j).1
abbrev HA (V : List Bool) (j : Nat) : Heap := (((fun (V : List Bool) (j : Nat) => (([.rsl [.bools V] j, .bool false] : List U), ([] : Heap)))) V j).2
def S0 (t8 : Int) (t0_0 : List Bool) (t0n : Nat) (t1 : Bool) (t7 : Int) : St := ⟨[(8, .int .i64 t8), (0, .rsl [.bools t0_0] t0n), (1, .bool t1), (7, .int .i64 t7)], 19, [], [], 0⟩
noncomputable def N0 (n : Nat)  (m0 : Nat) (t8 : Int) (t0_0 : List Bool) (t0n : Nat) (t1 : Bool) (t7 : Int) : Res := nodeRun (E n) n Tryd.f65 L k0 [true, false, true, false] [] m0 (S0 t8 t0_0 t0n t1 t7)
theorem N0_succ (n : Nat)  (m0 : Nat) (t8 : Int) (t0_0 : List Bool) (t0n : Nat) (t1 : Bool) (t7 : Int) : N0 n  (m0 + 1) t8 t0_0 t0n t1 t7 =
  bif decide (t8 < t7) then
   bif decide (((0 : Int) ≤ t8) ∧ (t8 < ((t0n : Nat) : Int))) then
   bif (t1 == (List.getD t0_0 (Int.toNat t8) false)) then
     some (.int .i64 t8, [])
    else
     N0 n m0 (IntKind.wrap .i64 (t8 + (1 : Int))) t0_0 t0n t1 t7
   else none
  else
   some (.int .i64 (-1 : Int), []) := by kernel_rfl
noncomputable def R (n : Nat) (V : List Bool) (j : Nat) : Res := run (E n) n Tryd.f65 L (us V j) (HA V j) k0
theorem R_eq (n : Nat) (V : List Bool) (j : Nat) : R n V j =
  N0 n n (0 : Int) V j false ((j : Nat) : Int) := by kernel_rfl
theorem ans {n : Nat} {V : List Bool} {j : Nat} (hA : Sounds Tryd.prog (A n)) {u : U} {H : Heap} (h : R n V j = some (u, H)) : Answers Tryd.prog 65 (us V j) (HA V j) u H := answers_env tabOk mixed hA Tryd.func65 (by kernel_rfl) (by kernel_rfl) h
end I_idxF

namespace I_mex
abbrev num : Nat := 52
noncomputable def A (n : Nat) : List (Nat × Con) := ((fun (n : Nat) => ([(65, CIdxF)] : List (Nat × Con)))) n
noncomputable abbrev E (n : Nat) : Env (U × Heap) := envC tab ios (A n)
def L : List (List Nat) := [[3, 12, 10, 11]]
abbrev us (V : List Int) (j : Nat) : List U := (((fun (V : List Int) (j : Nat) => (([.rsl [.ints .u16 V] j] : List U), ([] : Heap)))) V j).1
abbrev HA (V : List Int) (j : Nat) : Heap := (((fun (V : List Int) (j : Nat) => (([.rsl [.ints .u16 V] j] : List U), ([] : Heap)))) V j).2
def S0 (t12 : Int) (t10_0 : List Int) (t10n : Nat) (t11 : Int) (o0_0 : List Bool) : St := ⟨[(3, .own 0), (12, .int .i64 t12), (10, .rsl [.ints .u16 t10_0] t10n), (11, .int .i64 t11)], 27, [(0, ⟨[.bools o0_0], true⟩)], [0], 0⟩
noncomputable def N0 (n : Nat)  (m0 : Nat) (t12 : Int) (t10_0 : List Int) (t10n : Nat) (t11 : Int) (o0_0 : List Bool) : Res := nodeRun (E n) n Tryd.f52 L k0 [true, true, false, true, false] [] m0 (S0 t12 t10_0 t10n t11 o0_0)
theorem N0_succ (n : Nat)  (m0 : Nat) (t12 : Int) (t10_0 : List Int) (t10n : Nat) (t11 : Int) (o0_0 : List Bool) : N0 n  (m0 + 1) t12 t10_0 t10n t11 o0_0 =
  bif decide (t12 < t11) then
   bif decide (((0 : Int) ≤ t12) ∧ (t12 < ((t10n : Nat) : Int))) then
   bif decide ((IntKind.wrap .i64 (List.getD t10_0 (Int.toNat t12) (0 : Int))) < (((List.length o0_0) : Nat) : Int)) then
     bif decide (((0 : Int) ≤ (List.getD t10_0 (Int.toNat t12) (0 : Int))) ∧ ((List.getD t10_0 (Int.toNat t12) (0 : Int)) < (((List.length o0_0) : Nat) : Int))) then
     N0 n m0 (IntKind.wrap .i64 (t12 + (1 : Int))) t10_0 t10n t11 (List.set o0_0 (Int.toNat (List.getD t10_0 (Int.toNat t12) (0 : Int))) true)
     else none
    else
     N0 n m0 (IntKind.wrap .i64 (t12 + (1 : Int))) t10_0 t10n t11 o0_0
   else none
  else
   pif ((((List.length o0_0) = (List.length o0_0)) ∧ ((List.length o0_0) ≤ 1000000))) (
   some (.int .i64 (idxF o0_0 0), [])) := by kernel_rfl
noncomputable def R (n : Nat) (V : List Int) (j : Nat) : Res := run (E n) n Tryd.f52 L (us V j) (HA V j) k0
theorem R_eq (n : Nat) (V : List Int) (j : Nat) : R n V j =
  bif decide (((0 : Int) ≤ (IntKind.wrap .i64 (((j : Nat) : Int) + (1 : Int)))) ∧ (((IntKind.wrap .i64 (((j : Nat) : Int) + (1 : Int))) * (1 : Int)) ≤ (4398046511104 : Int))) then
  N0 n n (0 : Int) V j ((j : Nat) : Int) (List.replicate (Int.toNat (IntKind.wrap .i64 (((j : Nat) : Int) + (1 : Int)))) false)
  else none := by kernel_rfl
theorem ans {n : Nat} {V : List Int} {j : Nat} (hA : Sounds Tryd.prog (A n)) {u : U} {H : Heap} (h : R n V j = some (u, H)) : Answers Tryd.prog 52 (us V j) (HA V j) u H := answers_env tabOk mixed hA Tryd.func52 (by kernel_rfl) (by kernel_rfl) h
end I_mex

namespace I_Excl
abbrev num : Nat := 25
noncomputable def A (n : Nat) : List (Nat × Con) := ((fun (n : Nat) => ([(52, CMex)] : List (Nat × Con)))) n
noncomputable abbrev E (n : Nat) : Env (U × Heap) := envC tab ios (A n)
def L : List (List Nat) := []
abbrev us (V : List Int) (j : Nat) : List U := (((fun (V : List Int) (j : Nat) => (([.rsl [.ints .u16 V] j] : List U), ([] : Heap)))) V j).1
abbrev HA (V : List Int) (j : Nat) : Heap := (((fun (V : List Int) (j : Nat) => (([.rsl [.ints .u16 V] j] : List U), ([] : Heap)))) V j).2
noncomputable def R (n : Nat) (V : List Int) (j : Nat) : Res := run (E n) n Tryd.f25 L (us V j) (HA V j) k0
theorem R_eq (n : Nat) (V : List Int) (j : Nat) : R n V j =
  bif decide (((j : Nat) : Int) > (1000 : Int)) then
   some (.tup [.int .i64 (0 : Int), .int .i64 (3 : Int)], [])
  else
   pif ((lst V j)) (
   some (.tup [.int .i64 (mexI V), .int .i64 (0 : Int)], [])) := by kernel_rfl
theorem ans {n : Nat} {V : List Int} {j : Nat} (hA : Sounds Tryd.prog (A n)) {u : U} {H : Heap} (h : R n V j = some (u, H)) : Answers Tryd.prog 25 (us V j) (HA V j) u H := answers_env tabOk mixed hA Tryd.func25 (by kernel_rfl) (by kernel_rfl) h
end I_Excl

namespace I_tbe
abbrev num : Nat := 24
noncomputable def A (n : Nat) (fx : List Int → Int) : List (Nat × Con) := ((fun (n : Nat) (fx : List Int → Int) => ([(52, CMexF fx)] : List (Nat × Con)))) n fx
noncomputable abbrev E (n : Nat) (fx : List Int → Int) : Env (U × Heap) := envC tab ios (A n fx)
def L : List (List Nat) := [[6, 1, 0, 21, 20], [6, 1, 0, 20, 21, 26, 7, 25], [6, 1, 0, 20, 21, 7, 25, 26, 9, 8, 31, 30], [6, 1, 0, 20, 21, 7, 25, 26, 9, 8, 30, 31, 35, 10, 34]]
abbrev us (a : Int) (b : Int) : List U := (((fun (a b : Int) => (([.int .u16 a, .int .u16 b] : List U), ([] : Heap)))) a b).1
abbrev HA (a : Int) (b : Int) : Heap := (((fun (a b : Int) => (([.int .u16 a, .int .u16 b] : List U), ([] : Heap)))) a b).2
def S0 (t1 : Int) (t0 : Int) (t21 : Int) (t20 : Int) (o0_0 : List Int) : St := ⟨[(6, .ptr 0 0 0 0 1024), (1, .int .u16 t1), (0, .int .u16 t0), (21, .int .u16 t21), (20, .int .u16 t20)], 74, [(0, ⟨[.vecs .u16 1024 [o0_0]], true⟩)], [0], 0⟩
noncomputable def N0 (n : Nat) (fx : List Int → Int)  (m0 : Nat) (t1 : Int) (t0 : Int) (t21 : Int) (t20 : Int) (o0_0 : List Int) : Res := nodeRun (E n fx) n Tryd.f24 L k0 [true, true, true, false, true, false] [] m0 (S0 t1 t0 t21 t20 o0_0)
def S1 (t1 : Int) (t0 : Int) (t20 : Int) (t21 : Int) (t26 : Int) (t7 : Int) (t25 : Int) (o0_0 : List Int) : St := ⟨[(6, .ptr 0 0 0 0 1024), (1, .int .u16 t1), (0, .int .u16 t0), (20, .int .u16 t20), (21, .int .u16 t21), (26, .int .u16 t26), (7, .int .u16 t7), (25, .int .u16 t25)], 74, [(0, ⟨[.vecs .u16 1024 [o0_0]], true⟩)], [0], 0⟩
noncomputable def N1 (n : Nat) (fx : List Int → Int) (m0 : Nat) (m1 : Nat) (t1 : Int) (t0 : Int) (t20 : Int) (t21 : Int) (t26 : Int) (t7 : Int) (t25 : Int) (o0_0 : List Int) : Res := nodeRun (E n fx) n Tryd.f24 L k0 [true, true, true, false, true, false, false, true, true, false, false, true, true, false] [m0] m1 (S1 t1 t0 t20 t21 t26 t7 t25 o0_0)
def S2 (t1 : Int) (t0 : Int) (t20 : Int) (t21 : Int) (t7 : Int) (t25 : Int) (t26 : Int) (t8 : Int) (t31 : Int) (t30 : Int) (o0_0 : List Int) (o1_0 : List Int) : St := ⟨[(6, .ptr 0 0 0 0 1024), (1, .int .u16 t1), (0, .int .u16 t0), (20, .int .u16 t20), (21, .int .u16 t21), (7, .int .u16 t7), (25, .int .u16 t25), (26, .int .u16 t26), (9, .own 1), (8, .int .u16 t8), (31, .int .u16 t31), (30, .int .u16 t30)], 74, [(0, ⟨[.vecs .u16 1024 [o0_0]], true⟩), (1, ⟨[.ints .u16 o1_0], true⟩)], [0, 1], 0⟩
noncomputable def N2 (n : Nat) (fx : List Int → Int) (m0 : Nat) (m1 : Nat) (m2 : Nat) (t1 : Int) (t0 : Int) (t20 : Int) (t21 : Int) (t7 : Int) (t25 : Int) (t26 : Int) (t8 : Int) (t31 : Int) (t30 : Int) (o0_0 : List Int) (o1_0 : List Int) : Res := nodeRun (E n fx) n Tryd.f24 L k0 [true, true, true, false, true, false, false, true, true, false, false, true, true, false, false, true, true, false, false, true, true, false, true, false] [m0, m1] m2 (S2 t1 t0 t20 t21 t7 t25 t26 t8 t31 t30 o0_0 o1_0)
def S3 (t1 : Int) (t0 : Int) (t20 : Int) (t21 : Int) (t7 : Int) (t25 : Int) (t26 : Int) (t8 : Int) (t30 : Int) (t31 : Int) (t35 : Int) (t10 : Int) (t34 : Int) (o0_0 : List Int) (o1_0 : List Int) : St := ⟨[(6, .ptr 0 0 0 0 1024), (1, .int .u16 t1), (0, .int .u16 t0), (20, .int .u16 t20), (21, .int .u16 t21), (7, .int .u16 t7), (25, .int .u16 t25), (26, .int .u16 t26), (9, .own 1), (8, .int .u16 t8), (30, .int .u16 t30), (31, .int .u16 t31), (35, .int .u16 t35), (10, .int .u16 t10), (34, .int .u16 t34)], 74, [(0, ⟨[.vecs .u16 1024 [o0_0]], true⟩), (1, ⟨[.ints .u16 o1_0], true⟩)], [0, 1], 0⟩
noncomputable def N3 (n : Nat) (fx : List Int → Int) (m0 : Nat) (m1 : Nat) (m2 : Nat) (m3 : Nat) (t1 : Int) (t0 : Int) (t20 : Int) (t21 : Int) (t7 : Int) (t25 : Int) (t26 : Int) (t8 : Int) (t30 : Int) (t31 : Int) (t35 : Int) (t10 : Int) (t34 : Int) (o0_0 : List Int) (o1_0 : List Int) : Res := nodeRun (E n fx) n Tryd.f24 L k0 [true, true, true, false, true, false, false, true, true, false, false, true, true, false, false, true, true, false, false, true, true, false, true, false, false, true, true, false, false, true, true, false] [m0, m1, m2] m3 (S3 t1 t0 t20 t21 t7 t25 t26 t8 t30 t31 t35 t10 t34 o0_0 o1_0)
theorem N0_succ (n : Nat) (fx : List Int → Int)  (m0 : Nat) (t1 : Int) (t0 : Int) (t21 : Int) (t20 : Int) (o0_0 : List Int) : N0 n fx  (m0 + 1) t1 t0 t21 t20 o0_0 =
  bif decide (t21 < t20) then
   N1 n fx m0 n t1 t0 t20 t21 (0 : Int) t21 (IntKind.wrap .u16 (t1 + (1 : Int))) o0_0
  else
   bif decide (((0 : Int) ≤ t0) ∧ (t0 < (32 : Int))) then
   bif decide (((0 : Int) ≤ t1) ∧ (t1 < (32 : Int))) then
    some (.tup [.int .u16 (List.getD o0_0 ((0 + ((Int.toNat t0) * 32)) + ((Int.toNat t1) * 1)) (0 : Int)), .int .i64 (0 : Int)], [])
    else none
   else none := by kernel_rfl
theorem N1_succ (n : Nat) (fx : List Int → Int) (m0 : Nat) (m1 : Nat) (t1 : Int) (t0 : Int) (t20 : Int) (t21 : Int) (t26 : Int) (t7 : Int) (t25 : Int) (o0_0 : List Int) : N1 n fx m0 (m1 + 1) t1 t0 t20 t21 t26 t7 t25 o0_0 =
  bif decide (t26 < t25) then
   N2 n fx m0 m1 n t1 t0 t20 t21 t7 t25 t26 t26 (0 : Int) t7 o0_0 []
  else
   N0 n fx m0 t1 t0 (IntKind.wrap .u16 (t21 + (1 : Int))) t20 o0_0 := by kernel_rfl
theorem N2_succ (n : Nat) (fx : List Int → Int) (m0 : Nat) (m1 : Nat) (m2 : Nat) (t1 : Int) (t0 : Int) (t20 : Int) (t21 : Int) (t7 : Int) (t25 : Int) (t26 : Int) (t8 : Int) (t31 : Int) (t30 : Int) (o0_0 : List Int) (o1_0 : List Int) : N2 n fx m0 m1 (m2 + 1) t1 t0 t20 t21 t7 t25 t26 t8 t31 t30 o0_0 o1_0 =
  bif decide (t31 < t30) then
   N3 n fx m0 m1 m2 n t1 t0 t20 t21 t7 t25 t26 t8 t30 t31 (0 : Int) t31 t8 o0_0 o1_0
  else
   bif decide (((0 : Int) ≤ t7) ∧ (t7 < (32 : Int))) then
   pif ((lst o1_0 (List.length o1_0))) (
    bif decide (((0 : Int) ≤ t8) ∧ (t8 < (32 : Int))) then
    N1 n fx m0 m1 t1 t0 t20 t21 (IntKind.wrap .u16 (t26 + (1 : Int))) t7 t25 (List.set o0_0 ((0 + ((Int.toNat t7) * 32)) + ((Int.toNat t8) * 1)) (IntKind.wrap .u16 (fx o1_0)))
    else none)
   else none := by kernel_rfl
theorem N3_succ (n : Nat) (fx : List Int → Int) (m0 : Nat) (m1 : Nat) (m2 : Nat) (m3 : Nat) (t1 : Int) (t0 : Int) (t20 : Int) (t21 : Int) (t7 : Int) (t25 : Int) (t26 : Int) (t8 : Int) (t30 : Int) (t31 : Int) (t35 : Int) (t10 : Int) (t34 : Int) (o0_0 : List Int) (o1_0 : List Int) : N3 n fx m0 m1 m2 (m3 + 1) t1 t0 t20 t21 t7 t25 t26 t8 t30 t31 t35 t10 t34 o0_0 o1_0 =
  bif decide (t35 < t34) then
   bif decide (((0 : Int) ≤ t10) ∧ (t10 < (32 : Int))) then
   bif decide (((0 : Int) ≤ t8) ∧ (t8 < (32 : Int))) then
    bif decide (((0 : Int) ≤ t7) ∧ (t7 < (32 : Int))) then
     bif decide (((0 : Int) ≤ t35) ∧ (t35 < (32 : Int))) then
      bif decide (((0 : Int) ≤ t10) ∧ (t10 < (32 : Int))) then
       bif decide (((0 : Int) ≤ t35) ∧ (t35 < (32 : Int))) then
        bif decide ((((List.length o1_0) + 1) * 1) ≤ 4398046511104) then
         N3 n fx m0 m1 m2 m3 t1 t0 t20 t21 t7 t25 t26 t8 t30 t31 (IntKind.wrap .u16 (t35 + (1 : Int))) t10 t34 o0_0 (o1_0 ++ [(intBitsV .xor .u16 (intBitsV .xor .u16 (List.getD o0_0 ((0 + ((Int.toNat t10) * 32)) + ((Int.toNat t8) * 1)) (0 : Int)) (List.getD o0_0 ((0 + ((Int.toNat t7) * 32)) + ((Int.toNat t35) * 1)) (0 : Int))) (List.getD o0_0 ((0 + ((Int.toNat t10) * 32)) + ((Int.toNat t35) * 1)) (0 : Int)))])
         else none
        else none
       else none
      else none
     else none
    else none
   else none
  else
   N2 n fx m0 m1 m2 t1 t0 t20 t21 t7 t25 t26 t8 (IntKind.wrap .u16 (t31 + (1 : Int))) t30 o0_0 o1_0 := by kernel_rfl
noncomputable def R (n : Nat) (fx : List Int → Int) (a : Int) (b : Int) : Res := run (E n fx) n Tryd.f24 L (us a b) (HA a b) k0
theorem R_eq (n : Nat) (fx : List Int → Int) (a : Int) (b : Int) : R n fx a b =
  bif decide (a > (31 : Int)) then
   some (.tup [.int .u16 (0 : Int), .int .i64 (2 : Int)], [])
  else
   bif decide (b > (31 : Int)) then
    some (.tup [.int .u16 (0 : Int), .int .i64 (2 : Int)], [])
   else
    N0 n fx n b a (0 : Int) (IntKind.wrap .u16 (a + (1 : Int))) (List.replicate 1024 (0 : Int)) := by kernel_rfl
theorem ans {n : Nat} {fx : List Int → Int} {a : Int} {b : Int} (hA : Sounds Tryd.prog (A n fx)) {u : U} {H : Heap} (h : R n fx a b = some (u, H)) : Answers Tryd.prog 24 (us a b) (HA a b) u H := answers_env tabOk mixed hA Tryd.func24 (by kernel_rfl) (by kernel_rfl) h
end I_tbe

namespace S_many
abbrev num : Nat := 53
noncomputable def A (n : Nat) : List (Nat × Con) := ((fun (n : Nat) => ([(59, CPick), (35, CAny)] : List (Nat × Con)))) n
noncomputable abbrev E (n : Nat) : Env (U × Heap) := envC tab ios (A n)
def L : List (List Nat) := [[3, 4, 0]]
abbrev us (B : List Int) (n0 : Nat) (a : Int) (s : Int) : List U := (((fun (B : List Int) (n0 : Nat) (a s : Int) => (([.ptr 0 0 0 0 1] : List U), ([(0, ⟨[.us [.rsl [.ints .u8 B] n0], .ints .i64 [a], .ints .u64 [s]], true⟩)] : Heap)))) B n0 a s).1
abbrev HA (B : List Int) (n0 : Nat) (a : Int) (s : Int) : Heap := (((fun (B : List Int) (n0 : Nat) (a s : Int) => (([.ptr 0 0 0 0 1] : List U), ([(0, ⟨[.us [.rsl [.ints .u8 B] n0], .ints .i64 [a], .ints .u64 [s]], true⟩)] : Heap)))) B n0 a s).2
def S0 (t4 : Int) (o0_0_0_0 : List Int) (o0_0_0n : Nat) (o0_1 : Int) (o0_2 : Int) (o1_0 : List Int) : St := ⟨[(3, .own 1), (4, .int .i64 t4), (0, .ptr 0 0 0 0 1)], 18, [(0, ⟨[.us [.rsl [.ints .u8 o0_0_0_0] o0_0_0n], .ints .i64 [o0_1], .ints .u64 [o0_2]], true⟩), (1, ⟨[.ints .u16 o1_0], true⟩)], [0, 1], 1⟩
noncomputable def N0 (n : Nat)  (m0 : Nat) (t4 : Int) (o0_0_0_0 : List Int) (o0_0_0n : Nat) (o0_1 : Int) (o0_2 : Int) (o1_0 : List Int) : Res := nodeRun (E n) n Tryd.f53 L k0 [true, true, false, true, false] [] m0 (S0 t4 o0_0_0_0 o0_0_0n o0_1 o0_2 o1_0)
theorem N0_succ (n : Nat)  (m0 : Nat) (t4 : Int) (o0_0_0_0 : List Int) (o0_0_0n : Nat) (o0_1 : Int) (o0_2 : Int) (o1_0 : List Int) : N0 n  (m0 + 1) t4 o0_0_0_0 o0_0_0n o0_1 o0_2 o1_0 =
  bif decide (t4 > (0 : Int)) then
   pif (((src o0_0_0_0 o0_0_0n) ∧ (inAny o0_1 o0_2))) (
   bif decide ((((List.length o1_0) + 1) * 1) ≤ 4398046511104) then
   N0 n m0 (IntKind.wrap .i64 (t4 - (1 : Int))) o0_0_0_0 o0_0_0n (anyA o0_0_0_0 o0_1 o0_2) (anyS o0_0_0_0 o0_1 o0_2) (o1_0 ++ [(anyV o0_0_0_0 o0_1 o0_2)])
   else none)
  else
   some (.own 1, [(0, ⟨[.us [.rsl [.ints .u8 o0_0_0_0] o0_0_0n], .ints .i64 [o0_1], .ints .u64 [o0_2]], true⟩), (1, ⟨[.ints .u16 o1_0], true⟩)]) := by kernel_rfl
noncomputable def R (n : Nat) (B : List Int) (n0 : Nat) (a : Int) (s : Int) : Res := run (E n) n Tryd.f53 L (us B n0 a s) (HA B n0 a s) k0
theorem R_eq (n : Nat) (B : List Int) (n0 : Nat) (a : Int) (s : Int) : R n B n0 a s =
  pif (((src B n0) ∧ ((inPk a s) ∧ (picks (7 : Int))))) (
  N0 n n (pkV B (7 : Int) a s) B n0 (pkA (7 : Int) a) (pkS B (7 : Int) a s) []) := by kernel_rfl
theorem ans {n : Nat} {B : List Int} {n0 : Nat} {a : Int} {s : Int} (hA : Sounds Tryd.prog (A n)) {u : U} {H : Heap} (h : R n B n0 a s = some (u, H)) : Answers Tryd.prog 53 (us B n0 a s) (HA B n0 a s) u H := answers_env tabOk mixed hA Tryd.func53 (by kernel_rfl) (by kernel_rfl) h
end S_many

namespace S_A2Nims
abbrev num : Nat := 26
noncomputable def A (n : Nat) : List (Nat × Con) := ((fun (n : Nat) => ([(36, CFrom), (53, CMany)] : List (Nat × Con)))) n
noncomputable abbrev E (n : Nat) : Env (U × Heap) := envC tab ios (A n)
def L : List (List Nat) := []
abbrev us (B : List Int) (n0 : Nat) : List U := (((fun (B : List Int) (n0 : Nat) => (([.rsl [.ints .u8 B] n0] : List U), ([] : Heap)))) B n0).1
abbrev HA (B : List Int) (n0 : Nat) : Heap := (((fun (B : List Int) (n0 : Nat) => (([.rsl [.ints .u8 B] n0] : List U), ([] : Heap)))) B n0).2
noncomputable def R (n : Nat) (B : List Int) (n0 : Nat) : Res := run (E n) n Tryd.f26 L (us B n0) (HA B n0) k0
theorem R_eq (n : Nat) (B : List Int) (n0 : Nat) : R n B n0 =
  pif (True) (
  pif (((src B n0) ∧ (((0 : Int) = (0 : Int)) ∧ ((0 : Int) = (0 : Int))))) (
  some (.own 0, [(0, ⟨[.ints .u16 (nmsF B (nmN B (0 : Int) (0 : Int)) (pkA (7 : Int) (0 : Int)) (pkS B (7 : Int) (0 : Int) (0 : Int)))], true⟩)]))) := by kernel_rfl
theorem ans {n : Nat} {B : List Int} {n0 : Nat} (hA : Sounds Tryd.prog (A n)) {u : U} {H : Heap} (h : R n B n0 = some (u, H)) : Answers Tryd.prog 26 (us B n0) (HA B n0) u H := answers_env tabOk mixed hA Tryd.func26 (by kernel_rfl) (by kernel_rfl) h
end S_A2Nims

namespace I_sum
abbrev num : Nat := 54
noncomputable def A (n : Nat) : List (Nat × Con) := ((fun (n : Nat) => ([] : List (Nat × Con)))) n
noncomputable abbrev E (n : Nat) : Env (U × Heap) := envC tab ios (A n)
def L : List (List Nat) := [[3, 8, 6, 7]]
abbrev us (V : List Int) (j : Nat) : List U := (((fun (V : List Int) (j : Nat) => (([.rsl [.ints .u16 V] j] : List U), ([] : Heap)))) V j).1
abbrev HA (V : List Int) (j : Nat) : Heap := (((fun (V : List Int) (j : Nat) => (([.rsl [.ints .u16 V] j] : List U), ([] : Heap)))) V j).2
def S0 (t3 : Int) (t8 : Int) (t6_0 : List Int) (t6n : Nat) (t7 : Int) : St := ⟨[(3, .int .u16 t3), (8, .int .i64 t8), (6, .rsl [.ints .u16 t6_0] t6n), (7, .int .i64 t7)], 17, [], [], 0⟩
noncomputable def N0 (n : Nat)  (m0 : Nat) (t3 : Int) (t8 : Int) (t6_0 : List Int) (t6n : Nat) (t7 : Int) : Res := nodeRun (E n) n Tryd.f54 L k0 [true, true, false, true, false] [] m0 (S0 t3 t8 t6_0 t6n t7)
theorem N0_succ (n : Nat)  (m0 : Nat) (t3 : Int) (t8 : Int) (t6_0 : List Int) (t6n : Nat) (t7 : Int) : N0 n  (m0 + 1) t3 t8 t6_0 t6n t7 =
  bif decide (t8 < t7) then
   bif decide (((0 : Int) ≤ t8) ∧ (t8 < ((t6n : Nat) : Int))) then
   N0 n m0 (intBitsV .xor .u16 t3 (List.getD t6_0 (Int.toNat t8) (0 : Int))) (IntKind.wrap .i64 (t8 + (1 : Int))) t6_0 t6n t7
   else none
  else
   some (.int .u16 t3, []) := by kernel_rfl
noncomputable def R (n : Nat) (V : List Int) (j : Nat) : Res := run (E n) n Tryd.f54 L (us V j) (HA V j) k0
theorem R_eq (n : Nat) (V : List Int) (j : Nat) : R n V j =
  N0 n n (0 : Int) (0 : Int) V j ((j : Nat) : Int) := by kernel_rfl
theorem ans {n : Nat} {V : List Int} {j : Nat} (hA : Sounds Tryd.prog (A n)) {u : U} {H : Heap} (h : R n V j = some (u, H)) : Answers Tryd.prog 54 (us V j) (HA V j) u H := answers_env tabOk mixed hA Tryd.func54 (by kernel_rfl) (by kernel_rfl) h
end I_sum

namespace S_sum
abbrev num : Nat := 55
noncomputable def A (n : Nat) : List (Nat × Con) := ((fun (n : Nat) => ([] : List (Nat × Con)))) n
noncomputable abbrev E (n : Nat) : Env (U × Heap) := envC tab ios (A n)
def L : List (List Nat) := [[3, 4, 0]]
abbrev us (V : List Int) (j : Nat) : List U := (((fun (V : List Int) (j : Nat) => (([.rsl [.ints .u16 V] j] : List U), ([] : Heap)))) V j).1
abbrev HA (V : List Int) (j : Nat) : Heap := (((fun (V : List Int) (j : Nat) => (([.rsl [.ints .u16 V] j] : List U), ([] : Heap)))) V j).2
def S0 (t3 : Int) (t4 : Int) (t0_0 : List Int) (t0n : Nat) : St := ⟨[(3, .int .u16 t3), (4, .int .i64 t4), (0, .rsl [.ints .u16 t0_0] t0n)], 18, [], [], 0⟩
noncomputable def N0 (n : Nat)  (m0 : Nat) (t3 : Int) (t4 : Int) (t0_0 : List Int) (t0n : Nat) : Res := nodeRun (E n) n Tryd.f55 L k0 [true, true, false, true, false] [] m0 (S0 t3 t4 t0_0 t0n)
theorem N0_succ (n : Nat)  (m0 : Nat) (t3 : Int) (t4 : Int) (t0_0 : List Int) (t0n : Nat) : N0 n  (m0 + 1) t3 t4 t0_0 t0n =
  bif decide (t4 < ((t0n : Nat) : Int)) then
   bif decide (((0 : Int) ≤ t4) ∧ (t4 < ((t0n : Nat) : Int))) then
   N0 n m0 (intBitsV .xor .u16 t3 (List.getD t0_0 (Int.toNat t4) (0 : Int))) (IntKind.wrap .i64 (t4 + (1 : Int))) t0_0 t0n
   else none
  else
   some (.int .u16 t3, []) := by kernel_rfl
noncomputable def R (n : Nat) (V : List Int) (j : Nat) : Res := run (E n) n Tryd.f55 L (us V j) (HA V j) k0
theorem R_eq (n : Nat) (V : List Int) (j : Nat) : R n V j =
  N0 n n (0 : Int) (0 : Int) V j := by kernel_rfl
theorem ans {n : Nat} {V : List Int} {j : Nat} (hA : Sounds Tryd.prog (A n)) {u : U} {H : Heap} (h : R n V j = some (u, H)) : Answers Tryd.prog 55 (us V j) (HA V j) u H := answers_env tabOk mixed hA Tryd.func55 (by kernel_rfl) (by kernel_rfl) h
end S_sum

namespace I_SumOf
abbrev num : Nat := 27
noncomputable def A (n : Nat) : List (Nat × Con) := ((fun (n : Nat) => ([(54, CSum)] : List (Nat × Con)))) n
noncomputable abbrev E (n : Nat) : Env (U × Heap) := envC tab ios (A n)
def L : List (List Nat) := []
abbrev us (V : List Int) (j : Nat) : List U := (((fun (V : List Int) (j : Nat) => (([.rsl [.ints .u16 V] j] : List U), ([] : Heap)))) V j).1
abbrev HA (V : List Int) (j : Nat) : Heap := (((fun (V : List Int) (j : Nat) => (([.rsl [.ints .u16 V] j] : List U), ([] : Heap)))) V j).2
noncomputable def R (n : Nat) (V : List Int) (j : Nat) : Res := run (E n) n Tryd.f27 L (us V j) (HA V j) k0
theorem R_eq (n : Nat) (V : List Int) (j : Nat) : R n V j =
  pif ((lst V j)) (
  some (.int .u16 (suI V), [])) := by kernel_rfl
theorem ans {n : Nat} {V : List Int} {j : Nat} (hA : Sounds Tryd.prog (A n)) {u : U} {H : Heap} (h : R n V j = some (u, H)) : Answers Tryd.prog 27 (us V j) (HA V j) u H := answers_env tabOk mixed hA Tryd.func27 (by kernel_rfl) (by kernel_rfl) h
end I_SumOf

namespace S_SumOf
abbrev num : Nat := 32
noncomputable def A (n : Nat) : List (Nat × Con) := ((fun (n : Nat) => ([(55, CSum)] : List (Nat × Con)))) n
noncomputable abbrev E (n : Nat) : Env (U × Heap) := envC tab ios (A n)
def L : List (List Nat) := []
abbrev us (V : List Int) (j : Nat) : List U := (((fun (V : List Int) (j : Nat) => (([.rsl [.ints .u16 V] j] : List U), ([] : Heap)))) V j).1
abbrev HA (V : List Int) (j : Nat) : Heap := (((fun (V : List Int) (j : Nat) => (([.rsl [.ints .u16 V] j] : List U), ([] : Heap)))) V j).2
noncomputable def R (n : Nat) (V : List Int) (j : Nat) : Res := run (E n) n Tryd.f32 L (us V j) (HA V j) k0
theorem R_eq (n : Nat) (V : List Int) (j : Nat) : R n V j =
  pif ((lst V j)) (
  some (.int .u16 (suI V), [])) := by kernel_rfl
theorem ans {n : Nat} {V : List Int} {j : Nat} (hA : Sounds Tryd.prog (A n)) {u : U} {H : Heap} (h : R n V j = some (u, H)) : Answers Tryd.prog 32 (us V j) (HA V j) u H := answers_env tabOk mixed hA Tryd.func32 (by kernel_rfl) (by kernel_rfl) h
end S_SumOf

namespace I_Lead
abbrev num : Nat := 28
noncomputable def A (n : Nat) : List (Nat × Con) := ((fun (n : Nat) => ([(54, CSum)] : List (Nat × Con)))) n
noncomputable abbrev E (n : Nat) : Env (U × Heap) := envC tab ios (A n)
def L : List (List Nat) := [[12, 5, 10, 11]]
abbrev us (V : List Int) (j : Nat) : List U := (((fun (V : List Int) (j : Nat) => (([.rsl [.ints .u16 V] j] : List U), ([] : Heap)))) V j).1
abbrev HA (V : List Int) (j : Nat) : Heap := (((fun (V : List Int) (j : Nat) => (([.rsl [.ints .u16 V] j] : List U), ([] : Heap)))) V j).2
def S0 (t12 : Int) (t5 : Int) (t10_0 : List Int) (t10n : Nat) (t11 : Int) : St := ⟨[(12, .int .i64 t12), (5, .int .u16 t5), (10, .rsl [.ints .u16 t10_0] t10n), (11, .int .i64 t11)], 27, [], [], 0⟩
noncomputable def N0 (n : Nat)  (m0 : Nat) (t12 : Int) (t5 : Int) (t10_0 : List Int) (t10n : Nat) (t11 : Int) : Res := nodeRun (E n) n Tryd.f28 L k0 [true, true, false, true, false] [] m0 (S0 t12 t5 t10_0 t10n t11)
theorem N0_succ (n : Nat)  (m0 : Nat) (t12 : Int) (t5 : Int) (t10_0 : List Int) (t10n : Nat) (t11 : Int) : N0 n  (m0 + 1) t12 t5 t10_0 t10n t11 =
  bif decide (t12 < t11) then
   bif decide (((0 : Int) ≤ t12) ∧ (t12 < ((t10n : Nat) : Int))) then
   bif decide ((intBitsV .xor .u16 (List.getD t10_0 (Int.toNat t12) (0 : Int)) t5) < (List.getD t10_0 (Int.toNat t12) (0 : Int))) then
     some (.tup [.int .i64 t12, .int .u16 (intBitsV .xor .u16 (List.getD t10_0 (Int.toNat t12) (0 : Int)) t5), .int .i64 (0 : Int)], [])
    else
     N0 n m0 (IntKind.wrap .i64 (t12 + (1 : Int))) t5 t10_0 t10n t11
   else none
  else
   some (.tup [.int .i64 (0 : Int), .int .u16 (0 : Int), .int .i64 (6 : Int)], []) := by kernel_rfl
noncomputable def R (n : Nat) (V : List Int) (j : Nat) : Res := run (E n) n Tryd.f28 L (us V j) (HA V j) k0
theorem R_eq (n : Nat) (V : List Int) (j : Nat) : R n V j =
  pif ((lst V j)) (
  N0 n n (0 : Int) (suI V) V j ((j : Nat) : Int)) := by kernel_rfl
theorem ans {n : Nat} {V : List Int} {j : Nat} (hA : Sounds Tryd.prog (A n)) {u : U} {H : Heap} (h : R n V j = some (u, H)) : Answers Tryd.prog 28 (us V j) (HA V j) u H := answers_env tabOk mixed hA Tryd.func28 (by kernel_rfl) (by kernel_rfl) h
end I_Lead

namespace S_Lead
abbrev num : Nat := 29
noncomputable def A (n : Nat) : List (Nat × Con) := ((fun (n : Nat) => ([(55, CSum)] : List (Nat × Con)))) n
noncomputable abbrev E (n : Nat) : Env (U × Heap) := envC tab ios (A n)
def L : List (List Nat) := [[6, 5, 0]]
abbrev us (V : List Int) (j : Nat) : List U := (((fun (V : List Int) (j : Nat) => (([.rsl [.ints .u16 V] j] : List U), ([] : Heap)))) V j).1
abbrev HA (V : List Int) (j : Nat) : Heap := (((fun (V : List Int) (j : Nat) => (([.rsl [.ints .u16 V] j] : List U), ([] : Heap)))) V j).2
def S0 (t6 : Int) (t5 : Int) (t0_0 : List Int) (t0n : Nat) : St := ⟨[(6, .int .i64 t6), (5, .int .u16 t5), (0, .rsl [.ints .u16 t0_0] t0n)], 33, [], [], 0⟩
noncomputable def N0 (n : Nat)  (m0 : Nat) (t6 : Int) (t5 : Int) (t0_0 : List Int) (t0n : Nat) : Res := nodeRun (E n) n Tryd.f29 L k0 [true, true, false, true, false] [] m0 (S0 t6 t5 t0_0 t0n)
theorem N0_succ (n : Nat)  (m0 : Nat) (t6 : Int) (t5 : Int) (t0_0 : List Int) (t0n : Nat) : N0 n  (m0 + 1) t6 t5 t0_0 t0n =
  bif decide (t6 < ((t0n : Nat) : Int)) then
   bif decide (((0 : Int) ≤ t6) ∧ (t6 < ((t0n : Nat) : Int))) then
   bif decide (((0 : Int) ≤ t6) ∧ (t6 < ((t0n : Nat) : Int))) then
    bif decide ((intBitsV .xor .u16 (List.getD t0_0 (Int.toNat t6) (0 : Int)) t5) < (List.getD t0_0 (Int.toNat t6) (0 : Int))) then
      bif decide (((0 : Int) ≤ t6) ∧ (t6 < ((t0n : Nat) : Int))) then
      some (.tup [.int .i64 t6, .int .u16 (intBitsV .xor .u16 (List.getD t0_0 (Int.toNat t6) (0 : Int)) t5), .int .i64 (0 : Int)], [])
      else none
     else
      N0 n m0 (IntKind.wrap .i64 (t6 + (1 : Int))) t5 t0_0 t0n
    else none
   else none
  else
   some (.tup [.int .i64 (0 : Int), .int .u16 (0 : Int), .int .i64 (6 : Int)], []) := by kernel_rfl
noncomputable def R (n : Nat) (V : List Int) (j : Nat) : Res := run (E n) n Tryd.f29 L (us V j) (HA V j) k0
theorem R_eq (n : Nat) (V : List Int) (j : Nat) : R n V j =
  pif ((lst V j)) (
  N0 n n (0 : Int) (suI V) V j) := by kernel_rfl
theorem ans {n : Nat} {V : List Int} {j : Nat} (hA : Sounds Tryd.prog (A n)) {u : U} {H : Heap} (h : R n V j = some (u, H)) : Answers Tryd.prog 29 (us V j) (HA V j) u H := answers_env tabOk mixed hA Tryd.func29 (by kernel_rfl) (by kernel_rfl) h
end S_Lead

namespace I_ProdOf
abbrev num : Nat := 34
noncomputable def A (n : Nat) : List (Nat × Con) := ((fun (n : Nat) => ([(37, CMul)] : List (Nat × Con)))) n
noncomputable abbrev E (n : Nat) : Env (U × Heap) := envC tab ios (A n)
def L : List (List Nat) := [[3, 8, 6, 7]]
abbrev us (V : List Int) (j : Nat) : List U := (((fun (V : List Int) (j : Nat) => (([.rsl [.ints .u16 V] j] : List U), ([] : Heap)))) V j).1
abbrev HA (V : List Int) (j : Nat) : Heap := (((fun (V : List Int) (j : Nat) => (([.rsl [.ints .u16 V] j] : List U), ([] : Heap)))) V j).2
def S0 (t3 : Int) (t8 : Int) (t6_0 : List Int) (t6n : Nat) (t7 : Int) : St := ⟨[(3, .int .u16 t3), (8, .int .i64 t8), (6, .rsl [.ints .u16 t6_0] t6n), (7, .int .i64 t7)], 17, [], [], 0⟩
noncomputable def N0 (n : Nat)  (m0 : Nat) (t3 : Int) (t8 : Int) (t6_0 : List Int) (t6n : Nat) (t7 : Int) : Res := nodeRun (E n) n Tryd.f34 L k0 [true, true, false, true, false] [] m0 (S0 t3 t8 t6_0 t6n t7)
theorem N0_succ (n : Nat)  (m0 : Nat) (t3 : Int) (t8 : Int) (t6_0 : List Int) (t6n : Nat) (t7 : Int) : N0 n  (m0 + 1) t3 t8 t6_0 t6n t7 =
  bif decide (t8 < t7) then
   bif decide (((0 : Int) ≤ t8) ∧ (t8 < ((t6n : Nat) : Int))) then
   pif (((u16 t3) ∧ (u16 (List.getD t6_0 (Int.toNat t8) (0 : Int))))) (
    N0 n m0 (mulI t3 (List.getD t6_0 (Int.toNat t8) (0 : Int))) (IntKind.wrap .i64 (t8 + (1 : Int))) t6_0 t6n t7)
   else none
  else
   some (.int .u16 t3, []) := by kernel_rfl
noncomputable def R (n : Nat) (V : List Int) (j : Nat) : Res := run (E n) n Tryd.f34 L (us V j) (HA V j) k0
theorem R_eq (n : Nat) (V : List Int) (j : Nat) : R n V j =
  N0 n n (1 : Int) (0 : Int) V j ((j : Nat) : Int) := by kernel_rfl
theorem ans {n : Nat} {V : List Int} {j : Nat} (hA : Sounds Tryd.prog (A n)) {u : U} {H : Heap} (h : R n V j = some (u, H)) : Answers Tryd.prog 34 (us V j) (HA V j) u H := answers_env tabOk mixed hA Tryd.func34 (by kernel_rfl) (by kernel_rfl) h
end I_ProdOf

namespace I_gen
abbrev num : Nat := 66
noncomputable def A (n : Nat) : List (Nat × Con) := ((fun (n : Nat) => ([(75, CCnt1), (76, CIdx1)] : List (Nat × Con)))) n
noncomputable abbrev E (n : Nat) : Env (U × Heap) := envC tab ios (A n)
def L : List (List Nat) := [[10, 9, 0, 1, 2, 3]]
abbrev us (s : ByteArray) (sep : ByteArray) (a : Int) (b : Int) : List U := (((fun (s sep : ByteArray) (a b : Int) => (([.str s, .str sep, .int .i64 a, .int .i64 b] : List U), ([] : Heap)))) s sep a b).1
abbrev HA (s : ByteArray) (sep : ByteArray) (a : Int) (b : Int) : Heap := (((fun (s sep : ByteArray) (a b : Int) => (([.str s, .str sep, .int .i64 a, .int .i64 b] : List U), ([] : Heap)))) s sep a b).2
def S0 (t10 : Int) (t0 : ByteArray) (t1 : ByteArray) (t2 : Int) (t3 : Int) (o0_0 : List ByteArray) : St := ⟨[(10, .int .i64 t10), (9, .own 0), (0, .str t0), (1, .str t1), (2, .int .i64 t2), (3, .int .i64 t3)], 66, [(0, ⟨[.strs o0_0], true⟩)], [0], 0⟩
noncomputable def N0 (n : Nat)  (m0 : Nat) (t10 : Int) (t0 : ByteArray) (t1 : ByteArray) (t2 : Int) (t3 : Int) (o0_0 : List ByteArray) : Res := nodeRun (E n) n Tryd.f66 L k0 [true, true, true, true, true, true, true, true, false, false] [] m0 (S0 t10 t0 t1 t2 t3 o0_0)
theorem N0_succ (n : Nat)  (m0 : Nat) (t10 : Int) (t0 : ByteArray) (t1 : ByteArray) (t2 : Int) (t3 : Int) (o0_0 : List ByteArray) : N0 n  (m0 + 1) t10 t0 t1 t2 t3 o0_0 =
  bif decide (t10 < t3) then
   pif ((isBlank t1)) (
   bif decide ((idxB t0) < (0 : Int)) then
    bif decide (((0 : Int) ≤ t10) ∧ (t10 < (((List.length o0_0) : Nat) : Int))) then
    bif decide (((0 : Int) ≤ (IntKind.wrap .i64 (t10 + (1 : Int)))) ∧ (((IntKind.wrap .i64 (t10 + (1 : Int))) ≤ (((List.length (List.set o0_0 (Int.toNat t10) t0)) : Nat) : Int)) ∧ (((0 : Int) ≤ (0 : Int)) ∧ ((0 : Int) ≤ (IntKind.wrap .i64 (t10 + (1 : Int))))))) then
     some (.sl 0 0 ((Int.toNat (IntKind.wrap .i64 (t10 + (1 : Int)))) - 0), [(0, ⟨[.strs (List.set o0_0 (Int.toNat t10) t0)], true⟩)])
     else none
    else none
   else
    bif decide (((0 : Int) ≤ (IntKind.wrap .i64 ((idxB t0) + t2))) ∧ (((IntKind.wrap .i64 ((idxB t0) + t2)) ≤ (((ByteArray.size t0) : Nat) : Int)) ∧ (((0 : Int) ≤ (0 : Int)) ∧ ((0 : Int) ≤ (IntKind.wrap .i64 ((idxB t0) + t2)))))) then
    bif decide (((0 : Int) ≤ t10) ∧ (t10 < (((List.length o0_0) : Nat) : Int))) then
     bif decide (((0 : Int) ≤ (((ByteArray.size t0) : Nat) : Int)) ∧ (((((ByteArray.size t0) : Nat) : Int) ≤ (((ByteArray.size t0) : Nat) : Int)) ∧ (((0 : Int) ≤ (IntKind.wrap .i64 ((idxB t0) + (((ByteArray.size t1) : Nat) : Int)))) ∧ ((IntKind.wrap .i64 ((idxB t0) + (((ByteArray.size t1) : Nat) : Int))) ≤ (((ByteArray.size t0) : Nat) : Int))))) then
      N0 n m0 (IntKind.wrap .i64 (t10 + (1 : Int))) (subS t0 (Int.toNat (IntKind.wrap .i64 ((idxB t0) + (((ByteArray.size t1) : Nat) : Int)))) (Int.toNat (((ByteArray.size t0) : Nat) : Int))) t1 t2 t3 (List.set o0_0 (Int.toNat t10) (subS t0 0 (Int.toNat (IntKind.wrap .i64 ((idxB t0) + t2)))))
      else none
     else none
    else none)
  else
   bif decide (((0 : Int) ≤ t10) ∧ (t10 < (((List.length o0_0) : Nat) : Int))) then
   bif decide (((0 : Int) ≤ (IntKind.wrap .i64 (t10 + (1 : Int)))) ∧ (((IntKind.wrap .i64 (t10 + (1 : Int))) ≤ (((List.length (List.set o0_0 (Int.toNat t10) t0)) : Nat) : Int)) ∧ (((0 : Int) ≤ (0 : Int)) ∧ ((0 : Int) ≤ (IntKind.wrap .i64 (t10 + (1 : Int))))))) then
    some (.sl 0 0 ((Int.toNat (IntKind.wrap .i64 (t10 + (1 : Int)))) - 0), [(0, ⟨[.strs (List.set o0_0 (Int.toNat t10) t0)], true⟩)])
    else none
   else none := by kernel_rfl
noncomputable def R (n : Nat) (s : ByteArray) (sep : ByteArray) (a : Int) (b : Int) : Res := run (E n) n Tryd.f66 L (us s sep a b) (HA s sep a b) k0
theorem R_eq (n : Nat) (s : ByteArray) (sep : ByteArray) (a : Int) (b : Int) : R n s sep a b =
  bif (b == (0 : Int)) then
   some (.nils, [])
  else
   bif (eqZ sep (ByteArray.mk #[])) then
    none
   else
    bif decide (b < (0 : Int)) then
     pif ((isBlank sep)) (
     bif decide (((0 : Int) ≤ (cond false (if ((IntKind.wrap .i64 ((((ByteArray.size s) : Nat) : Int) + (1 : Int))) > (IntKind.wrap .i64 ((cntB s) + (1 : Int)))) then (IntKind.wrap .i64 ((((ByteArray.size s) : Nat) : Int) + (1 : Int))) else (IntKind.wrap .i64 ((cntB s) + (1 : Int)))) (if ((IntKind.wrap .i64 ((((ByteArray.size s) : Nat) : Int) + (1 : Int))) < (IntKind.wrap .i64 ((cntB s) + (1 : Int)))) then (IntKind.wrap .i64 ((((ByteArray.size s) : Nat) : Int) + (1 : Int))) else (IntKind.wrap .i64 ((cntB s) + (1 : Int)))))) ∧ (((cond false (if ((IntKind.wrap .i64 ((((ByteArray.size s) : Nat) : Int) + (1 : Int))) > (IntKind.wrap .i64 ((cntB s) + (1 : Int)))) then (IntKind.wrap .i64 ((((ByteArray.size s) : Nat) : Int) + (1 : Int))) else (IntKind.wrap .i64 ((cntB s) + (1 : Int)))) (if ((IntKind.wrap .i64 ((((ByteArray.size s) : Nat) : Int) + (1 : Int))) < (IntKind.wrap .i64 ((cntB s) + (1 : Int)))) then (IntKind.wrap .i64 ((((ByteArray.size s) : Nat) : Int) + (1 : Int))) else (IntKind.wrap .i64 ((cntB s) + (1 : Int))))) * (1 : Int)) ≤ (4398046511104 : Int))) then
     N0 n n (0 : Int) s sep a (IntKind.wrap .i64 ((cond false (if ((IntKind.wrap .i64 ((((ByteArray.size s) : Nat) : Int) + (1 : Int))) > (IntKind.wrap .i64 ((cntB s) + (1 : Int)))) then (IntKind.wrap .i64 ((((ByteArray.size s) : Nat) : Int) + (1 : Int))) else (IntKind.wrap .i64 ((cntB s) + (1 : Int)))) (if ((IntKind.wrap .i64 ((((ByteArray.size s) : Nat) : Int) + (1 : Int))) < (IntKind.wrap .i64 ((cntB s) + (1 : Int)))) then (IntKind.wrap .i64 ((((ByteArray.size s) : Nat) : Int) + (1 : Int))) else (IntKind.wrap .i64 ((cntB s) + (1 : Int))))) - (1 : Int))) (List.replicate (Int.toNat (cond false (if ((IntKind.wrap .i64 ((((ByteArray.size s) : Nat) : Int) + (1 : Int))) > (IntKind.wrap .i64 ((cntB s) + (1 : Int)))) then (IntKind.wrap .i64 ((((ByteArray.size s) : Nat) : Int) + (1 : Int))) else (IntKind.wrap .i64 ((cntB s) + (1 : Int)))) (if ((IntKind.wrap .i64 ((((ByteArray.size s) : Nat) : Int) + (1 : Int))) < (IntKind.wrap .i64 ((cntB s) + (1 : Int)))) then (IntKind.wrap .i64 ((((ByteArray.size s) : Nat) : Int) + (1 : Int))) else (IntKind.wrap .i64 ((cntB s) + (1 : Int)))))) (ByteArray.mk #[]))
     else none)
    else
     bif decide (((0 : Int) ≤ (cond false (if ((IntKind.wrap .i64 ((((ByteArray.size s) : Nat) : Int) + (1 : Int))) > b) then (IntKind.wrap .i64 ((((ByteArray.size s) : Nat) : Int) + (1 : Int))) else b) (if ((IntKind.wrap .i64 ((((ByteArray.size s) : Nat) : Int) + (1 : Int))) < b) then (IntKind.wrap .i64 ((((ByteArray.size s) : Nat) : Int) + (1 : Int))) else b))) ∧ (((cond false (if ((IntKind.wrap .i64 ((((ByteArray.size s) : Nat) : Int) + (1 : Int))) > b) then (IntKind.wrap .i64 ((((ByteArray.size s) : Nat) : Int) + (1 : Int))) else b) (if ((IntKind.wrap .i64 ((((ByteArray.size s) : Nat) : Int) + (1 : Int))) < b) then (IntKind.wrap .i64 ((((ByteArray.size s) : Nat) : Int) + (1 : Int))) else b)) * (1 : Int)) ≤ (4398046511104 : Int))) then
     N0 n n (0 : Int) s sep a (IntKind.wrap .i64 ((cond false (if ((IntKind.wrap .i64 ((((ByteArray.size s) : Nat) : Int) + (1 : Int))) > b) then (IntKind.wrap .i64 ((((ByteArray.size s) : Nat) : Int) + (1 : Int))) else b) (if ((IntKind.wrap .i64 ((((ByteArray.size s) : Nat) : Int) + (1 : Int))) < b) then (IntKind.wrap .i64 ((((ByteArray.size s) : Nat) : Int) + (1 : Int))) else b)) - (1 : Int))) (List.replicate (Int.toNat (cond false (if ((IntKind.wrap .i64 ((((ByteArray.size s) : Nat) : Int) + (1 : Int))) > b) then (IntKind.wrap .i64 ((((ByteArray.size s) : Nat) : Int) + (1 : Int))) else b) (if ((IntKind.wrap .i64 ((((ByteArray.size s) : Nat) : Int) + (1 : Int))) < b) then (IntKind.wrap .i64 ((((ByteArray.size s) : Nat) : Int) + (1 : Int))) else b))) (ByteArray.mk #[]))
     else none := by kernel_rfl
theorem ans {n : Nat} {s : ByteArray} {sep : ByteArray} {a : Int} {b : Int} (hA : Sounds Tryd.prog (A n)) {u : U} {H : Heap} (h : R n s sep a b = some (u, H)) : Answers Tryd.prog 66 (us s sep a b) (HA s sep a b) u H := answers_env tabOk mixed hA Tryd.func66 (by kernel_rfl) (by kernel_rfl) h
end I_gen

namespace I_Split
abbrev num : Nat := 56
noncomputable def A (n : Nat) : List (Nat × Con) := ((fun (n : Nat) => ([(66, CGen)] : List (Nat × Con)))) n
noncomputable abbrev E (n : Nat) : Env (U × Heap) := envC tab ios (A n)
def L : List (List Nat) := []
abbrev us (s : ByteArray) (sep : ByteArray) : List U := (((fun (s sep : ByteArray) => (([.str s, .str sep] : List U), ([] : Heap)))) s sep).1
abbrev HA (s : ByteArray) (sep : ByteArray) : Heap := (((fun (s sep : ByteArray) => (([.str s, .str sep] : List U), ([] : Heap)))) s sep).2
noncomputable def R (n : Nat) (s : ByteArray) (sep : ByteArray) : Res := run (E n) n Tryd.f56 L (us s sep) (HA s sep) k0
theorem R_eq (n : Nat) (s : ByteArray) (sep : ByteArray) : R n s sep =
  pif (((isBlank sep) ∧ ((shortS s) ∧ (((0 : Int) = (0 : Int)) ∧ ((-1 : Int) = (-1 : Int)))))) (
  some (.sl 0 0 (List.length (splB s)), [(0, ⟨[.strs (splB s)], true⟩)])) := by kernel_rfl
theorem ans {n : Nat} {s : ByteArray} {sep : ByteArray} (hA : Sounds Tryd.prog (A n)) {u : U} {H : Heap} (h : R n s sep = some (u, H)) : Answers Tryd.prog 56 (us s sep) (HA s sep) u H := answers_env tabOk mixed hA Tryd.func56 (by kernel_rfl) (by kernel_rfl) h
end I_Split

namespace I_nimsT
abbrev num : Nat := 57
noncomputable def A (n : Nat) : List (Nat × Con) := ((fun (n : Nat) => ([(18, CNimText), (67, CJoin)] : List (Nat × Con)))) n
noncomputable abbrev E (n : Nat) : Env (U × Heap) := envC tab ios (A n)
def L : List (List Nat) := [[3, 9, 7, 8]]
abbrev us (V : List Int) (j : Nat) : List U := (((fun (V : List Int) (j : Nat) => (([.rsl [.ints .u16 V] j] : List U), ([] : Heap)))) V j).1
abbrev HA (V : List Int) (j : Nat) : Heap := (((fun (V : List Int) (j : Nat) => (([.rsl [.ints .u16 V] j] : List U), ([] : Heap)))) V j).2
def S0 (t9 : Int) (t7_0 : List Int) (t7n : Nat) (t8 : Int) (o0_0 : List ByteArray) : St := ⟨[(3, .own 0), (9, .int .i64 t9), (7, .rsl [.ints .u16 t7_0] t7n), (8, .int .i64 t8)], 21, [(0, ⟨[.strs o0_0], true⟩)], [0], 0⟩
noncomputable def N0 (n : Nat)  (m0 : Nat) (t9 : Int) (t7_0 : List Int) (t7n : Nat) (t8 : Int) (o0_0 : List ByteArray) : Res := nodeRun (E n) n Tryd.f57 L k0 [true, true, false, true, false] [] m0 (S0 t9 t7_0 t7n t8 o0_0)
theorem N0_succ (n : Nat)  (m0 : Nat) (t9 : Int) (t7_0 : List Int) (t7n : Nat) (t8 : Int) (o0_0 : List ByteArray) : N0 n  (m0 + 1) t9 t7_0 t7n t8 o0_0 =
  bif decide (t9 < t8) then
   bif decide (((0 : Int) ≤ t9) ∧ (t9 < ((t7n : Nat) : Int))) then
   pif ((u16 (List.getD t7_0 (Int.toNat t9) (0 : Int)))) (
    bif decide ((((List.length o0_0) + 1) * 1) ≤ 4398046511104) then
    N0 n m0 (IntKind.wrap .i64 (t9 + (1 : Int))) t7_0 t7n t8 (o0_0 ++ [(nimS (List.getD t7_0 (Int.toNat t9) (0 : Int)))])
    else none)
   else none
  else
   pif (((strsOk o0_0 (List.length o0_0)) ∧ (isBlank (ByteArray.mk #[32])))) (
   some (.str (joinB o0_0 (ByteArray.mk #[32])), [])) := by kernel_rfl
noncomputable def R (n : Nat) (V : List Int) (j : Nat) : Res := run (E n) n Tryd.f57 L (us V j) (HA V j) k0
theorem R_eq (n : Nat) (V : List Int) (j : Nat) : R n V j =
  N0 n n (0 : Int) V j ((j : Nat) : Int) [] := by kernel_rfl
theorem ans {n : Nat} {V : List Int} {j : Nat} (hA : Sounds Tryd.prog (A n)) {u : U} {H : Heap} (h : R n V j = some (u, H)) : Answers Tryd.prog 57 (us V j) (HA V j) u H := answers_env tabOk mixed hA Tryd.func57 (by kernel_rfl) (by kernel_rfl) h
end I_nimsT

namespace I_NimsT
abbrev num : Nat := 31
noncomputable def A (n : Nat) : List (Nat × Con) := ((fun (n : Nat) => ([(57, CNimsT)] : List (Nat × Con)))) n
noncomputable abbrev E (n : Nat) : Env (U × Heap) := envC tab ios (A n)
def L : List (List Nat) := []
abbrev us (V : List Int) (j : Nat) : List U := (((fun (V : List Int) (j : Nat) => (([.rsl [.ints .u16 V] j] : List U), ([] : Heap)))) V j).1
abbrev HA (V : List Int) (j : Nat) : Heap := (((fun (V : List Int) (j : Nat) => (([.rsl [.ints .u16 V] j] : List U), ([] : Heap)))) V j).2
noncomputable def R (n : Nat) (V : List Int) (j : Nat) : Res := run (E n) n Tryd.f31 L (us V j) (HA V j) k0
theorem R_eq (n : Nat) (V : List Int) (j : Nat) : R n V j =
  pif ((lst2 V j)) (
  some (.str (nimsS V), [])) := by kernel_rfl
theorem ans {n : Nat} {V : List Int} {j : Nat} (hA : Sounds Tryd.prog (A n)) {u : U} {H : Heap} (h : R n V j = some (u, H)) : Answers Tryd.prog 31 (us V j) (HA V j) u H := answers_env tabOk mixed hA Tryd.func31 (by kernel_rfl) (by kernel_rfl) h
end I_NimsT

namespace I_ReadNims
abbrev num : Nat := 30
noncomputable def A (n : Nat) : List (Nat × Con) := ((fun (n : Nat) => ([(56, CSplit), (17, CReadNim)] : List (Nat × Con)))) n
noncomputable abbrev E (n : Nat) : Env (U × Heap) := envC tab ios (A n)
def L : List (List Nat) := [[4, 16, 14, 15]]
abbrev us (s : ByteArray) : List U := (((fun (s : ByteArray) => (([.str s] : List U), ([] : Heap)))) s).1
abbrev HA (s : ByteArray) : Heap := (((fun (s : ByteArray) => (([.str s] : List U), ([] : Heap)))) s).2
def S0 (t16 : Int) (t14n : Nat) (t15 : Int) (o0_0 : List Int) (o1_0 : List ByteArray) : St := ⟨[(4, .own 0), (16, .int .i64 t16), (14, .sl 1 0 t14n), (15, .int .i64 t15)], 34, [(0, ⟨[.ints .u16 o0_0], true⟩), (1, ⟨[.strs o1_0], true⟩)], [0, 1], 0⟩
noncomputable def N0 (n : Nat)  (m0 : Nat) (t16 : Int) (t14n : Nat) (t15 : Int) (o0_0 : List Int) (o1_0 : List ByteArray) : Res := nodeRun (E n) n Tryd.f30 L k0 [true, true, true, false, true, false] [] m0 (S0 t16 t14n t15 o0_0 o1_0)
theorem N0_succ (n : Nat)  (m0 : Nat) (t16 : Int) (t14n : Nat) (t15 : Int) (o0_0 : List Int) (o1_0 : List ByteArray) : N0 n  (m0 + 1) t16 t14n t15 o0_0 o1_0 =
  bif decide (t16 < t15) then
   bif decide (((0 : Int) ≤ t16) ∧ (t16 < ((t14n : Nat) : Int))) then
   pif ((shortS (List.getD o1_0 (0 + (Int.toNat t16)) (ByteArray.mk #[])))) (
    bif ((rdE (List.getD o1_0 (0 + (Int.toNat t16)) (ByteArray.mk #[]))) != (0 : Int)) then
     some (.tup [.nils, .int .i64 (rdE (List.getD o1_0 (0 + (Int.toNat t16)) (ByteArray.mk #[])))], [])
    else
     bif decide ((((List.length o0_0) + 1) * 1) ≤ 4398046511104) then
     N0 n m0 (IntKind.wrap .i64 (t16 + (1 : Int))) t14n t15 (o0_0 ++ [(rdV (List.getD o1_0 (0 + (Int.toNat t16)) (ByteArray.mk #[])))]) o1_0
     else none)
   else none
  else
   some (.tup [.own 0, .int .i64 (0 : Int)], [(0, ⟨[.ints .u16 o0_0], true⟩)]) := by kernel_rfl
noncomputable def R (n : Nat) (s : ByteArray) : Res := run (E n) n Tryd.f30 L (us s) (HA s) k0
theorem R_eq (n : Nat) (s : ByteArray) : R n s =
  bif (eqZ s (ByteArray.mk #[])) then
   some (.tup [.own 0, .int .i64 (0 : Int)], [(0, ⟨[.ints .u16 []], true⟩)])
  else
   pif (((isBlank (ByteArray.mk #[32])) ∧ (shortS s))) (
   N0 n n (0 : Int) (List.length (splB s)) (((List.length (splB s)) : Nat) : Int) [] (splB s)) := by kernel_rfl
theorem ans {n : Nat} {s : ByteArray} (hA : Sounds Tryd.prog (A n)) {u : U} {H : Heap} (h : R n s = some (u, H)) : Answers Tryd.prog 30 (us s) (HA s) u H := answers_env tabOk mixed hA Tryd.func30 (by kernel_rfl) (by kernel_rfl) h
end I_ReadNims

namespace S_same5
abbrev num : Nat := 58
noncomputable def A (n : Nat) : List (Nat × Con) := ((fun (n : Nat) => ([] : List (Nat × Con)))) n
noncomputable abbrev E (n : Nat) : Env (U × Heap) := envC tab ios (A n)
def L : List (List Nat) := [[5, 1, 0]]
abbrev us (lo : List Int) (lo' : List Int) (jo : Nat) (jo' : Nat) : List U := (((fun (lo lo' : List Int) (jo jo' : Nat) => (([.rsl [.ints .u16 lo] jo, .rsl [.ints .u16 lo'] jo'] : List U), ([] : Heap)))) lo lo' jo jo').1
abbrev HA (lo : List Int) (lo' : List Int) (jo : Nat) (jo' : Nat) : Heap := (((fun (lo lo' : List Int) (jo jo' : Nat) => (([.rsl [.ints .u16 lo] jo, .rsl [.ints .u16 lo'] jo'] : List U), ([] : Heap)))) lo lo' jo jo').2
def S0 (t5 : Int) (t1_0 : List Int) (t1n : Nat) (t0_0 : List Int) (t0n : Nat) : St := ⟨[(5, .int .i64 t5), (1, .rsl [.ints .u16 t1_0] t1n), (0, .rsl [.ints .u16 t0_0] t0n)], 26, [], [], 0⟩
noncomputable def N0 (n : Nat)  (m0 : Nat) (t5 : Int) (t1_0 : List Int) (t1n : Nat) (t0_0 : List Int) (t0n : Nat) : Res := nodeRun (E n) n Tryd.f58 L k0 [true, true, false, true, false] [] m0 (S0 t5 t1_0 t1n t0_0 t0n)
theorem N0_succ (n : Nat)  (m0 : Nat) (t5 : Int) (t1_0 : List Int) (t1n : Nat) (t0_0 : List Int) (t0n : Nat) : N0 n  (m0 + 1) t5 t1_0 t1n t0_0 t0n =
  bif decide (t5 < ((t0n : Nat) : Int)) then
   bif decide (((0 : Int) ≤ t5) ∧ (t5 < ((t0n : Nat) : Int))) then
   bif decide (((0 : Int) ≤ t5) ∧ (t5 < ((t1n : Nat) : Int))) then
    bif ((List.getD t0_0 (Int.toNat t5) (0 : Int)) != (List.getD t1_0 (Int.toNat t5) (0 : Int))) then
      some (.bool false, [])
     else
      N0 n m0 (IntKind.wrap .i64 (t5 + (1 : Int))) t1_0 t1n t0_0 t0n
    else none
   else none
  else
   some (.bool true, []) := by kernel_rfl
noncomputable def R (n : Nat) (lo : List Int) (lo' : List Int) (jo : Nat) (jo' : Nat) : Res := run (E n) n Tryd.f58 L (us lo lo' jo jo') (HA lo lo' jo jo') k0
theorem R_eq (n : Nat) (lo : List Int) (lo' : List Int) (jo : Nat) (jo' : Nat) : R n lo lo' jo jo' =
  bif (((jo : Nat) : Int) != ((jo' : Nat) : Int)) then
   some (.bool false, [])
  else
   N0 n n (0 : Int) lo' jo' lo jo := by kernel_rfl
theorem ans {n : Nat} {lo : List Int} {lo' : List Int} {jo : Nat} {jo' : Nat} (hA : Sounds Tryd.prog (A n)) {u : U} {H : Heap} (h : R n lo lo' jo jo' = some (u, H)) : Answers Tryd.prog 58 (us lo lo' jo jo') (HA lo lo' jo jo') u H := answers_env tabOk mixed hA Tryd.func58 (by kernel_rfl) (by kernel_rfl) h
end S_same5

namespace S_A2Same
abbrev num : Nat := 33
noncomputable def A (n : Nat) : List (Nat × Con) := ((fun (n : Nat) => ([(58, CEqU)] : List (Nat × Con)))) n
noncomputable abbrev E (n : Nat) : Env (U × Heap) := envC tab ios (A n)
def L : List (List Nat) := []
abbrev us (lo : List Int) (lo' : List Int) (jo : Nat) (jo' : Nat) : List U := (((fun (lo lo' : List Int) (jo jo' : Nat) => (([.rsl [.ints .u16 lo] jo, .rsl [.ints .u16 lo'] jo'] : List U), ([] : Heap)))) lo lo' jo jo').1
abbrev HA (lo : List Int) (lo' : List Int) (jo : Nat) (jo' : Nat) : Heap := (((fun (lo lo' : List Int) (jo jo' : Nat) => (([.rsl [.ints .u16 lo] jo, .rsl [.ints .u16 lo'] jo'] : List U), ([] : Heap)))) lo lo' jo jo').2
noncomputable def R (n : Nat) (lo : List Int) (lo' : List Int) (jo : Nat) (jo' : Nat) : Res := run (E n) n Tryd.f33 L (us lo lo' jo jo') (HA lo lo' jo jo') k0
theorem R_eq (n : Nat) (lo : List Int) (lo' : List Int) (jo : Nat) (jo' : Nat) : R n lo lo' jo jo' =
  pif (((ul lo jo) ∧ (ul lo' jo'))) (
  some (.bool (eqI lo lo'), [])) := by kernel_rfl
theorem ans {n : Nat} {lo : List Int} {lo' : List Int} {jo : Nat} {jo' : Nat} (hA : Sounds Tryd.prog (A n)) {u : U} {H : Heap} (h : R n lo lo' jo jo' = some (u, H)) : Answers Tryd.prog 33 (us lo lo' jo jo') (HA lo lo' jo jo') u H := answers_env tabOk mixed hA Tryd.func33 (by kernel_rfl) (by kernel_rfl) h
end S_A2Same

end Go.VM
