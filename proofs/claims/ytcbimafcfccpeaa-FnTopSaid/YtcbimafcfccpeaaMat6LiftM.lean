/- Written by a program of this session (Lift.lean): what the evaluator comes to, function by function; the kernel checks it. The conditions: those of the contracts. -/
import Derived.Test.YtcbimafcfccpeaaVmP5
import Derived.Test.YtcbimafcfccpeaaPolyT
import Derived.Test.YtcbimafcfccpeaaPolyTS
import Derived.Test.YtcbimafcfccpeaaTopConM
import Derived.KernelRfl
set_option linter.unusedVariables false
set_option linter.unusedSimpArgs false
set_option linter.unusedSectionVars false
namespace Go.VM
open Go Go.Proofs Go.Fn NimF
set_option linter.unusedVariables false
set_option maxRecDepth 100000
namespace I_valid
abbrev num : Nat := 96
noncomputable def A (n : Nat) : List (Nat × Con) := ((fun (n : Nat) => ([(69, CIn)] : List (Nat × Con)))) n
noncomputable abbrev E (n : Nat) : Env (U × Heap) := envC tab ios (A n)
def L : List (List Nat) := [[17, 1], [1, 17, 20, 3]]
abbrev us (r : Int) (c : Int) (l : List Int) : List U := (((fun (r c : Int) (l : List Int) => (([.agg [.int .i8 r, .int .i8 c, .vec .u16 36 l]] : List U), ([] : Heap)))) r c l).1
abbrev HA (r : Int) (c : Int) (l : List Int) : Heap := (((fun (r c : Int) (l : List Int) => (([.agg [.int .i8 r, .int .i8 c, .vec .u16 36 l]] : List U), ([] : Heap)))) r c l).2
def S0 (t17 : Int) (o0_0 : Int) (o0_1 : Int) (o0_2 : List Int) : St := ⟨[(17, .int .i8 t17), (1, .ptr 0 0 0 0 1)], 44, [(0, ⟨[.ints .i8 [o0_0], .ints .i8 [o0_1], .vecs .u16 36 [o0_2]], true⟩)], [0], 0⟩
noncomputable def N0 (n : Nat)  (m0 : Nat) (t17 : Int) (o0_0 : Int) (o0_1 : Int) (o0_2 : List Int) : Res := nodeRun (E n) n Try.f96 L k0 [true, true, false, true, false] [] m0 (S0 t17 o0_0 o0_1 o0_2)
def S1 (t17 : Int) (t20 : Int) (t3 : Int) (o0_0 : Int) (o0_1 : Int) (o0_2 : List Int) : St := ⟨[(1, .ptr 0 0 0 0 1), (17, .int .i8 t17), (20, .int .i8 t20), (3, .int .i8 t3)], 44, [(0, ⟨[.ints .i8 [o0_0], .ints .i8 [o0_1], .vecs .u16 36 [o0_2]], true⟩)], [0], 0⟩
noncomputable def N1 (n : Nat) (m0 : Nat) (m1 : Nat) (t17 : Int) (t20 : Int) (t3 : Int) (o0_0 : Int) (o0_1 : Int) (o0_2 : List Int) : Res := nodeRun (E n) n Try.f96 L k0 [true, true, false, true, false, false, true, true, false, false, true, true, false] [m0] m1 (S1 t17 t20 t3 o0_0 o0_1 o0_2)
theorem N0_succ (n : Nat)  (m0 : Nat) (t17 : Int) (o0_0 : Int) (o0_1 : Int) (o0_2 : List Int) : N0 n  (m0 + 1) t17 o0_0 o0_1 o0_2 =
  bif decide (t17 < (6 : Int)) then
   N1 n m0 n t17 (0 : Int) t17 o0_0 o0_1 o0_2
  else
   some (.bool true, []) := by kernel_rfl
theorem N1_succ (n : Nat) (m0 : Nat) (m1 : Nat) (t17 : Int) (t20 : Int) (t3 : Int) (o0_0 : Int) (o0_1 : Int) (o0_2 : List Int) : N1 n m0 (m1 + 1) t17 t20 t3 o0_0 o0_1 o0_2 =
  bif decide (t20 < (6 : Int)) then
   bif decide (((0 : Int) ≤ t3) ∧ (t3 < (6 : Int))) then
   bif decide (((0 : Int) ≤ t20) ∧ (t20 < (6 : Int))) then
    bif ((List.getD o0_2 ((0 + ((Int.toNat t3) * 6)) + ((Int.toNat t20) * 1)) (0 : Int)) != (0 : Int)) then
      bif decide (t3 ≥ o0_0) then
       some (.bool false, [])
      else
       bif decide (t20 ≥ o0_1) then
        some (.bool false, [])
       else
        N1 n m0 m1 t17 (IntKind.wrap .i8 (t20 + (1 : Int))) t3 o0_0 o0_1 o0_2
     else
      N1 n m0 m1 t17 (IntKind.wrap .i8 (t20 + (1 : Int))) t3 o0_0 o0_1 o0_2
    else none
   else none
  else
   N0 n m0 (IntKind.wrap .i8 (t17 + (1 : Int))) o0_0 o0_1 o0_2 := by kernel_rfl
noncomputable def R (n : Nat) (r : Int) (c : Int) (l : List Int) : Res := run (E n) n Try.f96 L (us r c l) (HA r c l) k0
theorem R_eq (n : Nat) (r : Int) (c : Int) (l : List Int) : R n r c l =
  pif (True) (
  bif (!(inB (IntKind.wrap .i64 r) (1 : Int) (6 : Int))) then
   some (.bool false, [])
  else
   pif (True) (
   bif (!(inB (IntKind.wrap .i64 c) (1 : Int) (6 : Int))) then
    some (.bool false, [])
   else
    N0 n n (0 : Int) r c l)) := by kernel_rfl
theorem ans {n : Nat} {r : Int} {c : Int} {l : List Int} (hA : Sounds Try.prog (A n)) {u : U} {H : Heap} (h : R n r c l = some (u, H)) : Answers Try.prog 96 (us r c l) (HA r c l) u H := answers_env tabOk mixed hA Try.func96 (by kernel_rfl) (by kernel_rfl) h
end I_valid

namespace S_ok
abbrev num : Nat := 94
noncomputable def A (n : Nat) : List (Nat × Con) := ((fun (n : Nat) => ([(71, CIn)] : List (Nat × Con)))) n
noncomputable abbrev E (n : Nat) : Env (U × Heap) := envC tab ios (A n)
def L : List (List Nat) := [[3, 0], [0, 3, 4]]
abbrev us (r : Int) (c : Int) (l : List Int) : List U := (((fun (r c : Int) (l : List Int) => (([.rptr [.int .i8 r, .int .i8 c, .vec .u16 36 l] 0 1] : List U), ([] : Heap)))) r c l).1
abbrev HA (r : Int) (c : Int) (l : List Int) : Heap := (((fun (r c : Int) (l : List Int) => (([.rptr [.int .i8 r, .int .i8 c, .vec .u16 36 l] 0 1] : List U), ([] : Heap)))) r c l).2
def S0 (t3 : Int) (t0_0 : Int) (t0_1 : Int) (t0_2 : List Int) : St := ⟨[(3, .int .i64 t3), (0, .rptr [.int .i8 t0_0, .int .i8 t0_1, .vec .u16 36 t0_2] 0 1)], 56, [], [], 0⟩
noncomputable def N0 (n : Nat)  (m0 : Nat) (t3 : Int) (t0_0 : Int) (t0_1 : Int) (t0_2 : List Int) : Res := nodeRun (E n) n Try.f94 L k0 [true, true, false, true, false] [] m0 (S0 t3 t0_0 t0_1 t0_2)
def S1 (t0_0 : Int) (t0_1 : Int) (t0_2 : List Int) (t3 : Int) (t4 : Int) : St := ⟨[(0, .rptr [.int .i8 t0_0, .int .i8 t0_1, .vec .u16 36 t0_2] 0 1), (3, .int .i64 t3), (4, .int .i64 t4)], 56, [], [], 0⟩
noncomputable def N1 (n : Nat) (m0 : Nat) (m1 : Nat) (t0_0 : Int) (t0_1 : Int) (t0_2 : List Int) (t3 : Int) (t4 : Int) : Res := nodeRun (E n) n Try.f94 L k0 [true, true, false, true, false, false, true, false, false, true, false] [m0] m1 (S1 t0_0 t0_1 t0_2 t3 t4)
theorem N0_succ (n : Nat)  (m0 : Nat) (t3 : Int) (t0_0 : Int) (t0_1 : Int) (t0_2 : List Int) : N0 n  (m0 + 1) t3 t0_0 t0_1 t0_2 =
  bif decide (t3 < (6 : Int)) then
   N1 n m0 n t0_0 t0_1 t0_2 t3 (0 : Int)
  else
   some (.bool true, []) := by kernel_rfl
theorem N1_succ (n : Nat) (m0 : Nat) (m1 : Nat) (t0_0 : Int) (t0_1 : Int) (t0_2 : List Int) (t3 : Int) (t4 : Int) : N1 n m0 (m1 + 1) t0_0 t0_1 t0_2 t3 t4 =
  bif decide (t4 < (6 : Int)) then
   bif decide (t3 ≥ (IntKind.wrap .i64 t0_0)) then
    bif decide (((0 : Int) ≤ t3) ∧ (t3 < (6 : Int))) then
    bif decide (((0 : Int) ≤ t4) ∧ (t4 < (6 : Int))) then
     bif ((List.getD t0_2 ((0 + ((Int.toNat t3) * 6)) + ((Int.toNat t4) * 1)) (0 : Int)) != (0 : Int)) then
       some (.bool false, [])
      else
       N1 n m0 m1 t0_0 t0_1 t0_2 t3 (IntKind.wrap .i64 (t4 + (1 : Int)))
     else none
    else none
   else
    bif decide (t4 ≥ (IntKind.wrap .i64 t0_1)) then
     bif decide (((0 : Int) ≤ t3) ∧ (t3 < (6 : Int))) then
     bif decide (((0 : Int) ≤ t4) ∧ (t4 < (6 : Int))) then
      bif ((List.getD t0_2 ((0 + ((Int.toNat t3) * 6)) + ((Int.toNat t4) * 1)) (0 : Int)) != (0 : Int)) then
        some (.bool false, [])
       else
        N1 n m0 m1 t0_0 t0_1 t0_2 t3 (IntKind.wrap .i64 (t4 + (1 : Int)))
      else none
     else none
    else
     N1 n m0 m1 t0_0 t0_1 t0_2 t3 (IntKind.wrap .i64 (t4 + (1 : Int)))
  else
   N0 n m0 (IntKind.wrap .i64 (t3 + (1 : Int))) t0_0 t0_1 t0_2 := by kernel_rfl
noncomputable def R (n : Nat) (r : Int) (c : Int) (l : List Int) : Res := run (E n) n Try.f94 L (us r c l) (HA r c l) k0
theorem R_eq (n : Nat) (r : Int) (c : Int) (l : List Int) : R n r c l =
  pif (True) (
  bif (!(inB (IntKind.wrap .i64 r) (1 : Int) (6 : Int))) then
   some (.bool false, [])
  else
   pif (True) (
   bif (!(inB (IntKind.wrap .i64 c) (1 : Int) (6 : Int))) then
    some (.bool false, [])
   else
    N0 n n (0 : Int) r c l)) := by kernel_rfl
theorem ans {n : Nat} {r : Int} {c : Int} {l : List Int} (hA : Sounds Try.prog (A n)) {u : U} {H : Heap} (h : R n r c l = some (u, H)) : Answers Try.prog 94 (us r c l) (HA r c l) u H := answers_env tabOk mixed hA Try.func94 (by kernel_rfl) (by kernel_rfl) h
end S_ok

namespace S_add
abbrev num : Nat := 118
noncomputable def A (n : Nat) : List (Nat × Con) := ((fun (n : Nat) => ([(47, CMul)] : List (Nat × Con)))) n
noncomputable abbrev E (n : Nat) : Env (U × Heap) := envC tab ios (A n)
def L : List (List Nat) := [[8, 3, 1, 0, 2]]
abbrev us (r : Int) (c : Int) (l : List Int) (x : Int) (y : Int) (z : Int) : List U := (((fun (r c : Int) (l : List Int) (x y z : Int) => (([.ptr 0 0 0 0 1, .int .i64 x, .int .i64 y, .int .u16 z] : List U), ([(0, ⟨[.ints .i8 [r], .ints .i8 [c], .vecs .u16 36 [l]], true⟩)] : Heap)))) r c l x y z).1
abbrev HA (r : Int) (c : Int) (l : List Int) (x : Int) (y : Int) (z : Int) : Heap := (((fun (r c : Int) (l : List Int) (x y z : Int) => (([.ptr 0 0 0 0 1, .int .i64 x, .int .i64 y, .int .u16 z] : List U), ([(0, ⟨[.ints .i8 [r], .ints .i8 [c], .vecs .u16 36 [l]], true⟩)] : Heap)))) r c l x y z).2
def S0 (t8 : Int) (t3 : Int) (t1 : Int) (t2 : Int) (o0_0 : Int) (o0_1 : Int) (o0_2 : List Int) : St := ⟨[(8, .int .i64 t8), (3, .int .u16 t3), (1, .int .i64 t1), (0, .ptr 0 0 0 0 1), (2, .int .i64 t2)], 44, [(0, ⟨[.ints .i8 [o0_0], .ints .i8 [o0_1], .vecs .u16 36 [o0_2]], true⟩)], [0], 1⟩
noncomputable def N0 (n : Nat)  (m0 : Nat) (t8 : Int) (t3 : Int) (t1 : Int) (t2 : Int) (o0_0 : Int) (o0_1 : Int) (o0_2 : List Int) : Res := nodeRun (E n) n Try.f118 L k0 [true, false] [] m0 (S0 t8 t3 t1 t2 o0_0 o0_1 o0_2)
theorem N0_succ (n : Nat)  (m0 : Nat) (t8 : Int) (t3 : Int) (t1 : Int) (t2 : Int) (o0_0 : Int) (o0_1 : Int) (o0_2 : List Int) : N0 n  (m0 + 1) t8 t3 t1 t2 o0_0 o0_1 o0_2 =
  bif decide (t8 < (IntKind.wrap .i64 o0_1)) then
   bif decide (((0 : Int) ≤ t2) ∧ (t2 < (6 : Int))) then
   bif decide (((0 : Int) ≤ t8) ∧ (t8 < (6 : Int))) then
    bif decide (((0 : Int) ≤ t1) ∧ (t1 < (6 : Int))) then
     bif decide (((0 : Int) ≤ t8) ∧ (t8 < (6 : Int))) then
      bif decide (((0 : Int) ≤ t2) ∧ (t2 < (6 : Int))) then
       pif (((u16 (List.getD o0_2 ((0 + ((Int.toNat t1) * 6)) + ((Int.toNat t8) * 1)) (0 : Int))) ∧ (u16 t3))) (
        bif decide (((0 : Int) ≤ t8) ∧ (t8 < (6 : Int))) then
        N0 n m0 (IntKind.wrap .i64 (t8 + (1 : Int))) t3 t1 t2 o0_0 o0_1 (List.set o0_2 ((0 + ((Int.toNat t2) * 6)) + ((Int.toNat t8) * 1)) (intBitsV .xor .u16 (List.getD o0_2 ((0 + ((Int.toNat t2) * 6)) + ((Int.toNat t8) * 1)) (0 : Int)) (mulI (List.getD o0_2 ((0 + ((Int.toNat t1) * 6)) + ((Int.toNat t8) * 1)) (0 : Int)) t3)))
        else none)
       else none
      else none
     else none
    else none
   else none
  else
   some (.tup [], [(0, ⟨[.ints .i8 [o0_0], .ints .i8 [o0_1], .vecs .u16 36 [o0_2]], true⟩)]) := by kernel_rfl
noncomputable def R (n : Nat) (r : Int) (c : Int) (l : List Int) (x : Int) (y : Int) (z : Int) : Res := run (E n) n Try.f118 L (us r c l x y z) (HA r c l x y z) k0
theorem R_eq (n : Nat) (r : Int) (c : Int) (l : List Int) (x : Int) (y : Int) (z : Int) : R n r c l x y z =
  N0 n n (0 : Int) z x y r c l := by kernel_rfl
theorem ans {n : Nat} {r : Int} {c : Int} {l : List Int} {x : Int} {y : Int} {z : Int} (hA : Sounds Try.prog (A n)) {u : U} {H : Heap} (h : R n r c l x y z = some (u, H)) : Answers Try.prog 118 (us r c l x y z) (HA r c l x y z) u H := answers_env tabOk mixed hA Try.func118 (by kernel_rfl) (by kernel_rfl) h
end S_add

namespace S_swap
abbrev num : Nat := 119
noncomputable def A (n : Nat) : List (Nat × Con) := ((fun (n : Nat) => ([] : List (Nat × Con)))) n
noncomputable abbrev E (n : Nat) : Env (U × Heap) := envC tab ios (A n)
def L : List (List Nat) := []
abbrev us (r : Int) (c : Int) (l : List Int) (x : Int) (y : Int) : List U := (((fun (r c : Int) (l : List Int) (x y : Int) => (([.ptr 0 0 0 0 1, .int .i64 x, .int .i64 y] : List U), ([(0, ⟨[.ints .i8 [r], .ints .i8 [c], .vecs .u16 36 [l]], true⟩)] : Heap)))) r c l x y).1
abbrev HA (r : Int) (c : Int) (l : List Int) (x : Int) (y : Int) : Heap := (((fun (r c : Int) (l : List Int) (x y : Int) => (([.ptr 0 0 0 0 1, .int .i64 x, .int .i64 y] : List U), ([(0, ⟨[.ints .i8 [r], .ints .i8 [c], .vecs .u16 36 [l]], true⟩)] : Heap)))) r c l x y).2
noncomputable def R (n : Nat) (r : Int) (c : Int) (l : List Int) (x : Int) (y : Int) : Res := run (E n) n Try.f119 L (us r c l x y) (HA r c l x y) k0
theorem R_eq (n : Nat) (r : Int) (c : Int) (l : List Int) (x : Int) (y : Int) : R n r c l x y =
  bif decide (((0 : Int) ≤ x) ∧ (x < (6 : Int))) then
  bif decide (((0 : Int) ≤ y) ∧ (y < (6 : Int))) then
   bif decide (((0 : Int) ≤ x) ∧ (x < (6 : Int))) then
    bif decide (((0 : Int) ≤ y) ∧ (y < (6 : Int))) then
     some (.tup [], [(0, ⟨[.ints .i8 [r], .ints .i8 [c], .vecs .u16 36 [(putRow (0 + ((Int.toNat y) * 6)) 6 (getRow (0 + ((Int.toNat x) * 6)) 6 l) (putRow (0 + ((Int.toNat x) * 6)) 6 (getRow (0 + ((Int.toNat y) * 6)) 6 l) l))]], true⟩)])
     else none
    else none
   else none
  else none := by kernel_rfl
theorem ans {n : Nat} {r : Int} {c : Int} {l : List Int} {x : Int} {y : Int} (hA : Sounds Try.prog (A n)) {u : U} {H : Heap} (h : R n r c l x y = some (u, H)) : Answers Try.prog 119 (us r c l x y) (HA r c l x y) u H := answers_env tabOk mixed hA Try.func119 (by kernel_rfl) (by kernel_rfl) h
end S_swap

end Go.VM

/- Written by a program of this session (Lift.lean): what the evaluator comes to, function by function; the kernel checks it. The conditions: those of the contracts. -/
namespace Go.VM
open Go Go.Proofs Go.Fn NimF
set_option linter.unusedVariables false
set_option maxRecDepth 100000
namespace I_one
abbrev num : Nat := 93
noncomputable def A (n : Nat) : List (Nat × Con) := ((fun (n : Nat) => ([] : List (Nat × Con)))) n
noncomputable abbrev E (n : Nat) : Env (U × Heap) := envC tab ios (A n)
def L : List (List Nat) := [[2, 3, 9, 8]]
abbrev us (r : Int) : List U := (((fun (r : Int) => (([.int .i8 r] : List U), ([] : Heap)))) r).1
abbrev HA (r : Int) : Heap := (((fun (r : Int) => (([.int .i8 r] : List U), ([] : Heap)))) r).2
def S0 (t9 : Int) (t8 : Int) (o0_0 : Int) (o0_1 : Int) (o0_2 : List Int) (o1_0 : Int) (o1_1 : Int) (o1_2 : List Int) : St := ⟨[(2, .ptr 0 0 0 0 1), (3, .ptr 1 0 0 0 1), (9, .int .i8 t9), (8, .int .i8 t8)], 19, [(0, ⟨[.ints .i8 [o0_0], .ints .i8 [o0_1], .vecs .u16 36 [o0_2]], true⟩), (1, ⟨[.ints .i8 [o1_0], .ints .i8 [o1_1], .vecs .u16 36 [o1_2]], true⟩)], [0, 1], 0⟩
noncomputable def N0 (n : Nat)  (m0 : Nat) (t9 : Int) (t8 : Int) (o0_0 : Int) (o0_1 : Int) (o0_2 : List Int) (o1_0 : Int) (o1_1 : Int) (o1_2 : List Int) : Res := nodeRun (E n) n Try.f93 L k0 [true, true, false, true, false] [] m0 (S0 t9 t8 o0_0 o0_1 o0_2 o1_0 o1_1 o1_2)
theorem N0_succ (n : Nat)  (m0 : Nat) (t9 : Int) (t8 : Int) (o0_0 : Int) (o0_1 : Int) (o0_2 : List Int) (o1_0 : Int) (o1_1 : Int) (o1_2 : List Int) : N0 n  (m0 + 1) t9 t8 o0_0 o0_1 o0_2 o1_0 o1_1 o1_2 =
  bif decide (t9 < t8) then
   bif decide (((0 : Int) ≤ t9) ∧ (t9 < (6 : Int))) then
   bif decide (((0 : Int) ≤ t9) ∧ (t9 < (6 : Int))) then
    N0 n m0 (IntKind.wrap .i8 (t9 + (1 : Int))) t8 o0_0 o0_1 o0_2 o1_0 o1_1 (List.set o1_2 ((0 + ((Int.toNat t9) * 6)) + ((Int.toNat t9) * 1)) (1 : Int))
    else none
   else none
  else
   some (.agg [.int .i8 o1_0, .int .i8 o1_1, .vec .u16 36 o1_2], []) := by kernel_rfl
noncomputable def R (n : Nat) (r : Int) : Res := run (E n) n Try.f93 L (us r) (HA r) k0
theorem R_eq (n : Nat) (r : Int) : R n r =
  N0 n n (0 : Int) r (0 : Int) (0 : Int) (List.replicate 36 (0 : Int)) r r (List.replicate 36 (0 : Int)) := by kernel_rfl
theorem ans {n : Nat} {r : Int} (hA : Sounds Try.prog (A n)) {u : U} {H : Heap} (h : R n r = some (u, H)) : Answers Try.prog 93 (us r) (HA r) u H := answers_env tabOk mixed hA Try.func93 (by kernel_rfl) (by kernel_rfl) h
end I_one

namespace I_mtimes
abbrev num : Nat := 97
noncomputable def A (n : Nat) : List (Nat × Con) := ((fun (n : Nat) => ([(54, CMul)] : List (Nat × Con)))) n
noncomputable abbrev E (n : Nat) : Env (U × Heap) := envC tab ios (A n)
def L : List (List Nat) := [[4, 5, 16, 3, 2, 15], [4, 5, 3, 2, 15, 16, 21, 6, 20], [4, 5, 3, 2, 15, 16, 6, 20, 21, 26, 7, 25]]
abbrev us (r : Int) (c : Int) (l : List Int) (r' : Int) (c' : Int) (l' : List Int) : List U := (((fun (r c : Int) (l : List Int) (r' c' : Int) (l' : List Int) => (([.agg [.int .i8 r, .int .i8 c, .vec .u16 36 l], .agg [.int .i8 r', .int .i8 c', .vec .u16 36 l']] : List U), ([] : Heap)))) r c l r' c' l').1
abbrev HA (r : Int) (c : Int) (l : List Int) (r' : Int) (c' : Int) (l' : List Int) : Heap := (((fun (r c : Int) (l : List Int) (r' c' : Int) (l' : List Int) => (([.agg [.int .i8 r, .int .i8 c, .vec .u16 36 l], .agg [.int .i8 r', .int .i8 c', .vec .u16 36 l']] : List U), ([] : Heap)))) r c l r' c' l').2
def S0 (t16 : Int) (t15 : Int) (o0_0 : Int) (o0_1 : Int) (o0_2 : List Int) (o1_0 : Int) (o1_1 : Int) (o1_2 : List Int) (o2_0 : Int) (o2_1 : Int) (o2_2 : List Int) (o3_0 : Int) (o3_1 : Int) (o3_2 : List Int) : St := ⟨[(4, .ptr 0 0 0 0 1), (5, .ptr 1 0 0 0 1), (16, .int .i8 t16), (3, .ptr 2 0 0 0 1), (2, .ptr 3 0 0 0 1), (15, .int .i8 t15)], 56, [(0, ⟨[.ints .i8 [o0_0], .ints .i8 [o0_1], .vecs .u16 36 [o0_2]], true⟩), (1, ⟨[.ints .i8 [o1_0], .ints .i8 [o1_1], .vecs .u16 36 [o1_2]], true⟩), (2, ⟨[.ints .i8 [o2_0], .ints .i8 [o2_1], .vecs .u16 36 [o2_2]], true⟩), (3, ⟨[.ints .i8 [o3_0], .ints .i8 [o3_1], .vecs .u16 36 [o3_2]], true⟩)], [0, 1, 2, 3], 0⟩
noncomputable def N0 (n : Nat)  (m0 : Nat) (t16 : Int) (t15 : Int) (o0_0 : Int) (o0_1 : Int) (o0_2 : List Int) (o1_0 : Int) (o1_1 : Int) (o1_2 : List Int) (o2_0 : Int) (o2_1 : Int) (o2_2 : List Int) (o3_0 : Int) (o3_1 : Int) (o3_2 : List Int) : Res := nodeRun (E n) n Try.f97 L k0 [true, true, false, true, false] [] m0 (S0 t16 t15 o0_0 o0_1 o0_2 o1_0 o1_1 o1_2 o2_0 o2_1 o2_2 o3_0 o3_1 o3_2)
def S1 (t15 : Int) (t16 : Int) (t21 : Int) (t6 : Int) (t20 : Int) (o0_0 : Int) (o0_1 : Int) (o0_2 : List Int) (o1_0 : Int) (o1_1 : Int) (o1_2 : List Int) (o2_0 : Int) (o2_1 : Int) (o2_2 : List Int) (o3_0 : Int) (o3_1 : Int) (o3_2 : List Int) : St := ⟨[(4, .ptr 0 0 0 0 1), (5, .ptr 1 0 0 0 1), (3, .ptr 2 0 0 0 1), (2, .ptr 3 0 0 0 1), (15, .int .i8 t15), (16, .int .i8 t16), (21, .int .i8 t21), (6, .int .i8 t6), (20, .int .i8 t20)], 56, [(0, ⟨[.ints .i8 [o0_0], .ints .i8 [o0_1], .vecs .u16 36 [o0_2]], true⟩), (1, ⟨[.ints .i8 [o1_0], .ints .i8 [o1_1], .vecs .u16 36 [o1_2]], true⟩), (2, ⟨[.ints .i8 [o2_0], .ints .i8 [o2_1], .vecs .u16 36 [o2_2]], true⟩), (3, ⟨[.ints .i8 [o3_0], .ints .i8 [o3_1], .vecs .u16 36 [o3_2]], true⟩)], [0, 1, 2, 3], 0⟩
noncomputable def N1 (n : Nat) (m0 : Nat) (m1 : Nat) (t15 : Int) (t16 : Int) (t21 : Int) (t6 : Int) (t20 : Int) (o0_0 : Int) (o0_1 : Int) (o0_2 : List Int) (o1_0 : Int) (o1_1 : Int) (o1_2 : List Int) (o2_0 : Int) (o2_1 : Int) (o2_2 : List Int) (o3_0 : Int) (o3_1 : Int) (o3_2 : List Int) : Res := nodeRun (E n) n Try.f97 L k0 [true, true, false, true, false, false, true, true, false, false, true, true, false] [m0] m1 (S1 t15 t16 t21 t6 t20 o0_0 o0_1 o0_2 o1_0 o1_1 o1_2 o2_0 o2_1 o2_2 o3_0 o3_1 o3_2)
def S2 (t15 : Int) (t16 : Int) (t6 : Int) (t20 : Int) (t21 : Int) (t26 : Int) (t7 : Int) (t25 : Int) (o0_0 : Int) (o0_1 : Int) (o0_2 : List Int) (o1_0 : Int) (o1_1 : Int) (o1_2 : List Int) (o2_0 : Int) (o2_1 : Int) (o2_2 : List Int) (o3_0 : Int) (o3_1 : Int) (o3_2 : List Int) : St := ⟨[(4, .ptr 0 0 0 0 1), (5, .ptr 1 0 0 0 1), (3, .ptr 2 0 0 0 1), (2, .ptr 3 0 0 0 1), (15, .int .i8 t15), (16, .int .i8 t16), (6, .int .i8 t6), (20, .int .i8 t20), (21, .int .i8 t21), (26, .int .i8 t26), (7, .int .i8 t7), (25, .int .i8 t25)], 56, [(0, ⟨[.ints .i8 [o0_0], .ints .i8 [o0_1], .vecs .u16 36 [o0_2]], true⟩), (1, ⟨[.ints .i8 [o1_0], .ints .i8 [o1_1], .vecs .u16 36 [o1_2]], true⟩), (2, ⟨[.ints .i8 [o2_0], .ints .i8 [o2_1], .vecs .u16 36 [o2_2]], true⟩), (3, ⟨[.ints .i8 [o3_0], .ints .i8 [o3_1], .vecs .u16 36 [o3_2]], true⟩)], [0, 1, 2, 3], 0⟩
noncomputable def N2 (n : Nat) (m0 : Nat) (m1 : Nat) (m2 : Nat) (t15 : Int) (t16 : Int) (t6 : Int) (t20 : Int) (t21 : Int) (t26 : Int) (t7 : Int) (t25 : Int) (o0_0 : Int) (o0_1 : Int) (o0_2 : List Int) (o1_0 : Int) (o1_1 : Int) (o1_2 : List Int) (o2_0 : Int) (o2_1 : Int) (o2_2 : List Int) (o3_0 : Int) (o3_1 : Int) (o3_2 : List Int) : Res := nodeRun (E n) n Try.f97 L k0 [true, true, false, true, false, false, true, true, false, false, true, true, false, false, true, true, false, false, true, true, false] [m0, m1] m2 (S2 t15 t16 t6 t20 t21 t26 t7 t25 o0_0 o0_1 o0_2 o1_0 o1_1 o1_2 o2_0 o2_1 o2_2 o3_0 o3_1 o3_2)
theorem N0_succ (n : Nat)  (m0 : Nat) (t16 : Int) (t15 : Int) (o0_0 : Int) (o0_1 : Int) (o0_2 : List Int) (o1_0 : Int) (o1_1 : Int) (o1_2 : List Int) (o2_0 : Int) (o2_1 : Int) (o2_2 : List Int) (o3_0 : Int) (o3_1 : Int) (o3_2 : List Int) : N0 n  (m0 + 1) t16 t15 o0_0 o0_1 o0_2 o1_0 o1_1 o1_2 o2_0 o2_1 o2_2 o3_0 o3_1 o3_2 =
  bif decide (t16 < t15) then
   N1 n m0 n t15 t16 (0 : Int) t16 o2_1 o0_0 o0_1 o0_2 o1_0 o1_1 o1_2 o2_0 o2_1 o2_2 o3_0 o3_1 o3_2
  else
   some (.agg [.int .i8 o1_0, .int .i8 o1_1, .vec .u16 36 o1_2], []) := by kernel_rfl
theorem N1_succ (n : Nat) (m0 : Nat) (m1 : Nat) (t15 : Int) (t16 : Int) (t21 : Int) (t6 : Int) (t20 : Int) (o0_0 : Int) (o0_1 : Int) (o0_2 : List Int) (o1_0 : Int) (o1_1 : Int) (o1_2 : List Int) (o2_0 : Int) (o2_1 : Int) (o2_2 : List Int) (o3_0 : Int) (o3_1 : Int) (o3_2 : List Int) : N1 n m0 (m1 + 1) t15 t16 t21 t6 t20 o0_0 o0_1 o0_2 o1_0 o1_1 o1_2 o2_0 o2_1 o2_2 o3_0 o3_1 o3_2 =
  bif decide (t21 < t20) then
   N2 n m0 m1 n t15 t16 t6 t20 t21 (0 : Int) t21 o3_1 o0_0 o0_1 o0_2 o1_0 o1_1 o1_2 o2_0 o2_1 o2_2 o3_0 o3_1 o3_2
  else
   N0 n m0 (IntKind.wrap .i8 (t16 + (1 : Int))) t15 o0_0 o0_1 o0_2 o1_0 o1_1 o1_2 o2_0 o2_1 o2_2 o3_0 o3_1 o3_2 := by kernel_rfl
theorem N2_succ (n : Nat) (m0 : Nat) (m1 : Nat) (m2 : Nat) (t15 : Int) (t16 : Int) (t6 : Int) (t20 : Int) (t21 : Int) (t26 : Int) (t7 : Int) (t25 : Int) (o0_0 : Int) (o0_1 : Int) (o0_2 : List Int) (o1_0 : Int) (o1_1 : Int) (o1_2 : List Int) (o2_0 : Int) (o2_1 : Int) (o2_2 : List Int) (o3_0 : Int) (o3_1 : Int) (o3_2 : List Int) : N2 n m0 m1 (m2 + 1) t15 t16 t6 t20 t21 t26 t7 t25 o0_0 o0_1 o0_2 o1_0 o1_1 o1_2 o2_0 o2_1 o2_2 o3_0 o3_1 o3_2 =
  bif decide (t26 < t25) then
   bif decide (((0 : Int) ≤ t6) ∧ (t6 < (6 : Int))) then
   bif decide (((0 : Int) ≤ t7) ∧ (t7 < (6 : Int))) then
    bif decide (((0 : Int) ≤ t6) ∧ (t6 < (6 : Int))) then
     bif decide (((0 : Int) ≤ t26) ∧ (t26 < (6 : Int))) then
      bif decide (((0 : Int) ≤ t26) ∧ (t26 < (6 : Int))) then
       bif decide (((0 : Int) ≤ t7) ∧ (t7 < (6 : Int))) then
        bif decide (((0 : Int) ≤ t6) ∧ (t6 < (6 : Int))) then
         pif (((u16 (List.getD o3_2 ((0 + ((Int.toNat t6) * 6)) + ((Int.toNat t26) * 1)) (0 : Int))) ∧ (u16 (List.getD o2_2 ((0 + ((Int.toNat t26) * 6)) + ((Int.toNat t7) * 1)) (0 : Int))))) (
          bif decide (((0 : Int) ≤ t7) ∧ (t7 < (6 : Int))) then
          N2 n m0 m1 m2 t15 t16 t6 t20 t21 (IntKind.wrap .i8 (t26 + (1 : Int))) t7 t25 o0_0 o0_1 o0_2 o1_0 o1_1 (List.set o1_2 ((0 + ((Int.toNat t6) * 6)) + ((Int.toNat t7) * 1)) (intBitsV .xor .u16 (List.getD o1_2 ((0 + ((Int.toNat t6) * 6)) + ((Int.toNat t7) * 1)) (0 : Int)) (mulI (List.getD o3_2 ((0 + ((Int.toNat t6) * 6)) + ((Int.toNat t26) * 1)) (0 : Int)) (List.getD o2_2 ((0 + ((Int.toNat t26) * 6)) + ((Int.toNat t7) * 1)) (0 : Int))))) o2_0 o2_1 o2_2 o3_0 o3_1 o3_2
          else none)
         else none
        else none
       else none
      else none
     else none
    else none
   else none
  else
   N1 n m0 m1 t15 t16 (IntKind.wrap .i8 (t21 + (1 : Int))) t6 t20 o0_0 o0_1 o0_2 o1_0 o1_1 o1_2 o2_0 o2_1 o2_2 o3_0 o3_1 o3_2 := by kernel_rfl
noncomputable def R (n : Nat) (r : Int) (c : Int) (l : List Int) (r' : Int) (c' : Int) (l' : List Int) : Res := run (E n) n Try.f97 L (us r c l r' c' l') (HA r c l r' c' l') k0
theorem R_eq (n : Nat) (r : Int) (c : Int) (l : List Int) (r' : Int) (c' : Int) (l' : List Int) : R n r c l r' c' l' =
  N0 n n (0 : Int) r (0 : Int) (0 : Int) (List.replicate 36 (0 : Int)) r c' (List.replicate 36 (0 : Int)) r' c' l' r c l := by kernel_rfl
theorem ans {n : Nat} {r : Int} {c : Int} {l : List Int} {r' : Int} {c' : Int} {l' : List Int} (hA : Sounds Try.prog (A n)) {u : U} {H : Heap} (h : R n r c l r' c' l' = some (u, H)) : Answers Try.prog 97 (us r c l r' c' l') (HA r c l r' c' l') u H := answers_env tabOk mixed hA Try.func97 (by kernel_rfl) (by kernel_rfl) h
end I_mtimes

end Go.VM

/- Written by a program of this session (Lift.lean): what the evaluator comes to, function by function; the kernel checks it. The conditions: those of the contracts. -/
namespace Go.VM
open Go Go.Proofs Go.Fn NimF
set_option linter.unusedVariables false
set_option maxRecDepth 100000
namespace I_reduced
abbrev num : Nat := 92
noncomputable def A (n : Nat) : List (Nat × Con) := ((fun (n : Nat) => ([(54, CMul), (56, CInv)] : List (Nat × Con)))) n
noncomputable abbrev E (n : Nat) : Env (U × Heap) := envC tab ios (A n)
def L : List (List Nat) := [[4, 5, 9, 8, 3, 2, 22, 10, 21], [4, 5, 3, 2, 21, 22, 10, 11, 8, 9, 12], [4, 5, 9, 3, 2, 21, 22, 10, 11, 8, 84, 14], [4, 5, 9, 3, 2, 21, 22, 10, 11, 8, 116, 115], [4, 5, 9, 3, 2, 21, 22, 10, 11, 8, 115, 116, 132, 17, 16]]
abbrev us (r : Int) (c : Int) (l : List Int) (r' : Int) (c' : Int) (l' : List Int) : List U := (((fun (r c : Int) (l : List Int) (r' c' : Int) (l' : List Int) => (([.agg [.int .i8 r, .int .i8 c, .vec .u16 36 l], .agg [.int .i8 r', .int .i8 c', .vec .u16 36 l']] : List U), ([] : Heap)))) r c l r' c' l').1
abbrev HA (r : Int) (c : Int) (l : List Int) (r' : Int) (c' : Int) (l' : List Int) : Heap := (((fun (r c : Int) (l : List Int) (r' c' : Int) (l' : List Int) => (([.agg [.int .i8 r, .int .i8 c, .vec .u16 36 l], .agg [.int .i8 r', .int .i8 c', .vec .u16 36 l']] : List U), ([] : Heap)))) r c l r' c' l').2
def S0 (t9 : Int) (t22 : Int) (t10 : Int) (t21 : Int) (o0_0 : Int) (o0_1 : Int) (o0_2 : List Int) (o1_0 : Int) (o1_1 : Int) (o1_2 : List Int) (o2_0 : List Int) (o3_0 : Int) (o3_1 : Int) (o3_2 : List Int) (o4_0 : Int) (o4_1 : Int) (o4_2 : List Int) : St := ⟨[(4, .ptr 0 0 0 0 1), (5, .ptr 1 0 0 0 1), (9, .int .u16 t9), (8, .own 2), (3, .ptr 3 0 0 0 1), (2, .ptr 4 0 0 0 1), (22, .int .i8 t22), (10, .int .i8 t10), (21, .int .i8 t21)], 190, [(0, ⟨[.ints .i8 [o0_0], .ints .i8 [o0_1], .vecs .u16 36 [o0_2]], true⟩), (1, ⟨[.ints .i8 [o1_0], .ints .i8 [o1_1], .vecs .u16 36 [o1_2]], true⟩), (2, ⟨[.ints .i8 o2_0], true⟩), (3, ⟨[.ints .i8 [o3_0], .ints .i8 [o3_1], .vecs .u16 36 [o3_2]], true⟩), (4, ⟨[.ints .i8 [o4_0], .ints .i8 [o4_1], .vecs .u16 36 [o4_2]], true⟩)], [0, 1, 2, 3, 4], 0⟩
noncomputable def N0 (n : Nat)  (m0 : Nat) (t9 : Int) (t22 : Int) (t10 : Int) (t21 : Int) (o0_0 : Int) (o0_1 : Int) (o0_2 : List Int) (o1_0 : Int) (o1_1 : Int) (o1_2 : List Int) (o2_0 : List Int) (o3_0 : Int) (o3_1 : Int) (o3_2 : List Int) (o4_0 : Int) (o4_1 : Int) (o4_2 : List Int) : Res := nodeRun (E n) n Try.f92 L k0 [true, false, true, true, false, true, false] [] m0 (S0 t9 t22 t10 t21 o0_0 o0_1 o0_2 o1_0 o1_1 o1_2 o2_0 o3_0 o3_1 o3_2 o4_0 o4_1 o4_2)
def S1 (t21 : Int) (t22 : Int) (t10 : Int) (t11 : Int) (t9 : Int) (t12 : Int) (o0_0 : Int) (o0_1 : Int) (o0_2 : List Int) (o1_0 : Int) (o1_1 : Int) (o1_2 : List Int) (o2_0 : Int) (o2_1 : Int) (o2_2 : List Int) (o3_0 : Int) (o3_1 : Int) (o3_2 : List Int) (o4_0 : List Int) : St := ⟨[(4, .ptr 0 0 0 0 1), (5, .ptr 1 0 0 0 1), (3, .ptr 2 0 0 0 1), (2, .ptr 3 0 0 0 1), (21, .int .i8 t21), (22, .int .i8 t22), (10, .int .i8 t10), (11, .int .i8 t11), (8, .own 4), (9, .int .u16 t9), (12, .int .i8 t12)], 190, [(0, ⟨[.ints .i8 [o0_0], .ints .i8 [o0_1], .vecs .u16 36 [o0_2]], true⟩), (1, ⟨[.ints .i8 [o1_0], .ints .i8 [o1_1], .vecs .u16 36 [o1_2]], true⟩), (2, ⟨[.ints .i8 [o2_0], .ints .i8 [o2_1], .vecs .u16 36 [o2_2]], true⟩), (3, ⟨[.ints .i8 [o3_0], .ints .i8 [o3_1], .vecs .u16 36 [o3_2]], true⟩), (4, ⟨[.ints .i8 o4_0], true⟩)], [0, 1, 2, 3, 4], 0⟩
noncomputable def N1 (n : Nat) (m0 : Nat) (m1 : Nat) (t21 : Int) (t22 : Int) (t10 : Int) (t11 : Int) (t9 : Int) (t12 : Int) (o0_0 : Int) (o0_1 : Int) (o0_2 : List Int) (o1_0 : Int) (o1_1 : Int) (o1_2 : List Int) (o2_0 : Int) (o2_1 : Int) (o2_2 : List Int) (o3_0 : Int) (o3_1 : Int) (o3_2 : List Int) (o4_0 : List Int) : Res := nodeRun (E n) n Try.f92 L k0 [true, false, true, true, false, true, false, false, true, true, false, false, true, true, false, false] [m0] m1 (S1 t21 t22 t10 t11 t9 t12 o0_0 o0_1 o0_2 o1_0 o1_1 o1_2 o2_0 o2_1 o2_2 o3_0 o3_1 o3_2 o4_0)
def S2 (t9 : Int) (t21 : Int) (t22 : Int) (t10 : Int) (t11 : Int) (t84 : Int) (t14 : Int) (o0_0 : Int) (o0_1 : Int) (o0_2 : List Int) (o1_0 : Int) (o1_1 : Int) (o1_2 : List Int) (o2_0 : Int) (o2_1 : Int) (o2_2 : List Int) (o3_0 : Int) (o3_1 : Int) (o3_2 : List Int) (o4_0 : List Int) : St := ⟨[(4, .ptr 0 0 0 0 1), (5, .ptr 1 0 0 0 1), (9, .int .u16 t9), (3, .ptr 2 0 0 0 1), (2, .ptr 3 0 0 0 1), (21, .int .i8 t21), (22, .int .i8 t22), (10, .int .i8 t10), (11, .int .i8 t11), (8, .own 4), (84, .int .i64 t84), (14, .int .u16 t14)], 190, [(0, ⟨[.ints .i8 [o0_0], .ints .i8 [o0_1], .vecs .u16 36 [o0_2]], true⟩), (1, ⟨[.ints .i8 [o1_0], .ints .i8 [o1_1], .vecs .u16 36 [o1_2]], true⟩), (2, ⟨[.ints .i8 [o2_0], .ints .i8 [o2_1], .vecs .u16 36 [o2_2]], true⟩), (3, ⟨[.ints .i8 [o3_0], .ints .i8 [o3_1], .vecs .u16 36 [o3_2]], true⟩), (4, ⟨[.ints .i8 o4_0], true⟩)], [0, 1, 2, 3, 4], 0⟩
noncomputable def N2 (n : Nat) (m0 : Nat) (m2 : Nat) (t9 : Int) (t21 : Int) (t22 : Int) (t10 : Int) (t11 : Int) (t84 : Int) (t14 : Int) (o0_0 : Int) (o0_1 : Int) (o0_2 : List Int) (o1_0 : Int) (o1_1 : Int) (o1_2 : List Int) (o2_0 : Int) (o2_1 : Int) (o2_2 : List Int) (o3_0 : Int) (o3_1 : Int) (o3_2 : List Int) (o4_0 : List Int) : Res := nodeRun (E n) n Try.f92 L k0 [true, false, true, true, false, true, false, false, true, true, false, false, true, true, true, true, true, true, true, true, true, false, true, false] [m0] m2 (S2 t9 t21 t22 t10 t11 t84 t14 o0_0 o0_1 o0_2 o1_0 o1_1 o1_2 o2_0 o2_1 o2_2 o3_0 o3_1 o3_2 o4_0)
def S3 (t9 : Int) (t21 : Int) (t22 : Int) (t10 : Int) (t11 : Int) (t116 : Int) (t115 : Int) (o0_0 : Int) (o0_1 : Int) (o0_2 : List Int) (o1_0 : Int) (o1_1 : Int) (o1_2 : List Int) (o2_0 : Int) (o2_1 : Int) (o2_2 : List Int) (o3_0 : Int) (o3_1 : Int) (o3_2 : List Int) (o4_0 : List Int) : St := ⟨[(4, .ptr 0 0 0 0 1), (5, .ptr 1 0 0 0 1), (9, .int .u16 t9), (3, .ptr 2 0 0 0 1), (2, .ptr 3 0 0 0 1), (21, .int .i8 t21), (22, .int .i8 t22), (10, .int .i8 t10), (11, .int .i8 t11), (8, .own 4), (116, .int .i8 t116), (115, .int .i8 t115)], 190, [(0, ⟨[.ints .i8 [o0_0], .ints .i8 [o0_1], .vecs .u16 36 [o0_2]], true⟩), (1, ⟨[.ints .i8 [o1_0], .ints .i8 [o1_1], .vecs .u16 36 [o1_2]], true⟩), (2, ⟨[.ints .i8 [o2_0], .ints .i8 [o2_1], .vecs .u16 36 [o2_2]], true⟩), (3, ⟨[.ints .i8 [o3_0], .ints .i8 [o3_1], .vecs .u16 36 [o3_2]], true⟩), (4, ⟨[.ints .i8 o4_0], true⟩)], [0, 1, 2, 3, 4], 0⟩
noncomputable def N3 (n : Nat) (m0 : Nat) (m3 : Nat) (t9 : Int) (t21 : Int) (t22 : Int) (t10 : Int) (t11 : Int) (t116 : Int) (t115 : Int) (o0_0 : Int) (o0_1 : Int) (o0_2 : List Int) (o1_0 : Int) (o1_1 : Int) (o1_2 : List Int) (o2_0 : Int) (o2_1 : Int) (o2_2 : List Int) (o3_0 : Int) (o3_1 : Int) (o3_2 : List Int) (o4_0 : List Int) : Res := nodeRun (E n) n Try.f92 L k0 [true, false, true, true, false, true, false, false, true, true, false, false, true, true, true, true, true, true, true, true, true, true, false, true, false] [m0] m3 (S3 t9 t21 t22 t10 t11 t116 t115 o0_0 o0_1 o0_2 o1_0 o1_1 o1_2 o2_0 o2_1 o2_2 o3_0 o3_1 o3_2 o4_0)
def S4 (t9 : Int) (t21 : Int) (t22 : Int) (t10 : Int) (t11 : Int) (t115 : Int) (t116 : Int) (t132 : Int) (t17 : Int) (t16 : Int) (o0_0 : Int) (o0_1 : Int) (o0_2 : List Int) (o1_0 : Int) (o1_1 : Int) (o1_2 : List Int) (o2_0 : Int) (o2_1 : Int) (o2_2 : List Int) (o3_0 : Int) (o3_1 : Int) (o3_2 : List Int) (o4_0 : List Int) : St := ⟨[(4, .ptr 0 0 0 0 1), (5, .ptr 1 0 0 0 1), (9, .int .u16 t9), (3, .ptr 2 0 0 0 1), (2, .ptr 3 0 0 0 1), (21, .int .i8 t21), (22, .int .i8 t22), (10, .int .i8 t10), (11, .int .i8 t11), (8, .own 4), (115, .int .i8 t115), (116, .int .i8 t116), (132, .int .i64 t132), (17, .int .u16 t17), (16, .int .i8 t16)], 190, [(0, ⟨[.ints .i8 [o0_0], .ints .i8 [o0_1], .vecs .u16 36 [o0_2]], true⟩), (1, ⟨[.ints .i8 [o1_0], .ints .i8 [o1_1], .vecs .u16 36 [o1_2]], true⟩), (2, ⟨[.ints .i8 [o2_0], .ints .i8 [o2_1], .vecs .u16 36 [o2_2]], true⟩), (3, ⟨[.ints .i8 [o3_0], .ints .i8 [o3_1], .vecs .u16 36 [o3_2]], true⟩), (4, ⟨[.ints .i8 o4_0], true⟩)], [0, 1, 2, 3, 4], 0⟩
noncomputable def N4 (n : Nat) (m0 : Nat) (m3 : Nat) (m4 : Nat) (t9 : Int) (t21 : Int) (t22 : Int) (t10 : Int) (t11 : Int) (t115 : Int) (t116 : Int) (t132 : Int) (t17 : Int) (t16 : Int) (o0_0 : Int) (o0_1 : Int) (o0_2 : List Int) (o1_0 : Int) (o1_1 : Int) (o1_2 : List Int) (o2_0 : Int) (o2_1 : Int) (o2_2 : List Int) (o3_0 : Int) (o3_1 : Int) (o3_2 : List Int) (o4_0 : List Int) : Res := nodeRun (E n) n Try.f92 L k0 [true, false, true, true, false, true, false, false, true, true, false, false, true, true, true, true, true, true, true, true, true, true, false, true, false, false, true, true, false, false, true, true, true, false, true, false] [m0, m3] m4 (S4 t9 t21 t22 t10 t11 t115 t116 t132 t17 t16 o0_0 o0_1 o0_2 o1_0 o1_1 o1_2 o2_0 o2_1 o2_2 o3_0 o3_1 o3_2 o4_0)
theorem N0_succ (n : Nat)  (m0 : Nat) (t9 : Int) (t22 : Int) (t10 : Int) (t21 : Int) (o0_0 : Int) (o0_1 : Int) (o0_2 : List Int) (o1_0 : Int) (o1_1 : Int) (o1_2 : List Int) (o2_0 : List Int) (o3_0 : Int) (o3_1 : Int) (o3_2 : List Int) (o4_0 : Int) (o4_1 : Int) (o4_2 : List Int) : N0 n  (m0 + 1) t9 t22 t10 t21 o0_0 o0_1 o0_2 o1_0 o1_1 o1_2 o2_0 o3_0 o3_1 o3_2 o4_0 o4_1 o4_2 =
  bif decide (t22 < t21) then
   N1 n m0 n t21 t22 t10 t22 t9 t10 o0_0 o0_1 o0_2 o1_0 o1_1 o1_2 o3_0 o3_1 o3_2 o4_0 o4_1 o4_2 o2_0
  else
   bif decide ((((List.length o2_0) : Nat) : Int) < (IntKind.wrap .i64 o4_0)) then
    some (.tup [.agg [.int .i8 o4_0, .int .i8 o4_1, .vec .u16 36 o4_2], .agg [.int .i8 o3_0, .int .i8 o3_1, .vec .u16 36 o3_2], .own 0, .int .u16 (0 : Int)], [(0, ⟨[.ints .i8 o2_0], true⟩)])
   else
    some (.tup [.agg [.int .i8 o4_0, .int .i8 o4_1, .vec .u16 36 o4_2], .agg [.int .i8 o3_0, .int .i8 o3_1, .vec .u16 36 o3_2], .own 0, .int .u16 t9], [(0, ⟨[.ints .i8 o2_0], true⟩)]) := by kernel_rfl
theorem N1_succ (n : Nat) (m0 : Nat) (m1 : Nat) (t21 : Int) (t22 : Int) (t10 : Int) (t11 : Int) (t9 : Int) (t12 : Int) (o0_0 : Int) (o0_1 : Int) (o0_2 : List Int) (o1_0 : Int) (o1_1 : Int) (o1_2 : List Int) (o2_0 : Int) (o2_1 : Int) (o2_2 : List Int) (o3_0 : Int) (o3_1 : Int) (o3_2 : List Int) (o4_0 : List Int) : N1 n m0 (m1 + 1) t21 t22 t10 t11 t9 t12 o0_0 o0_1 o0_2 o1_0 o1_1 o1_2 o2_0 o2_1 o2_2 o3_0 o3_1 o3_2 o4_0 =
  bif decide (t12 < o3_0) then
   bif decide (((0 : Int) ≤ t12) ∧ (t12 < (6 : Int))) then
   bif decide (((0 : Int) ≤ t11) ∧ (t11 < (6 : Int))) then
    bif ((List.getD o3_2 ((0 + ((Int.toNat t12) * 6)) + ((Int.toNat t11) * 1)) (0 : Int)) == (0 : Int)) then
      N1 n m0 m1 t21 t22 t10 t11 t9 (IntKind.wrap .i8 (t12 + (1 : Int))) o0_0 o0_1 o0_2 o1_0 o1_1 o1_2 o2_0 o2_1 o2_2 o3_0 o3_1 o3_2 o4_0
     else
      bif (t12 == o3_0) then
       N0 n m0 t9 (IntKind.wrap .i8 (t22 + (1 : Int))) t10 t21 o0_0 o0_1 o0_2 o1_0 o1_1 o1_2 o4_0 o2_0 o2_1 o2_2 o3_0 o3_1 o3_2
      else
       bif decide (((0 : Int) ≤ t12) ∧ (t12 < (6 : Int))) then
       bif decide (((0 : Int) ≤ t10) ∧ (t10 < (6 : Int))) then
        bif decide (((0 : Int) ≤ t10) ∧ (t10 < (6 : Int))) then
         bif decide (((0 : Int) ≤ t12) ∧ (t12 < (6 : Int))) then
          bif decide (((0 : Int) ≤ t12) ∧ (t12 < (6 : Int))) then
           bif decide (((0 : Int) ≤ t10) ∧ (t10 < (6 : Int))) then
            bif decide (((0 : Int) ≤ t10) ∧ (t10 < (6 : Int))) then
             bif decide (((0 : Int) ≤ t12) ∧ (t12 < (6 : Int))) then
              bif decide (((0 : Int) ≤ t10) ∧ (t10 < (6 : Int))) then
               bif decide (((0 : Int) ≤ t11) ∧ (t11 < (6 : Int))) then
                pif (((u16 t9) ∧ (u16 (List.getD (putRow (0 + ((Int.toNat t12) * 6)) 6 (getRow (0 + ((Int.toNat t10) * 6)) 6 o3_2) (putRow (0 + ((Int.toNat t10) * 6)) 6 (getRow (0 + ((Int.toNat t12) * 6)) 6 o3_2) o3_2)) ((0 + ((Int.toNat t10) * 6)) + ((Int.toNat t11) * 1)) (0 : Int))))) (
                 pif ((u16 (List.getD (putRow (0 + ((Int.toNat t12) * 6)) 6 (getRow (0 + ((Int.toNat t10) * 6)) 6 o3_2) (putRow (0 + ((Int.toNat t10) * 6)) 6 (getRow (0 + ((Int.toNat t12) * 6)) 6 o3_2) o3_2)) ((0 + ((Int.toNat t10) * 6)) + ((Int.toNat t11) * 1)) (0 : Int)))) (
                 N2 n m0 n (mulI t9 (List.getD (putRow (0 + ((Int.toNat t12) * 6)) 6 (getRow (0 + ((Int.toNat t10) * 6)) 6 o3_2) (putRow (0 + ((Int.toNat t10) * 6)) 6 (getRow (0 + ((Int.toNat t12) * 6)) 6 o3_2) o3_2)) ((0 + ((Int.toNat t10) * 6)) + ((Int.toNat t11) * 1)) (0 : Int))) t21 t22 t10 t11 (0 : Int) (invI (List.getD (putRow (0 + ((Int.toNat t12) * 6)) 6 (getRow (0 + ((Int.toNat t10) * 6)) 6 o3_2) (putRow (0 + ((Int.toNat t10) * 6)) 6 (getRow (0 + ((Int.toNat t12) * 6)) 6 o3_2) o3_2)) ((0 + ((Int.toNat t10) * 6)) + ((Int.toNat t11) * 1)) (0 : Int))) o0_0 o0_1 o0_2 o1_0 o1_1 o1_2 o2_0 o2_1 (putRow (0 + ((Int.toNat t12) * 6)) 6 (getRow (0 + ((Int.toNat t10) * 6)) 6 o2_2) (putRow (0 + ((Int.toNat t10) * 6)) 6 (getRow (0 + ((Int.toNat t12) * 6)) 6 o2_2) o2_2)) o3_0 o3_1 (putRow (0 + ((Int.toNat t12) * 6)) 6 (getRow (0 + ((Int.toNat t10) * 6)) 6 o3_2) (putRow (0 + ((Int.toNat t10) * 6)) 6 (getRow (0 + ((Int.toNat t12) * 6)) 6 o3_2) o3_2)) o4_0))
                else none
               else none
              else none
             else none
            else none
           else none
          else none
         else none
        else none
       else none
    else none
   else none
  else
   bif (t12 == o3_0) then
    N0 n m0 t9 (IntKind.wrap .i8 (t22 + (1 : Int))) t10 t21 o0_0 o0_1 o0_2 o1_0 o1_1 o1_2 o4_0 o2_0 o2_1 o2_2 o3_0 o3_1 o3_2
   else
    bif decide (((0 : Int) ≤ t12) ∧ (t12 < (6 : Int))) then
    bif decide (((0 : Int) ≤ t10) ∧ (t10 < (6 : Int))) then
     bif decide (((0 : Int) ≤ t10) ∧ (t10 < (6 : Int))) then
      bif decide (((0 : Int) ≤ t12) ∧ (t12 < (6 : Int))) then
       bif decide (((0 : Int) ≤ t12) ∧ (t12 < (6 : Int))) then
        bif decide (((0 : Int) ≤ t10) ∧ (t10 < (6 : Int))) then
         bif decide (((0 : Int) ≤ t10) ∧ (t10 < (6 : Int))) then
          bif decide (((0 : Int) ≤ t12) ∧ (t12 < (6 : Int))) then
           bif decide (((0 : Int) ≤ t10) ∧ (t10 < (6 : Int))) then
            bif decide (((0 : Int) ≤ t11) ∧ (t11 < (6 : Int))) then
             pif (((u16 t9) ∧ (u16 (List.getD (putRow (0 + ((Int.toNat t12) * 6)) 6 (getRow (0 + ((Int.toNat t10) * 6)) 6 o3_2) (putRow (0 + ((Int.toNat t10) * 6)) 6 (getRow (0 + ((Int.toNat t12) * 6)) 6 o3_2) o3_2)) ((0 + ((Int.toNat t10) * 6)) + ((Int.toNat t11) * 1)) (0 : Int))))) (
              pif ((u16 (List.getD (putRow (0 + ((Int.toNat t12) * 6)) 6 (getRow (0 + ((Int.toNat t10) * 6)) 6 o3_2) (putRow (0 + ((Int.toNat t10) * 6)) 6 (getRow (0 + ((Int.toNat t12) * 6)) 6 o3_2) o3_2)) ((0 + ((Int.toNat t10) * 6)) + ((Int.toNat t11) * 1)) (0 : Int)))) (
              N2 n m0 n (mulI t9 (List.getD (putRow (0 + ((Int.toNat t12) * 6)) 6 (getRow (0 + ((Int.toNat t10) * 6)) 6 o3_2) (putRow (0 + ((Int.toNat t10) * 6)) 6 (getRow (0 + ((Int.toNat t12) * 6)) 6 o3_2) o3_2)) ((0 + ((Int.toNat t10) * 6)) + ((Int.toNat t11) * 1)) (0 : Int))) t21 t22 t10 t11 (0 : Int) (invI (List.getD (putRow (0 + ((Int.toNat t12) * 6)) 6 (getRow (0 + ((Int.toNat t10) * 6)) 6 o3_2) (putRow (0 + ((Int.toNat t10) * 6)) 6 (getRow (0 + ((Int.toNat t12) * 6)) 6 o3_2) o3_2)) ((0 + ((Int.toNat t10) * 6)) + ((Int.toNat t11) * 1)) (0 : Int))) o0_0 o0_1 o0_2 o1_0 o1_1 o1_2 o2_0 o2_1 (putRow (0 + ((Int.toNat t12) * 6)) 6 (getRow (0 + ((Int.toNat t10) * 6)) 6 o2_2) (putRow (0 + ((Int.toNat t10) * 6)) 6 (getRow (0 + ((Int.toNat t12) * 6)) 6 o2_2) o2_2)) o3_0 o3_1 (putRow (0 + ((Int.toNat t12) * 6)) 6 (getRow (0 + ((Int.toNat t10) * 6)) 6 o3_2) (putRow (0 + ((Int.toNat t10) * 6)) 6 (getRow (0 + ((Int.toNat t12) * 6)) 6 o3_2) o3_2)) o4_0))
             else none
            else none
           else none
          else none
         else none
        else none
       else none
      else none
     else none
    else none := by kernel_rfl
theorem N2_succ (n : Nat) (m0 : Nat) (m2 : Nat) (t9 : Int) (t21 : Int) (t22 : Int) (t10 : Int) (t11 : Int) (t84 : Int) (t14 : Int) (o0_0 : Int) (o0_1 : Int) (o0_2 : List Int) (o1_0 : Int) (o1_1 : Int) (o1_2 : List Int) (o2_0 : Int) (o2_1 : Int) (o2_2 : List Int) (o3_0 : Int) (o3_1 : Int) (o3_2 : List Int) (o4_0 : List Int) : N2 n m0 (m2 + 1) t9 t21 t22 t10 t11 t84 t14 o0_0 o0_1 o0_2 o1_0 o1_1 o1_2 o2_0 o2_1 o2_2 o3_0 o3_1 o3_2 o4_0 =
  bif decide (t84 < (6 : Int)) then
   bif decide (((0 : Int) ≤ t10) ∧ (t10 < (6 : Int))) then
   bif decide (((0 : Int) ≤ t84) ∧ (t84 < (6 : Int))) then
    bif decide (((0 : Int) ≤ t10) ∧ (t10 < (6 : Int))) then
     pif (((u16 (List.getD o3_2 ((0 + ((Int.toNat t10) * 6)) + ((Int.toNat t84) * 1)) (0 : Int))) ∧ (u16 t14))) (
      bif decide (((0 : Int) ≤ t84) ∧ (t84 < (6 : Int))) then
      bif decide (((0 : Int) ≤ t10) ∧ (t10 < (6 : Int))) then
       bif decide (((0 : Int) ≤ t84) ∧ (t84 < (6 : Int))) then
        bif decide (((0 : Int) ≤ t10) ∧ (t10 < (6 : Int))) then
         pif (((u16 (List.getD o2_2 ((0 + ((Int.toNat t10) * 6)) + ((Int.toNat t84) * 1)) (0 : Int))) ∧ (u16 t14))) (
          bif decide (((0 : Int) ≤ t84) ∧ (t84 < (6 : Int))) then
          N2 n m0 m2 t9 t21 t22 t10 t11 (IntKind.wrap .i64 (t84 + (1 : Int))) t14 o0_0 o0_1 o0_2 o1_0 o1_1 o1_2 o2_0 o2_1 (List.set o2_2 ((0 + ((Int.toNat t10) * 6)) + ((Int.toNat t84) * 1)) (mulI (List.getD o2_2 ((0 + ((Int.toNat t10) * 6)) + ((Int.toNat t84) * 1)) (0 : Int)) t14)) o3_0 o3_1 (List.set o3_2 ((0 + ((Int.toNat t10) * 6)) + ((Int.toNat t84) * 1)) (mulI (List.getD o3_2 ((0 + ((Int.toNat t10) * 6)) + ((Int.toNat t84) * 1)) (0 : Int)) t14)) o4_0
          else none)
         else none
        else none
       else none
      else none)
     else none
    else none
   else none
  else
   N3 n m0 n t9 t21 t22 t10 t11 (0 : Int) o3_0 o0_0 o0_1 o0_2 o1_0 o1_1 o1_2 o2_0 o2_1 o2_2 o3_0 o3_1 o3_2 o4_0 := by kernel_rfl
theorem N3_succ (n : Nat) (m0 : Nat) (m3 : Nat) (t9 : Int) (t21 : Int) (t22 : Int) (t10 : Int) (t11 : Int) (t116 : Int) (t115 : Int) (o0_0 : Int) (o0_1 : Int) (o0_2 : List Int) (o1_0 : Int) (o1_1 : Int) (o1_2 : List Int) (o2_0 : Int) (o2_1 : Int) (o2_2 : List Int) (o3_0 : Int) (o3_1 : Int) (o3_2 : List Int) (o4_0 : List Int) : N3 n m0 (m3 + 1) t9 t21 t22 t10 t11 t116 t115 o0_0 o0_1 o0_2 o1_0 o1_1 o1_2 o2_0 o2_1 o2_2 o3_0 o3_1 o3_2 o4_0 =
  bif decide (t116 < t115) then
   bif decide (((0 : Int) ≤ t116) ∧ (t116 < (6 : Int))) then
   bif decide (((0 : Int) ≤ t11) ∧ (t11 < (6 : Int))) then
    bif (t116 != t10) then
      bif ((List.getD o3_2 ((0 + ((Int.toNat t116) * 6)) + ((Int.toNat t11) * 1)) (0 : Int)) != (0 : Int)) then
       N4 n m0 m3 n t9 t21 t22 t10 t11 t115 t116 (0 : Int) (List.getD o3_2 ((0 + ((Int.toNat t116) * 6)) + ((Int.toNat t11) * 1)) (0 : Int)) t116 o0_0 o0_1 o0_2 o1_0 o1_1 o1_2 o2_0 o2_1 o2_2 o3_0 o3_1 o3_2 o4_0
      else
       N3 n m0 m3 t9 t21 t22 t10 t11 (IntKind.wrap .i8 (t116 + (1 : Int))) t115 o0_0 o0_1 o0_2 o1_0 o1_1 o1_2 o2_0 o2_1 o2_2 o3_0 o3_1 o3_2 o4_0
     else
      N3 n m0 m3 t9 t21 t22 t10 t11 (IntKind.wrap .i8 (t116 + (1 : Int))) t115 o0_0 o0_1 o0_2 o1_0 o1_1 o1_2 o2_0 o2_1 o2_2 o3_0 o3_1 o3_2 o4_0
    else none
   else none
  else
   bif decide ((((List.length o4_0) + 1) * 1) ≤ 4398046511104) then
   N0 n m0 t9 (IntKind.wrap .i8 (t22 + (1 : Int))) (IntKind.wrap .i8 (t10 + (1 : Int))) t21 o0_0 o0_1 o0_2 o1_0 o1_1 o1_2 (o4_0 ++ [t11]) o2_0 o2_1 o2_2 o3_0 o3_1 o3_2
   else none := by kernel_rfl
theorem N4_succ (n : Nat) (m0 : Nat) (m3 : Nat) (m4 : Nat) (t9 : Int) (t21 : Int) (t22 : Int) (t10 : Int) (t11 : Int) (t115 : Int) (t116 : Int) (t132 : Int) (t17 : Int) (t16 : Int) (o0_0 : Int) (o0_1 : Int) (o0_2 : List Int) (o1_0 : Int) (o1_1 : Int) (o1_2 : List Int) (o2_0 : Int) (o2_1 : Int) (o2_2 : List Int) (o3_0 : Int) (o3_1 : Int) (o3_2 : List Int) (o4_0 : List Int) : N4 n m0 m3 (m4 + 1) t9 t21 t22 t10 t11 t115 t116 t132 t17 t16 o0_0 o0_1 o0_2 o1_0 o1_1 o1_2 o2_0 o2_1 o2_2 o3_0 o3_1 o3_2 o4_0 =
  bif decide (t132 < (6 : Int)) then
   bif decide (((0 : Int) ≤ t16) ∧ (t16 < (6 : Int))) then
   bif decide (((0 : Int) ≤ t132) ∧ (t132 < (6 : Int))) then
    bif decide (((0 : Int) ≤ t10) ∧ (t10 < (6 : Int))) then
     bif decide (((0 : Int) ≤ t132) ∧ (t132 < (6 : Int))) then
      bif decide (((0 : Int) ≤ t16) ∧ (t16 < (6 : Int))) then
       pif (((u16 t17) ∧ (u16 (List.getD o3_2 ((0 + ((Int.toNat t10) * 6)) + ((Int.toNat t132) * 1)) (0 : Int))))) (
        bif decide (((0 : Int) ≤ t132) ∧ (t132 < (6 : Int))) then
        bif decide (((0 : Int) ≤ t16) ∧ (t16 < (6 : Int))) then
         bif decide (((0 : Int) ≤ t132) ∧ (t132 < (6 : Int))) then
          bif decide (((0 : Int) ≤ t10) ∧ (t10 < (6 : Int))) then
           bif decide (((0 : Int) ≤ t132) ∧ (t132 < (6 : Int))) then
            bif decide (((0 : Int) ≤ t16) ∧ (t16 < (6 : Int))) then
             pif (((u16 t17) ∧ (u16 (List.getD o2_2 ((0 + ((Int.toNat t10) * 6)) + ((Int.toNat t132) * 1)) (0 : Int))))) (
              bif decide (((0 : Int) ≤ t132) ∧ (t132 < (6 : Int))) then
              N4 n m0 m3 m4 t9 t21 t22 t10 t11 t115 t116 (IntKind.wrap .i64 (t132 + (1 : Int))) t17 t16 o0_0 o0_1 o0_2 o1_0 o1_1 o1_2 o2_0 o2_1 (List.set o2_2 ((0 + ((Int.toNat t16) * 6)) + ((Int.toNat t132) * 1)) (intBitsV .xor .u16 (List.getD o2_2 ((0 + ((Int.toNat t16) * 6)) + ((Int.toNat t132) * 1)) (0 : Int)) (mulI t17 (List.getD o2_2 ((0 + ((Int.toNat t10) * 6)) + ((Int.toNat t132) * 1)) (0 : Int))))) o3_0 o3_1 (List.set o3_2 ((0 + ((Int.toNat t16) * 6)) + ((Int.toNat t132) * 1)) (intBitsV .xor .u16 (List.getD o3_2 ((0 + ((Int.toNat t16) * 6)) + ((Int.toNat t132) * 1)) (0 : Int)) (mulI t17 (List.getD o3_2 ((0 + ((Int.toNat t10) * 6)) + ((Int.toNat t132) * 1)) (0 : Int))))) o4_0
              else none)
             else none
            else none
           else none
          else none
         else none
        else none)
       else none
      else none
     else none
    else none
   else none
  else
   N3 n m0 m3 t9 t21 t22 t10 t11 (IntKind.wrap .i8 (t116 + (1 : Int))) t115 o0_0 o0_1 o0_2 o1_0 o1_1 o1_2 o2_0 o2_1 o2_2 o3_0 o3_1 o3_2 o4_0 := by kernel_rfl
noncomputable def R (n : Nat) (r : Int) (c : Int) (l : List Int) (r' : Int) (c' : Int) (l' : List Int) : Res := run (E n) n Try.f92 L (us r c l r' c' l') (HA r c l r' c' l') k0
theorem R_eq (n : Nat) (r : Int) (c : Int) (l : List Int) (r' : Int) (c' : Int) (l' : List Int) : R n r c l r' c' l' =
  N0 n n (1 : Int) (0 : Int) (0 : Int) c (0 : Int) (0 : Int) (List.replicate 36 (0 : Int)) (0 : Int) (0 : Int) (List.replicate 36 (0 : Int)) [] r' c' l' r c l := by kernel_rfl
theorem ans {n : Nat} {r : Int} {c : Int} {l : List Int} {r' : Int} {c' : Int} {l' : List Int} (hA : Sounds Try.prog (A n)) {u : U} {H : Heap} (h : R n r c l r' c' l' = some (u, H)) : Answers Try.prog 92 (us r c l r' c' l') (HA r c l r' c' l') u H := answers_env tabOk mixed hA Try.func92 (by kernel_rfl) (by kernel_rfl) h
end I_reduced

end Go.VM

/- Written by a program of this session (Lift.lean): what the evaluator comes to, function by function; the kernel checks it. The conditions: those of the contracts. -/
namespace Go.VM
open Go Go.Proofs Go.Fn NimF
set_option linter.unusedVariables false
set_option maxRecDepth 100000
namespace S_solve
abbrev num : Nat := 95
noncomputable def A (n : Nat) : List (Nat × Con) := ((fun (n : Nat) => ([(47, CMul), (50, CInv), (118, CAdd), (119, CSwap)] : List (Nat × Con)))) n
noncomputable abbrev E (n : Nat) : Env (U × Heap) := envC tab ios (A n)
def L : List (List Nat) := [[4, 6, 3, 7, 2, 8], [4, 6, 3, 2, 8, 7, 9, 10], [4, 6, 3, 2, 8, 7, 9, 13, 12], [4, 6, 3, 2, 8, 7, 14, 9], [4, 6, 16, 3, 7, 2]]
abbrev us (r : Int) (c : Int) (l : List Int) (v : List Int) : List U := (((fun (r c : Int) (l : List Int) (v : List Int) => (([.agg [.int .i8 r, .int .i8 c, .vec .u16 36 l], .agg [.vec .u16 6 v]] : List U), ([] : Heap)))) r c l v).1
abbrev HA (r : Int) (c : Int) (l : List Int) (v : List Int) : Heap := (((fun (r c : Int) (l : List Int) (v : List Int) => (([.agg [.int .i8 r, .int .i8 c, .vec .u16 36 l], .agg [.vec .u16 6 v]] : List U), ([] : Heap)))) r c l v).2
def S0 (t8 : Int) (o0_0 : List Int) (o1_0 : List Int) (o2_0 : List Int) (o3_0 : List Int) (o4_0 : Int) (o4_1 : Int) (o4_2 : List Int) : St := ⟨[(4, .ptr 0 0 0 0 6), (6, .ptr 1 0 0 0 6), (3, .ptr 2 0 0 0 6), (7, .own 3), (2, .ptr 4 0 0 0 1), (8, .int .i64 t8)], 153, [(0, ⟨[.vecs .u16 6 [o0_0]], true⟩), (1, ⟨[.vecs .u16 6 [o1_0]], true⟩), (2, ⟨[.vecs .u16 6 [o2_0]], true⟩), (3, ⟨[.ints .i64 o3_0], true⟩), (4, ⟨[.ints .i8 [o4_0], .ints .i8 [o4_1], .vecs .u16 36 [o4_2]], true⟩)], [0, 1, 2, 3, 4], 0⟩
noncomputable def N0 (n : Nat)  (m0 : Nat) (t8 : Int) (o0_0 : List Int) (o1_0 : List Int) (o2_0 : List Int) (o3_0 : List Int) (o4_0 : Int) (o4_1 : Int) (o4_2 : List Int) : Res := nodeRun (E n) n Try.f95 L k0 [true, true, true, false, true, false] [] m0 (S0 t8 o0_0 o1_0 o2_0 o3_0 o4_0 o4_1 o4_2)
def S1 (t8 : Int) (t9 : Int) (t10 : Int) (o0_0 : List Int) (o1_0 : List Int) (o2_0 : List Int) (o3_0 : Int) (o3_1 : Int) (o3_2 : List Int) (o4_0 : List Int) : St := ⟨[(4, .ptr 0 0 0 0 6), (6, .ptr 1 0 0 0 6), (3, .ptr 2 0 0 0 6), (2, .ptr 3 0 0 0 1), (8, .int .i64 t8), (7, .own 4), (9, .int .i64 t9), (10, .int .i64 t10)], 153, [(0, ⟨[.vecs .u16 6 [o0_0]], true⟩), (1, ⟨[.vecs .u16 6 [o1_0]], true⟩), (2, ⟨[.vecs .u16 6 [o2_0]], true⟩), (3, ⟨[.ints .i8 [o3_0], .ints .i8 [o3_1], .vecs .u16 36 [o3_2]], true⟩), (4, ⟨[.ints .i64 o4_0], true⟩)], [0, 1, 2, 3, 4], 0⟩
noncomputable def N1 (n : Nat) (m0 : Nat) (m1 : Nat) (t8 : Int) (t9 : Int) (t10 : Int) (o0_0 : List Int) (o1_0 : List Int) (o2_0 : List Int) (o3_0 : Int) (o3_1 : Int) (o3_2 : List Int) (o4_0 : List Int) : Res := nodeRun (E n) n Try.f95 L k0 [true, true, true, false, true, false, false, true, false, false, true, true, false, false] [m0] m1 (S1 t8 t9 t10 o0_0 o1_0 o2_0 o3_0 o3_1 o3_2 o4_0)
def S2 (t8 : Int) (t9 : Int) (t13 : Int) (t12 : Int) (o0_0 : List Int) (o1_0 : List Int) (o2_0 : List Int) (o3_0 : Int) (o3_1 : Int) (o3_2 : List Int) (o4_0 : List Int) : St := ⟨[(4, .ptr 0 0 0 0 6), (6, .ptr 1 0 0 0 6), (3, .ptr 2 0 0 0 6), (2, .ptr 3 0 0 0 1), (8, .int .i64 t8), (7, .own 4), (9, .int .i64 t9), (13, .int .i64 t13), (12, .int .u16 t12)], 153, [(0, ⟨[.vecs .u16 6 [o0_0]], true⟩), (1, ⟨[.vecs .u16 6 [o1_0]], true⟩), (2, ⟨[.vecs .u16 6 [o2_0]], true⟩), (3, ⟨[.ints .i8 [o3_0], .ints .i8 [o3_1], .vecs .u16 36 [o3_2]], true⟩), (4, ⟨[.ints .i64 o4_0], true⟩)], [0, 1, 2, 3, 4], 0⟩
noncomputable def N2 (n : Nat) (m0 : Nat) (m2 : Nat) (t8 : Int) (t9 : Int) (t13 : Int) (t12 : Int) (o0_0 : List Int) (o1_0 : List Int) (o2_0 : List Int) (o3_0 : Int) (o3_1 : Int) (o3_2 : List Int) (o4_0 : List Int) : Res := nodeRun (E n) n Try.f95 L k0 [true, true, true, false, true, false, false, true, false, false, true, true, true, true, true, true, true, true, true, false, true, false] [m0] m2 (S2 t8 t9 t13 t12 o0_0 o1_0 o2_0 o3_0 o3_1 o3_2 o4_0)
def S3 (t8 : Int) (t14 : Int) (t9 : Int) (o0_0 : List Int) (o1_0 : List Int) (o2_0 : List Int) (o3_0 : Int) (o3_1 : Int) (o3_2 : List Int) (o4_0 : List Int) : St := ⟨[(4, .ptr 0 0 0 0 6), (6, .ptr 1 0 0 0 6), (3, .ptr 2 0 0 0 6), (2, .ptr 3 0 0 0 1), (8, .int .i64 t8), (7, .own 4), (14, .int .i64 t14), (9, .int .i64 t9)], 153, [(0, ⟨[.vecs .u16 6 [o0_0]], true⟩), (1, ⟨[.vecs .u16 6 [o1_0]], true⟩), (2, ⟨[.vecs .u16 6 [o2_0]], true⟩), (3, ⟨[.ints .i8 [o3_0], .ints .i8 [o3_1], .vecs .u16 36 [o3_2]], true⟩), (4, ⟨[.ints .i64 o4_0], true⟩)], [0, 1, 2, 3, 4], 0⟩
noncomputable def N3 (n : Nat) (m0 : Nat) (m3 : Nat) (t8 : Int) (t14 : Int) (t9 : Int) (o0_0 : List Int) (o1_0 : List Int) (o2_0 : List Int) (o3_0 : Int) (o3_1 : Int) (o3_2 : List Int) (o4_0 : List Int) : Res := nodeRun (E n) n Try.f95 L k0 [true, true, true, false, true, false, false, true, false, false, true, true, true, true, true, true, true, true, true, true, false, true, false] [m0] m3 (S3 t8 t14 t9 o0_0 o1_0 o2_0 o3_0 o3_1 o3_2 o4_0)
def S4 (t16 : Int) (o0_0 : List Int) (o1_0 : List Int) (o2_0 : List Int) (o3_0 : List Int) (o4_0 : Int) (o4_1 : Int) (o4_2 : List Int) : St := ⟨[(4, .ptr 0 0 0 0 6), (6, .ptr 1 0 0 0 6), (16, .int .i64 t16), (3, .ptr 2 0 0 0 6), (7, .own 3), (2, .ptr 4 0 0 0 1)], 153, [(0, ⟨[.vecs .u16 6 [o0_0]], true⟩), (1, ⟨[.vecs .u16 6 [o1_0]], true⟩), (2, ⟨[.vecs .u16 6 [o2_0]], true⟩), (3, ⟨[.ints .i64 o3_0], true⟩), (4, ⟨[.ints .i8 [o4_0], .ints .i8 [o4_1], .vecs .u16 36 [o4_2]], true⟩)], [0, 1, 2, 3, 4], 0⟩
noncomputable def N4 (n : Nat)  (m4 : Nat) (t16 : Int) (o0_0 : List Int) (o1_0 : List Int) (o2_0 : List Int) (o3_0 : List Int) (o4_0 : Int) (o4_1 : Int) (o4_2 : List Int) : Res := nodeRun (E n) n Try.f95 L k0 [true, true, true, true, false, true, false] [] m4 (S4 t16 o0_0 o1_0 o2_0 o3_0 o4_0 o4_1 o4_2)
theorem N0_succ (n : Nat)  (m0 : Nat) (t8 : Int) (o0_0 : List Int) (o1_0 : List Int) (o2_0 : List Int) (o3_0 : List Int) (o4_0 : Int) (o4_1 : Int) (o4_2 : List Int) : N0 n  (m0 + 1) t8 o0_0 o1_0 o2_0 o3_0 o4_0 o4_1 o4_2 =
  bif decide (t8 < (IntKind.wrap .i64 o4_1)) then
   N1 n m0 n t8 (((List.length o3_0) : Nat) : Int) (((List.length o3_0) : Nat) : Int) o0_0 o1_0 o2_0 o4_0 o4_1 o4_2 o3_0
  else
   N4 n n (0 : Int) o0_0 o1_0 o2_0 o3_0 o4_0 o4_1 o4_2 := by kernel_rfl
theorem N1_succ (n : Nat) (m0 : Nat) (m1 : Nat) (t8 : Int) (t9 : Int) (t10 : Int) (o0_0 : List Int) (o1_0 : List Int) (o2_0 : List Int) (o3_0 : Int) (o3_1 : Int) (o3_2 : List Int) (o4_0 : List Int) : N1 n m0 (m1 + 1) t8 t9 t10 o0_0 o1_0 o2_0 o3_0 o3_1 o3_2 o4_0 =
  bif decide (t10 < (IntKind.wrap .i64 o3_0)) then
   bif decide (((0 : Int) ≤ t10) ∧ (t10 < (6 : Int))) then
   bif decide (((0 : Int) ≤ t8) ∧ (t8 < (6 : Int))) then
    bif ((List.getD o3_2 ((0 + ((Int.toNat t10) * 6)) + ((Int.toNat t8) * 1)) (0 : Int)) == (0 : Int)) then
      N1 n m0 m1 t8 t9 (IntKind.wrap .i64 (t10 + (1 : Int))) o0_0 o1_0 o2_0 o3_0 o3_1 o3_2 o4_0
     else
      bif (t10 == (IntKind.wrap .i64 o3_0)) then
       N0 n m0 (IntKind.wrap .i64 (t8 + (1 : Int))) o0_0 o1_0 o2_0 o4_0 o3_0 o3_1 o3_2
      else
       pif (((Mat o3_0 o3_1 o3_2) ∧ ((inRow t9) ∧ (inRow t10)))) (
       bif decide (((0 : Int) ≤ t10) ∧ (t10 < (6 : Int))) then
       bif decide (((0 : Int) ≤ t9) ∧ (t9 < (6 : Int))) then
        bif decide (((0 : Int) ≤ t10) ∧ (t10 < (6 : Int))) then
         bif decide (((0 : Int) ≤ t9) ∧ (t9 < (6 : Int))) then
          bif decide (((0 : Int) ≤ t8) ∧ (t8 < (6 : Int))) then
           pif ((u16 (List.getD (swapR (Int.toNat t9) (Int.toNat t10) o3_2) ((0 + ((Int.toNat t9) * 6)) + ((Int.toNat t8) * 1)) (0 : Int)))) (
            pif (((u16 (List.getD o2_0 (0 + ((Int.toNat t10) * 1)) (0 : Int))) ∧ (u16 (invI (List.getD (swapR (Int.toNat t9) (Int.toNat t10) o3_2) ((0 + ((Int.toNat t9) * 6)) + ((Int.toNat t8) * 1)) (0 : Int)))))) (
            bif decide (((0 : Int) ≤ t9) ∧ (t9 < (6 : Int))) then
            N2 n m0 n t8 t9 (0 : Int) (invI (List.getD (swapR (Int.toNat t9) (Int.toNat t10) o3_2) ((0 + ((Int.toNat t9) * 6)) + ((Int.toNat t8) * 1)) (0 : Int))) o0_0 o1_0 (List.set (List.set o2_0 (0 + ((Int.toNat t10) * 1)) (List.getD o2_0 (0 + ((Int.toNat t9) * 1)) (0 : Int))) (0 + ((Int.toNat t9) * 1)) (mulI (List.getD o2_0 (0 + ((Int.toNat t10) * 1)) (0 : Int)) (invI (List.getD (swapR (Int.toNat t9) (Int.toNat t10) o3_2) ((0 + ((Int.toNat t9) * 6)) + ((Int.toNat t8) * 1)) (0 : Int))))) o3_0 o3_1 (swapR (Int.toNat t9) (Int.toNat t10) o3_2) o4_0
            else none))
           else none
          else none
         else none
        else none
       else none)
    else none
   else none
  else
   bif (t10 == (IntKind.wrap .i64 o3_0)) then
    N0 n m0 (IntKind.wrap .i64 (t8 + (1 : Int))) o0_0 o1_0 o2_0 o4_0 o3_0 o3_1 o3_2
   else
    pif (((Mat o3_0 o3_1 o3_2) ∧ ((inRow t9) ∧ (inRow t10)))) (
    bif decide (((0 : Int) ≤ t10) ∧ (t10 < (6 : Int))) then
    bif decide (((0 : Int) ≤ t9) ∧ (t9 < (6 : Int))) then
     bif decide (((0 : Int) ≤ t10) ∧ (t10 < (6 : Int))) then
      bif decide (((0 : Int) ≤ t9) ∧ (t9 < (6 : Int))) then
       bif decide (((0 : Int) ≤ t8) ∧ (t8 < (6 : Int))) then
        pif ((u16 (List.getD (swapR (Int.toNat t9) (Int.toNat t10) o3_2) ((0 + ((Int.toNat t9) * 6)) + ((Int.toNat t8) * 1)) (0 : Int)))) (
         pif (((u16 (List.getD o2_0 (0 + ((Int.toNat t10) * 1)) (0 : Int))) ∧ (u16 (invI (List.getD (swapR (Int.toNat t9) (Int.toNat t10) o3_2) ((0 + ((Int.toNat t9) * 6)) + ((Int.toNat t8) * 1)) (0 : Int)))))) (
         bif decide (((0 : Int) ≤ t9) ∧ (t9 < (6 : Int))) then
         N2 n m0 n t8 t9 (0 : Int) (invI (List.getD (swapR (Int.toNat t9) (Int.toNat t10) o3_2) ((0 + ((Int.toNat t9) * 6)) + ((Int.toNat t8) * 1)) (0 : Int))) o0_0 o1_0 (List.set (List.set o2_0 (0 + ((Int.toNat t10) * 1)) (List.getD o2_0 (0 + ((Int.toNat t9) * 1)) (0 : Int))) (0 + ((Int.toNat t9) * 1)) (mulI (List.getD o2_0 (0 + ((Int.toNat t10) * 1)) (0 : Int)) (invI (List.getD (swapR (Int.toNat t9) (Int.toNat t10) o3_2) ((0 + ((Int.toNat t9) * 6)) + ((Int.toNat t8) * 1)) (0 : Int))))) o3_0 o3_1 (swapR (Int.toNat t9) (Int.toNat t10) o3_2) o4_0
         else none))
        else none
       else none
      else none
     else none
    else none) := by kernel_rfl
theorem N2_succ (n : Nat) (m0 : Nat) (m2 : Nat) (t8 : Int) (t9 : Int) (t13 : Int) (t12 : Int) (o0_0 : List Int) (o1_0 : List Int) (o2_0 : List Int) (o3_0 : Int) (o3_1 : Int) (o3_2 : List Int) (o4_0 : List Int) : N2 n m0 (m2 + 1) t8 t9 t13 t12 o0_0 o1_0 o2_0 o3_0 o3_1 o3_2 o4_0 =
  bif decide (t13 < (IntKind.wrap .i64 o3_1)) then
   bif decide (((0 : Int) ≤ t9) ∧ (t9 < (6 : Int))) then
   bif decide (((0 : Int) ≤ t13) ∧ (t13 < (6 : Int))) then
    bif decide (((0 : Int) ≤ t9) ∧ (t9 < (6 : Int))) then
     pif (((u16 (List.getD o3_2 ((0 + ((Int.toNat t9) * 6)) + ((Int.toNat t13) * 1)) (0 : Int))) ∧ (u16 t12))) (
      bif decide (((0 : Int) ≤ t13) ∧ (t13 < (6 : Int))) then
      N2 n m0 m2 t8 t9 (IntKind.wrap .i64 (t13 + (1 : Int))) t12 o0_0 o1_0 o2_0 o3_0 o3_1 (List.set o3_2 ((0 + ((Int.toNat t9) * 6)) + ((Int.toNat t13) * 1)) (mulI (List.getD o3_2 ((0 + ((Int.toNat t9) * 6)) + ((Int.toNat t13) * 1)) (0 : Int)) t12)) o4_0
      else none)
     else none
    else none
   else none
  else
   N3 n m0 n t8 (0 : Int) t9 o0_0 o1_0 o2_0 o3_0 o3_1 o3_2 o4_0 := by kernel_rfl
theorem N3_succ (n : Nat) (m0 : Nat) (m3 : Nat) (t8 : Int) (t14 : Int) (t9 : Int) (o0_0 : List Int) (o1_0 : List Int) (o2_0 : List Int) (o3_0 : Int) (o3_1 : Int) (o3_2 : List Int) (o4_0 : List Int) : N3 n m0 (m3 + 1) t8 t14 t9 o0_0 o1_0 o2_0 o3_0 o3_1 o3_2 o4_0 =
  bif decide (t14 < (IntKind.wrap .i64 o3_0)) then
   bif (t14 != t9) then
    bif decide (((0 : Int) ≤ t14) ∧ (t14 < (6 : Int))) then
    bif decide (((0 : Int) ≤ t8) ∧ (t8 < (6 : Int))) then
     pif (((Mat o3_0 o3_1 o3_2) ∧ ((inRow t9) ∧ ((inRow t14) ∧ ((o3_1 ≤ (6 : Int)) ∧ (u16 (List.getD o3_2 ((0 + ((Int.toNat t14) * 6)) + ((Int.toNat t8) * 1)) (0 : Int)))))))) (
      bif decide (((0 : Int) ≤ t14) ∧ (t14 < (6 : Int))) then
      bif decide (((0 : Int) ≤ t9) ∧ (t9 < (6 : Int))) then
       pif (((u16 (List.getD o2_0 (0 + ((Int.toNat t9) * 1)) (0 : Int))) ∧ (u16 (List.getD o3_2 ((0 + ((Int.toNat t14) * 6)) + ((Int.toNat t8) * 1)) (0 : Int))))) (
        bif decide (((0 : Int) ≤ t14) ∧ (t14 < (6 : Int))) then
        N3 n m0 m3 t8 (IntKind.wrap .i64 (t14 + (1 : Int))) t9 o0_0 o1_0 (List.set o2_0 (0 + ((Int.toNat t14) * 1)) (intBitsV .xor .u16 (List.getD o2_0 (0 + ((Int.toNat t14) * 1)) (0 : Int)) (mulI (List.getD o2_0 (0 + ((Int.toNat t9) * 1)) (0 : Int)) (List.getD o3_2 ((0 + ((Int.toNat t14) * 6)) + ((Int.toNat t8) * 1)) (0 : Int))))) o3_0 o3_1 (addTo (Int.toNat t9) (Int.toNat t14) (List.getD o3_2 ((0 + ((Int.toNat t14) * 6)) + ((Int.toNat t8) * 1)) (0 : Int)) (Int.toNat o3_1) 0 o3_2) o4_0
        else none)
       else none
      else none)
     else none
    else none
   else
    N3 n m0 m3 t8 (IntKind.wrap .i64 (t14 + (1 : Int))) t9 o0_0 o1_0 o2_0 o3_0 o3_1 o3_2 o4_0
  else
   bif decide ((((List.length o4_0) + 1) * 1) ≤ 4398046511104) then
   N0 n m0 (IntKind.wrap .i64 (t8 + (1 : Int))) o0_0 o1_0 o2_0 (o4_0 ++ [t8]) o3_0 o3_1 o3_2
   else none := by kernel_rfl
theorem N4_succ (n : Nat)  (m4 : Nat) (t16 : Int) (o0_0 : List Int) (o1_0 : List Int) (o2_0 : List Int) (o3_0 : List Int) (o4_0 : Int) (o4_1 : Int) (o4_2 : List Int) : N4 n  (m4 + 1) t16 o0_0 o1_0 o2_0 o3_0 o4_0 o4_1 o4_2 =
  bif decide (t16 < (IntKind.wrap .i64 o4_0)) then
   bif decide (t16 < (((List.length o3_0) : Nat) : Int)) then
    bif decide (((0 : Int) ≤ t16) ∧ (t16 < (((List.length o3_0) : Nat) : Int))) then
    bif decide (((0 : Int) ≤ t16) ∧ (t16 < (6 : Int))) then
     bif decide (((0 : Int) ≤ (List.getD o3_0 (Int.toNat t16) (0 : Int))) ∧ ((List.getD o3_0 (Int.toNat t16) (0 : Int)) < (6 : Int))) then
      N4 n m4 (IntKind.wrap .i64 (t16 + (1 : Int))) o0_0 (List.set o1_0 (0 + ((Int.toNat (List.getD o3_0 (Int.toNat t16) (0 : Int))) * 1)) (List.getD o2_0 (0 + ((Int.toNat t16) * 1)) (0 : Int))) o2_0 o3_0 o4_0 o4_1 o4_2
      else none
     else none
    else none
   else
    bif decide (((0 : Int) ≤ t16) ∧ (t16 < (6 : Int))) then
    bif ((List.getD o2_0 (0 + ((Int.toNat t16) * 1)) (0 : Int)) != (0 : Int)) then
      some (.tup [.agg [.vec .u16 6 (List.replicate 6 (0 : Int))], .bool false], [])
     else
      N4 n m4 (IntKind.wrap .i64 (t16 + (1 : Int))) o0_0 o1_0 o2_0 o3_0 o4_0 o4_1 o4_2
    else none
  else
   some (.tup [.agg [.vec .u16 6 o1_0], .bool true], []) := by kernel_rfl
noncomputable def R (n : Nat) (r : Int) (c : Int) (l : List Int) (v : List Int) : Res := run (E n) n Try.f95 L (us r c l v) (HA r c l v) k0
theorem R_eq (n : Nat) (r : Int) (c : Int) (l : List Int) (v : List Int) : R n r c l v =
  N0 n n (0 : Int) (List.replicate 6 (0 : Int)) (List.replicate 6 (0 : Int)) v [] r c l := by kernel_rfl
theorem ans {n : Nat} {r : Int} {c : Int} {l : List Int} {v : List Int} (hA : Sounds Try.prog (A n)) {u : U} {H : Heap} (h : R n r c l v = some (u, H)) : Answers Try.prog 95 (us r c l v) (HA r c l v) u H := answers_env tabOk mixed hA Try.func95 (by kernel_rfl) (by kernel_rfl) h
end S_solve

end Go.VM

/- Written by a program of this session (Lift.lean): what the evaluator comes to, function by function; the kernel checks it. The conditions: those of the contracts. -/
namespace Go.VM
open Go Go.Proofs Go.Fn NimF
set_option linter.unusedVariables false
set_option maxRecDepth 100000
namespace I_square
abbrev num : Nat := 91
noncomputable def A (n : Nat) : List (Nat × Con) := ((fun (n : Nat) => ([(96, CValid)] : List (Nat × Con)))) n
noncomputable abbrev E (n : Nat) : Env (U × Heap) := envC tab ios (A n)
def L : List (List Nat) := []
abbrev us (r : Int) (c : Int) (l : List Int) : List U := (((fun (r c : Int) (l : List Int) => (([.agg [.int .i8 r, .int .i8 c, .vec .u16 36 l]] : List U), ([] : Heap)))) r c l).1
abbrev HA (r : Int) (c : Int) (l : List Int) : Heap := (((fun (r c : Int) (l : List Int) => (([.agg [.int .i8 r, .int .i8 c, .vec .u16 36 l]] : List U), ([] : Heap)))) r c l).2
noncomputable def R (n : Nat) (r : Int) (c : Int) (l : List Int) : Res := run (E n) n Try.f91 L (us r c l) (HA r c l) k0
theorem R_eq (n : Nat) (r : Int) (c : Int) (l : List Int) : R n r c l =
  pif ((Mat r c l)) (
  bif (!(valid r c l)) then
   some (.int .i64 (1 : Int), [])
  else
   bif (r != c) then
    some (.int .i64 (4 : Int), [])
   else
    some (.int .i64 (0 : Int), [])) := by kernel_rfl
theorem ans {n : Nat} {r : Int} {c : Int} {l : List Int} (hA : Sounds Try.prog (A n)) {u : U} {H : Heap} (h : R n r c l = some (u, H)) : Answers Try.prog 91 (us r c l) (HA r c l) u H := answers_env tabOk mixed hA Try.func91 (by kernel_rfl) (by kernel_rfl) h
end I_square

namespace S_inv
abbrev num : Nat := 43
noncomputable def A (n : Nat) : List (Nat × Con) := ((fun (n : Nat) => ([(94, COk), (95, CSolve0)] : List (Nat × Con)))) n
noncomputable abbrev E (n : Nat) : Env (U × Heap) := envC tab ios (A n)
def L : List (List Nat) := [[2, 4, 5, 1], [2, 4, 1, 5, 9, 7]]
abbrev us (r : Int) (c : Int) (l : List Int) : List U := (((fun (r c : Int) (l : List Int) => (([.agg [.int .i8 r, .int .i8 c, .vec .u16 36 l]] : List U), ([] : Heap)))) r c l).1
abbrev HA (r : Int) (c : Int) (l : List Int) : Heap := (((fun (r c : Int) (l : List Int) => (([.agg [.int .i8 r, .int .i8 c, .vec .u16 36 l]] : List U), ([] : Heap)))) r c l).2
def S0 (t5 : Int) (o0_0 : Int) (o0_1 : Int) (o0_2 : List Int) (o1_0 : Int) (o1_1 : Int) (o1_2 : List Int) (o2_0 : Int) (o2_1 : Int) (o2_2 : List Int) : St := ⟨[(2, .ptr 0 0 0 0 1), (4, .ptr 1 0 0 0 1), (5, .int .i64 t5), (1, .ptr 2 0 0 0 1)], 59, [(0, ⟨[.ints .i8 [o0_0], .ints .i8 [o0_1], .vecs .u16 36 [o0_2]], true⟩), (1, ⟨[.ints .i8 [o1_0], .ints .i8 [o1_1], .vecs .u16 36 [o1_2]], true⟩), (2, ⟨[.ints .i8 [o2_0], .ints .i8 [o2_1], .vecs .u16 36 [o2_2]], true⟩)], [0, 1, 2], 0⟩
noncomputable def N0 (n : Nat)  (m0 : Nat) (t5 : Int) (o0_0 : Int) (o0_1 : Int) (o0_2 : List Int) (o1_0 : Int) (o1_1 : Int) (o1_2 : List Int) (o2_0 : Int) (o2_1 : Int) (o2_2 : List Int) : Res := nodeRun (E n) n Try.f43 L k0 [true, true, true, true, false, true, false] [] m0 (S0 t5 o0_0 o0_1 o0_2 o1_0 o1_1 o1_2 o2_0 o2_1 o2_2)
def S1 (t5 : Int) (t9 : Int) (o0_0 : Int) (o0_1 : Int) (o0_2 : List Int) (o1_0 : Int) (o1_1 : Int) (o1_2 : List Int) (o2_0 : Int) (o2_1 : Int) (o2_2 : List Int) (o3_0 : List Int) : St := ⟨[(2, .ptr 0 0 0 0 1), (4, .ptr 1 0 0 0 1), (1, .ptr 2 0 0 0 1), (5, .int .i64 t5), (9, .int .i64 t9), (7, .ptr 3 0 0 0 6)], 59, [(0, ⟨[.ints .i8 [o0_0], .ints .i8 [o0_1], .vecs .u16 36 [o0_2]], true⟩), (1, ⟨[.ints .i8 [o1_0], .ints .i8 [o1_1], .vecs .u16 36 [o1_2]], true⟩), (2, ⟨[.ints .i8 [o2_0], .ints .i8 [o2_1], .vecs .u16 36 [o2_2]], true⟩), (3, ⟨[.vecs .u16 6 [o3_0]], true⟩)], [0, 1, 2, 3], 0⟩
noncomputable def N1 (n : Nat) (m0 : Nat) (m1 : Nat) (t5 : Int) (t9 : Int) (o0_0 : Int) (o0_1 : Int) (o0_2 : List Int) (o1_0 : Int) (o1_1 : Int) (o1_2 : List Int) (o2_0 : Int) (o2_1 : Int) (o2_2 : List Int) (o3_0 : List Int) : Res := nodeRun (E n) n Try.f43 L k0 [true, true, true, true, false, true, false, false, true, false, false, true, true, true, true, true, false] [m0] m1 (S1 t5 t9 o0_0 o0_1 o0_2 o1_0 o1_1 o1_2 o2_0 o2_1 o2_2 o3_0)
theorem N0_succ (n : Nat)  (m0 : Nat) (t5 : Int) (o0_0 : Int) (o0_1 : Int) (o0_2 : List Int) (o1_0 : Int) (o1_1 : Int) (o1_2 : List Int) (o2_0 : Int) (o2_1 : Int) (o2_2 : List Int) : N0 n  (m0 + 1) t5 o0_0 o0_1 o0_2 o1_0 o1_1 o1_2 o2_0 o2_1 o2_2 =
  bif decide (t5 < (IntKind.wrap .i64 o2_1)) then
   bif decide (((0 : Int) ≤ t5) ∧ (t5 < (6 : Int))) then
   pif (((inMat o2_0 o2_1 o2_2) ∧ ((Vec (List.set (List.replicate 6 (0 : Int)) (0 + ((Int.toNat t5) * 1)) (1 : Int))) ∧ ((vecOk (List.set (List.replicate 6 (0 : Int)) (0 + ((Int.toNat t5) * 1)) (1 : Int)) o2_0) = true)))) (
    bif (!(solB o2_0 o2_1 o2_2 (List.set (List.replicate 6 (0 : Int)) (0 + ((Int.toNat t5) * 1)) (1 : Int)))) then
     some (.tup [.agg [.int .i8 (0 : Int), .int .i8 (0 : Int), .vec .u16 36 (List.replicate 36 (0 : Int))], .int .i64 (6 : Int)], [])
    else
     N1 n m0 n t5 (0 : Int) o0_0 o0_1 o0_2 o1_0 o1_1 o1_2 o2_0 o2_1 o2_2 (solL o2_0 o2_1 o2_2 (List.set (List.replicate 6 (0 : Int)) (0 + ((Int.toNat t5) * 1)) (1 : Int))))
   else none
  else
   some (.tup [.agg [.int .i8 o1_0, .int .i8 o1_1, .vec .u16 36 o1_2], .int .i64 (0 : Int)], []) := by kernel_rfl
theorem N1_succ (n : Nat) (m0 : Nat) (m1 : Nat) (t5 : Int) (t9 : Int) (o0_0 : Int) (o0_1 : Int) (o0_2 : List Int) (o1_0 : Int) (o1_1 : Int) (o1_2 : List Int) (o2_0 : Int) (o2_1 : Int) (o2_2 : List Int) (o3_0 : List Int) : N1 n m0 (m1 + 1) t5 t9 o0_0 o0_1 o0_2 o1_0 o1_1 o1_2 o2_0 o2_1 o2_2 o3_0 =
  bif decide (t9 < (IntKind.wrap .i64 o2_0)) then
   bif decide (((0 : Int) ≤ t9) ∧ (t9 < (6 : Int))) then
   bif decide (((0 : Int) ≤ t9) ∧ (t9 < (6 : Int))) then
    bif decide (((0 : Int) ≤ t5) ∧ (t5 < (6 : Int))) then
     N1 n m0 m1 t5 (IntKind.wrap .i64 (t9 + (1 : Int))) o0_0 o0_1 o0_2 o1_0 o1_1 (List.set o1_2 ((0 + ((Int.toNat t9) * 6)) + ((Int.toNat t5) * 1)) (List.getD o3_0 (0 + ((Int.toNat t9) * 1)) (0 : Int))) o2_0 o2_1 o2_2 o3_0
     else none
    else none
   else none
  else
   N0 n m0 (IntKind.wrap .i64 (t5 + (1 : Int))) o0_0 o0_1 o0_2 o1_0 o1_1 o1_2 o2_0 o2_1 o2_2 := by kernel_rfl
noncomputable def R (n : Nat) (r : Int) (c : Int) (l : List Int) : Res := run (E n) n Try.f43 L (us r c l) (HA r c l) k0
theorem R_eq (n : Nat) (r : Int) (c : Int) (l : List Int) : R n r c l =
  pif ((Mat r c l)) (
  bif (!(valid r c l)) then
   some (.tup [.agg [.int .i8 (0 : Int), .int .i8 (0 : Int), .vec .u16 36 (List.replicate 36 (0 : Int))], .int .i64 (1 : Int)], [])
  else
   bif (r != c) then
    some (.tup [.agg [.int .i8 (0 : Int), .int .i8 (0 : Int), .vec .u16 36 (List.replicate 36 (0 : Int))], .int .i64 (4 : Int)], [])
   else
    N0 n n (0 : Int) (0 : Int) (0 : Int) (List.replicate 36 (0 : Int)) r c (List.replicate 36 (0 : Int)) r c l) := by kernel_rfl
theorem ans {n : Nat} {r : Int} {c : Int} {l : List Int} (hA : Sounds Try.prog (A n)) {u : U} {H : Heap} (h : R n r c l = some (u, H)) : Answers Try.prog 43 (us r c l) (HA r c l) u H := answers_env tabOk mixed hA Try.func43 (by kernel_rfl) (by kernel_rfl) h
end S_inv

namespace I_inv
abbrev num : Nat := 42
noncomputable def A (n : Nat) : List (Nat × Con) := ((fun (n : Nat) => ([(91, CSquare), (93, COne), (92, CReduced)] : List (Nat × Con)))) n
noncomputable abbrev E (n : Nat) : Env (U × Heap) := envC tab ios (A n)
def L : List (List Nat) := []
abbrev us (r : Int) (c : Int) (l : List Int) : List U := (((fun (r c : Int) (l : List Int) => (([.agg [.int .i8 r, .int .i8 c, .vec .u16 36 l]] : List U), ([] : Heap)))) r c l).1
abbrev HA (r : Int) (c : Int) (l : List Int) : Heap := (((fun (r c : Int) (l : List Int) => (([.agg [.int .i8 r, .int .i8 c, .vec .u16 36 l]] : List U), ([] : Heap)))) r c l).2
noncomputable def R (n : Nat) (r : Int) (c : Int) (l : List Int) : Res := run (E n) n Try.f42 L (us r c l) (HA r c l) k0
theorem R_eq (n : Nat) (r : Int) (c : Int) (l : List Int) : R n r c l =
  pif ((Mat r c l)) (
  bif ((sqC r c l) != (0 : Int)) then
   some (.tup [.agg [.int .i8 (0 : Int), .int .i8 (0 : Int), .vec .u16 36 (List.replicate 36 (0 : Int))], .int .i64 (sqC r c l)], [])
  else
   pif ((side r)) (
   pif (((inMat r c l) ∧ (Vec36 (oneM (Int.toNat r))))) (
   bif ((redDet (Int.toNat r) (Int.toNat c) l) == (0 : Int)) then
    some (.tup [.agg [.int .i8 (0 : Int), .int .i8 (0 : Int), .vec .u16 36 (List.replicate 36 (0 : Int))], .int .i64 (6 : Int)], [])
   else
    some (.tup [.agg [.int .i8 r, .int .i8 r, .vec .u16 36 (redO (Int.toNat r) (Int.toNat c) l (oneM (Int.toNat r)))], .int .i64 (0 : Int)], [])))) := by kernel_rfl
theorem ans {n : Nat} {r : Int} {c : Int} {l : List Int} (hA : Sounds Try.prog (A n)) {u : U} {H : Heap} (h : R n r c l = some (u, H)) : Answers Try.prog 42 (us r c l) (HA r c l) u H := answers_env tabOk mixed hA Try.func42 (by kernel_rfl) (by kernel_rfl) h
end I_inv

end Go.VM
