/- Written by a program of this session (Lift.lean): what the evaluator comes to, function by function; the kernel checks it. The conditions: those of the contracts. -/
import Derived.Test.YtcbimafcfccpeaaGreatDoorVmP5
import Derived.Test.YtcbimafcfccpeaaGreatDoorPolyT
import Derived.Test.YtcbimafcfccpeaaGreatDoorPolyTS
import Derived.Test.YtcbimafcfccpeaaGreatDoorNimCon
import Derived.Test.YtcbimafcfccpeaaGreatDoorPolyCon
import Derived.KernelRfl
set_option linter.unusedVariables false
set_option linter.unusedSimpArgs false
set_option linter.unusedSectionVars false
namespace Go.VM
open Go Go.Proofs Go.Fn NimF
set_option linter.unusedVariables false
set_option maxRecDepth 100000
namespace S_max
abbrev num : Nat := 65
noncomputable def A (n : Nat) : List (Nat × Con) := ((fun (n : Nat) => ([] : List (Nat × Con)))) n
noncomputable abbrev E (n : Nat) : Env (U × Heap) := envC tab ios (A n)
def L : List (List Nat) := []
abbrev us (a : Int) (b : Int) : List U := (((fun (a b : Int) => (([.int .i64 a, .int .i64 b] : List U), ([] : Heap)))) a b).1
abbrev HA (a : Int) (b : Int) : Heap := (((fun (a b : Int) => (([.int .i64 a, .int .i64 b] : List U), ([] : Heap)))) a b).2
noncomputable def R (n : Nat) (a : Int) (b : Int) : Res := run (E n) n Tryz.f65 L (us a b) (HA a b) k0
theorem R_eq (n : Nat) (a : Int) (b : Int) : R n a b =
  bif decide (a > b) then
   some (.int .i64 a, [])
  else
   some (.int .i64 b, []) := by kernel_rfl
theorem ans {n : Nat} {a : Int} {b : Int} (hA : Sounds Tryz.prog (A n)) {u : U} {H : Heap} (h : R n a b = some (u, H)) : Answers Tryz.prog 65 (us a b) (HA a b) u H := answers_env tabOk mixed hA Tryz.func65 (by kernel_rfl) (by kernel_rfl) h
end S_max

namespace I_cloneP
abbrev num : Nat := 68
noncomputable def A (n : Nat) : List (Nat × Con) := ((fun (n : Nat) => ([] : List (Nat × Con)))) n
noncomputable abbrev E (n : Nat) : Env (U × Heap) := envC tab ios (A n)
def L : List (List Nat) := []
abbrev us (p : List Int) (j : Nat) : List U := (((fun (p : List Int) (j : Nat) => (([.rsl [.ints .u16 p] (j + 1)] : List U), ([] : Heap)))) p j).1
abbrev HA (p : List Int) (j : Nat) : Heap := (((fun (p : List Int) (j : Nat) => (([.rsl [.ints .u16 p] (j + 1)] : List U), ([] : Heap)))) p j).2
noncomputable def R (n : Nat) (p : List Int) (j : Nat) : Res := run (E n) n Tryz.f68 L (us p j) (HA p j) k0
theorem R_eq (n : Nat) (p : List Int) (j : Nat) : R n p j =
  bif decide (((0 + (j + 1)) * 1) ≤ 4398046511104) then
  some (.own 0, [(0, ⟨[.ints .u16 ((List.replicate 0 (0 : Int)) ++ p)], true⟩)])
  else none := by kernel_rfl
theorem ans {n : Nat} {p : List Int} {j : Nat} (hA : Sounds Tryz.prog (A n)) {u : U} {H : Heap} (h : R n p j = some (u, H)) : Answers Tryz.prog 68 (us p j) (HA p j) u H := answers_env tabOk mixed hA Tryz.func68 (by kernel_rfl) (by kernel_rfl) h
end I_cloneP

namespace I_cloneP0
abbrev num : Nat := 68
noncomputable def A (n : Nat) : List (Nat × Con) := ((fun (n : Nat) => ([] : List (Nat × Con)))) n
noncomputable abbrev E (n : Nat) : Env (U × Heap) := envC tab ios (A n)
def L : List (List Nat) := []
abbrev us (b : Bool) : List U := (((fun (b : Bool) => (([.esl b [.ints .u16 []]] : List U), ([] : Heap)))) b).1
abbrev HA (b : Bool) : Heap := (((fun (b : Bool) => (([.esl b [.ints .u16 []]] : List U), ([] : Heap)))) b).2
noncomputable def R (n : Nat) (b : Bool) : Res := run (E n) n Tryz.f68 L (us b) (HA b) k0
theorem R_eq (n : Nat) (b : Bool) : R n b =
  bif b then
   some (.nils, [])
  else
   some (.own 0, [(0, ⟨[.ints .u16 []], true⟩)]) := by kernel_rfl
theorem ans {n : Nat} {b : Bool} (hA : Sounds Tryz.prog (A n)) {u : U} {H : Heap} (h : R n b = some (u, H)) : Answers Tryz.prog 68 (us b) (HA b) u H := answers_env tabOk mixed hA Tryz.func68 (by kernel_rfl) (by kernel_rfl) h
end I_cloneP0

namespace I_trimP
abbrev num : Nat := 64
noncomputable def A (n : Nat) : List (Nat × Con) := ((fun (n : Nat) => ([(68, CCloneP)] : List (Nat × Con)))) n
noncomputable abbrev E (n : Nat) : Env (U × Heap) := envC tab ios (A n)
def L : List (List Nat) := [[3, 0]]
abbrev us (p : List Int) (j : Nat) : List U := (((fun (p : List Int) (j : Nat) => (([.rsl [.ints .u16 p] j] : List U), ([] : Heap)))) p j).1
abbrev HA (p : List Int) (j : Nat) : Heap := (((fun (p : List Int) (j : Nat) => (([.rsl [.ints .u16 p] j] : List U), ([] : Heap)))) p j).2
def S0 (t3 : Int) (t0_0 : List Int) (t0n : Nat) : St := ⟨[(3, .int .i64 t3), (0, .rsl [.ints .u16 t0_0] t0n)], 23, [], [], 0⟩
noncomputable def N0 (n : Nat)  (m0 : Nat) (t3 : Int) (t0_0 : List Int) (t0n : Nat) : Res := nodeRun (E n) n Tryz.f64 L k0 [true, true, false, false] [] m0 (S0 t3 t0_0 t0n)
theorem N0_succ (n : Nat)  (m0 : Nat) (t3 : Int) (t0_0 : List Int) (t0n : Nat) : N0 n  (m0 + 1) t3 t0_0 t0n =
  bif decide (t3 > (0 : Int)) then
   bif decide (((0 : Int) ≤ (IntKind.wrap .i64 (t3 - (1 : Int)))) ∧ ((IntKind.wrap .i64 (t3 - (1 : Int))) < ((t0n : Nat) : Int))) then
   bif ((List.getD t0_0 (Int.toNat (IntKind.wrap .i64 (t3 - (1 : Int)))) (0 : Int)) == (0 : Int)) then
     N0 n m0 (IntKind.wrap .i64 (t3 - (1 : Int))) t0_0 t0n
    else
     bif decide (((0 : Int) ≤ t3) ∧ ((t3 ≤ t3) ∧ (t3 ≤ ((t0n : Nat) : Int)))) then
     pif ((((List.length (getRow 0 (Int.toNat t3) t0_0)) = (Int.toNat t3)) ∧ ((Int.toNat t3) ≤ 1048576))) (
      some (.own 0, [(0, ⟨[.ints .u16 (getRow 0 (Int.toNat t3) t0_0)], true⟩)]))
     else none
   else none
  else
   bif decide (((0 : Int) ≤ t3) ∧ ((t3 ≤ t3) ∧ (t3 ≤ ((t0n : Nat) : Int)))) then
   pif ((((List.length (getRow 0 (Int.toNat t3) t0_0)) = (Int.toNat t3)) ∧ ((Int.toNat t3) ≤ 1048576))) (
    some (.own 0, [(0, ⟨[.ints .u16 (getRow 0 (Int.toNat t3) t0_0)], true⟩)]))
   else none := by kernel_rfl
noncomputable def R (n : Nat) (p : List Int) (j : Nat) : Res := run (E n) n Tryz.f64 L (us p j) (HA p j) k0
theorem R_eq (n : Nat) (p : List Int) (j : Nat) : R n p j =
  N0 n n ((j : Nat) : Int) p j := by kernel_rfl
theorem ans {n : Nat} {p : List Int} {j : Nat} (hA : Sounds Tryz.prog (A n)) {u : U} {H : Heap} (h : R n p j = some (u, H)) : Answers Tryz.prog 64 (us p j) (HA p j) u H := answers_env tabOk mixed hA Tryz.func64 (by kernel_rfl) (by kernel_rfl) h
end I_trimP

namespace S_trimP
abbrev num : Nat := 55
noncomputable def A (n : Nat) : List (Nat × Con) := ((fun (n : Nat) => ([] : List (Nat × Con)))) n
noncomputable abbrev E (n : Nat) : Env (U × Heap) := envC tab ios (A n)
def L : List (List Nat) := [[3, 0]]
abbrev us (p : List Int) (j : Nat) : List U := (((fun (p : List Int) (j : Nat) => (([.rsl [.ints .u16 p] j] : List U), ([] : Heap)))) p j).1
abbrev HA (p : List Int) (j : Nat) : Heap := (((fun (p : List Int) (j : Nat) => (([.rsl [.ints .u16 p] j] : List U), ([] : Heap)))) p j).2
def S0 (t3 : Int) (t0_0 : List Int) (t0n : Nat) : St := ⟨[(3, .int .i64 t3), (0, .rsl [.ints .u16 t0_0] t0n)], 23, [], [], 0⟩
noncomputable def N0 (n : Nat)  (m0 : Nat) (t3 : Int) (t0_0 : List Int) (t0n : Nat) : Res := nodeRun (E n) n Tryz.f55 L k0 [true, true, false, false] [] m0 (S0 t3 t0_0 t0n)
theorem N0_succ (n : Nat)  (m0 : Nat) (t3 : Int) (t0_0 : List Int) (t0n : Nat) : N0 n  (m0 + 1) t3 t0_0 t0n =
  bif decide (t3 > (0 : Int)) then
   bif decide (((0 : Int) ≤ (IntKind.wrap .i64 (t3 - (1 : Int)))) ∧ ((IntKind.wrap .i64 (t3 - (1 : Int))) < ((t0n : Nat) : Int))) then
   bif ((List.getD t0_0 (Int.toNat (IntKind.wrap .i64 (t3 - (1 : Int)))) (0 : Int)) == (0 : Int)) then
     N0 n m0 (IntKind.wrap .i64 (t3 - (1 : Int))) t0_0 t0n
    else
     bif decide (((0 : Int) ≤ t3) ∧ ((t3 ≤ ((t0n : Nat) : Int)) ∧ (((0 : Int) ≤ (0 : Int)) ∧ ((0 : Int) ≤ t3)))) then
     bif decide (((0 + ((Int.toNat t3) - 0)) * 1) ≤ 4398046511104) then
      some (.own 0, [(0, ⟨[.ints .u16 ((List.replicate 0 (0 : Int)) ++ (getRow 0 ((Int.toNat t3) - 0) t0_0))], true⟩)])
      else none
     else none
   else none
  else
   bif decide (((0 : Int) ≤ t3) ∧ ((t3 ≤ ((t0n : Nat) : Int)) ∧ (((0 : Int) ≤ (0 : Int)) ∧ ((0 : Int) ≤ t3)))) then
   bif decide (((0 + ((Int.toNat t3) - 0)) * 1) ≤ 4398046511104) then
    some (.own 0, [(0, ⟨[.ints .u16 ((List.replicate 0 (0 : Int)) ++ (getRow 0 ((Int.toNat t3) - 0) t0_0))], true⟩)])
    else none
   else none := by kernel_rfl
noncomputable def R (n : Nat) (p : List Int) (j : Nat) : Res := run (E n) n Tryz.f55 L (us p j) (HA p j) k0
theorem R_eq (n : Nat) (p : List Int) (j : Nat) : R n p j =
  N0 n n ((j : Nat) : Int) p j := by kernel_rfl
theorem ans {n : Nat} {p : List Int} {j : Nat} (hA : Sounds Tryz.prog (A n)) {u : U} {H : Heap} (h : R n p j = some (u, H)) : Answers Tryz.prog 55 (us p j) (HA p j) u H := answers_env tabOk mixed hA Tryz.func55 (by kernel_rfl) (by kernel_rfl) h
end S_trimP

namespace I_plusP
abbrev num : Nat := 36
noncomputable def A (n : Nat) : List (Nat × Con) := ((fun (n : Nat) => ([(64, CTrimP)] : List (Nat × Con)))) n
noncomputable abbrev E (n : Nat) : Env (U × Heap) := envC tab ios (A n)
def L : List (List Nat) := [[5, 19, 17, 18]]
abbrev us (p : List Int) (j : Nat) (q : List Int) (i : Nat) : List U := (((fun (p : List Int) (j : Nat) (q : List Int) (i : Nat) => (([.rsl [.ints .u16 p] j, .rsl [.ints .u16 q] i] : List U), ([] : Heap)))) p j q i).1
abbrev HA (p : List Int) (j : Nat) (q : List Int) (i : Nat) : Heap := (((fun (p : List Int) (j : Nat) (q : List Int) (i : Nat) => (([.rsl [.ints .u16 p] j, .rsl [.ints .u16 q] i] : List U), ([] : Heap)))) p j q i).2
def S0 (t19 : Int) (t17_0 : List Int) (t17n : Nat) (t18 : Int) (o0_0 : List Int) : St := ⟨[(5, .own 0), (19, .int .i64 t19), (17, .rsl [.ints .u16 t17_0] t17n), (18, .int .i64 t18)], 34, [(0, ⟨[.ints .u16 o0_0], true⟩)], [0], 0⟩
noncomputable def N0 (n : Nat)  (m0 : Nat) (t19 : Int) (t17_0 : List Int) (t17n : Nat) (t18 : Int) (o0_0 : List Int) : Res := nodeRun (E n) n Tryz.f36 L k0 [true, true, true, false, true, false] [] m0 (S0 t19 t17_0 t17n t18 o0_0)
theorem N0_succ (n : Nat)  (m0 : Nat) (t19 : Int) (t17_0 : List Int) (t17n : Nat) (t18 : Int) (o0_0 : List Int) : N0 n  (m0 + 1) t19 t17_0 t17n t18 o0_0 =
  bif decide (t19 < t18) then
   bif decide (((0 : Int) ≤ t19) ∧ (t19 < ((t17n : Nat) : Int))) then
   bif decide (((0 : Int) ≤ t19) ∧ (t19 < (((List.length o0_0) : Nat) : Int))) then
    bif decide (((0 : Int) ≤ t19) ∧ (t19 < (((List.length o0_0) : Nat) : Int))) then
     N0 n m0 (IntKind.wrap .i64 (t19 + (1 : Int))) t17_0 t17n t18 (List.set o0_0 (Int.toNat t19) (intBitsV .xor .u16 (List.getD o0_0 (Int.toNat t19) (0 : Int)) (List.getD t17_0 (Int.toNat t19) (0 : Int))))
     else none
    else none
   else none
  else
   pif ((genP o0_0 (List.length o0_0))) (
   some (.own 0, [(0, ⟨[.ints .u16 (trP o0_0)], true⟩)])) := by kernel_rfl
noncomputable def R (n : Nat) (p : List Int) (j : Nat) (q : List Int) (i : Nat) : Res := run (E n) n Tryz.f36 L (us p j q i) (HA p j q i) k0
theorem R_eq (n : Nat) (p : List Int) (j : Nat) (q : List Int) (i : Nat) : R n p j q i =
  bif decide (((0 : Int) ≤ (cond true (if (((i : Nat) : Int) > ((j : Nat) : Int)) then ((i : Nat) : Int) else ((j : Nat) : Int)) (if (((i : Nat) : Int) < ((j : Nat) : Int)) then ((i : Nat) : Int) else ((j : Nat) : Int)))) ∧ (((cond true (if (((i : Nat) : Int) > ((j : Nat) : Int)) then ((i : Nat) : Int) else ((j : Nat) : Int)) (if (((i : Nat) : Int) < ((j : Nat) : Int)) then ((i : Nat) : Int) else ((j : Nat) : Int))) * (1 : Int)) ≤ (4398046511104 : Int))) then
  N0 n n (0 : Int) q i ((i : Nat) : Int) ((List.take (min j (List.length (List.replicate (Int.toNat (cond true (if (((i : Nat) : Int) > ((j : Nat) : Int)) then ((i : Nat) : Int) else ((j : Nat) : Int)) (if (((i : Nat) : Int) < ((j : Nat) : Int)) then ((i : Nat) : Int) else ((j : Nat) : Int)))) (0 : Int)))) p) ++ (List.drop (min j (List.length (List.replicate (Int.toNat (cond true (if (((i : Nat) : Int) > ((j : Nat) : Int)) then ((i : Nat) : Int) else ((j : Nat) : Int)) (if (((i : Nat) : Int) < ((j : Nat) : Int)) then ((i : Nat) : Int) else ((j : Nat) : Int)))) (0 : Int)))) (List.replicate (Int.toNat (cond true (if (((i : Nat) : Int) > ((j : Nat) : Int)) then ((i : Nat) : Int) else ((j : Nat) : Int)) (if (((i : Nat) : Int) < ((j : Nat) : Int)) then ((i : Nat) : Int) else ((j : Nat) : Int)))) (0 : Int))))
  else none := by kernel_rfl
theorem ans {n : Nat} {p : List Int} {j : Nat} {q : List Int} {i : Nat} (hA : Sounds Tryz.prog (A n)) {u : U} {H : Heap} (h : R n p j q i = some (u, H)) : Answers Tryz.prog 36 (us p j q i) (HA p j q i) u H := answers_env tabOk mixed hA Tryz.func36 (by kernel_rfl) (by kernel_rfl) h
end I_plusP

namespace S_plusP
abbrev num : Nat := 37
noncomputable def A (n : Nat) : List (Nat × Con) := ((fun (n : Nat) => ([(55, CTrimP), (65, CMax)] : List (Nat × Con)))) n
noncomputable abbrev E (n : Nat) : Env (U × Heap) := envC tab ios (A n)
def L : List (List Nat) := [[5, 1, 6, 0], [5, 7, 1]]
abbrev us (p : List Int) (j : Nat) (q : List Int) (i : Nat) : List U := (((fun (p : List Int) (j : Nat) (q : List Int) (i : Nat) => (([.rsl [.ints .u16 p] j, .rsl [.ints .u16 q] i] : List U), ([] : Heap)))) p j q i).1
abbrev HA (p : List Int) (j : Nat) (q : List Int) (i : Nat) : Heap := (((fun (p : List Int) (j : Nat) (q : List Int) (i : Nat) => (([.rsl [.ints .u16 p] j, .rsl [.ints .u16 q] i] : List U), ([] : Heap)))) p j q i).2
def S0 (t1_0 : List Int) (t1n : Nat) (t6 : Int) (t0_0 : List Int) (t0n : Nat) (o0_0 : List Int) : St := ⟨[(5, .own 0), (1, .rsl [.ints .u16 t1_0] t1n), (6, .int .i64 t6), (0, .rsl [.ints .u16 t0_0] t0n)], 47, [(0, ⟨[.ints .u16 o0_0], true⟩)], [0], 0⟩
noncomputable def N0 (n : Nat)  (m0 : Nat) (t1_0 : List Int) (t1n : Nat) (t6 : Int) (t0_0 : List Int) (t0n : Nat) (o0_0 : List Int) : Res := nodeRun (E n) n Tryz.f37 L k0 [true, true, false, true, false] [] m0 (S0 t1_0 t1n t6 t0_0 t0n o0_0)
def S1 (t7 : Int) (t1_0 : List Int) (t1n : Nat) (o0_0 : List Int) : St := ⟨[(5, .own 0), (7, .int .i64 t7), (1, .rsl [.ints .u16 t1_0] t1n)], 47, [(0, ⟨[.ints .u16 o0_0], true⟩)], [0], 0⟩
noncomputable def N1 (n : Nat)  (m1 : Nat) (t7 : Int) (t1_0 : List Int) (t1n : Nat) (o0_0 : List Int) : Res := nodeRun (E n) n Tryz.f37 L k0 [true, true, true, false, true, false] [] m1 (S1 t7 t1_0 t1n o0_0)
theorem N0_succ (n : Nat)  (m0 : Nat) (t1_0 : List Int) (t1n : Nat) (t6 : Int) (t0_0 : List Int) (t0n : Nat) (o0_0 : List Int) : N0 n  (m0 + 1) t1_0 t1n t6 t0_0 t0n o0_0 =
  bif decide (t6 < ((t0n : Nat) : Int)) then
   bif decide (((0 : Int) ≤ t6) ∧ (t6 < ((t0n : Nat) : Int))) then
   bif decide (((0 : Int) ≤ t6) ∧ (t6 < (((List.length o0_0) : Nat) : Int))) then
    N0 n m0 t1_0 t1n (IntKind.wrap .i64 (t6 + (1 : Int))) t0_0 t0n (List.set o0_0 (Int.toNat t6) (List.getD t0_0 (Int.toNat t6) (0 : Int)))
    else none
   else none
  else
   N1 n n (0 : Int) t1_0 t1n o0_0 := by kernel_rfl
theorem N1_succ (n : Nat)  (m1 : Nat) (t7 : Int) (t1_0 : List Int) (t1n : Nat) (o0_0 : List Int) : N1 n  (m1 + 1) t7 t1_0 t1n o0_0 =
  bif decide (t7 < ((t1n : Nat) : Int)) then
   bif decide (((0 : Int) ≤ t7) ∧ (t7 < (((List.length o0_0) : Nat) : Int))) then
   bif decide (((0 : Int) ≤ t7) ∧ (t7 < ((t1n : Nat) : Int))) then
    bif decide (((0 : Int) ≤ t7) ∧ (t7 < (((List.length o0_0) : Nat) : Int))) then
     N1 n m1 (IntKind.wrap .i64 (t7 + (1 : Int))) t1_0 t1n (List.set o0_0 (Int.toNat t7) (intBitsV .xor .u16 (List.getD o0_0 (Int.toNat t7) (0 : Int)) (List.getD t1_0 (Int.toNat t7) (0 : Int))))
     else none
    else none
   else none
  else
   pif ((genP o0_0 (List.length o0_0))) (
   some (.own 0, [(0, ⟨[.ints .u16 (trP o0_0)], true⟩)])) := by kernel_rfl
noncomputable def R (n : Nat) (p : List Int) (j : Nat) (q : List Int) (i : Nat) : Res := run (E n) n Tryz.f37 L (us p j q i) (HA p j q i) k0
theorem R_eq (n : Nat) (p : List Int) (j : Nat) (q : List Int) (i : Nat) : R n p j q i =
  pif (True) (
  bif decide (((0 : Int) ≤ (if (((j : Nat) : Int) < ((i : Nat) : Int)) then ((i : Nat) : Int) else ((j : Nat) : Int))) ∧ (((if (((j : Nat) : Int) < ((i : Nat) : Int)) then ((i : Nat) : Int) else ((j : Nat) : Int)) * (1 : Int)) ≤ (4398046511104 : Int))) then
  N0 n n q i (0 : Int) p j (List.replicate (Int.toNat (if (((j : Nat) : Int) < ((i : Nat) : Int)) then ((i : Nat) : Int) else ((j : Nat) : Int))) (0 : Int))
  else none) := by kernel_rfl
theorem ans {n : Nat} {p : List Int} {j : Nat} {q : List Int} {i : Nat} (hA : Sounds Tryz.prog (A n)) {u : U} {H : Heap} (h : R n p j q i = some (u, H)) : Answers Tryz.prog 37 (us p j q i) (HA p j q i) u H := answers_env tabOk mixed hA Tryz.func37 (by kernel_rfl) (by kernel_rfl) h
end S_plusP

namespace I_timesP
abbrev num : Nat := 33
noncomputable def A (n : Nat) : List (Nat × Con) := ((fun (n : Nat) => ([(64, CTrimP), (63, CMul)] : List (Nat × Con)))) n
noncomputable abbrev E (n : Nat) : Env (U × Heap) := envC tab ios (A n)
def L : List (List Nat) := [[5, 28, 1, 26, 27], [5, 1, 26, 27, 28, 35, 7, 6, 33, 34]]
abbrev us (p : List Int) (j : Nat) (q : List Int) (i : Nat) : List U := (((fun (p : List Int) (j : Nat) (q : List Int) (i : Nat) => (([.rsl [.ints .u16 p] j, .rsl [.ints .u16 q] i] : List U), ([] : Heap)))) p j q i).1
abbrev HA (p : List Int) (j : Nat) (q : List Int) (i : Nat) : Heap := (((fun (p : List Int) (j : Nat) (q : List Int) (i : Nat) => (([.rsl [.ints .u16 p] j, .rsl [.ints .u16 q] i] : List U), ([] : Heap)))) p j q i).2
def S0 (t28 : Int) (t1_0 : List Int) (t1n : Nat) (t26_0 : List Int) (t26n : Nat) (t27 : Int) (o0_0 : List Int) : St := ⟨[(5, .own 0), (28, .int .i64 t28), (1, .rsl [.ints .u16 t1_0] t1n), (26, .rsl [.ints .u16 t26_0] t26n), (27, .int .i64 t27)], 55, [(0, ⟨[.ints .u16 o0_0], true⟩)], [0], 0⟩
noncomputable def N0 (n : Nat)  (m0 : Nat) (t28 : Int) (t1_0 : List Int) (t1n : Nat) (t26_0 : List Int) (t26n : Nat) (t27 : Int) (o0_0 : List Int) : Res := nodeRun (E n) n Tryz.f33 L k0 [true, true, true, false, true, false] [] m0 (S0 t28 t1_0 t1n t26_0 t26n t27 o0_0)
def S1 (t1_0 : List Int) (t1n : Nat) (t26_0 : List Int) (t26n : Nat) (t27 : Int) (t28 : Int) (t35 : Int) (t7 : Int) (t6 : Int) (t33_0 : List Int) (t33n : Nat) (t34 : Int) (o0_0 : List Int) : St := ⟨[(5, .own 0), (1, .rsl [.ints .u16 t1_0] t1n), (26, .rsl [.ints .u16 t26_0] t26n), (27, .int .i64 t27), (28, .int .i64 t28), (35, .int .i64 t35), (7, .int .u16 t7), (6, .int .i64 t6), (33, .rsl [.ints .u16 t33_0] t33n), (34, .int .i64 t34)], 55, [(0, ⟨[.ints .u16 o0_0], true⟩)], [0], 0⟩
noncomputable def N1 (n : Nat) (m0 : Nat) (m1 : Nat) (t1_0 : List Int) (t1n : Nat) (t26_0 : List Int) (t26n : Nat) (t27 : Int) (t28 : Int) (t35 : Int) (t7 : Int) (t6 : Int) (t33_0 : List Int) (t33n : Nat) (t34 : Int) (o0_0 : List Int) : Res := nodeRun (E n) n Tryz.f33 L k0 [true, true, true, false, true, false, false, true, true, false, false, true, true, false] [m0] m1 (S1 t1_0 t1n t26_0 t26n t27 t28 t35 t7 t6 t33_0 t33n t34 o0_0)
theorem N0_succ (n : Nat)  (m0 : Nat) (t28 : Int) (t1_0 : List Int) (t1n : Nat) (t26_0 : List Int) (t26n : Nat) (t27 : Int) (o0_0 : List Int) : N0 n  (m0 + 1) t28 t1_0 t1n t26_0 t26n t27 o0_0 =
  bif decide (t28 < t27) then
   bif decide (((0 : Int) ≤ t28) ∧ (t28 < ((t26n : Nat) : Int))) then
   N1 n m0 n t1_0 t1n t26_0 t26n t27 t28 (0 : Int) (List.getD t26_0 (Int.toNat t28) (0 : Int)) t28 t1_0 t1n ((t1n : Nat) : Int) o0_0
   else none
  else
   pif ((genP o0_0 (List.length o0_0))) (
   some (.own 0, [(0, ⟨[.ints .u16 (trP o0_0)], true⟩)])) := by kernel_rfl
theorem N1_succ (n : Nat) (m0 : Nat) (m1 : Nat) (t1_0 : List Int) (t1n : Nat) (t26_0 : List Int) (t26n : Nat) (t27 : Int) (t28 : Int) (t35 : Int) (t7 : Int) (t6 : Int) (t33_0 : List Int) (t33n : Nat) (t34 : Int) (o0_0 : List Int) : N1 n m0 (m1 + 1) t1_0 t1n t26_0 t26n t27 t28 t35 t7 t6 t33_0 t33n t34 o0_0 =
  bif decide (t35 < t34) then
   bif decide (((0 : Int) ≤ t35) ∧ (t35 < ((t33n : Nat) : Int))) then
   bif decide (((0 : Int) ≤ (IntKind.wrap .i64 (t6 + t35))) ∧ ((IntKind.wrap .i64 (t6 + t35)) < (((List.length o0_0) : Nat) : Int))) then
    pif (((u16 t7) ∧ (u16 (List.getD t33_0 (Int.toNat t35) (0 : Int))))) (
     bif decide (((0 : Int) ≤ (IntKind.wrap .i64 (t6 + t35))) ∧ ((IntKind.wrap .i64 (t6 + t35)) < (((List.length o0_0) : Nat) : Int))) then
     N1 n m0 m1 t1_0 t1n t26_0 t26n t27 t28 (IntKind.wrap .i64 (t35 + (1 : Int))) t7 t6 t33_0 t33n t34 (List.set o0_0 (Int.toNat (IntKind.wrap .i64 (t6 + t35))) (intBitsV .xor .u16 (List.getD o0_0 (Int.toNat (IntKind.wrap .i64 (t6 + t35))) (0 : Int)) (mulI t7 (List.getD t33_0 (Int.toNat t35) (0 : Int)))))
     else none)
    else none
   else none
  else
   N0 n m0 (IntKind.wrap .i64 (t28 + (1 : Int))) t1_0 t1n t26_0 t26n t27 o0_0 := by kernel_rfl
noncomputable def R (n : Nat) (p : List Int) (j : Nat) (q : List Int) (i : Nat) : Res := run (E n) n Tryz.f33 L (us p j q i) (HA p j q i) k0
theorem R_eq (n : Nat) (p : List Int) (j : Nat) (q : List Int) (i : Nat) : R n p j q i =
  bif (((j : Nat) : Int) == (0 : Int)) then
   some (.own 0, [(0, ⟨[.ints .u16 []], true⟩)])
  else
   bif (((i : Nat) : Int) == (0 : Int)) then
    some (.own 0, [(0, ⟨[.ints .u16 []], true⟩)])
   else
    bif decide (((0 : Int) ≤ (IntKind.wrap .i64 ((IntKind.wrap .i64 (((j : Nat) : Int) + ((i : Nat) : Int))) - (1 : Int)))) ∧ (((IntKind.wrap .i64 ((IntKind.wrap .i64 (((j : Nat) : Int) + ((i : Nat) : Int))) - (1 : Int))) * (1 : Int)) ≤ (4398046511104 : Int))) then
    N0 n n (0 : Int) q i p j ((j : Nat) : Int) (List.replicate (Int.toNat (IntKind.wrap .i64 ((IntKind.wrap .i64 (((j : Nat) : Int) + ((i : Nat) : Int))) - (1 : Int)))) (0 : Int))
    else none := by kernel_rfl
theorem ans {n : Nat} {p : List Int} {j : Nat} {q : List Int} {i : Nat} (hA : Sounds Tryz.prog (A n)) {u : U} {H : Heap} (h : R n p j q i = some (u, H)) : Answers Tryz.prog 33 (us p j q i) (HA p j q i) u H := answers_env tabOk mixed hA Tryz.func33 (by kernel_rfl) (by kernel_rfl) h
end I_timesP

namespace S_timesP
abbrev num : Nat := 35
noncomputable def A (n : Nat) : List (Nat × Con) := ((fun (n : Nat) => ([(43, CMul)] : List (Nat × Con)))) n
noncomputable abbrev E (n : Nat) : Env (U × Heap) := envC tab ios (A n)
def L : List (List Nat) := [[5, 6, 1, 0], [5, 1, 0, 6, 7]]
abbrev us (p : List Int) (j : Nat) (q : List Int) (i : Nat) : List U := (((fun (p : List Int) (j : Nat) (q : List Int) (i : Nat) => (([.rsl [.ints .u16 p] j, .rsl [.ints .u16 q] i] : List U), ([] : Heap)))) p j q i).1
abbrev HA (p : List Int) (j : Nat) (q : List Int) (i : Nat) : Heap := (((fun (p : List Int) (j : Nat) (q : List Int) (i : Nat) => (([.rsl [.ints .u16 p] j, .rsl [.ints .u16 q] i] : List U), ([] : Heap)))) p j q i).2
def S0 (t6 : Int) (t1_0 : List Int) (t1n : Nat) (t0_0 : List Int) (t0n : Nat) (o0_0 : List Int) : St := ⟨[(5, .own 0), (6, .int .i64 t6), (1, .rsl [.ints .u16 t1_0] t1n), (0, .rsl [.ints .u16 t0_0] t0n)], 58, [(0, ⟨[.ints .u16 o0_0], true⟩)], [0], 0⟩
noncomputable def N0 (n : Nat)  (m0 : Nat) (t6 : Int) (t1_0 : List Int) (t1n : Nat) (t0_0 : List Int) (t0n : Nat) (o0_0 : List Int) : Res := nodeRun (E n) n Tryz.f35 L k0 [true, true, true, false, true, false] [] m0 (S0 t6 t1_0 t1n t0_0 t0n o0_0)
def S1 (t1_0 : List Int) (t1n : Nat) (t0_0 : List Int) (t0n : Nat) (t6 : Int) (t7 : Int) (o0_0 : List Int) : St := ⟨[(5, .own 0), (1, .rsl [.ints .u16 t1_0] t1n), (0, .rsl [.ints .u16 t0_0] t0n), (6, .int .i64 t6), (7, .int .i64 t7)], 58, [(0, ⟨[.ints .u16 o0_0], true⟩)], [0], 0⟩
noncomputable def N1 (n : Nat) (m0 : Nat) (m1 : Nat) (t1_0 : List Int) (t1n : Nat) (t0_0 : List Int) (t0n : Nat) (t6 : Int) (t7 : Int) (o0_0 : List Int) : Res := nodeRun (E n) n Tryz.f35 L k0 [true, true, true, false, true, false, false, true, false, false, true, false] [m0] m1 (S1 t1_0 t1n t0_0 t0n t6 t7 o0_0)
theorem N0_succ (n : Nat)  (m0 : Nat) (t6 : Int) (t1_0 : List Int) (t1n : Nat) (t0_0 : List Int) (t0n : Nat) (o0_0 : List Int) : N0 n  (m0 + 1) t6 t1_0 t1n t0_0 t0n o0_0 =
  bif decide (t6 < ((t0n : Nat) : Int)) then
   N1 n m0 n t1_0 t1n t0_0 t0n t6 (0 : Int) o0_0
  else
   some (.own 0, [(0, ⟨[.ints .u16 o0_0], true⟩)]) := by kernel_rfl
theorem N1_succ (n : Nat) (m0 : Nat) (m1 : Nat) (t1_0 : List Int) (t1n : Nat) (t0_0 : List Int) (t0n : Nat) (t6 : Int) (t7 : Int) (o0_0 : List Int) : N1 n m0 (m1 + 1) t1_0 t1n t0_0 t0n t6 t7 o0_0 =
  bif decide (t7 < ((t1n : Nat) : Int)) then
   bif decide (((0 : Int) ≤ (IntKind.wrap .i64 (t6 + t7))) ∧ ((IntKind.wrap .i64 (t6 + t7)) < (((List.length o0_0) : Nat) : Int))) then
   bif decide (((0 : Int) ≤ t6) ∧ (t6 < ((t0n : Nat) : Int))) then
    bif decide (((0 : Int) ≤ t7) ∧ (t7 < ((t1n : Nat) : Int))) then
     pif (((u16 (List.getD t0_0 (Int.toNat t6) (0 : Int))) ∧ (u16 (List.getD t1_0 (Int.toNat t7) (0 : Int))))) (
      bif decide (((0 : Int) ≤ (IntKind.wrap .i64 (t6 + t7))) ∧ ((IntKind.wrap .i64 (t6 + t7)) < (((List.length o0_0) : Nat) : Int))) then
      N1 n m0 m1 t1_0 t1n t0_0 t0n t6 (IntKind.wrap .i64 (t7 + (1 : Int))) (List.set o0_0 (Int.toNat (IntKind.wrap .i64 (t6 + t7))) (intBitsV .xor .u16 (List.getD o0_0 (Int.toNat (IntKind.wrap .i64 (t6 + t7))) (0 : Int)) (mulI (List.getD t0_0 (Int.toNat t6) (0 : Int)) (List.getD t1_0 (Int.toNat t7) (0 : Int)))))
      else none)
     else none
    else none
   else none
  else
   N0 n m0 (IntKind.wrap .i64 (t6 + (1 : Int))) t1_0 t1n t0_0 t0n o0_0 := by kernel_rfl
noncomputable def R (n : Nat) (p : List Int) (j : Nat) (q : List Int) (i : Nat) : Res := run (E n) n Tryz.f35 L (us p j q i) (HA p j q i) k0
theorem R_eq (n : Nat) (p : List Int) (j : Nat) (q : List Int) (i : Nat) : R n p j q i =
  bif (((j : Nat) : Int) == (0 : Int)) then
   some (.own 0, [(0, ⟨[.ints .u16 []], true⟩)])
  else
   bif (((i : Nat) : Int) == (0 : Int)) then
    some (.own 0, [(0, ⟨[.ints .u16 []], true⟩)])
   else
    bif decide (((0 : Int) ≤ (IntKind.wrap .i64 ((IntKind.wrap .i64 (((j : Nat) : Int) + ((i : Nat) : Int))) - (1 : Int)))) ∧ (((IntKind.wrap .i64 ((IntKind.wrap .i64 (((j : Nat) : Int) + ((i : Nat) : Int))) - (1 : Int))) * (1 : Int)) ≤ (4398046511104 : Int))) then
    N0 n n (0 : Int) q i p j (List.replicate (Int.toNat (IntKind.wrap .i64 ((IntKind.wrap .i64 (((j : Nat) : Int) + ((i : Nat) : Int))) - (1 : Int)))) (0 : Int))
    else none := by kernel_rfl
theorem ans {n : Nat} {p : List Int} {j : Nat} {q : List Int} {i : Nat} (hA : Sounds Tryz.prog (A n)) {u : U} {H : Heap} (h : R n p j q i = some (u, H)) : Answers Tryz.prog 35 (us p j q i) (HA p j q i) u H := answers_env tabOk mixed hA Tryz.func35 (by kernel_rfl) (by kernel_rfl) h
end S_timesP

namespace I_scaleP
abbrev num : Nat := 67
noncomputable def A (n : Nat) : List (Nat × Con) := ((fun (n : Nat) => ([(33, CTimesG)] : List (Nat × Con)))) n
noncomputable abbrev E (n : Nat) : Env (U × Heap) := envC tab ios (A n)
def L : List (List Nat) := []
abbrev us (p : List Int) (j : Nat) (b : Int) : List U := (((fun (p : List Int) (j : Nat) (b : Int) => (([.rsl [.ints .u16 p] j, .int .u16 b] : List U), ([] : Heap)))) p j b).1
abbrev HA (p : List Int) (j : Nat) (b : Int) : Heap := (((fun (p : List Int) (j : Nat) (b : Int) => (([.rsl [.ints .u16 p] j, .int .u16 b] : List U), ([] : Heap)))) p j b).2
noncomputable def R (n : Nat) (p : List Int) (j : Nat) (b : Int) : Res := run (E n) n Tryz.f67 L (us p j b) (HA p j b) k0
theorem R_eq (n : Nat) (p : List Int) (j : Nat) (b : Int) : R n p j b =
  pif (((genP p j) ∧ ((genP [b] 1) ∧ ((j + 1) ≤ 1048576)))) (
  some (.own 0, [(0, ⟨[.ints .u16 (tiP p [b])], true⟩)])) := by kernel_rfl
theorem ans {n : Nat} {p : List Int} {j : Nat} {b : Int} (hA : Sounds Tryz.prog (A n)) {u : U} {H : Heap} (h : R n p j b = some (u, H)) : Answers Tryz.prog 67 (us p j b) (HA p j b) u H := answers_env tabOk mixed hA Tryz.func67 (by kernel_rfl) (by kernel_rfl) h
end I_scaleP

namespace S_scaleP
abbrev num : Nat := 48
noncomputable def A (n : Nat) : List (Nat × Con) := ((fun (n : Nat) => ([(35, CTimesP), (55, CTrimP)] : List (Nat × Con)))) n
noncomputable abbrev E (n : Nat) : Env (U × Heap) := envC tab ios (A n)
def L : List (List Nat) := []
abbrev us (p : List Int) (j : Nat) (b : Int) : List U := (((fun (p : List Int) (j : Nat) (b : Int) => (([.rsl [.ints .u16 p] j, .int .u16 b] : List U), ([] : Heap)))) p j b).1
abbrev HA (p : List Int) (j : Nat) (b : Int) : Heap := (((fun (p : List Int) (j : Nat) (b : Int) => (([.rsl [.ints .u16 p] j, .int .u16 b] : List U), ([] : Heap)))) p j b).2
noncomputable def R (n : Nat) (p : List Int) (j : Nat) (b : Int) : Res := run (E n) n Tryz.f48 L (us p j b) (HA p j b) k0
theorem R_eq (n : Nat) (p : List Int) (j : Nat) (b : Int) : R n p j b =
  pif ((genP [b] 1)) (
  pif (((canP p j) ∧ ((canP (trP [b]) (List.length (trP [b]))) ∧ ((j + (List.length (trP [b]))) ≤ 1048576)))) (
  some (.own 0, [(0, ⟨[.ints .u16 (tiP p (trP [b]))], true⟩)]))) := by kernel_rfl
theorem ans {n : Nat} {p : List Int} {j : Nat} {b : Int} (hA : Sounds Tryz.prog (A n)) {u : U} {H : Heap} (h : R n p j b = some (u, H)) : Answers Tryz.prog 48 (us p j b) (HA p j b) u H := answers_env tabOk mixed hA Tryz.func48 (by kernel_rfl) (by kernel_rfl) h
end S_scaleP

namespace I_atP
abbrev num : Nat := 40
noncomputable def A (n : Nat) : List (Nat × Con) := ((fun (n : Nat) => ([(63, CMul)] : List (Nat × Con)))) n
noncomputable abbrev E (n : Nat) : Env (U × Heap) := envC tab ios (A n)
def L : List (List Nat) := [[5, 6, 0, 1]]
abbrev us (p : List Int) (j : Nat) (x : Int) : List U := (((fun (p : List Int) (j : Nat) (x : Int) => (([.rsl [.ints .u16 p] j, .int .u16 x] : List U), ([] : Heap)))) p j x).1
abbrev HA (p : List Int) (j : Nat) (x : Int) : Heap := (((fun (p : List Int) (j : Nat) (x : Int) => (([.rsl [.ints .u16 p] j, .int .u16 x] : List U), ([] : Heap)))) p j x).2
def S0 (t5 : Int) (t6 : Int) (t0_0 : List Int) (t0n : Nat) (t1 : Int) : St := ⟨[(5, .int .u16 t5), (6, .int .i64 t6), (0, .rsl [.ints .u16 t0_0] t0n), (1, .int .u16 t1)], 23, [], [], 0⟩
noncomputable def N0 (n : Nat)  (m0 : Nat) (t5 : Int) (t6 : Int) (t0_0 : List Int) (t0n : Nat) (t1 : Int) : Res := nodeRun (E n) n Tryz.f40 L k0 [true, true, false, true, false] [] m0 (S0 t5 t6 t0_0 t0n t1)
theorem N0_succ (n : Nat)  (m0 : Nat) (t5 : Int) (t6 : Int) (t0_0 : List Int) (t0n : Nat) (t1 : Int) : N0 n  (m0 + 1) t5 t6 t0_0 t0n t1 =
  bif decide (t6 ≥ (0 : Int)) then
   bif decide (((0 : Int) ≤ t6) ∧ (t6 < ((t0n : Nat) : Int))) then
   pif (((u16 t5) ∧ (u16 t1))) (
    N0 n m0 (intBitsV .xor .u16 (mulI t5 t1) (List.getD t0_0 (Int.toNat t6) (0 : Int))) (IntKind.wrap .i64 (t6 - (1 : Int))) t0_0 t0n t1)
   else none
  else
   some (.int .u16 t5, []) := by kernel_rfl
noncomputable def R (n : Nat) (p : List Int) (j : Nat) (x : Int) : Res := run (E n) n Tryz.f40 L (us p j x) (HA p j x) k0
theorem R_eq (n : Nat) (p : List Int) (j : Nat) (x : Int) : R n p j x =
  N0 n n (0 : Int) (IntKind.wrap .i64 (((j : Nat) : Int) - (1 : Int))) p j x := by kernel_rfl
theorem ans {n : Nat} {p : List Int} {j : Nat} {x : Int} (hA : Sounds Tryz.prog (A n)) {u : U} {H : Heap} (h : R n p j x = some (u, H)) : Answers Tryz.prog 40 (us p j x) (HA p j x) u H := answers_env tabOk mixed hA Tryz.func40 (by kernel_rfl) (by kernel_rfl) h
end I_atP

end Go.VM
