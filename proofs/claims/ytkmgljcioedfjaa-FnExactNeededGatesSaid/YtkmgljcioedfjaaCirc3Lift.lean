/- Written by a program of this session (Lift.lean): what the evaluator comes to, function by function; the kernel checks it. The conditions: those of the contracts. -/
import Derived.Test.YtkmgljcioedfjaaVmP4
import Derived.Test.YtkmgljcioedfjaaCircT
import Derived.Test.YtkmgljcioedfjaaCircTS
import Derived.Test.YtkmgljcioedfjaaCircCon
import Derived.Test.YtkmgljcioedfjaaCircCon2
import Derived.Test.YtkmgljcioedfjaaCircCon3
import Derived.KernelRfl
set_option linter.unusedVariables false
set_option linter.unusedSimpArgs false
set_option linter.unusedSectionVars false
namespace Go.VM
open Go Go.Proofs Go.Fn NimF
set_option linter.unusedVariables false
set_option maxRecDepth 100000
namespace S_need
abbrev num : Nat := 87
noncomputable def A (n : Nat) : List (Nat × Con) := ((fun (n : Nat) => ([(72, CPair)] : List (Nat × Con)))) n
noncomputable abbrev E (n : Nat) : Env (U × Heap) := envC tab ios (A n)
def L : List (List Nat) := [[3, 0, 4], [3, 5, 0]]
abbrev us (x : Int) (ks : List Int) (la : List Int) (lb : List Int) (j : Nat) (lo : List Int) (jo : Nat) : List U := (((fun (x : Int) (ks la lb : List Int) (j : Nat) (lo : List Int) (jo : Nat) => (([.rptr [.int .i8 x, .rsl [.ints .i8 ks, .ints .i16 la, .ints .i16 lb] j, .rsl [.ints .i16 lo] jo] 0 1] : List U), ([] : Heap)))) x ks la lb j lo jo).1
abbrev HA (x : Int) (ks : List Int) (la : List Int) (lb : List Int) (j : Nat) (lo : List Int) (jo : Nat) : Heap := (((fun (x : Int) (ks la lb : List Int) (j : Nat) (lo : List Int) (jo : Nat) => (([.rptr [.int .i8 x, .rsl [.ints .i8 ks, .ints .i16 la, .ints .i16 lb] j, .rsl [.ints .i16 lo] jo] 0 1] : List U), ([] : Heap)))) x ks la lb j lo jo).2
def S0 (t0_0 : Int) (t0_1_0 : List Int) (t0_1_1 : List Int) (t0_1_2 : List Int) (t0_1n : Nat) (t0_2_0 : List Int) (t0_2n : Nat) (t4 : Int) (o0_0 : List Bool) : St := ⟨[(3, .own 0), (0, .rptr [.int .i8 t0_0, .rsl [.ints .i8 t0_1_0, .ints .i16 t0_1_1, .ints .i16 t0_1_2] t0_1n, .rsl [.ints .i16 t0_2_0] t0_2n] 0 1), (4, .int .i64 t4)], 65, [(0, ⟨[.bools o0_0], true⟩)], [0], 0⟩
noncomputable def N0 (n : Nat)  (m0 : Nat) (t0_0 : Int) (t0_1_0 : List Int) (t0_1_1 : List Int) (t0_1_2 : List Int) (t0_1n : Nat) (t0_2_0 : List Int) (t0_2n : Nat) (t4 : Int) (o0_0 : List Bool) : Res := nodeRun (E n) n Try.f87 L k0 [true, true, false, true, false] [] m0 (S0 t0_0 t0_1_0 t0_1_1 t0_1_2 t0_1n t0_2_0 t0_2n t4 o0_0)
def S1 (t5 : Int) (t0_0 : Int) (t0_1_0 : List Int) (t0_1_1 : List Int) (t0_1_2 : List Int) (t0_1n : Nat) (t0_2_0 : List Int) (t0_2n : Nat) (o0_0 : List Bool) : St := ⟨[(3, .own 0), (5, .int .i64 t5), (0, .rptr [.int .i8 t0_0, .rsl [.ints .i8 t0_1_0, .ints .i16 t0_1_1, .ints .i16 t0_1_2] t0_1n, .rsl [.ints .i16 t0_2_0] t0_2n] 0 1)], 65, [(0, ⟨[.bools o0_0], true⟩)], [0], 0⟩
noncomputable def N1 (n : Nat)  (m1 : Nat) (t5 : Int) (t0_0 : Int) (t0_1_0 : List Int) (t0_1_1 : List Int) (t0_1_2 : List Int) (t0_1n : Nat) (t0_2_0 : List Int) (t0_2n : Nat) (o0_0 : List Bool) : Res := nodeRun (E n) n Try.f87 L k0 [true, true, true, false, true, false] [] m1 (S1 t5 t0_0 t0_1_0 t0_1_1 t0_1_2 t0_1n t0_2_0 t0_2n o0_0)
theorem N0_succ (n : Nat)  (m0 : Nat) (t0_0 : Int) (t0_1_0 : List Int) (t0_1_1 : List Int) (t0_1_2 : List Int) (t0_1n : Nat) (t0_2_0 : List Int) (t0_2n : Nat) (t4 : Int) (o0_0 : List Bool) : N0 n  (m0 + 1) t0_0 t0_1_0 t0_1_1 t0_1_2 t0_1n t0_2_0 t0_2n t4 o0_0 =
  bif decide (t4 < ((t0_2n : Nat) : Int)) then
   bif decide (((0 : Int) ≤ t4) ∧ (t4 < ((t0_2n : Nat) : Int))) then
   bif decide (((0 : Int) ≤ (List.getD t0_2_0 (Int.toNat t4) (0 : Int))) ∧ ((List.getD t0_2_0 (Int.toNat t4) (0 : Int)) < (((List.length o0_0) : Nat) : Int))) then
    N0 n m0 t0_0 t0_1_0 t0_1_1 t0_1_2 t0_1n t0_2_0 t0_2n (IntKind.wrap .i64 (t4 + (1 : Int))) (List.set o0_0 (Int.toNat (List.getD t0_2_0 (Int.toNat t4) (0 : Int))) true)
    else none
   else none
  else
   N1 n n (IntKind.wrap .i64 (((t0_1n : Nat) : Int) - (1 : Int))) t0_0 t0_1_0 t0_1_1 t0_1_2 t0_1n t0_2_0 t0_2n o0_0 := by kernel_rfl
theorem N1_succ (n : Nat)  (m1 : Nat) (t5 : Int) (t0_0 : Int) (t0_1_0 : List Int) (t0_1_1 : List Int) (t0_1_2 : List Int) (t0_1n : Nat) (t0_2_0 : List Int) (t0_2n : Nat) (o0_0 : List Bool) : N1 n  (m1 + 1) t5 t0_0 t0_1_0 t0_1_1 t0_1_2 t0_1n t0_2_0 t0_2n o0_0 =
  bif decide (t5 ≥ (0 : Int)) then
   bif decide (((0 : Int) ≤ t5) ∧ (t5 < ((t0_1n : Nat) : Int))) then
   bif decide (((0 : Int) ≤ t5) ∧ (t5 < (((List.length o0_0) : Nat) : Int))) then
    bif (List.getD o0_0 (Int.toNat t5) false) then
      pif (True) (
      bif decide (((List.getD t0_1_0 (Int.toNat t5) (0 : Int)) = (2 : Int)) ∨ ((List.getD t0_1_0 (Int.toNat t5) (0 : Int)) = (3 : Int))) then
       bif decide (((0 : Int) ≤ (List.getD t0_1_1 (Int.toNat t5) (0 : Int))) ∧ ((List.getD t0_1_1 (Int.toNat t5) (0 : Int)) < (((List.length o0_0) : Nat) : Int))) then
       bif decide (((0 : Int) ≤ (List.getD t0_1_2 (Int.toNat t5) (0 : Int))) ∧ ((List.getD t0_1_2 (Int.toNat t5) (0 : Int)) < (((List.length (List.set o0_0 (Int.toNat (List.getD t0_1_1 (Int.toNat t5) (0 : Int))) true)) : Nat) : Int))) then
        N1 n m1 (IntKind.wrap .i64 (t5 - (1 : Int))) t0_0 t0_1_0 t0_1_1 t0_1_2 t0_1n t0_2_0 t0_2n (List.set (List.set o0_0 (Int.toNat (List.getD t0_1_1 (Int.toNat t5) (0 : Int))) true) (Int.toNat (List.getD t0_1_2 (Int.toNat t5) (0 : Int))) true)
        else none
       else none
      else
       N1 n m1 (IntKind.wrap .i64 (t5 - (1 : Int))) t0_0 t0_1_0 t0_1_1 t0_1_2 t0_1n t0_2_0 t0_2n o0_0)
     else
      N1 n m1 (IntKind.wrap .i64 (t5 - (1 : Int))) t0_0 t0_1_0 t0_1_1 t0_1_2 t0_1n t0_2_0 t0_2n o0_0
    else none
   else none
  else
   some (.own 0, [(0, ⟨[.bools o0_0], true⟩)]) := by kernel_rfl
noncomputable def R (n : Nat) (x : Int) (ks : List Int) (la : List Int) (lb : List Int) (j : Nat) (lo : List Int) (jo : Nat) : Res := run (E n) n Try.f87 L (us x ks la lb j lo jo) (HA x ks la lb j lo jo) k0
theorem R_eq (n : Nat) (x : Int) (ks : List Int) (la : List Int) (lb : List Int) (j : Nat) (lo : List Int) (jo : Nat) : R n x ks la lb j lo jo =
  bif decide (((0 : Int) ≤ ((j : Nat) : Int)) ∧ ((((j : Nat) : Int) * (1 : Int)) ≤ (4398046511104 : Int))) then
  N0 n n x ks la lb j lo jo (0 : Int) (List.replicate (Int.toNat ((j : Nat) : Int)) false)
  else none := by kernel_rfl
theorem ans {n : Nat} {x : Int} {ks : List Int} {la : List Int} {lb : List Int} {j : Nat} {lo : List Int} {jo : Nat} (hA : Sounds Try.prog (A n)) {u : U} {H : Heap} (h : R n x ks la lb j lo jo = some (u, H)) : Answers Try.prog 87 (us x ks la lb j lo jo) (HA x ks la lb j lo jo) u H := answers_env tabOk mixed hA Try.func87 (by kernel_rfl) (by kernel_rfl) h
end S_need

namespace I_need
abbrev num : Nat := 88
noncomputable def A (n : Nat) : List (Nat × Con) := ((fun (n : Nat) => ([(74, CPair)] : List (Nat × Con)))) n
noncomputable abbrev E (n : Nat) : Env (U × Heap) := envC tab ios (A n)
def L : List (List Nat) := [[3, 1, 15, 13, 14], [3, 6, 1]]
abbrev us (x : Int) (ks : List Int) (la : List Int) (lb : List Int) (j : Nat) (lo : List Int) (jo : Nat) : List U := (((fun (x : Int) (ks la lb : List Int) (j : Nat) (lo : List Int) (jo : Nat) => (([.agg [.int .i8 x, .rsl [.ints .i8 ks, .ints .i16 la, .ints .i16 lb] j, .rsl [.ints .i16 lo] jo]] : List U), ([] : Heap)))) x ks la lb j lo jo).1
abbrev HA (x : Int) (ks : List Int) (la : List Int) (lb : List Int) (j : Nat) (lo : List Int) (jo : Nat) : Heap := (((fun (x : Int) (ks la lb : List Int) (j : Nat) (lo : List Int) (jo : Nat) => (([.agg [.int .i8 x, .rsl [.ints .i8 ks, .ints .i16 la, .ints .i16 lb] j, .rsl [.ints .i16 lo] jo]] : List U), ([] : Heap)))) x ks la lb j lo jo).2
def S0 (t15 : Int) (t13_0 : List Int) (t13n : Nat) (t14 : Int) (o0_0 : List Bool) (o1_0 : Int) (o1_1_0_0 : List Int) (o1_1_0_1 : List Int) (o1_1_0_2 : List Int) (o1_1_0n : Nat) (o1_2_0_0 : List Int) (o1_2_0n : Nat) : St := ⟨[(3, .own 0), (1, .ptr 1 0 0 0 1), (15, .int .i64 t15), (13, .rsl [.ints .i16 t13_0] t13n), (14, .int .i64 t14)], 53, [(0, ⟨[.bools o0_0], true⟩), (1, ⟨[.ints .i8 [o1_0], .us [.rsl [.ints .i8 o1_1_0_0, .ints .i16 o1_1_0_1, .ints .i16 o1_1_0_2] o1_1_0n], .us [.rsl [.ints .i16 o1_2_0_0] o1_2_0n]], true⟩)], [0, 1], 0⟩
noncomputable def N0 (n : Nat)  (m0 : Nat) (t15 : Int) (t13_0 : List Int) (t13n : Nat) (t14 : Int) (o0_0 : List Bool) (o1_0 : Int) (o1_1_0_0 : List Int) (o1_1_0_1 : List Int) (o1_1_0_2 : List Int) (o1_1_0n : Nat) (o1_2_0_0 : List Int) (o1_2_0n : Nat) : Res := nodeRun (E n) n Try.f88 L k0 [true, true, false, true, false] [] m0 (S0 t15 t13_0 t13n t14 o0_0 o1_0 o1_1_0_0 o1_1_0_1 o1_1_0_2 o1_1_0n o1_2_0_0 o1_2_0n)
def S1 (t6 : Int) (o0_0 : List Bool) (o1_0 : Int) (o1_1_0_0 : List Int) (o1_1_0_1 : List Int) (o1_1_0_2 : List Int) (o1_1_0n : Nat) (o1_2_0_0 : List Int) (o1_2_0n : Nat) : St := ⟨[(3, .own 0), (6, .int .i64 t6), (1, .ptr 1 0 0 0 1)], 53, [(0, ⟨[.bools o0_0], true⟩), (1, ⟨[.ints .i8 [o1_0], .us [.rsl [.ints .i8 o1_1_0_0, .ints .i16 o1_1_0_1, .ints .i16 o1_1_0_2] o1_1_0n], .us [.rsl [.ints .i16 o1_2_0_0] o1_2_0n]], true⟩)], [0, 1], 0⟩
noncomputable def N1 (n : Nat)  (m1 : Nat) (t6 : Int) (o0_0 : List Bool) (o1_0 : Int) (o1_1_0_0 : List Int) (o1_1_0_1 : List Int) (o1_1_0_2 : List Int) (o1_1_0n : Nat) (o1_2_0_0 : List Int) (o1_2_0n : Nat) : Res := nodeRun (E n) n Try.f88 L k0 [true, true, true, false, true, false] [] m1 (S1 t6 o0_0 o1_0 o1_1_0_0 o1_1_0_1 o1_1_0_2 o1_1_0n o1_2_0_0 o1_2_0n)
theorem N0_succ (n : Nat)  (m0 : Nat) (t15 : Int) (t13_0 : List Int) (t13n : Nat) (t14 : Int) (o0_0 : List Bool) (o1_0 : Int) (o1_1_0_0 : List Int) (o1_1_0_1 : List Int) (o1_1_0_2 : List Int) (o1_1_0n : Nat) (o1_2_0_0 : List Int) (o1_2_0n : Nat) : N0 n  (m0 + 1) t15 t13_0 t13n t14 o0_0 o1_0 o1_1_0_0 o1_1_0_1 o1_1_0_2 o1_1_0n o1_2_0_0 o1_2_0n =
  bif decide (t15 < t14) then
   bif decide (((0 : Int) ≤ t15) ∧ (t15 < ((t13n : Nat) : Int))) then
   bif decide (((0 : Int) ≤ (List.getD t13_0 (Int.toNat t15) (0 : Int))) ∧ ((List.getD t13_0 (Int.toNat t15) (0 : Int)) < (((List.length o0_0) : Nat) : Int))) then
    N0 n m0 (IntKind.wrap .i64 (t15 + (1 : Int))) t13_0 t13n t14 (List.set o0_0 (Int.toNat (List.getD t13_0 (Int.toNat t15) (0 : Int))) true) o1_0 o1_1_0_0 o1_1_0_1 o1_1_0_2 o1_1_0n o1_2_0_0 o1_2_0n
    else none
   else none
  else
   N1 n n (IntKind.wrap .i64 (((o1_1_0n : Nat) : Int) - (1 : Int))) o0_0 o1_0 o1_1_0_0 o1_1_0_1 o1_1_0_2 o1_1_0n o1_2_0_0 o1_2_0n := by kernel_rfl
theorem N1_succ (n : Nat)  (m1 : Nat) (t6 : Int) (o0_0 : List Bool) (o1_0 : Int) (o1_1_0_0 : List Int) (o1_1_0_1 : List Int) (o1_1_0_2 : List Int) (o1_1_0n : Nat) (o1_2_0_0 : List Int) (o1_2_0n : Nat) : N1 n  (m1 + 1) t6 o0_0 o1_0 o1_1_0_0 o1_1_0_1 o1_1_0_2 o1_1_0n o1_2_0_0 o1_2_0n =
  bif decide (t6 ≥ (0 : Int)) then
   bif decide (((0 : Int) ≤ t6) ∧ (t6 < ((o1_1_0n : Nat) : Int))) then
   bif decide (((0 : Int) ≤ t6) ∧ (t6 < (((List.length o0_0) : Nat) : Int))) then
    bif (List.getD o0_0 (Int.toNat t6) false) then
      pif (True) (
      bif decide (((List.getD o1_1_0_0 (Int.toNat t6) (0 : Int)) = (2 : Int)) ∨ ((List.getD o1_1_0_0 (Int.toNat t6) (0 : Int)) = (3 : Int))) then
       bif decide (((0 : Int) ≤ (List.getD o1_1_0_1 (Int.toNat t6) (0 : Int))) ∧ ((List.getD o1_1_0_1 (Int.toNat t6) (0 : Int)) < (((List.length o0_0) : Nat) : Int))) then
       bif (Nat.beq (List.length o0_0) (List.length (List.set o0_0 (Int.toNat (List.getD o1_1_0_1 (Int.toNat t6) (0 : Int))) true))) then
        bif (Nat.beq (List.length o0_0) (List.length (List.set o0_0 (Int.toNat (List.getD o1_1_0_1 (Int.toNat t6) (0 : Int))) true))) then
          bif decide (((0 : Int) ≤ (List.getD o1_1_0_2 (Int.toNat t6) (0 : Int))) ∧ ((List.getD o1_1_0_2 (Int.toNat t6) (0 : Int)) < (((List.length o0_0) : Nat) : Int))) then
          N1 n m1 (IntKind.wrap .i64 (t6 - (1 : Int))) (List.set (List.set o0_0 (Int.toNat (List.getD o1_1_0_1 (Int.toNat t6) (0 : Int))) true) (Int.toNat (List.getD o1_1_0_2 (Int.toNat t6) (0 : Int))) true) o1_0 o1_1_0_0 o1_1_0_1 o1_1_0_2 o1_1_0n o1_2_0_0 o1_2_0n
          else none
         else
          bif decide (((0 : Int) ≤ (List.getD o1_1_0_2 (Int.toNat t6) (0 : Int))) ∧ ((List.getD o1_1_0_2 (Int.toNat t6) (0 : Int)) < (((List.length (List.set o0_0 (Int.toNat (List.getD o1_1_0_1 (Int.toNat t6) (0 : Int))) true)) : Nat) : Int))) then
          N1 n m1 (IntKind.wrap .i64 (t6 - (1 : Int))) (List.set (List.set o0_0 (Int.toNat (List.getD o1_1_0_1 (Int.toNat t6) (0 : Int))) true) (Int.toNat (List.getD o1_1_0_2 (Int.toNat t6) (0 : Int))) true) o1_0 o1_1_0_0 o1_1_0_1 o1_1_0_2 o1_1_0n o1_2_0_0 o1_2_0n
          else none
        else none
       else none
      else
       N1 n m1 (IntKind.wrap .i64 (t6 - (1 : Int))) o0_0 o1_0 o1_1_0_0 o1_1_0_1 o1_1_0_2 o1_1_0n o1_2_0_0 o1_2_0n)
     else
      N1 n m1 (IntKind.wrap .i64 (t6 - (1 : Int))) o0_0 o1_0 o1_1_0_0 o1_1_0_1 o1_1_0_2 o1_1_0n o1_2_0_0 o1_2_0n
    else none
   else none
  else
   some (.own 0, [(0, ⟨[.bools o0_0], true⟩)]) := by kernel_rfl
noncomputable def R (n : Nat) (x : Int) (ks : List Int) (la : List Int) (lb : List Int) (j : Nat) (lo : List Int) (jo : Nat) : Res := run (E n) n Try.f88 L (us x ks la lb j lo jo) (HA x ks la lb j lo jo) k0
theorem R_eq (n : Nat) (x : Int) (ks : List Int) (la : List Int) (lb : List Int) (j : Nat) (lo : List Int) (jo : Nat) : R n x ks la lb j lo jo =
  bif decide (((0 : Int) ≤ ((j : Nat) : Int)) ∧ ((((j : Nat) : Int) * (1 : Int)) ≤ (4398046511104 : Int))) then
  N0 n n (0 : Int) lo jo ((jo : Nat) : Int) (List.replicate (Int.toNat ((j : Nat) : Int)) false) x ks la lb j lo jo
  else none := by kernel_rfl
theorem ans {n : Nat} {x : Int} {ks : List Int} {la : List Int} {lb : List Int} {j : Nat} {lo : List Int} {jo : Nat} (hA : Sounds Try.prog (A n)) {u : U} {H : Heap} (h : R n x ks la lb j lo jo = some (u, H)) : Answers Try.prog 88 (us x ks la lb j lo jo) (HA x ks la lb j lo jo) u H := answers_env tabOk mixed hA Try.func88 (by kernel_rfl) (by kernel_rfl) h
end I_need

namespace S_Need
abbrev num : Nat := 38
noncomputable def A (n : Nat) : List (Nat × Con) := ((fun (n : Nat) => ([(56, COk), (87, CNeedS)] : List (Nat × Con)))) n
noncomputable abbrev E (n : Nat) : Env (U × Heap) := envC tab ios (A n)
def L : List (List Nat) := [[5, 6, 4]]
abbrev us (x : Int) (ks : List Int) (la : List Int) (lb : List Int) (j : Nat) (lo : List Int) (jo : Nat) : List U := (((fun (x : Int) (ks la lb : List Int) (j : Nat) (lo : List Int) (jo : Nat) => (([.agg [.int .i8 x, .rsl [.ints .i8 ks, .ints .i16 la, .ints .i16 lb] j, .rsl [.ints .i16 lo] jo]] : List U), ([] : Heap)))) x ks la lb j lo jo).1
abbrev HA (x : Int) (ks : List Int) (la : List Int) (lb : List Int) (j : Nat) (lo : List Int) (jo : Nat) : Heap := (((fun (x : Int) (ks la lb : List Int) (j : Nat) (lo : List Int) (jo : Nat) => (([.agg [.int .i8 x, .rsl [.ints .i8 ks, .ints .i16 la, .ints .i16 lb] j, .rsl [.ints .i16 lo] jo]] : List U), ([] : Heap)))) x ks la lb j lo jo).2
def S0 (t6 : Int) (o0_0 : List Int) (o1_0 : List Bool) : St := ⟨[(5, .own 0), (6, .int .i64 t6), (4, .own 1)], 27, [(0, ⟨[.ints .i64 o0_0], true⟩), (1, ⟨[.bools o1_0], true⟩)], [0, 1], 0⟩
noncomputable def N0 (n : Nat)  (m0 : Nat) (t6 : Int) (o0_0 : List Int) (o1_0 : List Bool) : Res := nodeRun (E n) n Try.f38 L k0 [true, true, true, true, false, true, false] [] m0 (S0 t6 o0_0 o1_0)
theorem N0_succ (n : Nat)  (m0 : Nat) (t6 : Int) (o0_0 : List Int) (o1_0 : List Bool) : N0 n  (m0 + 1) t6 o0_0 o1_0 =
  bif decide (t6 < (((List.length o1_0) : Nat) : Int)) then
   bif decide (((0 : Int) ≤ t6) ∧ (t6 < (((List.length o1_0) : Nat) : Int))) then
   bif (List.getD o1_0 (Int.toNat t6) false) then
     bif decide ((((List.length o0_0) + 1) * 1) ≤ 4398046511104) then
     N0 n m0 (IntKind.wrap .i64 (t6 + (1 : Int))) (o0_0 ++ [t6]) o1_0
     else none
    else
     N0 n m0 (IntKind.wrap .i64 (t6 + (1 : Int))) o0_0 o1_0
   else none
  else
   some (.tup [.own 0, .int .i64 (0 : Int)], [(0, ⟨[.ints .i64 o0_0], true⟩)]) := by kernel_rfl
noncomputable def R (n : Nat) (x : Int) (ks : List Int) (la : List Int) (lb : List Int) (j : Nat) (lo : List Int) (jo : Nat) : Res := run (E n) n Try.f38 L (us x ks la lb j lo jo) (HA x ks la lb j lo jo) k0
theorem R_eq (n : Nat) (x : Int) (ks : List Int) (la : List Int) (lb : List Int) (j : Nat) (lo : List Int) (jo : Nat) : R n x ks la lb j lo jo =
  pif ((circ x ks la lb j lo jo)) (
  bif (!(valC x ks la lb lo)) then
   some (.tup [.own 0, .int .i64 (1 : Int)], [(0, ⟨[.ints .i64 []], true⟩)])
  else
   pif ((vcirc x ks la lb j lo jo)) (
   N0 n n (0 : Int) [] (need ks la lb lo))) := by kernel_rfl
theorem ans {n : Nat} {x : Int} {ks : List Int} {la : List Int} {lb : List Int} {j : Nat} {lo : List Int} {jo : Nat} (hA : Sounds Try.prog (A n)) {u : U} {H : Heap} (h : R n x ks la lb j lo jo = some (u, H)) : Answers Try.prog 38 (us x ks la lb j lo jo) (HA x ks la lb j lo jo) u H := answers_env tabOk mixed hA Try.func38 (by kernel_rfl) (by kernel_rfl) h
end S_Need

namespace I_Need
abbrev num : Nat := 39
noncomputable def A (n : Nat) : List (Nat × Con) := ((fun (n : Nat) => ([(48, CValid), (88, CNeedI)] : List (Nat × Con)))) n
noncomputable abbrev E (n : Nat) : Env (U × Heap) := envC tab ios (A n)
def L : List (List Nat) := [[4, 14, 12, 13]]
abbrev us (x : Int) (ks : List Int) (la : List Int) (lb : List Int) (j : Nat) (lo : List Int) (jo : Nat) : List U := (((fun (x : Int) (ks la lb : List Int) (j : Nat) (lo : List Int) (jo : Nat) => (([.agg [.int .i8 x, .rsl [.ints .i8 ks, .ints .i16 la, .ints .i16 lb] j, .rsl [.ints .i16 lo] jo]] : List U), ([] : Heap)))) x ks la lb j lo jo).1
abbrev HA (x : Int) (ks : List Int) (la : List Int) (lb : List Int) (j : Nat) (lo : List Int) (jo : Nat) : Heap := (((fun (x : Int) (ks la lb : List Int) (j : Nat) (lo : List Int) (jo : Nat) => (([.agg [.int .i8 x, .rsl [.ints .i8 ks, .ints .i16 la, .ints .i16 lb] j, .rsl [.ints .i16 lo] jo]] : List U), ([] : Heap)))) x ks la lb j lo jo).2
def S0 (t14 : Int) (t13 : Int) (o0_0 : List Int) (o1_0 : List Bool) : St := ⟨[(4, .own 0), (14, .int .i64 t14), (12, .own 1), (13, .int .i64 t13)], 26, [(0, ⟨[.ints .i64 o0_0], true⟩), (1, ⟨[.bools o1_0], true⟩)], [0, 1], 0⟩
noncomputable def N0 (n : Nat)  (m0 : Nat) (t14 : Int) (t13 : Int) (o0_0 : List Int) (o1_0 : List Bool) : Res := nodeRun (E n) n Try.f39 L k0 [true, true, true, false, true, false] [] m0 (S0 t14 t13 o0_0 o1_0)
theorem N0_succ (n : Nat)  (m0 : Nat) (t14 : Int) (t13 : Int) (o0_0 : List Int) (o1_0 : List Bool) : N0 n  (m0 + 1) t14 t13 o0_0 o1_0 =
  bif decide (t14 < t13) then
   bif decide (((0 : Int) ≤ t14) ∧ (t14 < (((List.length o1_0) : Nat) : Int))) then
   bif (List.getD o1_0 (Int.toNat t14) false) then
     bif decide ((((List.length o0_0) + 1) * 1) ≤ 4398046511104) then
     N0 n m0 (IntKind.wrap .i64 (t14 + (1 : Int))) t13 (o0_0 ++ [t14]) o1_0
     else none
    else
     N0 n m0 (IntKind.wrap .i64 (t14 + (1 : Int))) t13 o0_0 o1_0
   else none
  else
   some (.tup [.own 0, .int .i64 (0 : Int)], [(0, ⟨[.ints .i64 o0_0], true⟩)]) := by kernel_rfl
noncomputable def R (n : Nat) (x : Int) (ks : List Int) (la : List Int) (lb : List Int) (j : Nat) (lo : List Int) (jo : Nat) : Res := run (E n) n Try.f39 L (us x ks la lb j lo jo) (HA x ks la lb j lo jo) k0
theorem R_eq (n : Nat) (x : Int) (ks : List Int) (la : List Int) (lb : List Int) (j : Nat) (lo : List Int) (jo : Nat) : R n x ks la lb j lo jo =
  pif ((circ x ks la lb j lo jo)) (
  bif (!(valC x ks la lb lo)) then
   some (.tup [.nils, .int .i64 (1 : Int)], [])
  else
   pif ((vcirc x ks la lb j lo jo)) (
   N0 n n (0 : Int) (((List.length (need ks la lb lo)) : Nat) : Int) [] (need ks la lb lo))) := by kernel_rfl
theorem ans {n : Nat} {x : Int} {ks : List Int} {la : List Int} {lb : List Int} {j : Nat} {lo : List Int} {jo : Nat} (hA : Sounds Try.prog (A n)) {u : U} {H : Heap} (h : R n x ks la lb j lo jo = some (u, H)) : Answers Try.prog 39 (us x ks la lb j lo jo) (HA x ks la lb j lo jo) u H := answers_env tabOk mixed hA Try.func39 (by kernel_rfl) (by kernel_rfl) h
end I_Need

namespace L_eq64
abbrev num : Nat := 40
noncomputable def A (n : Nat) : List (Nat × Con) := ((fun (n : Nat) => ([] : List (Nat × Con)))) n
noncomputable abbrev E (n : Nat) : Env (U × Heap) := envC tab ios (A n)
def L : List (List Nat) := [[5, 1, 0]]
abbrev us (lo : List Int) (lo' : List Int) (j : Nat) (j' : Nat) : List U := (((fun (lo lo' : List Int) (j j' : Nat) => (([.rsl [.ints .i64 lo] j, .rsl [.ints .i64 lo'] j'] : List U), ([] : Heap)))) lo lo' j j').1
abbrev HA (lo : List Int) (lo' : List Int) (j : Nat) (j' : Nat) : Heap := (((fun (lo lo' : List Int) (j j' : Nat) => (([.rsl [.ints .i64 lo] j, .rsl [.ints .i64 lo'] j'] : List U), ([] : Heap)))) lo lo' j j').2
def S0 (t5 : Int) (t1_0 : List Int) (t1n : Nat) (t0_0 : List Int) (t0n : Nat) : St := ⟨[(5, .int .i64 t5), (1, .rsl [.ints .i64 t1_0] t1n), (0, .rsl [.ints .i64 t0_0] t0n)], 26, [], [], 0⟩
noncomputable def N0 (n : Nat)  (m0 : Nat) (t5 : Int) (t1_0 : List Int) (t1n : Nat) (t0_0 : List Int) (t0n : Nat) : Res := nodeRun (E n) n Try.f40 L k0 [true, true, false, true, false] [] m0 (S0 t5 t1_0 t1n t0_0 t0n)
theorem N0_succ (n : Nat)  (m0 : Nat) (t5 : Int) (t1_0 : List Int) (t1n : Nat) (t0_0 : List Int) (t0n : Nat) : N0 n  (m0 + 1) t5 t1_0 t1n t0_0 t0n =
  bif decide (t5 < ((t0n : Nat) : Int)) then
   bif decide (((0 : Int) ≤ t5) ∧ (t5 < ((t0n : Nat) : Int))) then
   bif decide (((0 : Int) ≤ t5) ∧ (t5 < ((t1n : Nat) : Int))) then
    bif ((List.getD t0_0 (Int.toNat t5) (0 : Int)) != (List.getD t1_0 (Int.toNat t5) (0 : Int))) then
      some (.bool false, [])
     else
      N0 n m0 (IntKind.wrap .i64 (t5 + (1 : Int))) t1_0 t1n t0_0 t0n
    else none
   else none
  else
   some (.bool true, []) := by kernel_rfl
noncomputable def R (n : Nat) (lo : List Int) (lo' : List Int) (j : Nat) (j' : Nat) : Res := run (E n) n Try.f40 L (us lo lo' j j') (HA lo lo' j j') k0
theorem R_eq (n : Nat) (lo : List Int) (lo' : List Int) (j : Nat) (j' : Nat) : R n lo lo' j j' =
  bif (((j : Nat) : Int) != ((j' : Nat) : Int)) then
   some (.bool false, [])
  else
   N0 n n (0 : Int) lo' j' lo j := by kernel_rfl
theorem ans {n : Nat} {lo : List Int} {lo' : List Int} {j : Nat} {j' : Nat} (hA : Sounds Try.prog (A n)) {u : U} {H : Heap} (h : R n lo lo' j j' = some (u, H)) : Answers Try.prog 40 (us lo lo' j j') (HA lo lo' j j') u H := answers_env tabOk mixed hA Try.func40 (by kernel_rfl) (by kernel_rfl) h
end L_eq64

namespace L_eq64N
abbrev num : Nat := 40
noncomputable def A (n : Nat) : List (Nat × Con) := ((fun (n : Nat) => ([] : List (Nat × Con)))) n
noncomputable abbrev E (n : Nat) : Env (U × Heap) := envC tab ios (A n)
def L : List (List Nat) := [[5, 1, 0]]
abbrev us (lo' : List Int) (j' : Nat) : List U := (((fun (lo' : List Int) (j' : Nat) => (([.nils, .rsl [.ints .i64 lo'] j'] : List U), ([] : Heap)))) lo' j').1
abbrev HA (lo' : List Int) (j' : Nat) : Heap := (((fun (lo' : List Int) (j' : Nat) => (([.nils, .rsl [.ints .i64 lo'] j'] : List U), ([] : Heap)))) lo' j').2
def S0 (t5 : Int) (t1_0 : List Int) (t1n : Nat) : St := ⟨[(5, .int .i64 t5), (1, .rsl [.ints .i64 t1_0] t1n), (0, .nils)], 26, [], [], 0⟩
noncomputable def N0 (n : Nat)  (m0 : Nat) (t5 : Int) (t1_0 : List Int) (t1n : Nat) : Res := nodeRun (E n) n Try.f40 L k0 [true, true, false, true, false] [] m0 (S0 t5 t1_0 t1n)
theorem N0_succ (n : Nat)  (m0 : Nat) (t5 : Int) (t1_0 : List Int) (t1n : Nat) : N0 n  (m0 + 1) t5 t1_0 t1n =
  bif decide (t5 < (0 : Int)) then
   none
  else
   some (.bool true, []) := by kernel_rfl
noncomputable def R (n : Nat) (lo' : List Int) (j' : Nat) : Res := run (E n) n Try.f40 L (us lo' j') (HA lo' j') k0
theorem R_eq (n : Nat) (lo' : List Int) (j' : Nat) : R n lo' j' =
  bif ((0 : Int) != ((j' : Nat) : Int)) then
   some (.bool false, [])
  else
   N0 n n (0 : Int) lo' j' := by kernel_rfl
theorem ans {n : Nat} {lo' : List Int} {j' : Nat} (hA : Sounds Try.prog (A n)) {u : U} {H : Heap} (h : R n lo' j' = some (u, H)) : Answers Try.prog 40 (us lo' j') (HA lo' j') u H := answers_env tabOk mixed hA Try.func40 (by kernel_rfl) (by kernel_rfl) h
end L_eq64N

namespace L_mark64
abbrev num : Nat := 41
noncomputable def A (n : Nat) : List (Nat × Con) := ((fun (n : Nat) => ([] : List (Nat × Con)))) n
noncomputable abbrev E (n : Nat) : Env (U × Heap) := envC tab ios (A n)
def L : List (List Nat) := [[1, 5, 0]]
abbrev us (lo : List Int) (k : Int) : List U := (((fun (lo : List Int) (k : Int) => (([.own 0, .int .i64 k] : List U), ([(0, ⟨[.ints .i64 lo], true⟩)] : Heap)))) lo k).1
abbrev HA (lo : List Int) (k : Int) : Heap := (((fun (lo : List Int) (k : Int) => (([.own 0, .int .i64 k] : List U), ([(0, ⟨[.ints .i64 lo], true⟩)] : Heap)))) lo k).2
def S0 (t1 : Int) (t5 : Int) (o0_0 : List Int) : St := ⟨[(1, .int .i64 t1), (5, .int .i64 t5), (0, .own 0)], 19, [(0, ⟨[.ints .i64 o0_0], true⟩)], [0], 1⟩
noncomputable def N0 (n : Nat)  (m0 : Nat) (t1 : Int) (t5 : Int) (o0_0 : List Int) : Res := nodeRun (E n) n Try.f41 L k0 [true, false, true, false] [] m0 (S0 t1 t5 o0_0)
theorem N0_succ (n : Nat)  (m0 : Nat) (t1 : Int) (t5 : Int) (o0_0 : List Int) : N0 n  (m0 + 1) t1 t5 o0_0 =
  bif decide (t5 < (((List.length o0_0) : Nat) : Int)) then
   bif decide (((0 : Int) ≤ t5) ∧ (t5 < (((List.length o0_0) : Nat) : Int))) then
   N0 n m0 (IntKind.wrap .i64 (t1 + (1 : Int))) (IntKind.wrap .i64 (t5 + (1 : Int))) (List.set o0_0 (Int.toNat t5) t1)
   else none
  else
   some (.int .i64 t1, [(0, ⟨[.ints .i64 o0_0], true⟩)]) := by kernel_rfl
noncomputable def R (n : Nat) (lo : List Int) (k : Int) : Res := run (E n) n Try.f41 L (us lo k) (HA lo k) k0
theorem R_eq (n : Nat) (lo : List Int) (k : Int) : R n lo k =
  N0 n n k (0 : Int) lo := by kernel_rfl
theorem ans {n : Nat} {lo : List Int} {k : Int} (hA : Sounds Try.prog (A n)) {u : U} {H : Heap} (h : R n lo k = some (u, H)) : Answers Try.prog 41 (us lo k) (HA lo k) u H := answers_env tabOk mixed hA Try.func41 (by kernel_rfl) (by kernel_rfl) h
end L_mark64

namespace L_mark64N
abbrev num : Nat := 41
noncomputable def A (n : Nat) : List (Nat × Con) := ((fun (n : Nat) => ([] : List (Nat × Con)))) n
noncomputable abbrev E (n : Nat) : Env (U × Heap) := envC tab ios (A n)
def L : List (List Nat) := [[1, 5, 0]]
abbrev us (k : Int) : List U := (((fun (k : Int) => (([.nils, .int .i64 k] : List U), ([] : Heap)))) k).1
abbrev HA (k : Int) : Heap := (((fun (k : Int) => (([.nils, .int .i64 k] : List U), ([] : Heap)))) k).2
def S0 (t1 : Int) (t5 : Int) : St := ⟨[(1, .int .i64 t1), (5, .int .i64 t5), (0, .nils)], 19, [], [], 0⟩
noncomputable def N0 (n : Nat)  (m0 : Nat) (t1 : Int) (t5 : Int) : Res := nodeRun (E n) n Try.f41 L k0 [true, false, true, false] [] m0 (S0 t1 t5)
theorem N0_succ (n : Nat)  (m0 : Nat) (t1 : Int) (t5 : Int) : N0 n  (m0 + 1) t1 t5 =
  bif decide (t5 < (0 : Int)) then
   none
  else
   some (.int .i64 t1, []) := by kernel_rfl
noncomputable def R (n : Nat) (k : Int) : Res := run (E n) n Try.f41 L (us k) (HA k) k0
theorem R_eq (n : Nat) (k : Int) : R n k =
  N0 n n k (0 : Int) := by kernel_rfl
theorem ans {n : Nat} {k : Int} (hA : Sounds Try.prog (A n)) {u : U} {H : Heap} (h : R n k = some (u, H)) : Answers Try.prog 41 (us k) (HA k) u H := answers_env tabOk mixed hA Try.func41 (by kernel_rfl) (by kernel_rfl) h
end L_mark64N

namespace L_held64
abbrev num : Nat := 42
noncomputable def A (n : Nat) : List (Nat × Con) := ((fun (n : Nat) => ([] : List (Nat × Con)))) n
noncomputable abbrev E (n : Nat) : Env (U × Heap) := envC tab ios (A n)
def L : List (List Nat) := [[1, 5, 0]]
abbrev us (lo : List Int) (j : Nat) (k : Int) : List U := (((fun (lo : List Int) (j : Nat) (k : Int) => (([.rsl [.ints .i64 lo] j, .int .i64 k] : List U), ([] : Heap)))) lo j k).1
abbrev HA (lo : List Int) (j : Nat) (k : Int) : Heap := (((fun (lo : List Int) (j : Nat) (k : Int) => (([.rsl [.ints .i64 lo] j, .int .i64 k] : List U), ([] : Heap)))) lo j k).2
def S0 (t1 : Int) (t5 : Int) (t0_0 : List Int) (t0n : Nat) : St := ⟨[(1, .int .i64 t1), (5, .int .i64 t5), (0, .rsl [.ints .i64 t0_0] t0n)], 21, [], [], 0⟩
noncomputable def N0 (n : Nat)  (m0 : Nat) (t1 : Int) (t5 : Int) (t0_0 : List Int) (t0n : Nat) : Res := nodeRun (E n) n Try.f42 L k0 [true, false, true, false] [] m0 (S0 t1 t5 t0_0 t0n)
theorem N0_succ (n : Nat)  (m0 : Nat) (t1 : Int) (t5 : Int) (t0_0 : List Int) (t0n : Nat) : N0 n  (m0 + 1) t1 t5 t0_0 t0n =
  bif decide (t5 < ((t0n : Nat) : Int)) then
   bif decide (((0 : Int) ≤ t5) ∧ (t5 < ((t0n : Nat) : Int))) then
   bif ((List.getD t0_0 (Int.toNat t5) (0 : Int)) != t1) then
     some (.int .i64 (-1 : Int), [])
    else
     N0 n m0 (IntKind.wrap .i64 (t1 + (1 : Int))) (IntKind.wrap .i64 (t5 + (1 : Int))) t0_0 t0n
   else none
  else
   some (.int .i64 t1, []) := by kernel_rfl
noncomputable def R (n : Nat) (lo : List Int) (j : Nat) (k : Int) : Res := run (E n) n Try.f42 L (us lo j k) (HA lo j k) k0
theorem R_eq (n : Nat) (lo : List Int) (j : Nat) (k : Int) : R n lo j k =
  N0 n n k (0 : Int) lo j := by kernel_rfl
theorem ans {n : Nat} {lo : List Int} {j : Nat} {k : Int} (hA : Sounds Try.prog (A n)) {u : U} {H : Heap} (h : R n lo j k = some (u, H)) : Answers Try.prog 42 (us lo j k) (HA lo j k) u H := answers_env tabOk mixed hA Try.func42 (by kernel_rfl) (by kernel_rfl) h
end L_held64

namespace L_held64N
abbrev num : Nat := 42
noncomputable def A (n : Nat) : List (Nat × Con) := ((fun (n : Nat) => ([] : List (Nat × Con)))) n
noncomputable abbrev E (n : Nat) : Env (U × Heap) := envC tab ios (A n)
def L : List (List Nat) := [[1, 5, 0]]
abbrev us (k : Int) : List U := (((fun (k : Int) => (([.nils, .int .i64 k] : List U), ([] : Heap)))) k).1
abbrev HA (k : Int) : Heap := (((fun (k : Int) => (([.nils, .int .i64 k] : List U), ([] : Heap)))) k).2
def S0 (t1 : Int) (t5 : Int) : St := ⟨[(1, .int .i64 t1), (5, .int .i64 t5), (0, .nils)], 21, [], [], 0⟩
noncomputable def N0 (n : Nat)  (m0 : Nat) (t1 : Int) (t5 : Int) : Res := nodeRun (E n) n Try.f42 L k0 [true, false, true, false] [] m0 (S0 t1 t5)
theorem N0_succ (n : Nat)  (m0 : Nat) (t1 : Int) (t5 : Int) : N0 n  (m0 + 1) t1 t5 =
  bif decide (t5 < (0 : Int)) then
   none
  else
   some (.int .i64 t1, []) := by kernel_rfl
noncomputable def R (n : Nat) (k : Int) : Res := run (E n) n Try.f42 L (us k) (HA k) k0
theorem R_eq (n : Nat) (k : Int) : R n k =
  N0 n n k (0 : Int) := by kernel_rfl
theorem ans {n : Nat} {k : Int} (hA : Sounds Try.prog (A n)) {u : U} {H : Heap} (h : R n k = some (u, H)) : Answers Try.prog 42 (us k) (HA k) u H := answers_env tabOk mixed hA Try.func42 (by kernel_rfl) (by kernel_rfl) h
end L_held64N

namespace L_NeedTNN
abbrev num : Nat := 11
noncomputable def A (n : Nat) : List (Nat × Con) := ((fun (n : Nat) => ([(38, CNeeded), (39, CNeeded), (13, CSz), (15, CTo), (18, CEqC), (21, CMarkC), (40, CEq64), (41, CMark64), (42, CHeld64)] : List (Nat × Con)))) n
noncomputable abbrev E (n : Nat) : Env (U × Heap) := envC tab ios (A n)
def L : List (List Nat) := []
abbrev us (x : Int) : List U := (((fun (x : Int)  => (([.agg [.int .i8 x, .nils, .nils]] : List U), ([] : Heap)))) x).1
abbrev HA (x : Int) : Heap := (((fun (x : Int)  => (([.agg [.int .i8 x, .nils, .nils]] : List U), ([] : Heap)))) x).2
noncomputable def R (n : Nat) (x : Int) : Res := run (E n) n Try.f11 L (us x) (HA x) k0
theorem R_eq (n : Nat) (x : Int) : R n x =
  pif ((lens 0 (1048576 : Int))) (
  pif (True) (
  pif ((vcirc x [] [] [] 0 [] 0)) (
  pif (True) (
  pif ((vcirc x [] [] [] 0 [] 0)) (
  pif (((many (needL [] [] [] []) 0) ∧ (many (needL [] [] [] []) 0))) (
  pif (True) (
  pif (((gl [] [] [] 0) ∧ ((gl [] [] [] 0) ∧ ((ol [] 0) ∧ (ol [] 0))))) (
  bif (!(eqC x [] [] [] [] x [] [] [] [])) then
   some (.bool false, [])
  else
   pif (((gl [] [] [] 0) ∧ ((ol [] 0) ∧ ((1 : Int) = (1 : Int))))) (
   pif (((many (needL [] [] [] []) 0) ∧ (many (needL [] [] [] []) 0))) (
   pif (((many (needL [] [] [] []) 0) ∧ ((1 : Int) = (1 : Int)))) (
   pif (((many (mk64 (1 : Int) (needL [] [] [] [])) 0) ∧ (((1 : Int) = (1 : Int)) ∧ (marked64 (1 : Int) (mk64 (1 : Int) (needL [] [] [] [])))))) (
   pif (True) (
   pif ((vcirc x [] [] [] 0 [] 0)) (
   pif (((many (needL [] [] [] []) 0) ∧ (many (needL [] [] [] []) 0))) (
   pif (((many (mk64 (1 : Int) (needL [] [] [] [])) 0) ∧ (((1 : Int) = (1 : Int)) ∧ (marked64 (1 : Int) (mk64 (1 : Int) (needL [] [] [] [])))))) (
   some (.bool true, []))))))))))))))))) := by kernel_rfl
theorem ans {n : Nat} {x : Int} (hA : Sounds Try.prog (A n)) {u : U} {H : Heap} (h : R n x = some (u, H)) : Answers Try.prog 11 (us x) (HA x) u H := answers_env tabOk mixed hA Try.func11 (by kernel_rfl) (by kernel_rfl) h
end L_NeedTNN

namespace L_NeedTNR
abbrev num : Nat := 11
noncomputable def A (n : Nat) : List (Nat × Con) := ((fun (n : Nat) => ([(38, CNeeded), (39, CNeeded), (13, CSz), (15, CTo), (18, CEqC), (21, CMarkC), (40, CEq64), (41, CMark64), (42, CHeld64)] : List (Nat × Con)))) n
noncomputable abbrev E (n : Nat) : Env (U × Heap) := envC tab ios (A n)
def L : List (List Nat) := []
abbrev us (x : Int) (lo : List Int) (jo : Nat) : List U := (((fun (x : Int) (lo : List Int) (jo : Nat) => (([.agg [.int .i8 x, .nils, .rsl [.ints .i16 lo] jo]] : List U), ([] : Heap)))) x lo jo).1
abbrev HA (x : Int) (lo : List Int) (jo : Nat) : Heap := (((fun (x : Int) (lo : List Int) (jo : Nat) => (([.agg [.int .i8 x, .nils, .rsl [.ints .i16 lo] jo]] : List U), ([] : Heap)))) x lo jo).2
noncomputable def R (n : Nat) (x : Int) (lo : List Int) (jo : Nat) : Res := run (E n) n Try.f11 L (us x lo jo) (HA x lo jo) k0
theorem R_eq (n : Nat) (x : Int) (lo : List Int) (jo : Nat) : R n x lo jo =
  pif ((lens jo (1048576 : Int))) (
  bif decide ((szs (1048576 : Int) 0 jo) < (0 : Int)) then
   some (.bool true, [])
  else
   pif ((ol lo jo)) (
   pif ((vcirc x [] [] [] 0 lo (List.length lo))) (
   pif ((ol lo jo)) (
   pif ((vcirc x [] [] [] 0 lo (List.length lo))) (
   pif (((many (needL [] [] [] lo) 0) ∧ (many (needL [] [] [] lo) 0))) (
   pif ((ol lo jo)) (
   pif (((gl [] [] [] 0) ∧ ((gl [] [] [] 0) ∧ ((ol lo (List.length lo)) ∧ (ol lo (List.length lo)))))) (
   bif (!(eqC x [] [] [] lo x [] [] [] lo)) then
    some (.bool false, [])
   else
    pif (((gl [] [] [] 0) ∧ ((ol lo (List.length lo)) ∧ ((1 : Int) = (1 : Int))))) (
    pif (((many (needL [] [] [] lo) 0) ∧ (many (needL [] [] [] lo) 0))) (
    pif (((many (needL [] [] [] lo) 0) ∧ ((1 : Int) = (1 : Int)))) (
    pif (((many (mk64 (1 : Int) (needL [] [] [] lo)) 0) ∧ (((1 : Int) = (1 : Int)) ∧ (marked64 (1 : Int) (mk64 (1 : Int) (needL [] [] [] lo)))))) (
    pif ((ol lo jo)) (
    pif ((vcirc x [] [] [] 0 lo (List.length lo))) (
    pif (((many (needL [] [] [] lo) 0) ∧ (many (needL [] [] [] lo) 0))) (
    pif (((many (mk64 (1 : Int) (needL [] [] [] lo)) 0) ∧ (((1 : Int) = (1 : Int)) ∧ (marked64 (1 : Int) (mk64 (1 : Int) (needL [] [] [] lo)))))) (
    some (.bool true, []))))))))))))))))) := by kernel_rfl
theorem ans {n : Nat} {x : Int} {lo : List Int} {jo : Nat} (hA : Sounds Try.prog (A n)) {u : U} {H : Heap} (h : R n x lo jo = some (u, H)) : Answers Try.prog 11 (us x lo jo) (HA x lo jo) u H := answers_env tabOk mixed hA Try.func11 (by kernel_rfl) (by kernel_rfl) h
end L_NeedTNR

namespace L_NeedTRN
abbrev num : Nat := 11
noncomputable def A (n : Nat) : List (Nat × Con) := ((fun (n : Nat) => ([(38, CNeeded), (39, CNeeded), (13, CSz), (15, CTo), (18, CEqC), (21, CMarkC), (40, CEq64), (41, CMark64), (42, CHeld64)] : List (Nat × Con)))) n
noncomputable abbrev E (n : Nat) : Env (U × Heap) := envC tab ios (A n)
def L : List (List Nat) := []
abbrev us (x : Int) (ks : List Int) (la : List Int) (lb : List Int) (j : Nat) : List U := (((fun (x : Int) (ks la lb : List Int) (j : Nat) => (([.agg [.int .i8 x, .rsl [.ints .i8 ks, .ints .i16 la, .ints .i16 lb] j, .nils]] : List U), ([] : Heap)))) x ks la lb j).1
abbrev HA (x : Int) (ks : List Int) (la : List Int) (lb : List Int) (j : Nat) : Heap := (((fun (x : Int) (ks la lb : List Int) (j : Nat) => (([.agg [.int .i8 x, .rsl [.ints .i8 ks, .ints .i16 la, .ints .i16 lb] j, .nils]] : List U), ([] : Heap)))) x ks la lb j).2
noncomputable def R (n : Nat) (x : Int) (ks : List Int) (la : List Int) (lb : List Int) (j : Nat) : Res := run (E n) n Try.f11 L (us x ks la lb j) (HA x ks la lb j) k0
theorem R_eq (n : Nat) (x : Int) (ks : List Int) (la : List Int) (lb : List Int) (j : Nat) : R n x ks la lb j =
  pif ((lens j (1048576 : Int))) (
  bif decide ((szs (1048576 : Int) j 0) < (0 : Int)) then
   some (.bool true, [])
  else
   pif ((gl ks la lb j)) (
   pif ((vcirc x ks la lb (List.length ks) [] 0)) (
   pif ((gl ks la lb j)) (
   pif ((vcirc x ks la lb (List.length ks) [] 0)) (
   pif (((many (needL ks la lb []) (List.length (needL ks la lb []))) ∧ (many (needL ks la lb []) (List.length (needL ks la lb []))))) (
   bif (!(eqI (needL ks la lb []) (needL ks la lb []))) then
    some (.bool false, [])
   else
    pif ((gl ks la lb j)) (
    pif (((gl ks la lb (List.length ks)) ∧ ((gl ks la lb (List.length ks)) ∧ ((ol [] 0) ∧ (ol [] 0))))) (
    bif (!(eqC x ks la lb [] x ks la lb [])) then
     some (.bool false, [])
    else
     pif (((gl ks la lb (List.length ks)) ∧ ((ol [] 0) ∧ ((1 : Int) = (1 : Int))))) (
     pif (((many (needL ks la lb []) (List.length (needL ks la lb []))) ∧ (many (needL ks la lb []) (List.length (needL ks la lb []))))) (
     bif (!(eqI (needL ks la lb []) (needL ks la lb []))) then
      some (.bool false, [])
     else
      pif (((many (needL ks la lb []) (List.length (needL ks la lb []))) ∧ ((1 : Int) = (1 : Int)))) (
      pif (((many (mk64 (1 : Int) (needL ks la lb [])) (List.length (mk64 (1 : Int) (needL ks la lb [])))) ∧ (((1 : Int) = (1 : Int)) ∧ (marked64 (1 : Int) (mk64 (1 : Int) (needL ks la lb [])))))) (
      bif ((cnt1 (1 : Int) (mk64 (1 : Int) (needL ks la lb []))) != (cnt1 (1 : Int) (needL ks la lb []))) then
       some (.bool false, [])
      else
       pif ((gl ks la lb j)) (
       pif ((vcirc x ks la lb (List.length ks) [] 0)) (
       pif (((many (needL ks la lb []) (List.length (needL ks la lb []))) ∧ (many (needL ks la lb []) (List.length (needL ks la lb []))))) (
       bif (!(eqI (needL ks la lb []) (needL ks la lb []))) then
        some (.bool false, [])
       else
        pif (((many (mk64 (1 : Int) (needL ks la lb [])) (List.length (mk64 (1 : Int) (needL ks la lb [])))) ∧ (((1 : Int) = (1 : Int)) ∧ (marked64 (1 : Int) (mk64 (1 : Int) (needL ks la lb [])))))) (
        bif ((cnt1 (1 : Int) (mk64 (1 : Int) (needL ks la lb []))) != (cnt1 (1 : Int) (needL ks la lb []))) then
         some (.bool false, [])
        else
         some (.bool true, []))))))))))))))))) := by kernel_rfl
theorem ans {n : Nat} {x : Int} {ks : List Int} {la : List Int} {lb : List Int} {j : Nat} (hA : Sounds Try.prog (A n)) {u : U} {H : Heap} (h : R n x ks la lb j = some (u, H)) : Answers Try.prog 11 (us x ks la lb j) (HA x ks la lb j) u H := answers_env tabOk mixed hA Try.func11 (by kernel_rfl) (by kernel_rfl) h
end L_NeedTRN

namespace L_NeedTRR
abbrev num : Nat := 11
noncomputable def A (n : Nat) : List (Nat × Con) := ((fun (n : Nat) => ([(38, CNeeded), (39, CNeeded), (13, CSz), (15, CTo), (18, CEqC), (21, CMarkC), (40, CEq64), (41, CMark64), (42, CHeld64)] : List (Nat × Con)))) n
noncomputable abbrev E (n : Nat) : Env (U × Heap) := envC tab ios (A n)
def L : List (List Nat) := []
abbrev us (x : Int) (ks : List Int) (la : List Int) (lb : List Int) (j : Nat) (lo : List Int) (jo : Nat) : List U := (((fun (x : Int) (ks la lb : List Int) (j : Nat) (lo : List Int) (jo : Nat) => (([.agg [.int .i8 x, .rsl [.ints .i8 ks, .ints .i16 la, .ints .i16 lb] j, .rsl [.ints .i16 lo] jo]] : List U), ([] : Heap)))) x ks la lb j lo jo).1
abbrev HA (x : Int) (ks : List Int) (la : List Int) (lb : List Int) (j : Nat) (lo : List Int) (jo : Nat) : Heap := (((fun (x : Int) (ks la lb : List Int) (j : Nat) (lo : List Int) (jo : Nat) => (([.agg [.int .i8 x, .rsl [.ints .i8 ks, .ints .i16 la, .ints .i16 lb] j, .rsl [.ints .i16 lo] jo]] : List U), ([] : Heap)))) x ks la lb j lo jo).2
noncomputable def R (n : Nat) (x : Int) (ks : List Int) (la : List Int) (lb : List Int) (j : Nat) (lo : List Int) (jo : Nat) : Res := run (E n) n Try.f11 L (us x ks la lb j lo jo) (HA x ks la lb j lo jo) k0
theorem R_eq (n : Nat) (x : Int) (ks : List Int) (la : List Int) (lb : List Int) (j : Nat) (lo : List Int) (jo : Nat) : R n x ks la lb j lo jo =
  pif (((lens j (1048576 : Int)) ∧ (lens jo (1048576 : Int)))) (
  bif decide ((szs (1048576 : Int) j jo) < (0 : Int)) then
   some (.bool true, [])
  else
   pif (((gl ks la lb j) ∧ (ol lo jo))) (
   pif ((vcirc x ks la lb (List.length ks) lo (List.length lo))) (
   pif (((gl ks la lb j) ∧ (ol lo jo))) (
   pif ((vcirc x ks la lb (List.length ks) lo (List.length lo))) (
   pif (((many (needL ks la lb lo) (List.length (needL ks la lb lo))) ∧ (many (needL ks la lb lo) (List.length (needL ks la lb lo))))) (
   bif (!(eqI (needL ks la lb lo) (needL ks la lb lo))) then
    some (.bool false, [])
   else
    pif (((gl ks la lb j) ∧ (ol lo jo))) (
    pif (((gl ks la lb (List.length ks)) ∧ ((gl ks la lb (List.length ks)) ∧ ((ol lo (List.length lo)) ∧ (ol lo (List.length lo)))))) (
    bif (!(eqC x ks la lb lo x ks la lb lo)) then
     some (.bool false, [])
    else
     pif (((gl ks la lb (List.length ks)) ∧ ((ol lo (List.length lo)) ∧ ((1 : Int) = (1 : Int))))) (
     pif (((many (needL ks la lb lo) (List.length (needL ks la lb lo))) ∧ (many (needL ks la lb lo) (List.length (needL ks la lb lo))))) (
     bif (!(eqI (needL ks la lb lo) (needL ks la lb lo))) then
      some (.bool false, [])
     else
      pif (((many (needL ks la lb lo) (List.length (needL ks la lb lo))) ∧ ((1 : Int) = (1 : Int)))) (
      pif (((many (mk64 (1 : Int) (needL ks la lb lo)) (List.length (mk64 (1 : Int) (needL ks la lb lo)))) ∧ (((1 : Int) = (1 : Int)) ∧ (marked64 (1 : Int) (mk64 (1 : Int) (needL ks la lb lo)))))) (
      bif ((cnt1 (1 : Int) (mk64 (1 : Int) (needL ks la lb lo))) != (cnt1 (1 : Int) (needL ks la lb lo))) then
       some (.bool false, [])
      else
       pif (((gl ks la lb j) ∧ (ol lo jo))) (
       pif ((vcirc x ks la lb (List.length ks) lo (List.length lo))) (
       pif (((many (needL ks la lb lo) (List.length (needL ks la lb lo))) ∧ (many (needL ks la lb lo) (List.length (needL ks la lb lo))))) (
       bif (!(eqI (needL ks la lb lo) (needL ks la lb lo))) then
        some (.bool false, [])
       else
        pif (((many (mk64 (1 : Int) (needL ks la lb lo)) (List.length (mk64 (1 : Int) (needL ks la lb lo)))) ∧ (((1 : Int) = (1 : Int)) ∧ (marked64 (1 : Int) (mk64 (1 : Int) (needL ks la lb lo)))))) (
        bif ((cnt1 (1 : Int) (mk64 (1 : Int) (needL ks la lb lo))) != (cnt1 (1 : Int) (needL ks la lb lo))) then
         some (.bool false, [])
        else
         some (.bool true, []))))))))))))))))) := by kernel_rfl
theorem ans {n : Nat} {x : Int} {ks : List Int} {la : List Int} {lb : List Int} {j : Nat} {lo : List Int} {jo : Nat} (hA : Sounds Try.prog (A n)) {u : U} {H : Heap} (h : R n x ks la lb j lo jo = some (u, H)) : Answers Try.prog 11 (us x ks la lb j lo jo) (HA x ks la lb j lo jo) u H := answers_env tabOk mixed hA Try.func11 (by kernel_rfl) (by kernel_rfl) h
end L_NeedTRR

namespace L_NeedFNN
abbrev num : Nat := 11
noncomputable def A (n : Nat) : List (Nat × Con) := ((fun (n : Nat) => ([(38, CNeededS), (39, CNeededI), (13, CSz), (15, CTo), (18, CEqC), (21, CMarkC), (40, CEq64), (41, CMark64), (42, CHeld64)] : List (Nat × Con)))) n
noncomputable abbrev E (n : Nat) : Env (U × Heap) := envC tab ios (A n)
def L : List (List Nat) := []
abbrev us (x : Int) : List U := (((fun (x : Int)  => (([.agg [.int .i8 x, .nils, .nils]] : List U), ([] : Heap)))) x).1
abbrev HA (x : Int) : Heap := (((fun (x : Int)  => (([.agg [.int .i8 x, .nils, .nils]] : List U), ([] : Heap)))) x).2
noncomputable def R (n : Nat) (x : Int) : Res := run (E n) n Try.f11 L (us x) (HA x) k0
theorem R_eq (n : Nat) (x : Int) : R n x =
  pif ((lens 0 (1048576 : Int))) (
  pif (True) (
  pif ((bcirc x [] [] [] 0 [] 0)) (
  pif (True) (
  pif ((bcirc x [] [] [] 0 [] 0)) (
  pif (((nol []) ∧ (0 = 0))) (
  pif (True) (
  pif (((gl [] [] [] 0) ∧ ((gl [] [] [] 0) ∧ ((ol [] 0) ∧ (ol [] 0))))) (
  bif (!(eqC x [] [] [] [] x [] [] [] [])) then
   some (.bool false, [])
  else
   pif (((gl [] [] [] 0) ∧ ((ol [] 0) ∧ ((1 : Int) = (1 : Int))))) (
   pif (((nol []) ∧ (0 = 0))) (
   pif (True) (
   pif (True) (
   pif (True) (
   pif ((bcirc x [] [] [] 0 [] 0)) (
   pif (((nol []) ∧ (0 = 0))) (
   pif (True) (
   some (.bool true, []))))))))))))))))) := by kernel_rfl
theorem ans {n : Nat} {x : Int} (hA : Sounds Try.prog (A n)) {u : U} {H : Heap} (h : R n x = some (u, H)) : Answers Try.prog 11 (us x) (HA x) u H := answers_env tabOk mixed hA Try.func11 (by kernel_rfl) (by kernel_rfl) h
end L_NeedFNN

namespace L_NeedFNR
abbrev num : Nat := 11
noncomputable def A (n : Nat) : List (Nat × Con) := ((fun (n : Nat) => ([(38, CNeededS), (39, CNeededI), (13, CSz), (15, CTo), (18, CEqC), (21, CMarkC), (40, CEq64), (41, CMark64), (42, CHeld64)] : List (Nat × Con)))) n
noncomputable abbrev E (n : Nat) : Env (U × Heap) := envC tab ios (A n)
def L : List (List Nat) := []
abbrev us (x : Int) (lo : List Int) (jo : Nat) : List U := (((fun (x : Int) (lo : List Int) (jo : Nat) => (([.agg [.int .i8 x, .nils, .rsl [.ints .i16 lo] jo]] : List U), ([] : Heap)))) x lo jo).1
abbrev HA (x : Int) (lo : List Int) (jo : Nat) : Heap := (((fun (x : Int) (lo : List Int) (jo : Nat) => (([.agg [.int .i8 x, .nils, .rsl [.ints .i16 lo] jo]] : List U), ([] : Heap)))) x lo jo).2
noncomputable def R (n : Nat) (x : Int) (lo : List Int) (jo : Nat) : Res := run (E n) n Try.f11 L (us x lo jo) (HA x lo jo) k0
theorem R_eq (n : Nat) (x : Int) (lo : List Int) (jo : Nat) : R n x lo jo =
  pif ((lens jo (1048576 : Int))) (
  bif decide ((szs (1048576 : Int) 0 jo) < (0 : Int)) then
   some (.bool true, [])
  else
   pif ((ol lo jo)) (
   pif ((bcirc x [] [] [] 0 lo (List.length lo))) (
   pif ((ol lo jo)) (
   pif ((bcirc x [] [] [] 0 lo (List.length lo))) (
   pif (((nol []) ∧ (0 = 0))) (
   pif ((ol lo jo)) (
   pif (((gl [] [] [] 0) ∧ ((gl [] [] [] 0) ∧ ((ol lo (List.length lo)) ∧ (ol lo (List.length lo)))))) (
   bif (!(eqC x [] [] [] lo x [] [] [] lo)) then
    some (.bool false, [])
   else
    pif (((gl [] [] [] 0) ∧ ((ol lo (List.length lo)) ∧ ((1 : Int) = (1 : Int))))) (
    pif (((nol []) ∧ (0 = 0))) (
    pif (True) (
    pif (True) (
    pif ((ol lo jo)) (
    pif ((bcirc x [] [] [] 0 lo (List.length lo))) (
    pif (((nol []) ∧ (0 = 0))) (
    pif (True) (
    some (.bool true, []))))))))))))))))) := by kernel_rfl
theorem ans {n : Nat} {x : Int} {lo : List Int} {jo : Nat} (hA : Sounds Try.prog (A n)) {u : U} {H : Heap} (h : R n x lo jo = some (u, H)) : Answers Try.prog 11 (us x lo jo) (HA x lo jo) u H := answers_env tabOk mixed hA Try.func11 (by kernel_rfl) (by kernel_rfl) h
end L_NeedFNR

namespace L_NeedFRN
abbrev num : Nat := 11
noncomputable def A (n : Nat) : List (Nat × Con) := ((fun (n : Nat) => ([(38, CNeededS), (39, CNeededI), (13, CSz), (15, CTo), (18, CEqC), (21, CMarkC), (40, CEq64), (41, CMark64), (42, CHeld64)] : List (Nat × Con)))) n
noncomputable abbrev E (n : Nat) : Env (U × Heap) := envC tab ios (A n)
def L : List (List Nat) := []
abbrev us (x : Int) (ks : List Int) (la : List Int) (lb : List Int) (j : Nat) : List U := (((fun (x : Int) (ks la lb : List Int) (j : Nat) => (([.agg [.int .i8 x, .rsl [.ints .i8 ks, .ints .i16 la, .ints .i16 lb] j, .nils]] : List U), ([] : Heap)))) x ks la lb j).1
abbrev HA (x : Int) (ks : List Int) (la : List Int) (lb : List Int) (j : Nat) : Heap := (((fun (x : Int) (ks la lb : List Int) (j : Nat) => (([.agg [.int .i8 x, .rsl [.ints .i8 ks, .ints .i16 la, .ints .i16 lb] j, .nils]] : List U), ([] : Heap)))) x ks la lb j).2
noncomputable def R (n : Nat) (x : Int) (ks : List Int) (la : List Int) (lb : List Int) (j : Nat) : Res := run (E n) n Try.f11 L (us x ks la lb j) (HA x ks la lb j) k0
theorem R_eq (n : Nat) (x : Int) (ks : List Int) (la : List Int) (lb : List Int) (j : Nat) : R n x ks la lb j =
  pif ((lens j (1048576 : Int))) (
  bif decide ((szs (1048576 : Int) j 0) < (0 : Int)) then
   some (.bool true, [])
  else
   pif ((gl ks la lb j)) (
   pif ((bcirc x ks la lb (List.length ks) [] 0)) (
   pif ((gl ks la lb j)) (
   pif ((bcirc x ks la lb (List.length ks) [] 0)) (
   pif (((nol []) ∧ (0 = 0))) (
   pif ((gl ks la lb j)) (
   pif (((gl ks la lb (List.length ks)) ∧ ((gl ks la lb (List.length ks)) ∧ ((ol [] 0) ∧ (ol [] 0))))) (
   bif (!(eqC x ks la lb [] x ks la lb [])) then
    some (.bool false, [])
   else
    pif (((gl ks la lb (List.length ks)) ∧ ((ol [] 0) ∧ ((1 : Int) = (1 : Int))))) (
    pif (((nol []) ∧ (0 = 0))) (
    pif (True) (
    pif (True) (
    pif ((gl ks la lb j)) (
    pif ((bcirc x ks la lb (List.length ks) [] 0)) (
    pif (((nol []) ∧ (0 = 0))) (
    pif (True) (
    some (.bool true, []))))))))))))))))) := by kernel_rfl
theorem ans {n : Nat} {x : Int} {ks : List Int} {la : List Int} {lb : List Int} {j : Nat} (hA : Sounds Try.prog (A n)) {u : U} {H : Heap} (h : R n x ks la lb j = some (u, H)) : Answers Try.prog 11 (us x ks la lb j) (HA x ks la lb j) u H := answers_env tabOk mixed hA Try.func11 (by kernel_rfl) (by kernel_rfl) h
end L_NeedFRN

namespace L_NeedFRR
abbrev num : Nat := 11
noncomputable def A (n : Nat) : List (Nat × Con) := ((fun (n : Nat) => ([(38, CNeededS), (39, CNeededI), (13, CSz), (15, CTo), (18, CEqC), (21, CMarkC), (40, CEq64), (41, CMark64), (42, CHeld64)] : List (Nat × Con)))) n
noncomputable abbrev E (n : Nat) : Env (U × Heap) := envC tab ios (A n)
def L : List (List Nat) := []
abbrev us (x : Int) (ks : List Int) (la : List Int) (lb : List Int) (j : Nat) (lo : List Int) (jo : Nat) : List U := (((fun (x : Int) (ks la lb : List Int) (j : Nat) (lo : List Int) (jo : Nat) => (([.agg [.int .i8 x, .rsl [.ints .i8 ks, .ints .i16 la, .ints .i16 lb] j, .rsl [.ints .i16 lo] jo]] : List U), ([] : Heap)))) x ks la lb j lo jo).1
abbrev HA (x : Int) (ks : List Int) (la : List Int) (lb : List Int) (j : Nat) (lo : List Int) (jo : Nat) : Heap := (((fun (x : Int) (ks la lb : List Int) (j : Nat) (lo : List Int) (jo : Nat) => (([.agg [.int .i8 x, .rsl [.ints .i8 ks, .ints .i16 la, .ints .i16 lb] j, .rsl [.ints .i16 lo] jo]] : List U), ([] : Heap)))) x ks la lb j lo jo).2
noncomputable def R (n : Nat) (x : Int) (ks : List Int) (la : List Int) (lb : List Int) (j : Nat) (lo : List Int) (jo : Nat) : Res := run (E n) n Try.f11 L (us x ks la lb j lo jo) (HA x ks la lb j lo jo) k0
theorem R_eq (n : Nat) (x : Int) (ks : List Int) (la : List Int) (lb : List Int) (j : Nat) (lo : List Int) (jo : Nat) : R n x ks la lb j lo jo =
  pif (((lens j (1048576 : Int)) ∧ (lens jo (1048576 : Int)))) (
  bif decide ((szs (1048576 : Int) j jo) < (0 : Int)) then
   some (.bool true, [])
  else
   pif (((gl ks la lb j) ∧ (ol lo jo))) (
   pif ((bcirc x ks la lb (List.length ks) lo (List.length lo))) (
   pif (((gl ks la lb j) ∧ (ol lo jo))) (
   pif ((bcirc x ks la lb (List.length ks) lo (List.length lo))) (
   pif (((nol []) ∧ (0 = 0))) (
   pif (((gl ks la lb j) ∧ (ol lo jo))) (
   pif (((gl ks la lb (List.length ks)) ∧ ((gl ks la lb (List.length ks)) ∧ ((ol lo (List.length lo)) ∧ (ol lo (List.length lo)))))) (
   bif (!(eqC x ks la lb lo x ks la lb lo)) then
    some (.bool false, [])
   else
    pif (((gl ks la lb (List.length ks)) ∧ ((ol lo (List.length lo)) ∧ ((1 : Int) = (1 : Int))))) (
    pif (((nol []) ∧ (0 = 0))) (
    pif (True) (
    pif (True) (
    pif (((gl ks la lb j) ∧ (ol lo jo))) (
    pif ((bcirc x ks la lb (List.length ks) lo (List.length lo))) (
    pif (((nol []) ∧ (0 = 0))) (
    pif (True) (
    some (.bool true, []))))))))))))))))) := by kernel_rfl
theorem ans {n : Nat} {x : Int} {ks : List Int} {la : List Int} {lb : List Int} {j : Nat} {lo : List Int} {jo : Nat} (hA : Sounds Try.prog (A n)) {u : U} {H : Heap} (h : R n x ks la lb j lo jo = some (u, H)) : Answers Try.prog 11 (us x ks la lb j lo jo) (HA x ks la lb j lo jo) u H := answers_env tabOk mixed hA Try.func11 (by kernel_rfl) (by kernel_rfl) h
end L_NeedFRR

end Go.VM
