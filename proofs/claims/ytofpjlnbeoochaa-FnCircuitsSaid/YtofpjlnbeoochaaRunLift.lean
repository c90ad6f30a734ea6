/- Written by a program of this session (Lift.lean): what the evaluator comes to, function by function; the kernel checks it. The conditions: those of the contracts. -/
import Derived.Test.YtofpjlnbeoochaaVmP4
import Derived.Test.YtofpjlnbeoochaaCircT
import Derived.Test.YtofpjlnbeoochaaCircTS
import Derived.Test.YtofpjlnbeoochaaCircCon
import Derived.Test.YtofpjlnbeoochaaCircCon2
import Derived.Test.YtofpjlnbeoochaaCircCon3
import Derived.Test.YtofpjlnbeoochaaCircCon4
import Derived.KernelRfl
set_option linter.unusedVariables false
set_option linter.unusedSimpArgs false
set_option linter.unusedSectionVars false
namespace Go.VM
open Go Go.Proofs Go.Fn NimF
set_option linter.unusedVariables false
set_option maxRecDepth 100000
namespace S_vals
abbrev num : Nat := 103
noncomputable def A (n : Nat) : List (Nat × Con) := ((fun (n : Nat) => ([] : List (Nat × Con)))) n
noncomputable abbrev E (n : Nat) : Env (U × Heap) := envC tab ios (A n)
def L : List (List Nat) := [[5, 6, 1, 0]]
abbrev us (x : Int) (ks : List Int) (la : List Int) (lb : List Int) (j : Nat) (lo : List Int) (jo : Nat) (b : Int) : List U := (((fun (x : Int) (ks la lb : List Int) (j : Nat) (lo : List Int) (jo : Nat) (b : Int) => (([.rptr [.int .i8 x, .rsl [.ints .i8 ks, .ints .i16 la, .ints .i16 lb] j, .rsl [.ints .i16 lo] jo] 0 1, .int .u16 b] : List U), ([] : Heap)))) x ks la lb j lo jo b).1
abbrev HA (x : Int) (ks : List Int) (la : List Int) (lb : List Int) (j : Nat) (lo : List Int) (jo : Nat) (b : Int) : Heap := (((fun (x : Int) (ks la lb : List Int) (j : Nat) (lo : List Int) (jo : Nat) (b : Int) => (([.rptr [.int .i8 x, .rsl [.ints .i8 ks, .ints .i16 la, .ints .i16 lb] j, .rsl [.ints .i16 lo] jo] 0 1, .int .u16 b] : List U), ([] : Heap)))) x ks la lb j lo jo b).2
def S0 (t6 : Int) (t1 : Int) (t0_0 : Int) (t0_1_0 : List Int) (t0_1_1 : List Int) (t0_1_2 : List Int) (t0_1n : Nat) (t0_2_0 : List Int) (t0_2n : Nat) (o0_0 : List Bool) : St := ⟨[(5, .own 0), (6, .int .i64 t6), (1, .int .u16 t1), (0, .rptr [.int .i8 t0_0, .rsl [.ints .i8 t0_1_0, .ints .i16 t0_1_1, .ints .i16 t0_1_2] t0_1n, .rsl [.ints .i16 t0_2_0] t0_2n] 0 1)], 69, [(0, ⟨[.bools o0_0], true⟩)], [0], 0⟩
noncomputable def N0 (n : Nat)  (m0 : Nat) (t6 : Int) (t1 : Int) (t0_0 : Int) (t0_1_0 : List Int) (t0_1_1 : List Int) (t0_1_2 : List Int) (t0_1n : Nat) (t0_2_0 : List Int) (t0_2n : Nat) (o0_0 : List Bool) : Res := nodeRun (E n) n Try.f103 L k0 [true, true, false, true, false] [] m0 (S0 t6 t1 t0_0 t0_1_0 t0_1_1 t0_1_2 t0_1n t0_2_0 t0_2n o0_0)
theorem N0_succ (n : Nat)  (m0 : Nat) (t6 : Int) (t1 : Int) (t0_0 : Int) (t0_1_0 : List Int) (t0_1_1 : List Int) (t0_1_2 : List Int) (t0_1n : Nat) (t0_2_0 : List Int) (t0_2n : Nat) (o0_0 : List Bool) : N0 n  (m0 + 1) t6 t1 t0_0 t0_1_0 t0_1_1 t0_1_2 t0_1n t0_2_0 t0_2n o0_0 =
  bif decide (t6 < ((t0_1n : Nat) : Int)) then
   bif decide (((0 : Int) ≤ t6) ∧ (t6 < ((t0_1n : Nat) : Int))) then
   bif ((List.getD t0_1_0 (Int.toNat t6) (0 : Int)) == (0 : Int)) then
     bif decide ((0 : Int) ≤ (IntKind.wrap .u64 (List.getD t0_1_1 (Int.toNat t6) (0 : Int)))) then
     bif decide ((((List.length o0_0) + 1) * 1) ≤ 4398046511104) then
      N0 n m0 (IntKind.wrap .i64 (t6 + (1 : Int))) t1 t0_0 t0_1_0 t0_1_1 t0_1_2 t0_1n t0_2_0 t0_2n (o0_0 ++ [((Int.tmod (Int.fdiv t1 ((2 : Int) ^ (min (Int.toNat (IntKind.wrap .u64 (List.getD t0_1_1 (Int.toNat t6) (0 : Int)))) 16))) (2 : Int)) == (1 : Int))])
      else none
     else none
    else
     bif ((List.getD t0_1_0 (Int.toNat t6) (0 : Int)) == (2 : Int)) then
      bif decide (((0 : Int) ≤ (List.getD t0_1_1 (Int.toNat t6) (0 : Int))) ∧ ((List.getD t0_1_1 (Int.toNat t6) (0 : Int)) < (((List.length o0_0) : Nat) : Int))) then
      bif decide (((0 : Int) ≤ (List.getD t0_1_2 (Int.toNat t6) (0 : Int))) ∧ ((List.getD t0_1_2 (Int.toNat t6) (0 : Int)) < (((List.length o0_0) : Nat) : Int))) then
       bif decide ((((List.length o0_0) + 1) * 1) ≤ 4398046511104) then
        N0 n m0 (IntKind.wrap .i64 (t6 + (1 : Int))) t1 t0_0 t0_1_0 t0_1_1 t0_1_2 t0_1n t0_2_0 t0_2n (o0_0 ++ [((List.getD o0_0 (Int.toNat (List.getD t0_1_1 (Int.toNat t6) (0 : Int))) false) != (List.getD o0_0 (Int.toNat (List.getD t0_1_2 (Int.toNat t6) (0 : Int))) false))])
        else none
       else none
      else none
     else
      bif ((List.getD t0_1_0 (Int.toNat t6) (0 : Int)) == (3 : Int)) then
       bif decide (((0 : Int) ≤ (List.getD t0_1_1 (Int.toNat t6) (0 : Int))) ∧ ((List.getD t0_1_1 (Int.toNat t6) (0 : Int)) < (((List.length o0_0) : Nat) : Int))) then
       bif (List.getD o0_0 (Int.toNat (List.getD t0_1_1 (Int.toNat t6) (0 : Int))) false) then
         bif decide (((0 : Int) ≤ (List.getD t0_1_2 (Int.toNat t6) (0 : Int))) ∧ ((List.getD t0_1_2 (Int.toNat t6) (0 : Int)) < (((List.length o0_0) : Nat) : Int))) then
         bif decide ((((List.length o0_0) + 1) * 1) ≤ 4398046511104) then
          N0 n m0 (IntKind.wrap .i64 (t6 + (1 : Int))) t1 t0_0 t0_1_0 t0_1_1 t0_1_2 t0_1n t0_2_0 t0_2n (o0_0 ++ [(List.getD o0_0 (Int.toNat (List.getD t0_1_2 (Int.toNat t6) (0 : Int))) false)])
          else none
         else none
        else
         bif decide ((((List.length o0_0) + 1) * 1) ≤ 4398046511104) then
         N0 n m0 (IntKind.wrap .i64 (t6 + (1 : Int))) t1 t0_0 t0_1_0 t0_1_1 t0_1_2 t0_1n t0_2_0 t0_2n (o0_0 ++ [false])
         else none
       else none
      else
       bif decide ((((List.length o0_0) + 1) * 1) ≤ 4398046511104) then
       N0 n m0 (IntKind.wrap .i64 (t6 + (1 : Int))) t1 t0_0 t0_1_0 t0_1_1 t0_1_2 t0_1n t0_2_0 t0_2n (o0_0 ++ [true])
       else none
   else none
  else
   some (.own 0, [(0, ⟨[.bools o0_0], true⟩)]) := by kernel_rfl
noncomputable def R (n : Nat) (x : Int) (ks : List Int) (la : List Int) (lb : List Int) (j : Nat) (lo : List Int) (jo : Nat) (b : Int) : Res := run (E n) n Try.f103 L (us x ks la lb j lo jo b) (HA x ks la lb j lo jo b) k0
theorem R_eq (n : Nat) (x : Int) (ks : List Int) (la : List Int) (lb : List Int) (j : Nat) (lo : List Int) (jo : Nat) (b : Int) : R n x ks la lb j lo jo b =
  N0 n n (0 : Int) b x ks la lb j lo jo [] := by kernel_rfl
theorem ans {n : Nat} {x : Int} {ks : List Int} {la : List Int} {lb : List Int} {j : Nat} {lo : List Int} {jo : Nat} {b : Int} (hA : Sounds Try.prog (A n)) {u : U} {H : Heap} (h : R n x ks la lb j lo jo b = some (u, H)) : Answers Try.prog 103 (us x ks la lb j lo jo b) (HA x ks la lb j lo jo b) u H := answers_env tabOk mixed hA Try.func103 (by kernel_rfl) (by kernel_rfl) h
end S_vals

namespace S_run
abbrev num : Nat := 83
noncomputable def A (n : Nat) : List (Nat × Con) := ((fun (n : Nat) => ([(103, CValS)] : List (Nat × Con)))) n
noncomputable abbrev E (n : Nat) : Env (U × Heap) := envC tab ios (A n)
def L : List (List Nat) := [[6, 7, 0, 5]]
abbrev us (x : Int) (ks : List Int) (la : List Int) (lb : List Int) (j : Nat) (lo : List Int) (jo : Nat) (b : Int) : List U := (((fun (x : Int) (ks la lb : List Int) (j : Nat) (lo : List Int) (jo : Nat) (b : Int) => (([.rptr [.int .i8 x, .rsl [.ints .i8 ks, .ints .i16 la, .ints .i16 lb] j, .rsl [.ints .i16 lo] jo] 0 1, .int .u16 b] : List U), ([] : Heap)))) x ks la lb j lo jo b).1
abbrev HA (x : Int) (ks : List Int) (la : List Int) (lb : List Int) (j : Nat) (lo : List Int) (jo : Nat) (b : Int) : Heap := (((fun (x : Int) (ks la lb : List Int) (j : Nat) (lo : List Int) (jo : Nat) (b : Int) => (([.rptr [.int .i8 x, .rsl [.ints .i8 ks, .ints .i16 la, .ints .i16 lb] j, .rsl [.ints .i16 lo] jo] 0 1, .int .u16 b] : List U), ([] : Heap)))) x ks la lb j lo jo b).2
def S0 (t6 : Int) (t7 : Int) (t0_0 : Int) (t0_1_0 : List Int) (t0_1_1 : List Int) (t0_1_2 : List Int) (t0_1n : Nat) (t0_2_0 : List Int) (t0_2n : Nat) (o0_0 : List Bool) : St := ⟨[(6, .int .u16 t6), (7, .int .i64 t7), (0, .rptr [.int .i8 t0_0, .rsl [.ints .i8 t0_1_0, .ints .i16 t0_1_1, .ints .i16 t0_1_2] t0_1n, .rsl [.ints .i16 t0_2_0] t0_2n] 0 1), (5, .own 0)], 36, [(0, ⟨[.bools o0_0], true⟩)], [0], 0⟩
noncomputable def N0 (n : Nat)  (m0 : Nat) (t6 : Int) (t7 : Int) (t0_0 : Int) (t0_1_0 : List Int) (t0_1_1 : List Int) (t0_1_2 : List Int) (t0_1n : Nat) (t0_2_0 : List Int) (t0_2n : Nat) (o0_0 : List Bool) : Res := nodeRun (E n) n Try.f83 L k0 [true, true, true, false, true, false] [] m0 (S0 t6 t7 t0_0 t0_1_0 t0_1_1 t0_1_2 t0_1n t0_2_0 t0_2n o0_0)
theorem N0_succ (n : Nat)  (m0 : Nat) (t6 : Int) (t7 : Int) (t0_0 : Int) (t0_1_0 : List Int) (t0_1_1 : List Int) (t0_1_2 : List Int) (t0_1n : Nat) (t0_2_0 : List Int) (t0_2n : Nat) (o0_0 : List Bool) : N0 n  (m0 + 1) t6 t7 t0_0 t0_1_0 t0_1_1 t0_1_2 t0_1n t0_2_0 t0_2n o0_0 =
  bif decide (t7 < ((t0_2n : Nat) : Int)) then
   bif decide (((0 : Int) ≤ t7) ∧ (t7 < ((t0_2n : Nat) : Int))) then
   bif decide (((0 : Int) ≤ (List.getD t0_2_0 (Int.toNat t7) (0 : Int))) ∧ ((List.getD t0_2_0 (Int.toNat t7) (0 : Int)) < (((List.length o0_0) : Nat) : Int))) then
    bif (List.getD o0_0 (Int.toNat (List.getD t0_2_0 (Int.toNat t7) (0 : Int))) false) then
      bif decide ((0 : Int) ≤ (IntKind.wrap .u64 t7)) then
      N0 n m0 (intBitsV .or .u16 t6 (IntKind.wrap .u16 ((1 : Int) * ((2 : Int) ^ (min (Int.toNat (IntKind.wrap .u64 t7)) 16))))) (IntKind.wrap .i64 (t7 + (1 : Int))) t0_0 t0_1_0 t0_1_1 t0_1_2 t0_1n t0_2_0 t0_2n o0_0
      else none
     else
      N0 n m0 t6 (IntKind.wrap .i64 (t7 + (1 : Int))) t0_0 t0_1_0 t0_1_1 t0_1_2 t0_1n t0_2_0 t0_2n o0_0
    else none
   else none
  else
   some (.int .u16 t6, []) := by kernel_rfl
noncomputable def R (n : Nat) (x : Int) (ks : List Int) (la : List Int) (lb : List Int) (j : Nat) (lo : List Int) (jo : Nat) (b : Int) : Res := run (E n) n Try.f83 L (us x ks la lb j lo jo b) (HA x ks la lb j lo jo b) k0
theorem R_eq (n : Nat) (x : Int) (ks : List Int) (la : List Int) (lb : List Int) (j : Nat) (lo : List Int) (jo : Nat) (b : Int) : R n x ks la lb j lo jo b =
  pif ((rin x ks la lb j lo jo b)) (
  N0 n n (0 : Int) (0 : Int) x ks la lb j lo jo (onV b ks la lb)) := by kernel_rfl
theorem ans {n : Nat} {x : Int} {ks : List Int} {la : List Int} {lb : List Int} {j : Nat} {lo : List Int} {jo : Nat} {b : Int} (hA : Sounds Try.prog (A n)) {u : U} {H : Heap} (h : R n x ks la lb j lo jo b = some (u, H)) : Answers Try.prog 83 (us x ks la lb j lo jo b) (HA x ks la lb j lo jo b) u H := answers_env tabOk mixed hA Try.func83 (by kernel_rfl) (by kernel_rfl) h
end S_run

namespace I_on
abbrev num : Nat := 101
noncomputable def A (n : Nat) : List (Nat × Con) := ((fun (n : Nat) => ([] : List (Nat × Con)))) n
noncomputable abbrev E (n : Nat) : Env (U × Heap) := envC tab ios (A n)
def L : List (List Nat) := [[5, 12, 1, 10, 11]]
abbrev us (x : Int) (ks : List Int) (la : List Int) (lb : List Int) (j : Nat) (lo : List Int) (jo : Nat) (b : Int) : List U := (((fun (x : Int) (ks la lb : List Int) (j : Nat) (lo : List Int) (jo : Nat) (b : Int) => (([.agg [.int .i8 x, .rsl [.ints .i8 ks, .ints .i16 la, .ints .i16 lb] j, .rsl [.ints .i16 lo] jo], .int .u16 b] : List U), ([] : Heap)))) x ks la lb j lo jo b).1
abbrev HA (x : Int) (ks : List Int) (la : List Int) (lb : List Int) (j : Nat) (lo : List Int) (jo : Nat) (b : Int) : Heap := (((fun (x : Int) (ks la lb : List Int) (j : Nat) (lo : List Int) (jo : Nat) (b : Int) => (([.agg [.int .i8 x, .rsl [.ints .i8 ks, .ints .i16 la, .ints .i16 lb] j, .rsl [.ints .i16 lo] jo], .int .u16 b] : List U), ([] : Heap)))) x ks la lb j lo jo b).2
def S0 (t12 : Int) (t1 : Int) (t10_0 : List Int) (t10_1 : List Int) (t10_2 : List Int) (t10n : Nat) (t11 : Int) (o0_0 : List Bool) : St := ⟨[(5, .own 0), (12, .int .i64 t12), (1, .int .u16 t1), (10, .rsl [.ints .i8 t10_0, .ints .i16 t10_1, .ints .i16 t10_2] t10n), (11, .int .i64 t11)], 67, [(0, ⟨[.bools o0_0], true⟩)], [0], 0⟩
noncomputable def N0 (n : Nat)  (m0 : Nat) (t12 : Int) (t1 : Int) (t10_0 : List Int) (t10_1 : List Int) (t10_2 : List Int) (t10n : Nat) (t11 : Int) (o0_0 : List Bool) : Res := nodeRun (E n) n Try.f101 L k0 [true, true, false, true, false] [] m0 (S0 t12 t1 t10_0 t10_1 t10_2 t10n t11 o0_0)
theorem N0_succ (n : Nat)  (m0 : Nat) (t12 : Int) (t1 : Int) (t10_0 : List Int) (t10_1 : List Int) (t10_2 : List Int) (t10n : Nat) (t11 : Int) (o0_0 : List Bool) : N0 n  (m0 + 1) t12 t1 t10_0 t10_1 t10_2 t10n t11 o0_0 =
  bif decide (t12 < t11) then
   bif decide (((0 : Int) ≤ t12) ∧ (t12 < ((t10n : Nat) : Int))) then
   bif ((List.getD t10_0 (Int.toNat t12) (0 : Int)) == (0 : Int)) then
     bif decide ((0 : Int) ≤ (List.getD t10_1 (Int.toNat t12) (0 : Int))) then
     bif decide ((((List.length o0_0) + 1) * 1) ≤ 4398046511104) then
      N0 n m0 (IntKind.wrap .i64 (t12 + (1 : Int))) t1 t10_0 t10_1 t10_2 t10n t11 (o0_0 ++ [((intBitsV .and .u16 (Int.fdiv t1 ((2 : Int) ^ (min (Int.toNat (List.getD t10_1 (Int.toNat t12) (0 : Int))) 16))) (1 : Int)) == (1 : Int))])
      else none
     else none
    else
     bif ((List.getD t10_0 (Int.toNat t12) (0 : Int)) == (1 : Int)) then
      bif decide ((((List.length o0_0) + 1) * 1) ≤ 4398046511104) then
      N0 n m0 (IntKind.wrap .i64 (t12 + (1 : Int))) t1 t10_0 t10_1 t10_2 t10n t11 (o0_0 ++ [true])
      else none
     else
      bif ((List.getD t10_0 (Int.toNat t12) (0 : Int)) == (2 : Int)) then
       bif decide (((0 : Int) ≤ (List.getD t10_1 (Int.toNat t12) (0 : Int))) ∧ ((List.getD t10_1 (Int.toNat t12) (0 : Int)) < (((List.length o0_0) : Nat) : Int))) then
       bif decide (((0 : Int) ≤ (List.getD t10_2 (Int.toNat t12) (0 : Int))) ∧ ((List.getD t10_2 (Int.toNat t12) (0 : Int)) < (((List.length o0_0) : Nat) : Int))) then
        bif decide ((((List.length o0_0) + 1) * 1) ≤ 4398046511104) then
         N0 n m0 (IntKind.wrap .i64 (t12 + (1 : Int))) t1 t10_0 t10_1 t10_2 t10n t11 (o0_0 ++ [((List.getD o0_0 (Int.toNat (List.getD t10_1 (Int.toNat t12) (0 : Int))) false) != (List.getD o0_0 (Int.toNat (List.getD t10_2 (Int.toNat t12) (0 : Int))) false))])
         else none
        else none
       else none
      else
       bif decide (((0 : Int) ≤ (List.getD t10_1 (Int.toNat t12) (0 : Int))) ∧ ((List.getD t10_1 (Int.toNat t12) (0 : Int)) < (((List.length o0_0) : Nat) : Int))) then
       bif (List.getD o0_0 (Int.toNat (List.getD t10_1 (Int.toNat t12) (0 : Int))) false) then
         bif decide (((0 : Int) ≤ (List.getD t10_2 (Int.toNat t12) (0 : Int))) ∧ ((List.getD t10_2 (Int.toNat t12) (0 : Int)) < (((List.length o0_0) : Nat) : Int))) then
         bif decide ((((List.length o0_0) + 1) * 1) ≤ 4398046511104) then
          N0 n m0 (IntKind.wrap .i64 (t12 + (1 : Int))) t1 t10_0 t10_1 t10_2 t10n t11 (o0_0 ++ [(List.getD o0_0 (Int.toNat (List.getD t10_2 (Int.toNat t12) (0 : Int))) false)])
          else none
         else none
        else
         bif decide ((((List.length o0_0) + 1) * 1) ≤ 4398046511104) then
         N0 n m0 (IntKind.wrap .i64 (t12 + (1 : Int))) t1 t10_0 t10_1 t10_2 t10n t11 (o0_0 ++ [false])
         else none
       else none
   else none
  else
   some (.own 0, [(0, ⟨[.bools o0_0], true⟩)]) := by kernel_rfl
noncomputable def R (n : Nat) (x : Int) (ks : List Int) (la : List Int) (lb : List Int) (j : Nat) (lo : List Int) (jo : Nat) (b : Int) : Res := run (E n) n Try.f101 L (us x ks la lb j lo jo b) (HA x ks la lb j lo jo b) k0
theorem R_eq (n : Nat) (x : Int) (ks : List Int) (la : List Int) (lb : List Int) (j : Nat) (lo : List Int) (jo : Nat) (b : Int) : R n x ks la lb j lo jo b =
  N0 n n (0 : Int) b ks la lb j ((j : Nat) : Int) [] := by kernel_rfl
theorem ans {n : Nat} {x : Int} {ks : List Int} {la : List Int} {lb : List Int} {j : Nat} {lo : List Int} {jo : Nat} {b : Int} (hA : Sounds Try.prog (A n)) {u : U} {H : Heap} (h : R n x ks la lb j lo jo b = some (u, H)) : Answers Try.prog 101 (us x ks la lb j lo jo b) (HA x ks la lb j lo jo b) u H := answers_env tabOk mixed hA Try.func101 (by kernel_rfl) (by kernel_rfl) h
end I_on

namespace I_run
abbrev num : Nat := 79
noncomputable def A (n : Nat) : List (Nat × Con) := ((fun (n : Nat) => ([(101, CValI)] : List (Nat × Con)))) n
noncomputable abbrev E (n : Nat) : Env (U × Heap) := envC tab ios (A n)
def L : List (List Nat) := [[6, 15, 5, 13, 14]]
abbrev us (x : Int) (ks : List Int) (la : List Int) (lb : List Int) (j : Nat) (lo : List Int) (jo : Nat) (b : Int) : List U := (((fun (x : Int) (ks la lb : List Int) (j : Nat) (lo : List Int) (jo : Nat) (b : Int) => (([.agg [.int .i8 x, .rsl [.ints .i8 ks, .ints .i16 la, .ints .i16 lb] j, .rsl [.ints .i16 lo] jo], .int .u16 b] : List U), ([] : Heap)))) x ks la lb j lo jo b).1
abbrev HA (x : Int) (ks : List Int) (la : List Int) (lb : List Int) (j : Nat) (lo : List Int) (jo : Nat) (b : Int) : Heap := (((fun (x : Int) (ks la lb : List Int) (j : Nat) (lo : List Int) (jo : Nat) (b : Int) => (([.agg [.int .i8 x, .rsl [.ints .i8 ks, .ints .i16 la, .ints .i16 lb] j, .rsl [.ints .i16 lo] jo], .int .u16 b] : List U), ([] : Heap)))) x ks la lb j lo jo b).2
def S0 (t6 : Int) (t15 : Int) (t13_0 : List Int) (t13n : Nat) (t14 : Int) (o0_0 : List Bool) : St := ⟨[(6, .int .u16 t6), (15, .int .i64 t15), (5, .own 0), (13, .rsl [.ints .i16 t13_0] t13n), (14, .int .i64 t14)], 30, [(0, ⟨[.bools o0_0], true⟩)], [0], 0⟩
noncomputable def N0 (n : Nat)  (m0 : Nat) (t6 : Int) (t15 : Int) (t13_0 : List Int) (t13n : Nat) (t14 : Int) (o0_0 : List Bool) : Res := nodeRun (E n) n Try.f79 L k0 [true, true, false, true, false] [] m0 (S0 t6 t15 t13_0 t13n t14 o0_0)
theorem N0_succ (n : Nat)  (m0 : Nat) (t6 : Int) (t15 : Int) (t13_0 : List Int) (t13n : Nat) (t14 : Int) (o0_0 : List Bool) : N0 n  (m0 + 1) t6 t15 t13_0 t13n t14 o0_0 =
  bif decide (t15 < t14) then
   bif decide (((0 : Int) ≤ t15) ∧ (t15 < ((t13n : Nat) : Int))) then
   bif decide (((0 : Int) ≤ (List.getD t13_0 (Int.toNat t15) (0 : Int))) ∧ ((List.getD t13_0 (Int.toNat t15) (0 : Int)) < (((List.length o0_0) : Nat) : Int))) then
    bif (List.getD o0_0 (Int.toNat (List.getD t13_0 (Int.toNat t15) (0 : Int))) false) then
      bif decide ((0 : Int) ≤ t15) then
      N0 n m0 (intBitsV .or .u16 t6 (IntKind.wrap .u16 ((1 : Int) * ((2 : Int) ^ (min (Int.toNat t15) 16))))) (IntKind.wrap .i64 (t15 + (1 : Int))) t13_0 t13n t14 o0_0
      else none
     else
      N0 n m0 t6 (IntKind.wrap .i64 (t15 + (1 : Int))) t13_0 t13n t14 o0_0
    else none
   else none
  else
   some (.int .u16 t6, []) := by kernel_rfl
noncomputable def R (n : Nat) (x : Int) (ks : List Int) (la : List Int) (lb : List Int) (j : Nat) (lo : List Int) (jo : Nat) (b : Int) : Res := run (E n) n Try.f79 L (us x ks la lb j lo jo b) (HA x ks la lb j lo jo b) k0
theorem R_eq (n : Nat) (x : Int) (ks : List Int) (la : List Int) (lb : List Int) (j : Nat) (lo : List Int) (jo : Nat) (b : Int) : R n x ks la lb j lo jo b =
  pif ((rin x ks la lb j lo jo b)) (
  N0 n n (0 : Int) (0 : Int) lo jo ((jo : Nat) : Int) (onV b ks la lb)) := by kernel_rfl
theorem ans {n : Nat} {x : Int} {ks : List Int} {la : List Int} {lb : List Int} {j : Nat} {lo : List Int} {jo : Nat} {b : Int} (hA : Sounds Try.prog (A n)) {u : U} {H : Heap} (h : R n x ks la lb j lo jo b = some (u, H)) : Answers Try.prog 79 (us x ks la lb j lo jo b) (HA x ks la lb j lo jo b) u H := answers_env tabOk mixed hA Try.func79 (by kernel_rfl) (by kernel_rfl) h
end I_run

end Go.VM
