/- Written by a program of this session (Lift.lean): what the evaluator comes to, function by function; the kernel checks it. The conditions: those of the contracts. -/
import Derived.Test.YthfabkahekagoaaVmP4
import Derived.Test.YthfabkahekagoaaNimST
import Derived.Test.YthfabkahekagoaaNimSTS
import Derived.Test.YthfabkahekagoaaNimCon
import Derived.Test.YthfabkahekagoaaIntsCon
import Derived.Test.YthfabkahekagoaaHalfCon
import Derived.KernelRfl
set_option linter.unusedVariables false
set_option linter.unusedSimpArgs false
set_option linter.unusedSectionVars false
namespace Go.VM
open Go Go.Proofs Go.Fn NimF
set_option linter.unusedVariables false
set_option maxRecDepth 100000
namespace S_hf
abbrev num : Nat := 40
noncomputable def A (n : Nat) : List (Nat × Con) := ((fun (n : Nat) => ([(44, CMul)] : List (Nat × Con)))) n
noncomputable abbrev E (n : Nat) : Env (U × Heap) := envC tab ios (A n)
def L : List (List Nat) := [[0, 6, 5, 4, 7], [0, 6, 7, 8, 5, 9, 4, 10], [0, 6, 5, 4, 7, 11], [0, 6, 12, 5, 4]]
abbrev us (a : Int) : List U := (((fun (a : Int) => (([.int .u16 a] : List U), ([] : Heap)))) a).1
abbrev HA (a : Int) : Heap := (((fun (a : Int) => (([.int .u16 a] : List U), ([] : Heap)))) a).2
def S0 (t0 : Int) (t6 : Int) (t7 : Int) (o0_0 : List Int) (o1_0 : List Int) : St := ⟨[(0, .int .u16 t0), (6, .int .u16 t6), (5, .own 0), (4, .own 1), (7, .int .u64 t7)], 142, [(0, ⟨[.ints .u16 o0_0], true⟩), (1, ⟨[.ints .u16 o1_0], true⟩)], [0, 1], 0⟩
noncomputable def N0 (n : Nat)  (m0 : Nat) (t0 : Int) (t6 : Int) (t7 : Int) (o0_0 : List Int) (o1_0 : List Int) : Res := nodeRun (E n) n Try.f40 L k0 [true, true, true, true, false, true, false] [] m0 (S0 t0 t6 t7 o0_0 o1_0)
def S1 (t0 : Int) (t6 : Int) (t7 : Int) (t8 : Int) (t9 : Int) (t10 : Int) (o0_0 : List Int) (o1_0 : List Int) : St := ⟨[(0, .int .u16 t0), (6, .int .u16 t6), (7, .int .u64 t7), (8, .int .u16 t8), (5, .own 0), (9, .int .u16 t9), (4, .own 1), (10, .int .i64 t10)], 142, [(0, ⟨[.ints .u16 o0_0], true⟩), (1, ⟨[.ints .u16 o1_0], true⟩)], [0, 1], 0⟩
noncomputable def N1 (n : Nat) (m0 : Nat) (m1 : Nat) (t0 : Int) (t6 : Int) (t7 : Int) (t8 : Int) (t9 : Int) (t10 : Int) (o0_0 : List Int) (o1_0 : List Int) : Res := nodeRun (E n) n Try.f40 L k0 [true, true, true, true, false, true, false, false, true, false, false, true, true, false, true, false] [m0] m1 (S1 t0 t6 t7 t8 t9 t10 o0_0 o1_0)
def S2 (t0 : Int) (t6 : Int) (t7 : Int) (t11 : Int) (o0_0 : List Int) (o1_0 : List Int) : St := ⟨[(0, .int .u16 t0), (6, .int .u16 t6), (5, .own 0), (4, .own 1), (7, .int .u64 t7), (11, .int .i64 t11)], 142, [(0, ⟨[.ints .u16 o0_0], true⟩), (1, ⟨[.ints .u16 o1_0], true⟩)], [0, 1], 0⟩
noncomputable def N2 (n : Nat) (m0 : Nat) (m2 : Nat) (t0 : Int) (t6 : Int) (t7 : Int) (t11 : Int) (o0_0 : List Int) (o1_0 : List Int) : Res := nodeRun (E n) n Try.f40 L k0 [true, true, true, true, false, true, false, false, true, false, false, true, true, true, true, true, true, false] [m0] m2 (S2 t0 t6 t7 t11 o0_0 o1_0)
def S3 (t0 : Int) (t6 : Int) (t12 : Int) (o0_0 : List Int) (o1_0 : List Int) : St := ⟨[(0, .int .u16 t0), (6, .int .u16 t6), (12, .int .i64 t12), (5, .own 0), (4, .own 1)], 142, [(0, ⟨[.ints .u16 o0_0], true⟩), (1, ⟨[.ints .u16 o1_0], true⟩)], [0, 1], 0⟩
noncomputable def N3 (n : Nat)  (m3 : Nat) (t0 : Int) (t6 : Int) (t12 : Int) (o0_0 : List Int) (o1_0 : List Int) : Res := nodeRun (E n) n Try.f40 L k0 [true, true, true, true, true, false, true, false] [] m3 (S3 t0 t6 t12 o0_0 o1_0)
theorem N0_succ (n : Nat)  (m0 : Nat) (t0 : Int) (t6 : Int) (t7 : Int) (o0_0 : List Int) (o1_0 : List Int) : N0 n  (m0 + 1) t0 t6 t7 o0_0 o1_0 =
  bif decide (t7 < (16 : Int)) then
   bif decide ((0 : Int) ≤ t7) then
   pif (((u16 (IntKind.wrap .u16 ((1 : Int) * ((2 : Int) ^ (min (Int.toNat t7) 16))))) ∧ (u16 (IntKind.wrap .u16 ((1 : Int) * ((2 : Int) ^ (min (Int.toNat t7) 16))))))) (
    N1 n m0 n t0 t6 t7 (IntKind.wrap .u16 ((1 : Int) * ((2 : Int) ^ (min (Int.toNat t7) 16)))) (intBitsV .xor .u16 (IntKind.wrap .u16 ((1 : Int) * ((2 : Int) ^ (min (Int.toNat t7) 16)))) (mulI (IntKind.wrap .u16 ((1 : Int) * ((2 : Int) ^ (min (Int.toNat t7) 16)))) (IntKind.wrap .u16 ((1 : Int) * ((2 : Int) ^ (min (Int.toNat t7) 16)))))) (0 : Int) o0_0 o1_0)
   else none
  else
   N3 n n t0 t6 (0 : Int) o0_0 o1_0 := by kernel_rfl
theorem N1_succ (n : Nat) (m0 : Nat) (m1 : Nat) (t0 : Int) (t6 : Int) (t7 : Int) (t8 : Int) (t9 : Int) (t10 : Int) (o0_0 : List Int) (o1_0 : List Int) : N1 n m0 (m1 + 1) t0 t6 t7 t8 t9 t10 o0_0 o1_0 =
  bif decide (t10 < (((List.length o1_0) : Nat) : Int)) then
   bif decide (((0 : Int) ≤ t10) ∧ (t10 < (((List.length o1_0) : Nat) : Int))) then
   bif decide ((intBitsV .xor .u16 t9 (List.getD o1_0 (Int.toNat t10) (0 : Int))) < t9) then
     bif decide (((0 : Int) ≤ t10) ∧ (t10 < (((List.length o1_0) : Nat) : Int))) then
     bif decide (((0 : Int) ≤ t10) ∧ (t10 < (((List.length o0_0) : Nat) : Int))) then
      N1 n m0 m1 t0 t6 t7 (intBitsV .xor .u16 t8 (List.getD o0_0 (Int.toNat t10) (0 : Int))) (intBitsV .xor .u16 t9 (List.getD o1_0 (Int.toNat t10) (0 : Int))) (IntKind.wrap .i64 (t10 + (1 : Int))) o0_0 o1_0
      else none
     else none
    else
     N1 n m0 m1 t0 t6 t7 t8 t9 (IntKind.wrap .i64 (t10 + (1 : Int))) o0_0 o1_0
   else none
  else
   bif decide ((((List.length o1_0) + 1) * 1) ≤ 4398046511104) then
   bif decide ((((List.length o0_0) + 1) * 1) ≤ 4398046511104) then
    N2 n m0 n t0 t6 t7 (IntKind.wrap .i64 ((((List.length (o1_0 ++ [t9])) : Nat) : Int) - (1 : Int))) (o0_0 ++ [t8]) (o1_0 ++ [t9])
    else none
   else none := by kernel_rfl
theorem N2_succ (n : Nat) (m0 : Nat) (m2 : Nat) (t0 : Int) (t6 : Int) (t7 : Int) (t11 : Int) (o0_0 : List Int) (o1_0 : List Int) : N2 n m0 (m2 + 1) t0 t6 t7 t11 o0_0 o1_0 =
  bif decide (t11 > (0 : Int)) then
   bif decide (t11 > (0 : Int)) then
    bif decide (t11 > (0 : Int)) then
     bif decide (((0 : Int) ≤ t11) ∧ (t11 < (((List.length o1_0) : Nat) : Int))) then
     bif decide (t11 > (0 : Int)) then
       bif decide (t11 > (0 : Int)) then
        bif decide (t11 > (0 : Int)) then
         bif decide (t11 > (0 : Int)) then
          bif decide (((0 : Int) ≤ (IntKind.wrap .i64 (t11 - (1 : Int)))) ∧ ((IntKind.wrap .i64 (t11 - (1 : Int))) < (((List.length o1_0) : Nat) : Int))) then
          bif decide (t11 > (0 : Int)) then
            bif decide (t11 > (0 : Int)) then
             bif decide (t11 > (0 : Int)) then
              bif decide (t11 > (0 : Int)) then
               bif decide ((List.getD o1_0 (Int.toNat t11) (0 : Int)) > (List.getD o1_0 (Int.toNat (IntKind.wrap .i64 (t11 - (1 : Int)))) (0 : Int))) then
                bif decide (((0 : Int) ≤ t11) ∧ (t11 < (((List.length o1_0) : Nat) : Int))) then
                bif decide (((0 : Int) ≤ (IntKind.wrap .i64 (t11 - (1 : Int)))) ∧ ((IntKind.wrap .i64 (t11 - (1 : Int))) < (((List.length o1_0) : Nat) : Int))) then
                 bif decide (((0 : Int) ≤ t11) ∧ (t11 < (((List.length o1_0) : Nat) : Int))) then
                  bif decide (((0 : Int) ≤ (IntKind.wrap .i64 (t11 - (1 : Int)))) ∧ ((IntKind.wrap .i64 (t11 - (1 : Int))) < (((List.length (List.set o1_0 (Int.toNat t11) (List.getD o1_0 (Int.toNat (IntKind.wrap .i64 (t11 - (1 : Int)))) (0 : Int)))) : Nat) : Int))) then
                   bif decide (((0 : Int) ≤ t11) ∧ (t11 < (((List.length o0_0) : Nat) : Int))) then
                    bif decide (((0 : Int) ≤ (IntKind.wrap .i64 (t11 - (1 : Int)))) ∧ ((IntKind.wrap .i64 (t11 - (1 : Int))) < (((List.length o0_0) : Nat) : Int))) then
                     bif decide (((0 : Int) ≤ t11) ∧ (t11 < (((List.length o0_0) : Nat) : Int))) then
                      bif decide (((0 : Int) ≤ (IntKind.wrap .i64 (t11 - (1 : Int)))) ∧ ((IntKind.wrap .i64 (t11 - (1 : Int))) < (((List.length (List.set o0_0 (Int.toNat t11) (List.getD o0_0 (Int.toNat (IntKind.wrap .i64 (t11 - (1 : Int)))) (0 : Int)))) : Nat) : Int))) then
                       N2 n m0 m2 t0 t6 t7 (IntKind.wrap .i64 (t11 - (1 : Int))) (List.set (List.set o0_0 (Int.toNat t11) (List.getD o0_0 (Int.toNat (IntKind.wrap .i64 (t11 - (1 : Int)))) (0 : Int))) (Int.toNat (IntKind.wrap .i64 (t11 - (1 : Int)))) (List.getD o0_0 (Int.toNat t11) (0 : Int))) (List.set (List.set o1_0 (Int.toNat t11) (List.getD o1_0 (Int.toNat (IntKind.wrap .i64 (t11 - (1 : Int)))) (0 : Int))) (Int.toNat (IntKind.wrap .i64 (t11 - (1 : Int)))) (List.getD o1_0 (Int.toNat t11) (0 : Int)))
                       else none
                      else none
                     else none
                    else none
                   else none
                  else none
                 else none
                else none
               else
                N0 n m0 t0 t6 (IntKind.wrap .u64 (t7 + (1 : Int))) o0_0 o1_0
              else
               bif (!decide (t11 > (0 : Int))) then
               N0 n m0 t0 t6 (IntKind.wrap .u64 (t7 + (1 : Int))) o0_0 o1_0
               else none
             else
              bif decide (t11 > (0 : Int)) then
               none
              else
               bif (!decide (t11 > (0 : Int))) then
               N0 n m0 t0 t6 (IntKind.wrap .u64 (t7 + (1 : Int))) o0_0 o1_0
               else none
            else
             bif decide (t11 > (0 : Int)) then
              none
             else
              bif decide (t11 > (0 : Int)) then
               none
              else
               bif (!decide (t11 > (0 : Int))) then
               N0 n m0 t0 t6 (IntKind.wrap .u64 (t7 + (1 : Int))) o0_0 o1_0
               else none
           else
            bif decide (t11 > (0 : Int)) then
             bif decide (t11 > (0 : Int)) then
              none
             else
              bif decide (t11 > (0 : Int)) then
               none
              else
               bif (!decide (t11 > (0 : Int))) then
               N0 n m0 t0 t6 (IntKind.wrap .u64 (t7 + (1 : Int))) o0_0 o1_0
               else none
            else
             bif decide (t11 > (0 : Int)) then
              none
             else
              bif decide (t11 > (0 : Int)) then
               none
              else
               bif (!decide (t11 > (0 : Int))) then
               N0 n m0 t0 t6 (IntKind.wrap .u64 (t7 + (1 : Int))) o0_0 o1_0
               else none
          else none
         else
          bif decide (t11 > (0 : Int)) then
           bif decide (t11 > (0 : Int)) then
            none
           else
            bif decide (t11 > (0 : Int)) then
             none
            else
             bif decide (t11 > (0 : Int)) then
              none
             else
              bif (!decide (t11 > (0 : Int))) then
              N0 n m0 t0 t6 (IntKind.wrap .u64 (t7 + (1 : Int))) o0_0 o1_0
              else none
          else
           bif decide (t11 > (0 : Int)) then
            none
           else
            bif decide (t11 > (0 : Int)) then
             none
            else
             bif decide (t11 > (0 : Int)) then
              none
             else
              bif (!decide (t11 > (0 : Int))) then
              N0 n m0 t0 t6 (IntKind.wrap .u64 (t7 + (1 : Int))) o0_0 o1_0
              else none
        else
         bif decide (t11 > (0 : Int)) then
          none
         else
          bif decide (t11 > (0 : Int)) then
           bif decide (t11 > (0 : Int)) then
            none
           else
            bif decide (t11 > (0 : Int)) then
             none
            else
             bif decide (t11 > (0 : Int)) then
              none
             else
              bif (!decide (t11 > (0 : Int))) then
              N0 n m0 t0 t6 (IntKind.wrap .u64 (t7 + (1 : Int))) o0_0 o1_0
              else none
          else
           bif decide (t11 > (0 : Int)) then
            none
           else
            bif decide (t11 > (0 : Int)) then
             none
            else
             bif decide (t11 > (0 : Int)) then
              none
             else
              bif (!decide (t11 > (0 : Int))) then
              N0 n m0 t0 t6 (IntKind.wrap .u64 (t7 + (1 : Int))) o0_0 o1_0
              else none
       else
        bif decide (t11 > (0 : Int)) then
         none
        else
         bif decide (t11 > (0 : Int)) then
          none
         else
          bif decide (t11 > (0 : Int)) then
           bif decide (t11 > (0 : Int)) then
            none
           else
            bif decide (t11 > (0 : Int)) then
             none
            else
             bif decide (t11 > (0 : Int)) then
              none
             else
              bif (!decide (t11 > (0 : Int))) then
              N0 n m0 t0 t6 (IntKind.wrap .u64 (t7 + (1 : Int))) o0_0 o1_0
              else none
          else
           bif decide (t11 > (0 : Int)) then
            none
           else
            bif decide (t11 > (0 : Int)) then
             none
            else
             bif decide (t11 > (0 : Int)) then
              none
             else
              bif (!decide (t11 > (0 : Int))) then
              N0 n m0 t0 t6 (IntKind.wrap .u64 (t7 + (1 : Int))) o0_0 o1_0
              else none
      else
       bif decide (t11 > (0 : Int)) then
        bif decide (t11 > (0 : Int)) then
         bif decide (t11 > (0 : Int)) then
          none
         else
          bif decide (t11 > (0 : Int)) then
           bif decide (t11 > (0 : Int)) then
            none
           else
            bif decide (t11 > (0 : Int)) then
             none
            else
             bif decide (t11 > (0 : Int)) then
              none
             else
              bif (!decide (t11 > (0 : Int))) then
              N0 n m0 t0 t6 (IntKind.wrap .u64 (t7 + (1 : Int))) o0_0 o1_0
              else none
          else
           bif decide (t11 > (0 : Int)) then
            none
           else
            bif decide (t11 > (0 : Int)) then
             none
            else
             bif decide (t11 > (0 : Int)) then
              none
             else
              bif (!decide (t11 > (0 : Int))) then
              N0 n m0 t0 t6 (IntKind.wrap .u64 (t7 + (1 : Int))) o0_0 o1_0
              else none
        else
         bif decide (t11 > (0 : Int)) then
          none
         else
          bif decide (t11 > (0 : Int)) then
           bif decide (t11 > (0 : Int)) then
            none
           else
            bif decide (t11 > (0 : Int)) then
             none
            else
             bif decide (t11 > (0 : Int)) then
              none
             else
              bif (!decide (t11 > (0 : Int))) then
              N0 n m0 t0 t6 (IntKind.wrap .u64 (t7 + (1 : Int))) o0_0 o1_0
              else none
          else
           bif decide (t11 > (0 : Int)) then
            none
           else
            bif decide (t11 > (0 : Int)) then
             none
            else
             bif decide (t11 > (0 : Int)) then
              none
             else
              bif (!decide (t11 > (0 : Int))) then
              N0 n m0 t0 t6 (IntKind.wrap .u64 (t7 + (1 : Int))) o0_0 o1_0
              else none
       else
        bif decide (t11 > (0 : Int)) then
         none
        else
         bif decide (t11 > (0 : Int)) then
          none
         else
          bif decide (t11 > (0 : Int)) then
           bif decide (t11 > (0 : Int)) then
            none
           else
            bif decide (t11 > (0 : Int)) then
             none
            else
             bif decide (t11 > (0 : Int)) then
              none
             else
              bif (!decide (t11 > (0 : Int))) then
              N0 n m0 t0 t6 (IntKind.wrap .u64 (t7 + (1 : Int))) o0_0 o1_0
              else none
          else
           bif decide (t11 > (0 : Int)) then
            none
           else
            bif decide (t11 > (0 : Int)) then
             none
            else
             bif decide (t11 > (0 : Int)) then
              none
             else
              bif (!decide (t11 > (0 : Int))) then
              N0 n m0 t0 t6 (IntKind.wrap .u64 (t7 + (1 : Int))) o0_0 o1_0
              else none
     else none
    else
     bif decide (t11 > (0 : Int)) then
      bif decide (t11 > (0 : Int)) then
       bif decide (t11 > (0 : Int)) then
        bif decide (t11 > (0 : Int)) then
         bif decide (((0 : Int) ≤ (IntKind.wrap .i64 (t11 - (1 : Int)))) ∧ ((IntKind.wrap .i64 (t11 - (1 : Int))) < (((List.length o1_0) : Nat) : Int))) then
         bif decide (t11 > (0 : Int)) then
           none
          else
           bif decide (t11 > (0 : Int)) then
            bif decide (t11 > (0 : Int)) then
             none
            else
             bif decide (t11 > (0 : Int)) then
              none
             else
              bif (!decide (t11 > (0 : Int))) then
              N0 n m0 t0 t6 (IntKind.wrap .u64 (t7 + (1 : Int))) o0_0 o1_0
              else none
           else
            bif decide (t11 > (0 : Int)) then
             none
            else
             bif decide (t11 > (0 : Int)) then
              none
             else
              bif (!decide (t11 > (0 : Int))) then
              N0 n m0 t0 t6 (IntKind.wrap .u64 (t7 + (1 : Int))) o0_0 o1_0
              else none
         else none
        else
         bif decide (t11 > (0 : Int)) then
          none
         else
          bif decide (t11 > (0 : Int)) then
           none
          else
           bif decide (t11 > (0 : Int)) then
            none
           else
            bif decide (t11 > (0 : Int)) then
             none
            else
             bif (!decide (t11 > (0 : Int))) then
             N0 n m0 t0 t6 (IntKind.wrap .u64 (t7 + (1 : Int))) o0_0 o1_0
             else none
       else
        bif decide (t11 > (0 : Int)) then
         none
        else
         bif decide (t11 > (0 : Int)) then
          none
         else
          bif decide (t11 > (0 : Int)) then
           none
          else
           bif decide (t11 > (0 : Int)) then
            none
           else
            bif decide (t11 > (0 : Int)) then
             none
            else
             bif (!decide (t11 > (0 : Int))) then
             N0 n m0 t0 t6 (IntKind.wrap .u64 (t7 + (1 : Int))) o0_0 o1_0
             else none
      else
       bif decide (t11 > (0 : Int)) then
        none
       else
        bif decide (t11 > (0 : Int)) then
         none
        else
         bif decide (t11 > (0 : Int)) then
          none
         else
          bif decide (t11 > (0 : Int)) then
           none
          else
           bif decide (t11 > (0 : Int)) then
            none
           else
            bif decide (t11 > (0 : Int)) then
             none
            else
             bif (!decide (t11 > (0 : Int))) then
             N0 n m0 t0 t6 (IntKind.wrap .u64 (t7 + (1 : Int))) o0_0 o1_0
             else none
     else
      bif decide (t11 > (0 : Int)) then
       bif decide (t11 > (0 : Int)) then
        bif decide (t11 > (0 : Int)) then
         none
        else
         bif decide (t11 > (0 : Int)) then
          none
         else
          bif decide (t11 > (0 : Int)) then
           none
          else
           bif decide (t11 > (0 : Int)) then
            none
           else
            bif decide (t11 > (0 : Int)) then
             none
            else
             bif (!decide (t11 > (0 : Int))) then
             N0 n m0 t0 t6 (IntKind.wrap .u64 (t7 + (1 : Int))) o0_0 o1_0
             else none
       else
        bif decide (t11 > (0 : Int)) then
         none
        else
         bif decide (t11 > (0 : Int)) then
          none
         else
          bif decide (t11 > (0 : Int)) then
           none
          else
           bif decide (t11 > (0 : Int)) then
            none
           else
            bif decide (t11 > (0 : Int)) then
             none
            else
             bif (!decide (t11 > (0 : Int))) then
             N0 n m0 t0 t6 (IntKind.wrap .u64 (t7 + (1 : Int))) o0_0 o1_0
             else none
      else
       bif decide (t11 > (0 : Int)) then
        none
       else
        bif decide (t11 > (0 : Int)) then
         none
        else
         bif decide (t11 > (0 : Int)) then
          none
         else
          bif decide (t11 > (0 : Int)) then
           none
          else
           bif decide (t11 > (0 : Int)) then
            none
           else
            bif decide (t11 > (0 : Int)) then
             none
            else
             bif (!decide (t11 > (0 : Int))) then
             N0 n m0 t0 t6 (IntKind.wrap .u64 (t7 + (1 : Int))) o0_0 o1_0
             else none
   else
    bif decide (t11 > (0 : Int)) then
     none
    else
     bif decide (t11 > (0 : Int)) then
      bif decide (t11 > (0 : Int)) then
       bif decide (t11 > (0 : Int)) then
        bif decide (t11 > (0 : Int)) then
         bif decide (((0 : Int) ≤ (IntKind.wrap .i64 (t11 - (1 : Int)))) ∧ ((IntKind.wrap .i64 (t11 - (1 : Int))) < (((List.length o1_0) : Nat) : Int))) then
         bif decide (t11 > (0 : Int)) then
           none
          else
           bif decide (t11 > (0 : Int)) then
            bif decide (t11 > (0 : Int)) then
             none
            else
             bif decide (t11 > (0 : Int)) then
              none
             else
              bif (!decide (t11 > (0 : Int))) then
              N0 n m0 t0 t6 (IntKind.wrap .u64 (t7 + (1 : Int))) o0_0 o1_0
              else none
           else
            bif decide (t11 > (0 : Int)) then
             none
            else
             bif decide (t11 > (0 : Int)) then
              none
             else
              bif (!decide (t11 > (0 : Int))) then
              N0 n m0 t0 t6 (IntKind.wrap .u64 (t7 + (1 : Int))) o0_0 o1_0
              else none
         else none
        else
         bif decide (t11 > (0 : Int)) then
          none
         else
          bif decide (t11 > (0 : Int)) then
           none
          else
           bif decide (t11 > (0 : Int)) then
            none
           else
            bif decide (t11 > (0 : Int)) then
             none
            else
             bif (!decide (t11 > (0 : Int))) then
             N0 n m0 t0 t6 (IntKind.wrap .u64 (t7 + (1 : Int))) o0_0 o1_0
             else none
       else
        bif decide (t11 > (0 : Int)) then
         none
        else
         bif decide (t11 > (0 : Int)) then
          none
         else
          bif decide (t11 > (0 : Int)) then
           none
          else
           bif decide (t11 > (0 : Int)) then
            none
           else
            bif decide (t11 > (0 : Int)) then
             none
            else
             bif (!decide (t11 > (0 : Int))) then
             N0 n m0 t0 t6 (IntKind.wrap .u64 (t7 + (1 : Int))) o0_0 o1_0
             else none
      else
       bif decide (t11 > (0 : Int)) then
        none
       else
        bif decide (t11 > (0 : Int)) then
         none
        else
         bif decide (t11 > (0 : Int)) then
          none
         else
          bif decide (t11 > (0 : Int)) then
           none
          else
           bif decide (t11 > (0 : Int)) then
            none
           else
            bif decide (t11 > (0 : Int)) then
             none
            else
             bif (!decide (t11 > (0 : Int))) then
             N0 n m0 t0 t6 (IntKind.wrap .u64 (t7 + (1 : Int))) o0_0 o1_0
             else none
     else
      bif decide (t11 > (0 : Int)) then
       bif decide (t11 > (0 : Int)) then
        bif decide (t11 > (0 : Int)) then
         none
        else
         bif decide (t11 > (0 : Int)) then
          none
         else
          bif decide (t11 > (0 : Int)) then
           none
          else
           bif decide (t11 > (0 : Int)) then
            none
           else
            bif decide (t11 > (0 : Int)) then
             none
            else
             bif (!decide (t11 > (0 : Int))) then
             N0 n m0 t0 t6 (IntKind.wrap .u64 (t7 + (1 : Int))) o0_0 o1_0
             else none
       else
        bif decide (t11 > (0 : Int)) then
         none
        else
         bif decide (t11 > (0 : Int)) then
          none
         else
          bif decide (t11 > (0 : Int)) then
           none
          else
           bif decide (t11 > (0 : Int)) then
            none
           else
            bif decide (t11 > (0 : Int)) then
             none
            else
             bif (!decide (t11 > (0 : Int))) then
             N0 n m0 t0 t6 (IntKind.wrap .u64 (t7 + (1 : Int))) o0_0 o1_0
             else none
      else
       bif decide (t11 > (0 : Int)) then
        none
       else
        bif decide (t11 > (0 : Int)) then
         none
        else
         bif decide (t11 > (0 : Int)) then
          none
         else
          bif decide (t11 > (0 : Int)) then
           none
          else
           bif decide (t11 > (0 : Int)) then
            none
           else
            bif decide (t11 > (0 : Int)) then
             none
            else
             bif (!decide (t11 > (0 : Int))) then
             N0 n m0 t0 t6 (IntKind.wrap .u64 (t7 + (1 : Int))) o0_0 o1_0
             else none
  else
   bif decide (t11 > (0 : Int)) then
    bif decide (t11 > (0 : Int)) then
     none
    else
     bif decide (t11 > (0 : Int)) then
      bif decide (t11 > (0 : Int)) then
       bif decide (t11 > (0 : Int)) then
        bif decide (t11 > (0 : Int)) then
         bif decide (((0 : Int) ≤ (IntKind.wrap .i64 (t11 - (1 : Int)))) ∧ ((IntKind.wrap .i64 (t11 - (1 : Int))) < (((List.length o1_0) : Nat) : Int))) then
         bif decide (t11 > (0 : Int)) then
           none
          else
           bif decide (t11 > (0 : Int)) then
            bif decide (t11 > (0 : Int)) then
             none
            else
             bif decide (t11 > (0 : Int)) then
              none
             else
              bif (!decide (t11 > (0 : Int))) then
              N0 n m0 t0 t6 (IntKind.wrap .u64 (t7 + (1 : Int))) o0_0 o1_0
              else none
           else
            bif decide (t11 > (0 : Int)) then
             none
            else
             bif decide (t11 > (0 : Int)) then
              none
             else
              bif (!decide (t11 > (0 : Int))) then
              N0 n m0 t0 t6 (IntKind.wrap .u64 (t7 + (1 : Int))) o0_0 o1_0
              else none
         else none
        else
         bif decide (t11 > (0 : Int)) then
          none
         else
          bif decide (t11 > (0 : Int)) then
           none
          else
           bif decide (t11 > (0 : Int)) then
            none
           else
            bif decide (t11 > (0 : Int)) then
             none
            else
             bif (!decide (t11 > (0 : Int))) then
             N0 n m0 t0 t6 (IntKind.wrap .u64 (t7 + (1 : Int))) o0_0 o1_0
             else none
       else
        bif decide (t11 > (0 : Int)) then
         none
        else
         bif decide (t11 > (0 : Int)) then
          none
         else
          bif decide (t11 > (0 : Int)) then
           none
          else
           bif decide (t11 > (0 : Int)) then
            none
           else
            bif decide (t11 > (0 : Int)) then
             none
            else
             bif (!decide (t11 > (0 : Int))) then
             N0 n m0 t0 t6 (IntKind.wrap .u64 (t7 + (1 : Int))) o0_0 o1_0
             else none
      else
       bif decide (t11 > (0 : Int)) then
        none
       else
        bif decide (t11 > (0 : Int)) then
         none
        else
         bif decide (t11 > (0 : Int)) then
          none
         else
          bif decide (t11 > (0 : Int)) then
           none
          else
           bif decide (t11 > (0 : Int)) then
            none
           else
            bif decide (t11 > (0 : Int)) then
             none
            else
             bif (!decide (t11 > (0 : Int))) then
             N0 n m0 t0 t6 (IntKind.wrap .u64 (t7 + (1 : Int))) o0_0 o1_0
             else none
     else
      bif decide (t11 > (0 : Int)) then
       bif decide (t11 > (0 : Int)) then
        bif decide (t11 > (0 : Int)) then
         none
        else
         bif decide (t11 > (0 : Int)) then
          none
         else
          bif decide (t11 > (0 : Int)) then
           none
          else
           bif decide (t11 > (0 : Int)) then
            none
           else
            bif decide (t11 > (0 : Int)) then
             none
            else
             bif (!decide (t11 > (0 : Int))) then
             N0 n m0 t0 t6 (IntKind.wrap .u64 (t7 + (1 : Int))) o0_0 o1_0
             else none
       else
        bif decide (t11 > (0 : Int)) then
         none
        else
         bif decide (t11 > (0 : Int)) then
          none
         else
          bif decide (t11 > (0 : Int)) then
           none
          else
           bif decide (t11 > (0 : Int)) then
            none
           else
            bif decide (t11 > (0 : Int)) then
             none
            else
             bif (!decide (t11 > (0 : Int))) then
             N0 n m0 t0 t6 (IntKind.wrap .u64 (t7 + (1 : Int))) o0_0 o1_0
             else none
      else
       bif decide (t11 > (0 : Int)) then
        none
       else
        bif decide (t11 > (0 : Int)) then
         none
        else
         bif decide (t11 > (0 : Int)) then
          none
         else
          bif decide (t11 > (0 : Int)) then
           none
          else
           bif decide (t11 > (0 : Int)) then
            none
           else
            bif decide (t11 > (0 : Int)) then
             none
            else
             bif (!decide (t11 > (0 : Int))) then
             N0 n m0 t0 t6 (IntKind.wrap .u64 (t7 + (1 : Int))) o0_0 o1_0
             else none
   else
    bif decide (t11 > (0 : Int)) then
     none
    else
     bif decide (t11 > (0 : Int)) then
      bif decide (t11 > (0 : Int)) then
       bif decide (t11 > (0 : Int)) then
        bif decide (t11 > (0 : Int)) then
         bif decide (((0 : Int) ≤ (IntKind.wrap .i64 (t11 - (1 : Int)))) ∧ ((IntKind.wrap .i64 (t11 - (1 : Int))) < (((List.length o1_0) : Nat) : Int))) then
         bif decide (t11 > (0 : Int)) then
           none
          else
           bif decide (t11 > (0 : Int)) then
            bif decide (t11 > (0 : Int)) then
             none
            else
             bif decide (t11 > (0 : Int)) then
              none
             else
              bif (!decide (t11 > (0 : Int))) then
              N0 n m0 t0 t6 (IntKind.wrap .u64 (t7 + (1 : Int))) o0_0 o1_0
              else none
           else
            bif decide (t11 > (0 : Int)) then
             none
            else
             bif decide (t11 > (0 : Int)) then
              none
             else
              bif (!decide (t11 > (0 : Int))) then
              N0 n m0 t0 t6 (IntKind.wrap .u64 (t7 + (1 : Int))) o0_0 o1_0
              else none
         else none
        else
         bif decide (t11 > (0 : Int)) then
          none
         else
          bif decide (t11 > (0 : Int)) then
           none
          else
           bif decide (t11 > (0 : Int)) then
            none
           else
            bif decide (t11 > (0 : Int)) then
             none
            else
             bif (!decide (t11 > (0 : Int))) then
             N0 n m0 t0 t6 (IntKind.wrap .u64 (t7 + (1 : Int))) o0_0 o1_0
             else none
       else
        bif decide (t11 > (0 : Int)) then
         none
        else
         bif decide (t11 > (0 : Int)) then
          none
         else
          bif decide (t11 > (0 : Int)) then
           none
          else
           bif decide (t11 > (0 : Int)) then
            none
           else
            bif decide (t11 > (0 : Int)) then
             none
            else
             bif (!decide (t11 > (0 : Int))) then
             N0 n m0 t0 t6 (IntKind.wrap .u64 (t7 + (1 : Int))) o0_0 o1_0
             else none
      else
       bif decide (t11 > (0 : Int)) then
        none
       else
        bif decide (t11 > (0 : Int)) then
         none
        else
         bif decide (t11 > (0 : Int)) then
          none
         else
          bif decide (t11 > (0 : Int)) then
           none
          else
           bif decide (t11 > (0 : Int)) then
            none
           else
            bif decide (t11 > (0 : Int)) then
             none
            else
             bif (!decide (t11 > (0 : Int))) then
             N0 n m0 t0 t6 (IntKind.wrap .u64 (t7 + (1 : Int))) o0_0 o1_0
             else none
     else
      bif decide (t11 > (0 : Int)) then
       bif decide (t11 > (0 : Int)) then
        bif decide (t11 > (0 : Int)) then
         none
        else
         bif decide (t11 > (0 : Int)) then
          none
         else
          bif decide (t11 > (0 : Int)) then
           none
          else
           bif decide (t11 > (0 : Int)) then
            none
           else
            bif decide (t11 > (0 : Int)) then
             none
            else
             bif (!decide (t11 > (0 : Int))) then
             N0 n m0 t0 t6 (IntKind.wrap .u64 (t7 + (1 : Int))) o0_0 o1_0
             else none
       else
        bif decide (t11 > (0 : Int)) then
         none
        else
         bif decide (t11 > (0 : Int)) then
          none
         else
          bif decide (t11 > (0 : Int)) then
           none
          else
           bif decide (t11 > (0 : Int)) then
            none
           else
            bif decide (t11 > (0 : Int)) then
             none
            else
             bif (!decide (t11 > (0 : Int))) then
             N0 n m0 t0 t6 (IntKind.wrap .u64 (t7 + (1 : Int))) o0_0 o1_0
             else none
      else
       bif decide (t11 > (0 : Int)) then
        none
       else
        bif decide (t11 > (0 : Int)) then
         none
        else
         bif decide (t11 > (0 : Int)) then
          none
         else
          bif decide (t11 > (0 : Int)) then
           none
          else
           bif decide (t11 > (0 : Int)) then
            none
           else
            bif decide (t11 > (0 : Int)) then
             none
            else
             bif (!decide (t11 > (0 : Int))) then
             N0 n m0 t0 t6 (IntKind.wrap .u64 (t7 + (1 : Int))) o0_0 o1_0
             else none := by kernel_rfl
theorem N3_succ (n : Nat)  (m3 : Nat) (t0 : Int) (t6 : Int) (t12 : Int) (o0_0 : List Int) (o1_0 : List Int) : N3 n  (m3 + 1) t0 t6 t12 o0_0 o1_0 =
  bif decide (t12 < (((List.length o1_0) : Nat) : Int)) then
   bif decide (((0 : Int) ≤ t12) ∧ (t12 < (((List.length o1_0) : Nat) : Int))) then
   bif decide ((intBitsV .xor .u16 t0 (List.getD o1_0 (Int.toNat t12) (0 : Int))) < t0) then
     bif decide (((0 : Int) ≤ t12) ∧ (t12 < (((List.length o1_0) : Nat) : Int))) then
     bif decide (((0 : Int) ≤ t12) ∧ (t12 < (((List.length o0_0) : Nat) : Int))) then
      N3 n m3 (intBitsV .xor .u16 t0 (List.getD o1_0 (Int.toNat t12) (0 : Int))) (intBitsV .xor .u16 t6 (List.getD o0_0 (Int.toNat t12) (0 : Int))) (IntKind.wrap .i64 (t12 + (1 : Int))) o0_0 o1_0
      else none
     else none
    else
     N3 n m3 t0 t6 (IntKind.wrap .i64 (t12 + (1 : Int))) o0_0 o1_0
   else none
  else
   some (.tup [.int .u16 t6, .bool (t0 == (0 : Int))], []) := by kernel_rfl
noncomputable def R (n : Nat) (a : Int) : Res := run (E n) n Try.f40 L (us a) (HA a) k0
theorem R_eq (n : Nat) (a : Int) : R n a =
  N0 n n a (0 : Int) (1 : Int) [] [] := by kernel_rfl
theorem ans {n : Nat} {a : Int} (hA : Sounds Try.prog (A n)) {u : U} {H : Heap} (h : R n a = some (u, H)) : Answers Try.prog 40 (us a) (HA a) u H := answers_env tabOk mixed hA Try.func40 (by kernel_rfl) (by kernel_rfl) h
end S_hf

namespace I_hf
abbrev num : Nat := 41
noncomputable def A (n : Nat) : List (Nat × Con) := ((fun (n : Nat) => ([(46, CMul), (83, CSortF)] : List (Nat × Con)))) n
noncomputable abbrev E (n : Nat) : Env (U × Heap) := envC tab ios (A n)
def L : List (List Nat) := [[0, 4, 5], [0, 4, 5, 7, 29, 27, 28], [0, 10, 65, 63, 64]]
abbrev us (a : Int) : List U := (((fun (a : Int) => (([.int .u16 a] : List U), ([] : Heap)))) a).1
abbrev HA (a : Int) : Heap := (((fun (a : Int) => (([.int .u16 a] : List U), ([] : Heap)))) a).2
def S0 (t0 : Int) (t5 : Int) (o0_0 : List Int) (o0_1 : List Int) : St := ⟨[(0, .int .u16 t0), (4, .own 0), (5, .int .i64 t5)], 88, [(0, ⟨[.ints .u16 o0_0, .ints .u16 o0_1], true⟩)], [0], 0⟩
noncomputable def N0 (n : Nat)  (m0 : Nat) (t0 : Int) (t5 : Int) (o0_0 : List Int) (o0_1 : List Int) : Res := nodeRun (E n) n Try.f41 L k0 [true, true, false, true, false] [] m0 (S0 t0 t5 o0_0 o0_1)
def S1 (t0 : Int) (t5 : Int) (t29 : Int) (t28 : Int) (o0_0 : List Int) (o0_1 : List Int) (o1_0 : Int) (o1_1 : Int) : St := ⟨[(0, .int .u16 t0), (4, .own 0), (5, .int .i64 t5), (7, .ptr 1 0 0 0 1), (29, .int .i64 t29), (27, .own 0), (28, .int .i64 t28)], 88, [(0, ⟨[.ints .u16 o0_0, .ints .u16 o0_1], true⟩), (1, ⟨[.ints .u16 [o1_0], .ints .u16 [o1_1]], true⟩)], [0, 1], 0⟩
noncomputable def N1 (n : Nat) (m0 : Nat) (m1 : Nat) (t0 : Int) (t5 : Int) (t29 : Int) (t28 : Int) (o0_0 : List Int) (o0_1 : List Int) (o1_0 : Int) (o1_1 : Int) : Res := nodeRun (E n) n Try.f41 L k0 [true, true, false, true, false, false, true, false, false, true, true, false, true, false] [m0] m1 (S1 t0 t5 t29 t28 o0_0 o0_1 o1_0 o1_1)
def S2 (t0 : Int) (t10 : Int) (t65 : Int) (t64 : Int) (o0_0 : List Int) (o0_1 : List Int) : St := ⟨[(0, .int .u16 t0), (10, .int .u16 t10), (65, .int .i64 t65), (63, .own 0), (64, .int .i64 t64)], 88, [(0, ⟨[.ints .u16 o0_0, .ints .u16 o0_1], true⟩)], [0], 0⟩
noncomputable def N2 (n : Nat)  (m2 : Nat) (t0 : Int) (t10 : Int) (t65 : Int) (t64 : Int) (o0_0 : List Int) (o0_1 : List Int) : Res := nodeRun (E n) n Try.f41 L k0 [true, true, true, true, false, true, false] [] m2 (S2 t0 t10 t65 t64 o0_0 o0_1)
theorem N0_succ (n : Nat)  (m0 : Nat) (t0 : Int) (t5 : Int) (o0_0 : List Int) (o0_1 : List Int) : N0 n  (m0 + 1) t0 t5 o0_0 o0_1 =
  bif decide (t5 < (16 : Int)) then
   bif decide ((0 : Int) ≤ t5) then
   pif (((u16 (IntKind.wrap .u16 ((1 : Int) * ((2 : Int) ^ (min (Int.toNat t5) 16))))) ∧ (u16 (IntKind.wrap .u16 ((1 : Int) * ((2 : Int) ^ (min (Int.toNat t5) 16))))))) (
    N1 n m0 n t0 t5 (0 : Int) (((List.length o0_0) : Nat) : Int) o0_0 o0_1 (intBitsV .xor .u16 (mulI (IntKind.wrap .u16 ((1 : Int) * ((2 : Int) ^ (min (Int.toNat t5) 16)))) (IntKind.wrap .u16 ((1 : Int) * ((2 : Int) ^ (min (Int.toNat t5) 16))))) (IntKind.wrap .u16 ((1 : Int) * ((2 : Int) ^ (min (Int.toNat t5) 16))))) (IntKind.wrap .u16 ((1 : Int) * ((2 : Int) ^ (min (Int.toNat t5) 16)))))
   else none
  else
   N2 n n t0 (0 : Int) (0 : Int) (((List.length o0_0) : Nat) : Int) o0_0 o0_1 := by kernel_rfl
theorem N1_succ (n : Nat) (m0 : Nat) (m1 : Nat) (t0 : Int) (t5 : Int) (t29 : Int) (t28 : Int) (o0_0 : List Int) (o0_1 : List Int) (o1_0 : Int) (o1_1 : Int) : N1 n m0 (m1 + 1) t0 t5 t29 t28 o0_0 o0_1 o1_0 o1_1 =
  bif decide (t29 < t28) then
   bif decide (((0 : Int) ≤ t29) ∧ (t29 < (((List.length o0_0) : Nat) : Int))) then
   bif decide ((intBitsV .xor .u16 o1_0 (List.getD o0_0 (Int.toNat t29) (0 : Int))) < o1_0) then
     N1 n m0 m1 t0 t5 (IntKind.wrap .i64 (t29 + (1 : Int))) t28 o0_0 o0_1 (intBitsV .xor .u16 o1_0 (List.getD o0_0 (Int.toNat t29) (0 : Int))) (intBitsV .xor .u16 o1_1 (List.getD o0_1 (Int.toNat t29) (0 : Int)))
    else
     N1 n m0 m1 t0 t5 (IntKind.wrap .i64 (t29 + (1 : Int))) t28 o0_0 o0_1 o1_0 o1_1
   else none
  else
   bif (o1_0 != (0 : Int)) then
    bif decide ((((List.length o0_0) + 1) * 2) ≤ 4398046511104) then
    pif (((84 = 84) ∧ (toSort (o0_0 ++ [o1_0]) (o0_1 ++ [o1_1])))) (
     N0 n m0 t0 (IntKind.wrap .i64 (t5 + (1 : Int))) (rot (o0_0 ++ [o1_0])) (rot (o0_1 ++ [o1_1])))
    else none
   else
    N0 n m0 t0 (IntKind.wrap .i64 (t5 + (1 : Int))) o0_0 o0_1 := by kernel_rfl
theorem N2_succ (n : Nat)  (m2 : Nat) (t0 : Int) (t10 : Int) (t65 : Int) (t64 : Int) (o0_0 : List Int) (o0_1 : List Int) : N2 n  (m2 + 1) t0 t10 t65 t64 o0_0 o0_1 =
  bif decide (t65 < t64) then
   bif decide (((0 : Int) ≤ t65) ∧ (t65 < (((List.length o0_0) : Nat) : Int))) then
   bif decide ((intBitsV .xor .u16 t0 (List.getD o0_0 (Int.toNat t65) (0 : Int))) < t0) then
     N2 n m2 (intBitsV .xor .u16 t0 (List.getD o0_0 (Int.toNat t65) (0 : Int))) (intBitsV .xor .u16 t10 (List.getD o0_1 (Int.toNat t65) (0 : Int))) (IntKind.wrap .i64 (t65 + (1 : Int))) t64 o0_0 o0_1
    else
     N2 n m2 t0 t10 (IntKind.wrap .i64 (t65 + (1 : Int))) t64 o0_0 o0_1
   else none
  else
   some (.tup [.int .u16 (intBitsV .andNot .u16 t10 (1 : Int)), .bool (t0 == (0 : Int))], []) := by kernel_rfl
noncomputable def R (n : Nat) (a : Int) : Res := run (E n) n Try.f41 L (us a) (HA a) k0
theorem R_eq (n : Nat) (a : Int) : R n a =
  N0 n n a (1 : Int) [] [] := by kernel_rfl
theorem ans {n : Nat} {a : Int} (hA : Sounds Try.prog (A n)) {u : U} {H : Heap} (h : R n a = some (u, H)) : Answers Try.prog 41 (us a) (HA a) u H := answers_env tabOk mixed hA Try.func41 (by kernel_rfl) (by kernel_rfl) h
end I_hf

namespace S_HR
abbrev num : Nat := 7
noncomputable def A (n : Nat) (fx : Int → Int) (fk : Int → Bool) : List (Nat × Con) := ((fun (n : Nat) (fx : Int → Int) (fk : Int → Bool) => ([(40, CHalfF fx fk)] : List (Nat × Con)))) n fx fk
noncomputable abbrev E (n : Nat) (fx : Int → Int) (fk : Int → Bool) : Env (U × Heap) := envC tab ios (A n fx fk)
def L : List (List Nat) := []
abbrev us (a : Int) : List U := (((fun (a : Int) => (([.int .u16 a] : List U), ([] : Heap)))) a).1
abbrev HA (a : Int) : Heap := (((fun (a : Int) => (([.int .u16 a] : List U), ([] : Heap)))) a).2
noncomputable def R (n : Nat) (fx : Int → Int) (fk : Int → Bool) (a : Int) : Res := run (E n fx fk) n Try.f7 L (us a) (HA a) k0
theorem R_eq (n : Nat) (fx : Int → Int) (fk : Int → Bool) (a : Int) : R n fx fk a =
  pif ((u16 a)) (
  bif (!(fk a)) then
   some (.tup [.int .u16 (0 : Int), .int .i64 (6 : Int)], [])
  else
   some (.tup [.int .u16 (fx a), .int .i64 (0 : Int)], [])) := by kernel_rfl
theorem ans {n : Nat} {fx : Int → Int} {fk : Int → Bool} {a : Int} (hA : Sounds Try.prog (A n fx fk)) {u : U} {H : Heap} (h : R n fx fk a = some (u, H)) : Answers Try.prog 7 (us a) (HA a) u H := answers_env tabOk mixed hA Try.func7 (by kernel_rfl) (by kernel_rfl) h
end S_HR

namespace I_HR
abbrev num : Nat := 8
noncomputable def A (n : Nat) (fx : Int → Int) (fk : Int → Bool) : List (Nat × Con) := ((fun (n : Nat) (fx : Int → Int) (fk : Int → Bool) => ([(41, CHalfF fx fk)] : List (Nat × Con)))) n fx fk
noncomputable abbrev E (n : Nat) (fx : Int → Int) (fk : Int → Bool) : Env (U × Heap) := envC tab ios (A n fx fk)
def L : List (List Nat) := []
abbrev us (a : Int) : List U := (((fun (a : Int) => (([.int .u16 a] : List U), ([] : Heap)))) a).1
abbrev HA (a : Int) : Heap := (((fun (a : Int) => (([.int .u16 a] : List U), ([] : Heap)))) a).2
noncomputable def R (n : Nat) (fx : Int → Int) (fk : Int → Bool) (a : Int) : Res := run (E n fx fk) n Try.f8 L (us a) (HA a) k0
theorem R_eq (n : Nat) (fx : Int → Int) (fk : Int → Bool) (a : Int) : R n fx fk a =
  pif ((u16 a)) (
  bif (!(fk a)) then
   some (.tup [.int .u16 (0 : Int), .int .i64 (6 : Int)], [])
  else
   some (.tup [.int .u16 (fx a), .int .i64 (0 : Int)], [])) := by kernel_rfl
theorem ans {n : Nat} {fx : Int → Int} {fk : Int → Bool} {a : Int} (hA : Sounds Try.prog (A n fx fk)) {u : U} {H : Heap} (h : R n fx fk a = some (u, H)) : Answers Try.prog 8 (us a) (HA a) u H := answers_env tabOk mixed hA Try.func8 (by kernel_rfl) (by kernel_rfl) h
end I_HR

namespace L_HR
abbrev num : Nat := 3
noncomputable def A (n : Nat) : List (Nat × Con) := ((fun (n : Nat) => ([(7, CHalfRoot), (8, CHalfRoot)] : List (Nat × Con)))) n
noncomputable abbrev E (n : Nat) : Env (U × Heap) := envC tab ios (A n)
def L : List (List Nat) := []
abbrev us (a : Int) : List U := (((fun (a : Int) => (([.int .u16 a] : List U), ([] : Heap)))) a).1
abbrev HA (a : Int) : Heap := (((fun (a : Int) => (([.int .u16 a] : List U), ([] : Heap)))) a).2
noncomputable def R (n : Nat) (a : Int) : Res := run (E n) n Try.f3 L (us a) (HA a) k0
theorem R_eq (n : Nat) (a : Int) : R n a =
  pif ((u16 a)) (
  pif ((u16 a)) (
  bif ((hrX a) != (hrX a)) then
   some (.bool false, [])
  else
   bif ((hrE a) != (hrE a)) then
    some (.bool false, [])
   else
    some (.bool true, []))) := by kernel_rfl
theorem ans {n : Nat} {a : Int} (hA : Sounds Try.prog (A n)) {u : U} {H : Heap} (h : R n a = some (u, H)) : Answers Try.prog 3 (us a) (HA a) u H := answers_env tabOk mixed hA Try.func3 (by kernel_rfl) (by kernel_rfl) h
end L_HR

end Go.VM
