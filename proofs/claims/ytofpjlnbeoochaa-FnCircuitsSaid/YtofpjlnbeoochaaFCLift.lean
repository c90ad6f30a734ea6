/- Written by a program of this session (Lift.lean): what the evaluator comes to, function by function; the kernel checks it. The conditions: those of the contracts. -/
import Derived.Test.YtofpjlnbeoochaaVmP4
import Derived.Test.YtofpjlnbeoochaaCircT
import Derived.Test.YtofpjlnbeoochaaCircTS
import Derived.Test.YtofpjlnbeoochaaNimCon
import Derived.Test.YtofpjlnbeoochaaSrcCon
import Derived.Test.YtofpjlnbeoochaaCircCon
import Derived.Test.YtofpjlnbeoochaaCircCon2
import Derived.Test.YtofpjlnbeoochaaCircCon3
import Derived.Test.YtofpjlnbeoochaaCircCon4
import Derived.Test.YtofpjlnbeoochaaCircCon5
import Derived.Test.YtofpjlnbeoochaaMkCon
import Derived.Test.YtofpjlnbeoochaaFCircCon
import Derived.KernelRfl
set_option linter.unusedVariables false
set_option linter.unusedSimpArgs false
set_option linter.unusedSectionVars false
namespace Go.VM
open Go Go.Proofs Go.Fn NimF
set_option linter.unusedVariables false
set_option maxRecDepth 100000
namespace S_same
abbrev num : Nat := 73
noncomputable def A (n : Nat) : List (Nat × Con) := ((fun (n : Nat) => ([] : List (Nat × Con)))) n
noncomputable abbrev E (n : Nat) : Env (U × Heap) := envC tab ios (A n)
def L : List (List Nat) := [[1, 0, 5], [6, 1, 0]]
abbrev us (x : Int) (ks : List Int) (la : List Int) (lb : List Int) (j : Nat) (lo : List Int) (jo : Nat) (x' : Int) (K' : List Int) (A' : List Int) (B' : List Int) (n' : Nat) (O' : List Int) (o' : Nat) : List U := (((fun (x : Int) (ks la lb : List Int) (j : Nat) (lo : List Int) (jo : Nat) (x' : Int) (K' A' B' : List Int) (n' : Nat) (O' : List Int) (o' : Nat) => (([.rptr [.int .i8 x, .rsl [.ints .i8 ks, .ints .i16 la, .ints .i16 lb] j, .rsl [.ints .i16 lo] jo] 0 1, .rptr [.int .i8 x', .rsl [.ints .i8 K', .ints .i16 A', .ints .i16 B'] n', .rsl [.ints .i16 O'] o'] 0 1] : List U), ([] : Heap)))) x ks la lb j lo jo x' K' A' B' n' O' o').1
abbrev HA (x : Int) (ks : List Int) (la : List Int) (lb : List Int) (j : Nat) (lo : List Int) (jo : Nat) (x' : Int) (K' : List Int) (A' : List Int) (B' : List Int) (n' : Nat) (O' : List Int) (o' : Nat) : Heap := (((fun (x : Int) (ks la lb : List Int) (j : Nat) (lo : List Int) (jo : Nat) (x' : Int) (K' A' B' : List Int) (n' : Nat) (O' : List Int) (o' : Nat) => (([.rptr [.int .i8 x, .rsl [.ints .i8 ks, .ints .i16 la, .ints .i16 lb] j, .rsl [.ints .i16 lo] jo] 0 1, .rptr [.int .i8 x', .rsl [.ints .i8 K', .ints .i16 A', .ints .i16 B'] n', .rsl [.ints .i16 O'] o'] 0 1] : List U), ([] : Heap)))) x ks la lb j lo jo x' K' A' B' n' O' o').2
def S0 (t1_0 : Int) (t1_1_0 : List Int) (t1_1_1 : List Int) (t1_1_2 : List Int) (t1_1n : Nat) (t1_2_0 : List Int) (t1_2n : Nat) (t0_0 : Int) (t0_1_0 : List Int) (t0_1_1 : List Int) (t0_1_2 : List Int) (t0_1n : Nat) (t0_2_0 : List Int) (t0_2n : Nat) (t5 : Int) : St := ⟨[(1, .rptr [.int .i8 t1_0, .rsl [.ints .i8 t1_1_0, .ints .i16 t1_1_1, .ints .i16 t1_1_2] t1_1n, .rsl [.ints .i16 t1_2_0] t1_2n] 0 1), (0, .rptr [.int .i8 t0_0, .rsl [.ints .i8 t0_1_0, .ints .i16 t0_1_1, .ints .i16 t0_1_2] t0_1n, .rsl [.ints .i16 t0_2_0] t0_2n] 0 1), (5, .int .i64 t5)], 90, [], [], 0⟩
noncomputable def N0 (n : Nat)  (m0 : Nat) (t1_0 : Int) (t1_1_0 : List Int) (t1_1_1 : List Int) (t1_1_2 : List Int) (t1_1n : Nat) (t1_2_0 : List Int) (t1_2n : Nat) (t0_0 : Int) (t0_1_0 : List Int) (t0_1_1 : List Int) (t0_1_2 : List Int) (t0_1n : Nat) (t0_2_0 : List Int) (t0_2n : Nat) (t5 : Int) : Res := nodeRun (E n) n Try.f73 L k0 [true, true, false, true, false] [] m0 (S0 t1_0 t1_1_0 t1_1_1 t1_1_2 t1_1n t1_2_0 t1_2n t0_0 t0_1_0 t0_1_1 t0_1_2 t0_1n t0_2_0 t0_2n t5)
def S1 (t6 : Int) (t1_0 : Int) (t1_1_0 : List Int) (t1_1_1 : List Int) (t1_1_2 : List Int) (t1_1n : Nat) (t1_2_0 : List Int) (t1_2n : Nat) (t0_0 : Int) (t0_1_0 : List Int) (t0_1_1 : List Int) (t0_1_2 : List Int) (t0_1n : Nat) (t0_2_0 : List Int) (t0_2n : Nat) : St := ⟨[(6, .int .i64 t6), (1, .rptr [.int .i8 t1_0, .rsl [.ints .i8 t1_1_0, .ints .i16 t1_1_1, .ints .i16 t1_1_2] t1_1n, .rsl [.ints .i16 t1_2_0] t1_2n] 0 1), (0, .rptr [.int .i8 t0_0, .rsl [.ints .i8 t0_1_0, .ints .i16 t0_1_1, .ints .i16 t0_1_2] t0_1n, .rsl [.ints .i16 t0_2_0] t0_2n] 0 1)], 90, [], [], 0⟩
noncomputable def N1 (n : Nat)  (m1 : Nat) (t6 : Int) (t1_0 : Int) (t1_1_0 : List Int) (t1_1_1 : List Int) (t1_1_2 : List Int) (t1_1n : Nat) (t1_2_0 : List Int) (t1_2n : Nat) (t0_0 : Int) (t0_1_0 : List Int) (t0_1_1 : List Int) (t0_1_2 : List Int) (t0_1n : Nat) (t0_2_0 : List Int) (t0_2n : Nat) : Res := nodeRun (E n) n Try.f73 L k0 [true, true, true, false, true, false] [] m1 (S1 t6 t1_0 t1_1_0 t1_1_1 t1_1_2 t1_1n t1_2_0 t1_2n t0_0 t0_1_0 t0_1_1 t0_1_2 t0_1n t0_2_0 t0_2n)
theorem N0_succ (n : Nat)  (m0 : Nat) (t1_0 : Int) (t1_1_0 : List Int) (t1_1_1 : List Int) (t1_1_2 : List Int) (t1_1n : Nat) (t1_2_0 : List Int) (t1_2n : Nat) (t0_0 : Int) (t0_1_0 : List Int) (t0_1_1 : List Int) (t0_1_2 : List Int) (t0_1n : Nat) (t0_2_0 : List Int) (t0_2n : Nat) (t5 : Int) : N0 n  (m0 + 1) t1_0 t1_1_0 t1_1_1 t1_1_2 t1_1n t1_2_0 t1_2n t0_0 t0_1_0 t0_1_1 t0_1_2 t0_1n t0_2_0 t0_2n t5 =
  bif decide (t5 < ((t0_1n : Nat) : Int)) then
   bif decide (((0 : Int) ≤ t5) ∧ (t5 < ((t0_1n : Nat) : Int))) then
   bif decide (((0 : Int) ≤ t5) ∧ (t5 < ((t1_1n : Nat) : Int))) then
    bif (cond true (!(((List.getD t0_1_0 (Int.toNat t5) (0 : Int)) == (List.getD t1_1_0 (Int.toNat t5) (0 : Int))) && (((List.getD t0_1_1 (Int.toNat t5) (0 : Int)) == (List.getD t1_1_1 (Int.toNat t5) (0 : Int))) && (((List.getD t0_1_2 (Int.toNat t5) (0 : Int)) == (List.getD t1_1_2 (Int.toNat t5) (0 : Int))) && true)))) (((List.getD t0_1_0 (Int.toNat t5) (0 : Int)) == (List.getD t1_1_0 (Int.toNat t5) (0 : Int))) && (((List.getD t0_1_1 (Int.toNat t5) (0 : Int)) == (List.getD t1_1_1 (Int.toNat t5) (0 : Int))) && (((List.getD t0_1_2 (Int.toNat t5) (0 : Int)) == (List.getD t1_1_2 (Int.toNat t5) (0 : Int))) && true)))) then
      some (.bool false, [])
     else
      N0 n m0 t1_0 t1_1_0 t1_1_1 t1_1_2 t1_1n t1_2_0 t1_2n t0_0 t0_1_0 t0_1_1 t0_1_2 t0_1n t0_2_0 t0_2n (IntKind.wrap .i64 (t5 + (1 : Int)))
    else none
   else none
  else
   N1 n n (0 : Int) t1_0 t1_1_0 t1_1_1 t1_1_2 t1_1n t1_2_0 t1_2n t0_0 t0_1_0 t0_1_1 t0_1_2 t0_1n t0_2_0 t0_2n := by kernel_rfl
theorem N1_succ (n : Nat)  (m1 : Nat) (t6 : Int) (t1_0 : Int) (t1_1_0 : List Int) (t1_1_1 : List Int) (t1_1_2 : List Int) (t1_1n : Nat) (t1_2_0 : List Int) (t1_2n : Nat) (t0_0 : Int) (t0_1_0 : List Int) (t0_1_1 : List Int) (t0_1_2 : List Int) (t0_1n : Nat) (t0_2_0 : List Int) (t0_2n : Nat) : N1 n  (m1 + 1) t6 t1_0 t1_1_0 t1_1_1 t1_1_2 t1_1n t1_2_0 t1_2n t0_0 t0_1_0 t0_1_1 t0_1_2 t0_1n t0_2_0 t0_2n =
  bif decide (t6 < ((t0_2n : Nat) : Int)) then
   bif decide (((0 : Int) ≤ t6) ∧ (t6 < ((t0_2n : Nat) : Int))) then
   bif decide (((0 : Int) ≤ t6) ∧ (t6 < ((t1_2n : Nat) : Int))) then
    bif ((List.getD t0_2_0 (Int.toNat t6) (0 : Int)) != (List.getD t1_2_0 (Int.toNat t6) (0 : Int))) then
      some (.bool false, [])
     else
      N1 n m1 (IntKind.wrap .i64 (t6 + (1 : Int))) t1_0 t1_1_0 t1_1_1 t1_1_2 t1_1n t1_2_0 t1_2n t0_0 t0_1_0 t0_1_1 t0_1_2 t0_1n t0_2_0 t0_2n
    else none
   else none
  else
   some (.bool true, []) := by kernel_rfl
noncomputable def R (n : Nat) (x : Int) (ks : List Int) (la : List Int) (lb : List Int) (j : Nat) (lo : List Int) (jo : Nat) (x' : Int) (K' : List Int) (A' : List Int) (B' : List Int) (n' : Nat) (O' : List Int) (o' : Nat) : Res := run (E n) n Try.f73 L (us x ks la lb j lo jo x' K' A' B' n' O' o') (HA x ks la lb j lo jo x' K' A' B' n' O' o') k0
theorem R_eq (n : Nat) (x : Int) (ks : List Int) (la : List Int) (lb : List Int) (j : Nat) (lo : List Int) (jo : Nat) (x' : Int) (K' : List Int) (A' : List Int) (B' : List Int) (n' : Nat) (O' : List Int) (o' : Nat) : R n x ks la lb j lo jo x' K' A' B' n' O' o' =
  bif (x != x') then
   bif (x != x') then
   bif (x != x') then
    bif (x != x') then
     bif (x != x') then
      bif (x != x') then
        bif (x != x') then
        bif (x != x') then
         bif (x != x') then
          bif (x != x') then
           bif (x != x') then
            bif (x != x') then
              some (.bool false, [])
             else
              bif (!(x != x')) then
              none
              else none
            else none
           else none
          else none
         else none
        else none
       else
        bif (x != x') then
         bif (x != x') then
         bif (x != x') then
          bif (x != x') then
           bif (x != x') then
            bif (x != x') then
              some (.bool false, [])
             else
              bif (!(x != x')) then
              none
              else none
            else none
           else none
          else none
         else none
        else
         bif (x != x') then
          bif (x != x') then
          bif (x != x') then
           bif (x != x') then
            bif (x != x') then
              some (.bool false, [])
             else
              bif (!(x != x')) then
              none
              else none
            else none
           else none
          else none
         else
          bif (x != x') then
           bif (x != x') then
           bif (x != x') then
            bif (x != x') then
              some (.bool false, [])
             else
              bif (!(x != x')) then
              none
              else none
            else none
           else none
          else
           bif (x != x') then
            bif (x != x') then
            bif (x != x') then
              some (.bool false, [])
             else
              bif (!(x != x')) then
              none
              else none
            else none
           else
            bif (x != x') then
            bif (x != x') then
              some (.bool false, [])
             else
              bif (!(x != x')) then
              none
              else none
            else none
      else none
     else none
    else none
   else none
  else
   bif (x != x') then
    bif (x != x') then
    bif (x != x') then
     bif (x != x') then
      bif (x != x') then
        bif (x != x') then
        bif (x != x') then
         bif (x != x') then
          bif (x != x') then
           bif (x != x') then
            bif (x != x') then
              some (.bool false, [])
             else
              bif (!(x != x')) then
              none
              else none
            else none
           else none
          else none
         else none
        else none
       else
        bif (x != x') then
         bif (x != x') then
         bif (x != x') then
          bif (x != x') then
           bif (x != x') then
            bif (x != x') then
              some (.bool false, [])
             else
              bif (!(x != x')) then
              none
              else none
            else none
           else none
          else none
         else none
        else
         bif (x != x') then
          bif (x != x') then
          bif (x != x') then
           bif (x != x') then
            bif (x != x') then
              some (.bool false, [])
             else
              bif (!(x != x')) then
              none
              else none
            else none
           else none
          else none
         else
          bif (x != x') then
           bif (x != x') then
           bif (x != x') then
            bif (x != x') then
              some (.bool false, [])
             else
              bif (!(x != x')) then
              none
              else none
            else none
           else none
          else
           bif (x != x') then
            bif (x != x') then
            bif (x != x') then
              some (.bool false, [])
             else
              bif (!(x != x')) then
              none
              else none
            else none
           else
            bif (x != x') then
            bif (x != x') then
              some (.bool false, [])
             else
              bif (!(x != x')) then
              none
              else none
            else none
      else none
     else none
    else none
   else
    bif (x != x') then
     bif (x != x') then
     bif (x != x') then
      bif (x != x') then
        bif (x != x') then
        bif (x != x') then
         bif (x != x') then
          bif (x != x') then
           bif (x != x') then
            bif (x != x') then
              some (.bool false, [])
             else
              bif (!(x != x')) then
              none
              else none
            else none
           else none
          else none
         else none
        else none
       else
        bif (x != x') then
         bif (x != x') then
         bif (x != x') then
          bif (x != x') then
           bif (x != x') then
            bif (x != x') then
              some (.bool false, [])
             else
              bif (!(x != x')) then
              none
              else none
            else none
           else none
          else none
         else none
        else
         bif (x != x') then
          bif (x != x') then
          bif (x != x') then
           bif (x != x') then
            bif (x != x') then
              some (.bool false, [])
             else
              bif (!(x != x')) then
              none
              else none
            else none
           else none
          else none
         else
          bif (x != x') then
           bif (x != x') then
           bif (x != x') then
            bif (x != x') then
              some (.bool false, [])
             else
              bif (!(x != x')) then
              none
              else none
            else none
           else none
          else
           bif (x != x') then
            bif (x != x') then
            bif (x != x') then
              some (.bool false, [])
             else
              bif (!(x != x')) then
              none
              else none
            else none
           else
            bif (x != x') then
            bif (x != x') then
              some (.bool false, [])
             else
              bif (!(x != x')) then
              none
              else none
            else none
      else none
     else none
    else
     bif (x != x') then
      bif (x != x') then
      bif (x != x') then
        bif (x != x') then
        bif (x != x') then
         bif (x != x') then
          bif (x != x') then
           bif (x != x') then
            bif (x != x') then
              some (.bool false, [])
             else
              bif (!(x != x')) then
              none
              else none
            else none
           else none
          else none
         else none
        else none
       else
        bif (x != x') then
         bif (x != x') then
         bif (x != x') then
          bif (x != x') then
           bif (x != x') then
            bif (x != x') then
              some (.bool false, [])
             else
              bif (!(x != x')) then
              none
              else none
            else none
           else none
          else none
         else none
        else
         bif (x != x') then
          bif (x != x') then
          bif (x != x') then
           bif (x != x') then
            bif (x != x') then
              some (.bool false, [])
             else
              bif (!(x != x')) then
              none
              else none
            else none
           else none
          else none
         else
          bif (x != x') then
           bif (x != x') then
           bif (x != x') then
            bif (x != x') then
              some (.bool false, [])
             else
              bif (!(x != x')) then
              none
              else none
            else none
           else none
          else
           bif (x != x') then
            bif (x != x') then
            bif (x != x') then
              some (.bool false, [])
             else
              bif (!(x != x')) then
              none
              else none
            else none
           else
            bif (x != x') then
            bif (x != x') then
              some (.bool false, [])
             else
              bif (!(x != x')) then
              none
              else none
            else none
      else none
     else
      bif (x != x') then
       bif (x != x') then
        bif (x != x') then
        bif (x != x') then
         bif (x != x') then
          bif (x != x') then
           bif (x != x') then
            bif (x != x') then
              some (.bool false, [])
             else
              bif (!(x != x')) then
              none
              else none
            else none
           else none
          else none
         else none
        else none
       else
        bif (x != x') then
         bif (x != x') then
         bif (x != x') then
          bif (x != x') then
           bif (x != x') then
            bif (x != x') then
              some (.bool false, [])
             else
              bif (!(x != x')) then
              none
              else none
            else none
           else none
          else none
         else none
        else
         bif (x != x') then
          bif (x != x') then
          bif (x != x') then
           bif (x != x') then
            bif (x != x') then
              some (.bool false, [])
             else
              bif (!(x != x')) then
              none
              else none
            else none
           else none
          else none
         else
          bif (x != x') then
           bif (x != x') then
           bif (x != x') then
            bif (x != x') then
              some (.bool false, [])
             else
              bif (!(x != x')) then
              none
              else none
            else none
           else none
          else
           bif (x != x') then
            bif (x != x') then
            bif (x != x') then
              some (.bool false, [])
             else
              bif (!(x != x')) then
              none
              else none
            else none
           else
            bif (x != x') then
            bif (x != x') then
              some (.bool false, [])
             else
              bif (!(x != x')) then
              none
              else none
            else none
      else
       bif (x != x') then
        bif (x != x') then
        bif (x != x') then
         bif (x != x') then
          bif (x != x') then
           bif (x != x') then
            bif (x != x') then
              some (.bool false, [])
             else
              bif (!(x != x')) then
              none
              else none
            else none
           else none
          else none
         else none
        else none
       else
        bif (x != x') then
         bif (x != x') then
         bif (x != x') then
          bif (x != x') then
           bif (x != x') then
            bif (x != x') then
              some (.bool false, [])
             else
              bif (!(x != x')) then
              none
              else none
            else none
           else none
          else none
         else none
        else
         bif (x != x') then
          bif (x != x') then
          bif (x != x') then
           bif (x != x') then
            bif (x != x') then
              some (.bool false, [])
             else
              bif (!(x != x')) then
              none
              else none
            else none
           else none
          else none
         else
          bif (x != x') then
           bif (x != x') then
           bif (x != x') then
            bif (x != x') then
              some (.bool false, [])
             else
              bif (!(x != x')) then
              none
              else none
            else none
           else none
          else
           bif (x != x') then
            bif (x != x') then
            bif (x != x') then
              some (.bool false, [])
             else
              bif (!(x != x')) then
              none
              else none
            else none
           else
            bif (x != x') then
             bif (x != x') then
              some (.bool false, [])
             else
              bif (!(x != x')) then
              none
              else none
            else
             bif (x != x') then
              some (.bool false, [])
             else
              bif (!(x != x')) then
              bif (((j : Nat) : Int) != ((n' : Nat) : Int)) then
                bif (((j : Nat) : Int) != ((n' : Nat) : Int)) then
                bif (((j : Nat) : Int) != ((n' : Nat) : Int)) then
                 bif (((j : Nat) : Int) != ((n' : Nat) : Int)) then
                  bif (((j : Nat) : Int) != ((n' : Nat) : Int)) then
                   bif (((j : Nat) : Int) != ((n' : Nat) : Int)) then
                     bif (((j : Nat) : Int) != ((n' : Nat) : Int)) then
                     bif (((j : Nat) : Int) != ((n' : Nat) : Int)) then
                      bif (((j : Nat) : Int) != ((n' : Nat) : Int)) then
                       bif (((j : Nat) : Int) != ((n' : Nat) : Int)) then
                        bif (((j : Nat) : Int) != ((n' : Nat) : Int)) then
                         bif (((j : Nat) : Int) != ((n' : Nat) : Int)) then
                           some (.bool false, [])
                          else
                           bif (!(((j : Nat) : Int) != ((n' : Nat) : Int))) then
                           none
                           else none
                         else none
                        else none
                       else none
                      else none
                     else none
                    else
                     bif (((j : Nat) : Int) != ((n' : Nat) : Int)) then
                      bif (((j : Nat) : Int) != ((n' : Nat) : Int)) then
                      bif (((j : Nat) : Int) != ((n' : Nat) : Int)) then
                       bif (((j : Nat) : Int) != ((n' : Nat) : Int)) then
                        bif (((j : Nat) : Int) != ((n' : Nat) : Int)) then
                         bif (((j : Nat) : Int) != ((n' : Nat) : Int)) then
                           some (.bool false, [])
                          else
                           bif (!(((j : Nat) : Int) != ((n' : Nat) : Int))) then
                           none
                           else none
                         else none
                        else none
                       else none
                      else none
                     else
                      bif (((j : Nat) : Int) != ((n' : Nat) : Int)) then
                       bif (((j : Nat) : Int) != ((n' : Nat) : Int)) then
                       bif (((j : Nat) : Int) != ((n' : Nat) : Int)) then
                        bif (((j : Nat) : Int) != ((n' : Nat) : Int)) then
                         bif (((j : Nat) : Int) != ((n' : Nat) : Int)) then
                           some (.bool false, [])
                          else
                           bif (!(((j : Nat) : Int) != ((n' : Nat) : Int))) then
                           none
                           else none
                         else none
                        else none
                       else none
                      else
                       bif (((j : Nat) : Int) != ((n' : Nat) : Int)) then
                        bif (((j : Nat) : Int) != ((n' : Nat) : Int)) then
                        bif (((j : Nat) : Int) != ((n' : Nat) : Int)) then
                         bif (((j : Nat) : Int) != ((n' : Nat) : Int)) then
                           some (.bool false, [])
                          else
                           bif (!(((j : Nat) : Int) != ((n' : Nat) : Int))) then
                           none
                           else none
                         else none
                        else none
                       else
                        bif (((j : Nat) : Int) != ((n' : Nat) : Int)) then
                         bif (((j : Nat) : Int) != ((n' : Nat) : Int)) then
                         bif (((j : Nat) : Int) != ((n' : Nat) : Int)) then
                           some (.bool false, [])
                          else
                           bif (!(((j : Nat) : Int) != ((n' : Nat) : Int))) then
                           none
                           else none
                         else none
                        else
                         bif (((j : Nat) : Int) != ((n' : Nat) : Int)) then
                         bif (((j : Nat) : Int) != ((n' : Nat) : Int)) then
                           some (.bool false, [])
                          else
                           bif (!(((j : Nat) : Int) != ((n' : Nat) : Int))) then
                           none
                           else none
                         else none
                   else none
                  else none
                 else none
                else none
               else
                bif (((j : Nat) : Int) != ((n' : Nat) : Int)) then
                 bif (((j : Nat) : Int) != ((n' : Nat) : Int)) then
                 bif (((j : Nat) : Int) != ((n' : Nat) : Int)) then
                  bif (((j : Nat) : Int) != ((n' : Nat) : Int)) then
                   bif (((j : Nat) : Int) != ((n' : Nat) : Int)) then
                     bif (((j : Nat) : Int) != ((n' : Nat) : Int)) then
                     bif (((j : Nat) : Int) != ((n' : Nat) : Int)) then
                      bif (((j : Nat) : Int) != ((n' : Nat) : Int)) then
                       bif (((j : Nat) : Int) != ((n' : Nat) : Int)) then
                        bif (((j : Nat) : Int) != ((n' : Nat) : Int)) then
                         bif (((j : Nat) : Int) != ((n' : Nat) : Int)) then
                           some (.bool false, [])
                          else
                           bif (!(((j : Nat) : Int) != ((n' : Nat) : Int))) then
                           none
                           else none
                         else none
                        else none
                       else none
                      else none
                     else none
                    else
                     bif (((j : Nat) : Int) != ((n' : Nat) : Int)) then
                      bif (((j : Nat) : Int) != ((n' : Nat) : Int)) then
                      bif (((j : Nat) : Int) != ((n' : Nat) : Int)) then
                       bif (((j : Nat) : Int) != ((n' : Nat) : Int)) then
                        bif (((j : Nat) : Int) != ((n' : Nat) : Int)) then
                         bif (((j : Nat) : Int) != ((n' : Nat) : Int)) then
                           some (.bool false, [])
                          else
                           bif (!(((j : Nat) : Int) != ((n' : Nat) : Int))) then
                           none
                           else none
                         else none
                        else none
                       else none
                      else none
                     else
                      bif (((j : Nat) : Int) != ((n' : Nat) : Int)) then
                       bif (((j : Nat) : Int) != ((n' : Nat) : Int)) then
                       bif (((j : Nat) : Int) != ((n' : Nat) : Int)) then
                        bif (((j : Nat) : Int) != ((n' : Nat) : Int)) then
                         bif (((j : Nat) : Int) != ((n' : Nat) : Int)) then
                           some (.bool false, [])
                          else
                           bif (!(((j : Nat) : Int) != ((n' : Nat) : Int))) then
                           none
                           else none
                         else none
                        else none
                       else none
                      else
                       bif (((j : Nat) : Int) != ((n' : Nat) : Int)) then
                        bif (((j : Nat) : Int) != ((n' : Nat) : Int)) then
                        bif (((j : Nat) : Int) != ((n' : Nat) : Int)) then
                         bif (((j : Nat) : Int) != ((n' : Nat) : Int)) then
                           some (.bool false, [])
                          else
                           bif (!(((j : Nat) : Int) != ((n' : Nat) : Int))) then
                           none
                           else none
                         else none
                        else none
                       else
                        bif (((j : Nat) : Int) != ((n' : Nat) : Int)) then
                         bif (((j : Nat) : Int) != ((n' : Nat) : Int)) then
                         bif (((j : Nat) : Int) != ((n' : Nat) : Int)) then
                           some (.bool false, [])
                          else
                           bif (!(((j : Nat) : Int) != ((n' : Nat) : Int))) then
                           none
                           else none
                         else none
                        else
                         bif (((j : Nat) : Int) != ((n' : Nat) : Int)) then
                         bif (((j : Nat) : Int) != ((n' : Nat) : Int)) then
                           some (.bool false, [])
                          else
                           bif (!(((j : Nat) : Int) != ((n' : Nat) : Int))) then
                           none
                           else none
                         else none
                   else none
                  else none
                 else none
                else
                 bif (((j : Nat) : Int) != ((n' : Nat) : Int)) then
                  bif (((j : Nat) : Int) != ((n' : Nat) : Int)) then
                  bif (((j : Nat) : Int) != ((n' : Nat) : Int)) then
                   bif (((j : Nat) : Int) != ((n' : Nat) : Int)) then
                     bif (((j : Nat) : Int) != ((n' : Nat) : Int)) then
                     bif (((j : Nat) : Int) != ((n' : Nat) : Int)) then
                      bif (((j : Nat) : Int) != ((n' : Nat) : Int)) then
                       bif (((j : Nat) : Int) != ((n' : Nat) : Int)) then
                        bif (((j : Nat) : Int) != ((n' : Nat) : Int)) then
                         bif (((j : Nat) : Int) != ((n' : Nat) : Int)) then
                           some (.bool false, [])
                          else
                           bif (!(((j : Nat) : Int) != ((n' : Nat) : Int))) then
                           none
                           else none
                         else none
                        else none
                       else none
                      else none
                     else none
                    else
                     bif (((j : Nat) : Int) != ((n' : Nat) : Int)) then
                      bif (((j : Nat) : Int) != ((n' : Nat) : Int)) then
                      bif (((j : Nat) : Int) != ((n' : Nat) : Int)) then
                       bif (((j : Nat) : Int) != ((n' : Nat) : Int)) then
                        bif (((j : Nat) : Int) != ((n' : Nat) : Int)) then
                         bif (((j : Nat) : Int) != ((n' : Nat) : Int)) then
                           some (.bool false, [])
                          else
                           bif (!(((j : Nat) : Int) != ((n' : Nat) : Int))) then
                           none
                           else none
                         else none
                        else none
                       else none
                      else none
                     else
                      bif (((j : Nat) : Int) != ((n' : Nat) : Int)) then
                       bif (((j : Nat) : Int) != ((n' : Nat) : Int)) then
                       bif (((j : Nat) : Int) != ((n' : Nat) : Int)) then
                        bif (((j : Nat) : Int) != ((n' : Nat) : Int)) then
                         bif (((j : Nat) : Int) != ((n' : Nat) : Int)) then
                           some (.bool false, [])
                          else
                           bif (!(((j : Nat) : Int) != ((n' : Nat) : Int))) then
                           none
                           else none
                         else none
                        else none
                       else none
                      else
                       bif (((j : Nat) : Int) != ((n' : Nat) : Int)) then
                        bif (((j : Nat) : Int) != ((n' : Nat) : Int)) then
                        bif (((j : Nat) : Int) != ((n' : Nat) : Int)) then
                         bif (((j : Nat) : Int) != ((n' : Nat) : Int)) then
                           some (.bool false, [])
                          else
                           bif (!(((j : Nat) : Int) != ((n' : Nat) : Int))) then
                           none
                           else none
                         else none
                        else none
                       else
                        bif (((j : Nat) : Int) != ((n' : Nat) : Int)) then
                         bif (((j : Nat) : Int) != ((n' : Nat) : Int)) then
                         bif (((j : Nat) : Int) != ((n' : Nat) : Int)) then
                           some (.bool false, [])
                          else
                           bif (!(((j : Nat) : Int) != ((n' : Nat) : Int))) then
                           none
                           else none
                         else none
                        else
                         bif (((j : Nat) : Int) != ((n' : Nat) : Int)) then
                         bif (((j : Nat) : Int) != ((n' : Nat) : Int)) then
                           some (.bool false, [])
                          else
                           bif (!(((j : Nat) : Int) != ((n' : Nat) : Int))) then
                           none
                           else none
                         else none
                   else none
                  else none
                 else
                  bif (((j : Nat) : Int) != ((n' : Nat) : Int)) then
                   bif (((j : Nat) : Int) != ((n' : Nat) : Int)) then
                   bif (((j : Nat) : Int) != ((n' : Nat) : Int)) then
                     bif (((j : Nat) : Int) != ((n' : Nat) : Int)) then
                     bif (((j : Nat) : Int) != ((n' : Nat) : Int)) then
                      bif (((j : Nat) : Int) != ((n' : Nat) : Int)) then
                       bif (((j : Nat) : Int) != ((n' : Nat) : Int)) then
                        bif (((j : Nat) : Int) != ((n' : Nat) : Int)) then
                         bif (((j : Nat) : Int) != ((n' : Nat) : Int)) then
                           some (.bool false, [])
                          else
                           bif (!(((j : Nat) : Int) != ((n' : Nat) : Int))) then
                           none
                           else none
                         else none
                        else none
                       else none
                      else none
                     else none
                    else
                     bif (((j : Nat) : Int) != ((n' : Nat) : Int)) then
                      bif (((j : Nat) : Int) != ((n' : Nat) : Int)) then
                      bif (((j : Nat) : Int) != ((n' : Nat) : Int)) then
                       bif (((j : Nat) : Int) != ((n' : Nat) : Int)) then
                        bif (((j : Nat) : Int) != ((n' : Nat) : Int)) then
                         bif (((j : Nat) : Int) != ((n' : Nat) : Int)) then
                           some (.bool false, [])
                          else
                           bif (!(((j : Nat) : Int) != ((n' : Nat) : Int))) then
                           none
                           else none
                         else none
                        else none
                       else none
                      else none
                     else
                      bif (((j : Nat) : Int) != ((n' : Nat) : Int)) then
                       bif (((j : Nat) : Int) != ((n' : Nat) : Int)) then
                       bif (((j : Nat) : Int) != ((n' : Nat) : Int)) then
                        bif (((j : Nat) : Int) != ((n' : Nat) : Int)) then
                         bif (((j : Nat) : Int) != ((n' : Nat) : Int)) then
                           some (.bool false, [])
                          else
                           bif (!(((j : Nat) : Int) != ((n' : Nat) : Int))) then
                           none
                           else none
                         else none
                        else none
                       else none
                      else
                       bif (((j : Nat) : Int) != ((n' : Nat) : Int)) then
                        bif (((j : Nat) : Int) != ((n' : Nat) : Int)) then
                        bif (((j : Nat) : Int) != ((n' : Nat) : Int)) then
                         bif (((j : Nat) : Int) != ((n' : Nat) : Int)) then
                           some (.bool false, [])
                          else
                           bif (!(((j : Nat) : Int) != ((n' : Nat) : Int))) then
                           none
                           else none
                         else none
                        else none
                       else
                        bif (((j : Nat) : Int) != ((n' : Nat) : Int)) then
                         bif (((j : Nat) : Int) != ((n' : Nat) : Int)) then
                         bif (((j : Nat) : Int) != ((n' : Nat) : Int)) then
                           some (.bool false, [])
                          else
                           bif (!(((j : Nat) : Int) != ((n' : Nat) : Int))) then
                           none
                           else none
                         else none
                        else
                         bif (((j : Nat) : Int) != ((n' : Nat) : Int)) then
                         bif (((j : Nat) : Int) != ((n' : Nat) : Int)) then
                           some (.bool false, [])
                          else
                           bif (!(((j : Nat) : Int) != ((n' : Nat) : Int))) then
                           none
                           else none
                         else none
                   else none
                  else
                   bif (((j : Nat) : Int) != ((n' : Nat) : Int)) then
                    bif (((j : Nat) : Int) != ((n' : Nat) : Int)) then
                     bif (((j : Nat) : Int) != ((n' : Nat) : Int)) then
                     bif (((j : Nat) : Int) != ((n' : Nat) : Int)) then
                      bif (((j : Nat) : Int) != ((n' : Nat) : Int)) then
                       bif (((j : Nat) : Int) != ((n' : Nat) : Int)) then
                        bif (((j : Nat) : Int) != ((n' : Nat) : Int)) then
                         bif (((j : Nat) : Int) != ((n' : Nat) : Int)) then
                           some (.bool false, [])
                          else
                           bif (!(((j : Nat) : Int) != ((n' : Nat) : Int))) then
                           none
                           else none
                         else none
                        else none
                       else none
                      else none
                     else none
                    else
                     bif (((j : Nat) : Int) != ((n' : Nat) : Int)) then
                      bif (((j : Nat) : Int) != ((n' : Nat) : Int)) then
                      bif (((j : Nat) : Int) != ((n' : Nat) : Int)) then
                       bif (((j : Nat) : Int) != ((n' : Nat) : Int)) then
                        bif (((j : Nat) : Int) != ((n' : Nat) : Int)) then
                         bif (((j : Nat) : Int) != ((n' : Nat) : Int)) then
                           some (.bool false, [])
                          else
                           bif (!(((j : Nat) : Int) != ((n' : Nat) : Int))) then
                           none
                           else none
                         else none
                        else none
                       else none
                      else none
                     else
                      bif (((j : Nat) : Int) != ((n' : Nat) : Int)) then
                       bif (((j : Nat) : Int) != ((n' : Nat) : Int)) then
                       bif (((j : Nat) : Int) != ((n' : Nat) : Int)) then
                        bif (((j : Nat) : Int) != ((n' : Nat) : Int)) then
                         bif (((j : Nat) : Int) != ((n' : Nat) : Int)) then
                           some (.bool false, [])
                          else
                           bif (!(((j : Nat) : Int) != ((n' : Nat) : Int))) then
                           none
                           else none
                         else none
                        else none
                       else none
                      else
                       bif (((j : Nat) : Int) != ((n' : Nat) : Int)) then
                        bif (((j : Nat) : Int) != ((n' : Nat) : Int)) then
                        bif (((j : Nat) : Int) != ((n' : Nat) : Int)) then
                         bif (((j : Nat) : Int) != ((n' : Nat) : Int)) then
                           some (.bool false, [])
                          else
                           bif (!(((j : Nat) : Int) != ((n' : Nat) : Int))) then
                           none
                           else none
                         else none
                        else none
                       else
                        bif (((j : Nat) : Int) != ((n' : Nat) : Int)) then
                         bif (((j : Nat) : Int) != ((n' : Nat) : Int)) then
                         bif (((j : Nat) : Int) != ((n' : Nat) : Int)) then
                           some (.bool false, [])
                          else
                           bif (!(((j : Nat) : Int) != ((n' : Nat) : Int))) then
                           none
                           else none
                         else none
                        else
                         bif (((j : Nat) : Int) != ((n' : Nat) : Int)) then
                         bif (((j : Nat) : Int) != ((n' : Nat) : Int)) then
                           some (.bool false, [])
                          else
                           bif (!(((j : Nat) : Int) != ((n' : Nat) : Int))) then
                           none
                           else none
                         else none
                   else
                    bif (((j : Nat) : Int) != ((n' : Nat) : Int)) then
                     bif (((j : Nat) : Int) != ((n' : Nat) : Int)) then
                     bif (((j : Nat) : Int) != ((n' : Nat) : Int)) then
                      bif (((j : Nat) : Int) != ((n' : Nat) : Int)) then
                       bif (((j : Nat) : Int) != ((n' : Nat) : Int)) then
                        bif (((j : Nat) : Int) != ((n' : Nat) : Int)) then
                         bif (((j : Nat) : Int) != ((n' : Nat) : Int)) then
                           some (.bool false, [])
                          else
                           bif (!(((j : Nat) : Int) != ((n' : Nat) : Int))) then
                           none
                           else none
                         else none
                        else none
                       else none
                      else none
                     else none
                    else
                     bif (((j : Nat) : Int) != ((n' : Nat) : Int)) then
                      bif (((j : Nat) : Int) != ((n' : Nat) : Int)) then
                      bif (((j : Nat) : Int) != ((n' : Nat) : Int)) then
                       bif (((j : Nat) : Int) != ((n' : Nat) : Int)) then
                        bif (((j : Nat) : Int) != ((n' : Nat) : Int)) then
                         bif (((j : Nat) : Int) != ((n' : Nat) : Int)) then
                           some (.bool false, [])
                          else
                           bif (!(((j : Nat) : Int) != ((n' : Nat) : Int))) then
                           none
                           else none
                         else none
                        else none
                       else none
                      else none
                     else
                      bif (((j : Nat) : Int) != ((n' : Nat) : Int)) then
                       bif (((j : Nat) : Int) != ((n' : Nat) : Int)) then
                       bif (((j : Nat) : Int) != ((n' : Nat) : Int)) then
                        bif (((j : Nat) : Int) != ((n' : Nat) : Int)) then
                         bif (((j : Nat) : Int) != ((n' : Nat) : Int)) then
                           some (.bool false, [])
                          else
                           bif (!(((j : Nat) : Int) != ((n' : Nat) : Int))) then
                           none
                           else none
                         else none
                        else none
                       else none
                      else
                       bif (((j : Nat) : Int) != ((n' : Nat) : Int)) then
                        bif (((j : Nat) : Int) != ((n' : Nat) : Int)) then
                        bif (((j : Nat) : Int) != ((n' : Nat) : Int)) then
                         bif (((j : Nat) : Int) != ((n' : Nat) : Int)) then
                           some (.bool false, [])
                          else
                           bif (!(((j : Nat) : Int) != ((n' : Nat) : Int))) then
                           none
                           else none
                         else none
                        else none
                       else
                        bif (((j : Nat) : Int) != ((n' : Nat) : Int)) then
                         bif (((j : Nat) : Int) != ((n' : Nat) : Int)) then
                         bif (((j : Nat) : Int) != ((n' : Nat) : Int)) then
                           some (.bool false, [])
                          else
                           bif (!(((j : Nat) : Int) != ((n' : Nat) : Int))) then
                           none
                           else none
                         else none
                        else
                         bif (((j : Nat) : Int) != ((n' : Nat) : Int)) then
                          bif (((j : Nat) : Int) != ((n' : Nat) : Int)) then
                           some (.bool false, [])
                          else
                           bif (!(((j : Nat) : Int) != ((n' : Nat) : Int))) then
                           none
                           else none
                         else
                          bif (((j : Nat) : Int) != ((n' : Nat) : Int)) then
                           some (.bool false, [])
                          else
                           bif (!(((j : Nat) : Int) != ((n' : Nat) : Int))) then
                           bif (((jo : Nat) : Int) != ((o' : Nat) : Int)) then
                             some (.bool false, [])
                            else
                             N0 n n x' K' A' B' n' O' o' x ks la lb j lo jo (0 : Int)
                           else none
              else none := by kernel_rfl
theorem ans {n : Nat} {x : Int} {ks : List Int} {la : List Int} {lb : List Int} {j : Nat} {lo : List Int} {jo : Nat} {x' : Int} {K' : List Int} {A' : List Int} {B' : List Int} {n' : Nat} {O' : List Int} {o' : Nat} (hA : Sounds Try.prog (A n)) {u : U} {H : Heap} (h : R n x ks la lb j lo jo x' K' A' B' n' O' o' = some (u, H)) : Answers Try.prog 73 (us x ks la lb j lo jo x' K' A' B' n' O' o') (HA x ks la lb j lo jo x' K' A' B' n' O' o') u H := answers_env tabOk mixed hA Try.func73 (by kernel_rfl) (by kernel_rfl) h
end S_same

namespace S_SameC
abbrev num : Nat := 27
noncomputable def A (n : Nat) : List (Nat × Con) := ((fun (n : Nat) => ([(73, CSameP)] : List (Nat × Con)))) n
noncomputable abbrev E (n : Nat) : Env (U × Heap) := envC tab ios (A n)
def L : List (List Nat) := []
abbrev us (x : Int) (ks : List Int) (la : List Int) (lb : List Int) (j : Nat) (lo : List Int) (jo : Nat) (x' : Int) (K' : List Int) (A' : List Int) (B' : List Int) (n' : Nat) (O' : List Int) (o' : Nat) : List U := (((fun (x : Int) (ks la lb : List Int) (j : Nat) (lo : List Int) (jo : Nat) (x' : Int) (K' A' B' : List Int) (n' : Nat) (O' : List Int) (o' : Nat) => (([.agg [.int .i8 x, .rsl [.ints .i8 ks, .ints .i16 la, .ints .i16 lb] j, .rsl [.ints .i16 lo] jo], .agg [.int .i8 x', .rsl [.ints .i8 K', .ints .i16 A', .ints .i16 B'] n', .rsl [.ints .i16 O'] o']] : List U), ([] : Heap)))) x ks la lb j lo jo x' K' A' B' n' O' o').1
abbrev HA (x : Int) (ks : List Int) (la : List Int) (lb : List Int) (j : Nat) (lo : List Int) (jo : Nat) (x' : Int) (K' : List Int) (A' : List Int) (B' : List Int) (n' : Nat) (O' : List Int) (o' : Nat) : Heap := (((fun (x : Int) (ks la lb : List Int) (j : Nat) (lo : List Int) (jo : Nat) (x' : Int) (K' A' B' : List Int) (n' : Nat) (O' : List Int) (o' : Nat) => (([.agg [.int .i8 x, .rsl [.ints .i8 ks, .ints .i16 la, .ints .i16 lb] j, .rsl [.ints .i16 lo] jo], .agg [.int .i8 x', .rsl [.ints .i8 K', .ints .i16 A', .ints .i16 B'] n', .rsl [.ints .i16 O'] o']] : List U), ([] : Heap)))) x ks la lb j lo jo x' K' A' B' n' O' o').2
noncomputable def R (n : Nat) (x : Int) (ks : List Int) (la : List Int) (lb : List Int) (j : Nat) (lo : List Int) (jo : Nat) (x' : Int) (K' : List Int) (A' : List Int) (B' : List Int) (n' : Nat) (O' : List Int) (o' : Nat) : Res := run (E n) n Try.f27 L (us x ks la lb j lo jo x' K' A' B' n' O' o') (HA x ks la lb j lo jo x' K' A' B' n' O' o') k0
theorem R_eq (n : Nat) (x : Int) (ks : List Int) (la : List Int) (lb : List Int) (j : Nat) (lo : List Int) (jo : Nat) (x' : Int) (K' : List Int) (A' : List Int) (B' : List Int) (n' : Nat) (O' : List Int) (o' : Nat) : R n x ks la lb j lo jo x' K' A' B' n' O' o' =
  pif (((gl ks la lb j) ∧ ((gl K' A' B' n') ∧ ((ol lo jo) ∧ (ol O' o'))))) (
  some (.bool (eqC x ks la lb lo x' K' A' B' O'), [])) := by kernel_rfl
theorem ans {n : Nat} {x : Int} {ks : List Int} {la : List Int} {lb : List Int} {j : Nat} {lo : List Int} {jo : Nat} {x' : Int} {K' : List Int} {A' : List Int} {B' : List Int} {n' : Nat} {O' : List Int} {o' : Nat} (hA : Sounds Try.prog (A n)) {u : U} {H : Heap} (h : R n x ks la lb j lo jo x' K' A' B' n' O' o' = some (u, H)) : Answers Try.prog 27 (us x ks la lb j lo jo x' K' A' B' n' O' o') (HA x ks la lb j lo jo x' K' A' B' n' O' o') u H := answers_env tabOk mixed hA Try.func27 (by kernel_rfl) (by kernel_rfl) h
end S_SameC

namespace I_Run2
abbrev num : Nat := 30
noncomputable def A (n : Nat) : List (Nat × Con) := ((fun (n : Nat) => ([(28, CValid), (79, CRunI)] : List (Nat × Con)))) n
noncomputable abbrev E (n : Nat) : Env (U × Heap) := envC tab ios (A n)
def L : List (List Nat) := []
abbrev us (x : Int) (ks : List Int) (la : List Int) (lb : List Int) (j : Nat) (lo : List Int) (jo : Nat) (b : Int) : List U := (((fun (x : Int) (ks la lb : List Int) (j : Nat) (lo : List Int) (jo : Nat) (b : Int) => (([.agg [.int .i8 x, .rsl [.ints .i8 ks, .ints .i16 la, .ints .i16 lb] j, .rsl [.ints .i16 lo] jo], .int .u16 b] : List U), ([] : Heap)))) x ks la lb j lo jo b).1
abbrev HA (x : Int) (ks : List Int) (la : List Int) (lb : List Int) (j : Nat) (lo : List Int) (jo : Nat) (b : Int) : Heap := (((fun (x : Int) (ks la lb : List Int) (j : Nat) (lo : List Int) (jo : Nat) (b : Int) => (([.agg [.int .i8 x, .rsl [.ints .i8 ks, .ints .i16 la, .ints .i16 lb] j, .rsl [.ints .i16 lo] jo], .int .u16 b] : List U), ([] : Heap)))) x ks la lb j lo jo b).2
noncomputable def R (n : Nat) (x : Int) (ks : List Int) (la : List Int) (lb : List Int) (j : Nat) (lo : List Int) (jo : Nat) (b : Int) : Res := run (E n) n Try.f30 L (us x ks la lb j lo jo b) (HA x ks la lb j lo jo b) k0
theorem R_eq (n : Nat) (x : Int) (ks : List Int) (la : List Int) (lb : List Int) (j : Nat) (lo : List Int) (jo : Nat) (b : Int) : R n x ks la lb j lo jo b =
  pif ((circ x ks la lb j lo jo)) (
  bif (!(valC x ks la lb lo)) then
   some (.tup [.int .u16 (0 : Int), .int .i64 (1 : Int)], [])
  else
   pif ((rin x ks la lb j lo jo b)) (
   some (.tup [.int .u16 (runC b ks la lb lo), .int .i64 (0 : Int)], []))) := by kernel_rfl
theorem ans {n : Nat} {x : Int} {ks : List Int} {la : List Int} {lb : List Int} {j : Nat} {lo : List Int} {jo : Nat} {b : Int} (hA : Sounds Try.prog (A n)) {u : U} {H : Heap} (h : R n x ks la lb j lo jo b = some (u, H)) : Answers Try.prog 30 (us x ks la lb j lo jo b) (HA x ks la lb j lo jo b) u H := answers_env tabOk mixed hA Try.func30 (by kernel_rfl) (by kernel_rfl) h
end I_Run2

namespace S_TimesNim
abbrev num : Nat := 31
noncomputable def A (n : Nat) : List (Nat × Con) := ((fun (n : Nat) => ([(80, CMul)] : List (Nat × Con)))) n
noncomputable abbrev E (n : Nat) : Env (U × Heap) := envC tab ios (A n)
def L : List (List Nat) := []
abbrev us (x : Int) (y : Int) : List U := (((fun (x y : Int) => (([.int .u16 x, .int .u16 y] : List U), ([] : Heap)))) x y).1
abbrev HA (x : Int) (y : Int) : Heap := (((fun (x y : Int) => (([.int .u16 x, .int .u16 y] : List U), ([] : Heap)))) x y).2
noncomputable def R (n : Nat) (x : Int) (y : Int) : Res := run (E n) n Try.f31 L (us x y) (HA x y) k0
theorem R_eq (n : Nat) (x : Int) (y : Int) : R n x y =
  pif (((u16 x) ∧ (u16 y))) (
  some (.int .u16 (mulI x y), [])) := by kernel_rfl
theorem ans {n : Nat} {x : Int} {y : Int} (hA : Sounds Try.prog (A n)) {u : U} {H : Heap} (h : R n x y = some (u, H)) : Answers Try.prog 31 (us x y) (HA x y) u H := answers_env tabOk mixed hA Try.func31 (by kernel_rfl) (by kernel_rfl) h
end S_TimesNim

end Go.VM
