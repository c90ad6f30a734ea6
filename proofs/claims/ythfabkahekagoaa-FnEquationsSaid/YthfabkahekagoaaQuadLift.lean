/- Written by a program of this session (Lift.lean): what the evaluator comes to, function by function; the kernel checks it. The conditions: those of the contracts. -/
import Derived.Test.YthfabkahekagoaaVmP4
import Derived.Test.YthfabkahekagoaaNimST
import Derived.Test.YthfabkahekagoaaNimSTS
import Derived.Test.YthfabkahekagoaaNimCon
import Derived.Test.YthfabkahekagoaaIntsCon
import Derived.Test.YthfabkahekagoaaHalfCon
import Derived.KernelRfl
set_option linter.unusedVariables false
set_option linter.unusedSimpArgs false
set_option linter.unusedSectionVars false
namespace Go.VM
open Go Go.Proofs Go.Fn NimF
set_option linter.unusedVariables false
set_option maxRecDepth 100000
namespace I_root
abbrev num : Nat := 45
noncomputable def A (n : Nat) : List (Nat × Con) := ((fun (n : Nat) => ([(46, CMul)] : List (Nat × Con)))) n
noncomputable abbrev E (n : Nat) : Env (U × Heap) := envC tab ios (A n)
def L : List (List Nat) := [[0, 3]]
abbrev us (x : Int) : List U := (((fun (x : Int) => (([.int .u16 x] : List U), ([] : Heap)))) x).1
abbrev HA (x : Int) : Heap := (((fun (x : Int) => (([.int .u16 x] : List U), ([] : Heap)))) x).2
def S0 (t0 : Int) (t3 : Int) : St := ⟨[(0, .int .u16 t0), (3, .int .i64 t3)], 10, [], [], 0⟩
noncomputable def N0 (n : Nat)  (m0 : Nat) (t0 : Int) (t3 : Int) : Res := nodeRun (E n) n Try.f45 L k0 [true, false, true, false] [] m0 (S0 t0 t3)
theorem N0_succ (n : Nat)  (m0 : Nat) (t0 : Int) (t3 : Int) : N0 n  (m0 + 1) t0 t3 =
  bif decide (t3 < (15 : Int)) then
   pif (((u16 t0) ∧ (u16 t0))) (
   N0 n m0 (mulI t0 t0) (IntKind.wrap .i64 (t3 + (1 : Int))))
  else
   some (.int .u16 t0, []) := by kernel_rfl
noncomputable def R (n : Nat) (x : Int) : Res := run (E n) n Try.f45 L (us x) (HA x) k0
theorem R_eq (n : Nat) (x : Int) : R n x =
  N0 n n x (0 : Int) := by kernel_rfl
theorem ans {n : Nat} {x : Int} (hA : Sounds Try.prog (A n)) {u : U} {H : Heap} (h : R n x = some (u, H)) : Answers Try.prog 45 (us x) (HA x) u H := answers_env tabOk mixed hA Try.func45 (by kernel_rfl) (by kernel_rfl) h
end I_root

namespace I_less
abbrev num : Nat := 114
noncomputable def A (n : Nat) : List (Nat × Con) := ((fun (n : Nat) => ([] : List (Nat × Con)))) n
noncomputable def I : Inl := ([(136, Try.f136, [])] : Inl)
theorem inl_ok : InlOk Try.prog I := (inl_cons Try.func136 (by kernel_rfl) (by kernel_rfl) inl_nil)
noncomputable abbrev E (n : Nat) : Env (U × Heap) := envI tab ios (A n) I n 1
def L : List (List Nat) := []
abbrev us (x : Int) (y : Int) : List U := (((fun (x y : Int) => (([.int .u16 x, .int .u16 y] : List U), ([] : Heap)))) x y).1
abbrev HA (x : Int) (y : Int) : Heap := (((fun (x y : Int) => (([.int .u16 x, .int .u16 y] : List U), ([] : Heap)))) x y).2
noncomputable def R (n : Nat) (x : Int) (y : Int) : Res := run (E n) n Try.f114 L (us x y) (HA x y) k0
theorem R_eq (n : Nat) (x : Int) (y : Int) : R n x y =
  bif (x != x) then
   bif (!(y != y)) then
    some (.bool true, [])
   else
    some (.bool (decide (x < y)), [])
  else
   some (.bool (decide (x < y)), []) := by kernel_rfl
theorem ans {n : Nat} {x : Int} {y : Int} (hA : Sounds Try.prog (A n)) {u : U} {H : Heap} (h : R n x y = some (u, H)) : Answers Try.prog 114 (us x y) (HA x y) u H := answers_inl tabOk mixed hA inl_ok Try.func114 (by kernel_rfl) (by kernel_rfl) h
end I_less

namespace I_ins
abbrev num : Nat := 108
noncomputable def A (n : Nat) : List (Nat × Con) := ((fun (n : Nat) => ([(114, CLessU)] : List (Nat × Con)))) n
noncomputable abbrev E (n : Nat) : Env (U × Heap) := envC tab ios (A n)
def L : List (List Nat) := [[6, 0, 1, 2], [0, 1, 2, 6, 7]]
abbrev us (O : List Int) : List U := (((fun (O : List Int) => (([.own 0, .int .i64 0, .int .i64 2] : List U), ([(0, ⟨[.ints .u16 O], true⟩)] : Heap)))) O).1
abbrev HA (O : List Int) : Heap := (((fun (O : List Int) => (([.own 0, .int .i64 0, .int .i64 2] : List U), ([(0, ⟨[.ints .u16 O], true⟩)] : Heap)))) O).2
def S0 (t6 : Int) (t1 : Int) (t2 : Int) (o0_0 : List Int) : St := ⟨[(6, .int .i64 t6), (0, .own 0), (1, .int .i64 t1), (2, .int .i64 t2)], 49, [(0, ⟨[.ints .u16 o0_0], true⟩)], [0], 1⟩
noncomputable def N0 (n : Nat)  (m0 : Nat) (t6 : Int) (t1 : Int) (t2 : Int) (o0_0 : List Int) : Res := nodeRun (E n) n Try.f108 L k0 [true, false] [] m0 (S0 t6 t1 t2 o0_0)
def S1 (t1 : Int) (t2 : Int) (t6 : Int) (t7 : Int) (o0_0 : List Int) : St := ⟨[(0, .own 0), (1, .int .i64 t1), (2, .int .i64 t2), (6, .int .i64 t6), (7, .int .i64 t7)], 49, [(0, ⟨[.ints .u16 o0_0], true⟩)], [0], 1⟩
noncomputable def N1 (n : Nat) (m0 : Nat) (m1 : Nat) (t1 : Int) (t2 : Int) (t6 : Int) (t7 : Int) (o0_0 : List Int) : Res := nodeRun (E n) n Try.f108 L k0 [true, false, false, true, false, false, true, false] [m0] m1 (S1 t1 t2 t6 t7 o0_0)
theorem N0_succ (n : Nat)  (m0 : Nat) (t6 : Int) (t1 : Int) (t2 : Int) (o0_0 : List Int) : N0 n  (m0 + 1) t6 t1 t2 o0_0 =
  bif decide (t6 < t2) then
   N1 n m0 n t1 t2 t6 t6 o0_0
  else
   some (.tup [], [(0, ⟨[.ints .u16 o0_0], true⟩)]) := by kernel_rfl
theorem N1_succ (n : Nat) (m0 : Nat) (m1 : Nat) (t1 : Int) (t2 : Int) (t6 : Int) (t7 : Int) (o0_0 : List Int) : N1 n m0 (m1 + 1) t1 t2 t6 t7 o0_0 =
  bif decide (t7 > t1) then
   bif decide (t7 > t1) then
    bif decide (t7 > t1) then
     bif decide (((0 : Int) ≤ t7) ∧ (t7 < (((List.length o0_0) : Nat) : Int))) then
     bif decide (t7 > t1) then
       bif decide (t7 > t1) then
        bif decide (t7 > t1) then
         bif decide (t7 > t1) then
          bif decide (((0 : Int) ≤ (IntKind.wrap .i64 (t7 - (1 : Int)))) ∧ ((IntKind.wrap .i64 (t7 - (1 : Int))) < (((List.length o0_0) : Nat) : Int))) then
          bif decide (t7 > t1) then
            bif decide (t7 > t1) then
             bif decide (t7 > t1) then
              pif (True) (
              bif decide (t7 > t1) then
               bif decide ((List.getD o0_0 (Int.toNat t7) (0 : Int)) < (List.getD o0_0 (Int.toNat (IntKind.wrap .i64 (t7 - (1 : Int)))) (0 : Int))) then
                bif decide (((0 : Int) ≤ (IntKind.wrap .i64 (t7 - (1 : Int)))) ∧ ((IntKind.wrap .i64 (t7 - (1 : Int))) < (((List.length o0_0) : Nat) : Int))) then
                bif decide (((0 : Int) ≤ t7) ∧ (t7 < (((List.length o0_0) : Nat) : Int))) then
                 bif decide (((0 : Int) ≤ t7) ∧ (t7 < (((List.length o0_0) : Nat) : Int))) then
                  bif (Nat.beq (List.length o0_0) (List.length (List.set o0_0 (Int.toNat t7) (List.getD o0_0 (Int.toNat (IntKind.wrap .i64 (t7 - (1 : Int)))) (0 : Int))))) then
                    bif decide (((0 : Int) ≤ (IntKind.wrap .i64 (t7 - (1 : Int)))) ∧ ((IntKind.wrap .i64 (t7 - (1 : Int))) < (((List.length o0_0) : Nat) : Int))) then
                    N1 n m0 m1 t1 t2 t6 (IntKind.wrap .i64 (t7 - (1 : Int))) (List.set (List.set o0_0 (Int.toNat t7) (List.getD o0_0 (Int.toNat (IntKind.wrap .i64 (t7 - (1 : Int)))) (0 : Int))) (Int.toNat (IntKind.wrap .i64 (t7 - (1 : Int)))) (List.getD o0_0 (Int.toNat t7) (0 : Int)))
                    else none
                   else
                    bif decide (((0 : Int) ≤ (IntKind.wrap .i64 (t7 - (1 : Int)))) ∧ ((IntKind.wrap .i64 (t7 - (1 : Int))) < (((List.length (List.set o0_0 (Int.toNat t7) (List.getD o0_0 (Int.toNat (IntKind.wrap .i64 (t7 - (1 : Int)))) (0 : Int)))) : Nat) : Int))) then
                    N1 n m0 m1 t1 t2 t6 (IntKind.wrap .i64 (t7 - (1 : Int))) (List.set (List.set o0_0 (Int.toNat t7) (List.getD o0_0 (Int.toNat (IntKind.wrap .i64 (t7 - (1 : Int)))) (0 : Int))) (Int.toNat (IntKind.wrap .i64 (t7 - (1 : Int)))) (List.getD o0_0 (Int.toNat t7) (0 : Int)))
                    else none
                  else none
                 else none
                else none
               else
                N0 n m0 (IntKind.wrap .i64 (t6 + (1 : Int))) t1 t2 o0_0
              else
               bif (!decide (t7 > t1)) then
               N0 n m0 (IntKind.wrap .i64 (t6 + (1 : Int))) t1 t2 o0_0
               else none)
             else
              bif decide (t7 > t1) then
               none
              else
               bif (!decide (t7 > t1)) then
               N0 n m0 (IntKind.wrap .i64 (t6 + (1 : Int))) t1 t2 o0_0
               else none
            else
             bif decide (t7 > t1) then
              none
             else
              bif decide (t7 > t1) then
               none
              else
               bif (!decide (t7 > t1)) then
               N0 n m0 (IntKind.wrap .i64 (t6 + (1 : Int))) t1 t2 o0_0
               else none
           else
            bif decide (t7 > t1) then
             bif decide (t7 > t1) then
              none
             else
              bif decide (t7 > t1) then
               none
              else
               bif (!decide (t7 > t1)) then
               N0 n m0 (IntKind.wrap .i64 (t6 + (1 : Int))) t1 t2 o0_0
               else none
            else
             bif decide (t7 > t1) then
              none
             else
              bif decide (t7 > t1) then
               none
              else
               bif (!decide (t7 > t1)) then
               N0 n m0 (IntKind.wrap .i64 (t6 + (1 : Int))) t1 t2 o0_0
               else none
          else none
         else
          bif decide (t7 > t1) then
           bif decide (t7 > t1) then
            none
           else
            bif decide (t7 > t1) then
             none
            else
             bif decide (t7 > t1) then
              none
             else
              bif (!decide (t7 > t1)) then
              N0 n m0 (IntKind.wrap .i64 (t6 + (1 : Int))) t1 t2 o0_0
              else none
          else
           bif decide (t7 > t1) then
            none
           else
            bif decide (t7 > t1) then
             none
            else
             bif decide (t7 > t1) then
              none
             else
              bif (!decide (t7 > t1)) then
              N0 n m0 (IntKind.wrap .i64 (t6 + (1 : Int))) t1 t2 o0_0
              else none
        else
         bif decide (t7 > t1) then
          none
         else
          bif decide (t7 > t1) then
           bif decide (t7 > t1) then
            none
           else
            bif decide (t7 > t1) then
             none
            else
             bif decide (t7 > t1) then
              none
             else
              bif (!decide (t7 > t1)) then
              N0 n m0 (IntKind.wrap .i64 (t6 + (1 : Int))) t1 t2 o0_0
              else none
          else
           bif decide (t7 > t1) then
            none
           else
            bif decide (t7 > t1) then
             none
            else
             bif decide (t7 > t1) then
              none
             else
              bif (!decide (t7 > t1)) then
              N0 n m0 (IntKind.wrap .i64 (t6 + (1 : Int))) t1 t2 o0_0
              else none
       else
        bif decide (t7 > t1) then
         none
        else
         bif decide (t7 > t1) then
          none
         else
          bif decide (t7 > t1) then
           bif decide (t7 > t1) then
            none
           else
            bif decide (t7 > t1) then
             none
            else
             bif decide (t7 > t1) then
              none
             else
              bif (!decide (t7 > t1)) then
              N0 n m0 (IntKind.wrap .i64 (t6 + (1 : Int))) t1 t2 o0_0
              else none
          else
           bif decide (t7 > t1) then
            none
           else
            bif decide (t7 > t1) then
             none
            else
             bif decide (t7 > t1) then
              none
             else
              bif (!decide (t7 > t1)) then
              N0 n m0 (IntKind.wrap .i64 (t6 + (1 : Int))) t1 t2 o0_0
              else none
      else
       bif decide (t7 > t1) then
        bif decide (t7 > t1) then
         bif decide (t7 > t1) then
          none
         else
          bif decide (t7 > t1) then
           bif decide (t7 > t1) then
            none
           else
            bif decide (t7 > t1) then
             none
            else
             bif decide (t7 > t1) then
              none
             else
              bif (!decide (t7 > t1)) then
              N0 n m0 (IntKind.wrap .i64 (t6 + (1 : Int))) t1 t2 o0_0
              else none
          else
           bif decide (t7 > t1) then
            none
           else
            bif decide (t7 > t1) then
             none
            else
             bif decide (t7 > t1) then
              none
             else
              bif (!decide (t7 > t1)) then
              N0 n m0 (IntKind.wrap .i64 (t6 + (1 : Int))) t1 t2 o0_0
              else none
        else
         bif decide (t7 > t1) then
          none
         else
          bif decide (t7 > t1) then
           bif decide (t7 > t1) then
            none
           else
            bif decide (t7 > t1) then
             none
            else
             bif decide (t7 > t1) then
              none
             else
              bif (!decide (t7 > t1)) then
              N0 n m0 (IntKind.wrap .i64 (t6 + (1 : Int))) t1 t2 o0_0
              else none
          else
           bif decide (t7 > t1) then
            none
           else
            bif decide (t7 > t1) then
             none
            else
             bif decide (t7 > t1) then
              none
             else
              bif (!decide (t7 > t1)) then
              N0 n m0 (IntKind.wrap .i64 (t6 + (1 : Int))) t1 t2 o0_0
              else none
       else
        bif decide (t7 > t1) then
         none
        else
         bif decide (t7 > t1) then
          none
         else
          bif decide (t7 > t1) then
           bif decide (t7 > t1) then
            none
           else
            bif decide (t7 > t1) then
             none
            else
             bif decide (t7 > t1) then
              none
             else
              bif (!decide (t7 > t1)) then
              N0 n m0 (IntKind.wrap .i64 (t6 + (1 : Int))) t1 t2 o0_0
              else none
          else
           bif decide (t7 > t1) then
            none
           else
            bif decide (t7 > t1) then
             none
            else
             bif decide (t7 > t1) then
              none
             else
              bif (!decide (t7 > t1)) then
              N0 n m0 (IntKind.wrap .i64 (t6 + (1 : Int))) t1 t2 o0_0
              else none
     else none
    else
     bif decide (t7 > t1) then
      bif decide (t7 > t1) then
       bif decide (t7 > t1) then
        bif decide (t7 > t1) then
         bif decide (((0 : Int) ≤ (IntKind.wrap .i64 (t7 - (1 : Int)))) ∧ ((IntKind.wrap .i64 (t7 - (1 : Int))) < (((List.length o0_0) : Nat) : Int))) then
         bif decide (t7 > t1) then
           none
          else
           bif decide (t7 > t1) then
            bif decide (t7 > t1) then
             none
            else
             bif decide (t7 > t1) then
              none
             else
              bif (!decide (t7 > t1)) then
              N0 n m0 (IntKind.wrap .i64 (t6 + (1 : Int))) t1 t2 o0_0
              else none
           else
            bif decide (t7 > t1) then
             none
            else
             bif decide (t7 > t1) then
              none
             else
              bif (!decide (t7 > t1)) then
              N0 n m0 (IntKind.wrap .i64 (t6 + (1 : Int))) t1 t2 o0_0
              else none
         else none
        else
         bif decide (t7 > t1) then
          none
         else
          bif decide (t7 > t1) then
           none
          else
           bif decide (t7 > t1) then
            none
           else
            bif decide (t7 > t1) then
             none
            else
             bif (!decide (t7 > t1)) then
             N0 n m0 (IntKind.wrap .i64 (t6 + (1 : Int))) t1 t2 o0_0
             else none
       else
        bif decide (t7 > t1) then
         none
        else
         bif decide (t7 > t1) then
          none
         else
          bif decide (t7 > t1) then
           none
          else
           bif decide (t7 > t1) then
            none
           else
            bif decide (t7 > t1) then
             none
            else
             bif (!decide (t7 > t1)) then
             N0 n m0 (IntKind.wrap .i64 (t6 + (1 : Int))) t1 t2 o0_0
             else none
      else
       bif decide (t7 > t1) then
        none
       else
        bif decide (t7 > t1) then
         none
        else
         bif decide (t7 > t1) then
          none
         else
          bif decide (t7 > t1) then
           none
          else
           bif decide (t7 > t1) then
            none
           else
            bif decide (t7 > t1) then
             none
            else
             bif (!decide (t7 > t1)) then
             N0 n m0 (IntKind.wrap .i64 (t6 + (1 : Int))) t1 t2 o0_0
             else none
     else
      bif decide (t7 > t1) then
       bif decide (t7 > t1) then
        bif decide (t7 > t1) then
         none
        else
         bif decide (t7 > t1) then
          none
         else
          bif decide (t7 > t1) then
           none
          else
           bif decide (t7 > t1) then
            none
           else
            bif decide (t7 > t1) then
             none
            else
             bif (!decide (t7 > t1)) then
             N0 n m0 (IntKind.wrap .i64 (t6 + (1 : Int))) t1 t2 o0_0
             else none
       else
        bif decide (t7 > t1) then
         none
        else
         bif decide (t7 > t1) then
          none
         else
          bif decide (t7 > t1) then
           none
          else
           bif decide (t7 > t1) then
            none
           else
            bif decide (t7 > t1) then
             none
            else
             bif (!decide (t7 > t1)) then
             N0 n m0 (IntKind.wrap .i64 (t6 + (1 : Int))) t1 t2 o0_0
             else none
      else
       bif decide (t7 > t1) then
        none
       else
        bif decide (t7 > t1) then
         none
        else
         bif decide (t7 > t1) then
          none
         else
          bif decide (t7 > t1) then
           none
          else
           bif decide (t7 > t1) then
            none
           else
            bif decide (t7 > t1) then
             none
            else
             bif (!decide (t7 > t1)) then
             N0 n m0 (IntKind.wrap .i64 (t6 + (1 : Int))) t1 t2 o0_0
             else none
   else
    bif decide (t7 > t1) then
     none
    else
     bif decide (t7 > t1) then
      bif decide (t7 > t1) then
       bif decide (t7 > t1) then
        bif decide (t7 > t1) then
         bif decide (((0 : Int) ≤ (IntKind.wrap .i64 (t7 - (1 : Int)))) ∧ ((IntKind.wrap .i64 (t7 - (1 : Int))) < (((List.length o0_0) : Nat) : Int))) then
         bif decide (t7 > t1) then
           none
          else
           bif decide (t7 > t1) then
            bif decide (t7 > t1) then
             none
            else
             bif decide (t7 > t1) then
              none
             else
              bif (!decide (t7 > t1)) then
              N0 n m0 (IntKind.wrap .i64 (t6 + (1 : Int))) t1 t2 o0_0
              else none
           else
            bif decide (t7 > t1) then
             none
            else
             bif decide (t7 > t1) then
              none
             else
              bif (!decide (t7 > t1)) then
              N0 n m0 (IntKind.wrap .i64 (t6 + (1 : Int))) t1 t2 o0_0
              else none
         else none
        else
         bif decide (t7 > t1) then
          none
         else
          bif decide (t7 > t1) then
           none
          else
           bif decide (t7 > t1) then
            none
           else
            bif decide (t7 > t1) then
             none
            else
             bif (!decide (t7 > t1)) then
             N0 n m0 (IntKind.wrap .i64 (t6 + (1 : Int))) t1 t2 o0_0
             else none
       else
        bif decide (t7 > t1) then
         none
        else
         bif decide (t7 > t1) then
          none
         else
          bif decide (t7 > t1) then
           none
          else
           bif decide (t7 > t1) then
            none
           else
            bif decide (t7 > t1) then
             none
            else
             bif (!decide (t7 > t1)) then
             N0 n m0 (IntKind.wrap .i64 (t6 + (1 : Int))) t1 t2 o0_0
             else none
      else
       bif decide (t7 > t1) then
        none
       else
        bif decide (t7 > t1) then
         none
        else
         bif decide (t7 > t1) then
          none
         else
          bif decide (t7 > t1) then
           none
          else
           bif decide (t7 > t1) then
            none
           else
            bif decide (t7 > t1) then
             none
            else
             bif (!decide (t7 > t1)) then
             N0 n m0 (IntKind.wrap .i64 (t6 + (1 : Int))) t1 t2 o0_0
             else none
     else
      bif decide (t7 > t1) then
       bif decide (t7 > t1) then
        bif decide (t7 > t1) then
         none
        else
         bif decide (t7 > t1) then
          none
         else
          bif decide (t7 > t1) then
           none
          else
           bif decide (t7 > t1) then
            none
           else
            bif decide (t7 > t1) then
             none
            else
             bif (!decide (t7 > t1)) then
             N0 n m0 (IntKind.wrap .i64 (t6 + (1 : Int))) t1 t2 o0_0
             else none
       else
        bif decide (t7 > t1) then
         none
        else
         bif decide (t7 > t1) then
          none
         else
          bif decide (t7 > t1) then
           none
          else
           bif decide (t7 > t1) then
            none
           else
            bif decide (t7 > t1) then
             none
            else
             bif (!decide (t7 > t1)) then
             N0 n m0 (IntKind.wrap .i64 (t6 + (1 : Int))) t1 t2 o0_0
             else none
      else
       bif decide (t7 > t1) then
        none
       else
        bif decide (t7 > t1) then
         none
        else
         bif decide (t7 > t1) then
          none
         else
          bif decide (t7 > t1) then
           none
          else
           bif decide (t7 > t1) then
            none
           else
            bif decide (t7 > t1) then
             none
            else
             bif (!decide (t7 > t1)) then
             N0 n m0 (IntKind.wrap .i64 (t6 + (1 : Int))) t1 t2 o0_0
             else none
  else
   bif decide (t7 > t1) then
    bif decide (t7 > t1) then
     none
    else
     bif decide (t7 > t1) then
      bif decide (t7 > t1) then
       bif decide (t7 > t1) then
        bif decide (t7 > t1) then
         bif decide (((0 : Int) ≤ (IntKind.wrap .i64 (t7 - (1 : Int)))) ∧ ((IntKind.wrap .i64 (t7 - (1 : Int))) < (((List.length o0_0) : Nat) : Int))) then
         bif decide (t7 > t1) then
           none
          else
           bif decide (t7 > t1) then
            bif decide (t7 > t1) then
             none
            else
             bif decide (t7 > t1) then
              none
             else
              bif (!decide (t7 > t1)) then
              N0 n m0 (IntKind.wrap .i64 (t6 + (1 : Int))) t1 t2 o0_0
              else none
           else
            bif decide (t7 > t1) then
             none
            else
             bif decide (t7 > t1) then
              none
             else
              bif (!decide (t7 > t1)) then
              N0 n m0 (IntKind.wrap .i64 (t6 + (1 : Int))) t1 t2 o0_0
              else none
         else none
        else
         bif decide (t7 > t1) then
          none
         else
          bif decide (t7 > t1) then
           none
          else
           bif decide (t7 > t1) then
            none
           else
            bif decide (t7 > t1) then
             none
            else
             bif (!decide (t7 > t1)) then
             N0 n m0 (IntKind.wrap .i64 (t6 + (1 : Int))) t1 t2 o0_0
             else none
       else
        bif decide (t7 > t1) then
         none
        else
         bif decide (t7 > t1) then
          none
         else
          bif decide (t7 > t1) then
           none
          else
           bif decide (t7 > t1) then
            none
           else
            bif decide (t7 > t1) then
             none
            else
             bif (!decide (t7 > t1)) then
             N0 n m0 (IntKind.wrap .i64 (t6 + (1 : Int))) t1 t2 o0_0
             else none
      else
       bif decide (t7 > t1) then
        none
       else
        bif decide (t7 > t1) then
         none
        else
         bif decide (t7 > t1) then
          none
         else
          bif decide (t7 > t1) then
           none
          else
           bif decide (t7 > t1) then
            none
           else
            bif decide (t7 > t1) then
             none
            else
             bif (!decide (t7 > t1)) then
             N0 n m0 (IntKind.wrap .i64 (t6 + (1 : Int))) t1 t2 o0_0
             else none
     else
      bif decide (t7 > t1) then
       bif decide (t7 > t1) then
        bif decide (t7 > t1) then
         none
        else
         bif decide (t7 > t1) then
          none
         else
          bif decide (t7 > t1) then
           none
          else
           bif decide (t7 > t1) then
            none
           else
            bif decide (t7 > t1) then
             none
            else
             bif (!decide (t7 > t1)) then
             N0 n m0 (IntKind.wrap .i64 (t6 + (1 : Int))) t1 t2 o0_0
             else none
       else
        bif decide (t7 > t1) then
         none
        else
         bif decide (t7 > t1) then
          none
         else
          bif decide (t7 > t1) then
           none
          else
           bif decide (t7 > t1) then
            none
           else
            bif decide (t7 > t1) then
             none
            else
             bif (!decide (t7 > t1)) then
             N0 n m0 (IntKind.wrap .i64 (t6 + (1 : Int))) t1 t2 o0_0
             else none
      else
       bif decide (t7 > t1) then
        none
       else
        bif decide (t7 > t1) then
         none
        else
         bif decide (t7 > t1) then
          none
         else
          bif decide (t7 > t1) then
           none
          else
           bif decide (t7 > t1) then
            none
           else
            bif decide (t7 > t1) then
             none
            else
             bif (!decide (t7 > t1)) then
             N0 n m0 (IntKind.wrap .i64 (t6 + (1 : Int))) t1 t2 o0_0
             else none
   else
    bif decide (t7 > t1) then
     none
    else
     bif decide (t7 > t1) then
      bif decide (t7 > t1) then
       bif decide (t7 > t1) then
        bif decide (t7 > t1) then
         bif decide (((0 : Int) ≤ (IntKind.wrap .i64 (t7 - (1 : Int)))) ∧ ((IntKind.wrap .i64 (t7 - (1 : Int))) < (((List.length o0_0) : Nat) : Int))) then
         bif decide (t7 > t1) then
           none
          else
           bif decide (t7 > t1) then
            bif decide (t7 > t1) then
             none
            else
             bif decide (t7 > t1) then
              none
             else
              bif (!decide (t7 > t1)) then
              N0 n m0 (IntKind.wrap .i64 (t6 + (1 : Int))) t1 t2 o0_0
              else none
           else
            bif decide (t7 > t1) then
             none
            else
             bif decide (t7 > t1) then
              none
             else
              bif (!decide (t7 > t1)) then
              N0 n m0 (IntKind.wrap .i64 (t6 + (1 : Int))) t1 t2 o0_0
              else none
         else none
        else
         bif decide (t7 > t1) then
          none
         else
          bif decide (t7 > t1) then
           none
          else
           bif decide (t7 > t1) then
            none
           else
            bif decide (t7 > t1) then
             none
            else
             bif (!decide (t7 > t1)) then
             N0 n m0 (IntKind.wrap .i64 (t6 + (1 : Int))) t1 t2 o0_0
             else none
       else
        bif decide (t7 > t1) then
         none
        else
         bif decide (t7 > t1) then
          none
         else
          bif decide (t7 > t1) then
           none
          else
           bif decide (t7 > t1) then
            none
           else
            bif decide (t7 > t1) then
             none
            else
             bif (!decide (t7 > t1)) then
             N0 n m0 (IntKind.wrap .i64 (t6 + (1 : Int))) t1 t2 o0_0
             else none
      else
       bif decide (t7 > t1) then
        none
       else
        bif decide (t7 > t1) then
         none
        else
         bif decide (t7 > t1) then
          none
         else
          bif decide (t7 > t1) then
           none
          else
           bif decide (t7 > t1) then
            none
           else
            bif decide (t7 > t1) then
             none
            else
             bif (!decide (t7 > t1)) then
             N0 n m0 (IntKind.wrap .i64 (t6 + (1 : Int))) t1 t2 o0_0
             else none
     else
      bif decide (t7 > t1) then
       bif decide (t7 > t1) then
        bif decide (t7 > t1) then
         none
        else
         bif decide (t7 > t1) then
          none
         else
          bif decide (t7 > t1) then
           none
          else
           bif decide (t7 > t1) then
            none
           else
            bif decide (t7 > t1) then
             none
            else
             bif (!decide (t7 > t1)) then
             N0 n m0 (IntKind.wrap .i64 (t6 + (1 : Int))) t1 t2 o0_0
             else none
       else
        bif decide (t7 > t1) then
         none
        else
         bif decide (t7 > t1) then
          none
         else
          bif decide (t7 > t1) then
           none
          else
           bif decide (t7 > t1) then
            none
           else
            bif decide (t7 > t1) then
             none
            else
             bif (!decide (t7 > t1)) then
             N0 n m0 (IntKind.wrap .i64 (t6 + (1 : Int))) t1 t2 o0_0
             else none
      else
       bif decide (t7 > t1) then
        none
       else
        bif decide (t7 > t1) then
         none
        else
         bif decide (t7 > t1) then
          none
         else
          bif decide (t7 > t1) then
           none
          else
           bif decide (t7 > t1) then
            none
           else
            bif decide (t7 > t1) then
             none
            else
             bif (!decide (t7 > t1)) then
             N0 n m0 (IntKind.wrap .i64 (t6 + (1 : Int))) t1 t2 o0_0
             else none := by kernel_rfl
noncomputable def R (n : Nat) (O : List Int) : Res := run (E n) n Try.f108 L (us O) (HA O) k0
theorem R_eq (n : Nat) (O : List Int) : R n O =
  N0 n n (1 : Int) (0 : Int) (2 : Int) O := by kernel_rfl
theorem ans {n : Nat} {O : List Int} (hA : Sounds Try.prog (A n)) {u : U} {H : Heap} (h : R n O = some (u, H)) : Answers Try.prog 108 (us O) (HA O) u H := answers_env tabOk mixed hA Try.func108 (by kernel_rfl) (by kernel_rfl) h
end I_ins

namespace I_pdq
abbrev num : Nat := 87
noncomputable def A (n : Nat) : List (Nat × Con) := ((fun (n : Nat) => ([(108, CIns2)] : List (Nat × Con)))) n
noncomputable abbrev E (n : Nat) : Env (U × Heap) := envC tab ios (A n)
def L : List (List Nat) := [[3, 2, 0, 1, 9, 8]]
abbrev us (O : List Int) : List U := (((fun (O : List Int) => (([.own 0, .int .i64 0, .int .i64 2, .int .i64 2] : List U), ([(0, ⟨[.ints .u16 O], true⟩)] : Heap)))) O).1
abbrev HA (O : List Int) : Heap := (((fun (O : List Int) => (([.own 0, .int .i64 0, .int .i64 2, .int .i64 2] : List U), ([(0, ⟨[.ints .u16 O], true⟩)] : Heap)))) O).2
def S0 (t3 : Int) (t2 : Int) (t1 : Int) (t9 : Bool) (t8 : Bool) (o0_0 : List Int) : St := ⟨[(3, .int .i64 t3), (2, .int .i64 t2), (0, .own 0), (1, .int .i64 t1), (9, .bool t9), (8, .bool t8)], 134, [(0, ⟨[.ints .u16 o0_0], true⟩)], [0], 1⟩
noncomputable def N0 (n : Nat)  (m0 : Nat) (t3 : Int) (t2 : Int) (t1 : Int) (t9 : Bool) (t8 : Bool) (o0_0 : List Int) : Res := nodeRun (E n) n Try.f87 L k0 [true, true, false] [] m0 (S0 t3 t2 t1 t9 t8 o0_0)
theorem N0_succ (n : Nat)  (m0 : Nat) (t3 : Int) (t2 : Int) (t1 : Int) (t9 : Bool) (t8 : Bool) (o0_0 : List Int) : N0 n  (m0 + 1) t3 t2 t1 t9 t8 o0_0 =
  bif decide ((IntKind.wrap .i64 (t2 - t1)) ≤ (12 : Int)) then
   pif ((((List.length o0_0) = 2) ∧ ((t1 = (0 : Int)) ∧ (t2 = (2 : Int))))) (
   some (.tup [], [(0, ⟨[.ints .u16 (sort2 o0_0)], true⟩)]))
  else
   bif (t3 == (0 : Int)) then
    none
   else
    bif (!t8) then
    none
    else none := by kernel_rfl
noncomputable def R (n : Nat) (O : List Int) : Res := run (E n) n Try.f87 L (us O) (HA O) k0
theorem R_eq (n : Nat) (O : List Int) : R n O =
  N0 n n (2 : Int) (2 : Int) (0 : Int) true true O := by kernel_rfl
theorem ans {n : Nat} {O : List Int} (hA : Sounds Try.prog (A n)) {u : U} {H : Heap} (h : R n O = some (u, H)) : Answers Try.prog 87 (us O) (HA O) u H := answers_env tabOk mixed hA Try.func87 (by kernel_rfl) (by kernel_rfl) h
end I_pdq

namespace I_sort
abbrev num : Nat := 48
noncomputable def A (n : Nat) : List (Nat × Con) := ((fun (n : Nat) => ([(87, CPdq2), (88, CLen2)] : List (Nat × Con)))) n
noncomputable abbrev E (n : Nat) : Env (U × Heap) := envC tab ios (A n)
def L : List (List Nat) := []
abbrev us (O : List Int) : List U := (((fun (O : List Int) => (([.own 0] : List U), ([(0, ⟨[.ints .u16 O], true⟩)] : Heap)))) O).1
abbrev HA (O : List Int) : Heap := (((fun (O : List Int) => (([.own 0] : List U), ([(0, ⟨[.ints .u16 O], true⟩)] : Heap)))) O).2
noncomputable def R (n : Nat) (O : List Int) : Res := run (E n) n Try.f48 L (us O) (HA O) k0
theorem R_eq (n : Nat) (O : List Int) : R n O =
  pif (((IntKind.wrap .u64 (((List.length O) : Nat) : Int)) = (2 : Int))) (
  pif ((((List.length O) = 2) ∧ (((0 : Int) = (0 : Int)) ∧ (((((List.length O) : Nat) : Int) = (2 : Int)) ∧ ((2 : Int) = (2 : Int)))))) (
  some (.tup [], [(0, ⟨[.ints .u16 (sort2 O)], true⟩)]))) := by kernel_rfl
theorem ans {n : Nat} {O : List Int} (hA : Sounds Try.prog (A n)) {u : U} {H : Heap} (h : R n O = some (u, H)) : Answers Try.prog 48 (us O) (HA O) u H := answers_env tabOk mixed hA Try.func48 (by kernel_rfl) (by kernel_rfl) h
end I_sort

namespace S_quad
abbrev num : Nat := 9
noncomputable def A (n : Nat) (fm : Int → Int → Int) (fi : Int → Int) (fx : Int → Int) (fk : Int → Bool) : List (Nat × Con) := ((fun (n : Nat) (fm : Int → Int → Int) (fi fx : Int → Int) (fk : Int → Bool) => ([(42, CPow), (43, CInvF fi), (40, CHalfF fx fk), (44, CMulF fm)] : List (Nat × Con)))) n fm fi fx fk
noncomputable abbrev E (n : Nat) (fm : Int → Int → Int) (fi : Int → Int) (fx : Int → Int) (fk : Int → Bool) : Env (U × Heap) := envC tab ios (A n fm fi fx fk)
def L : List (List Nat) := []
abbrev us (p : Int) (q : Int) : List U := (((fun (p q : Int) => (([.int .u16 p, .int .u16 q] : List U), ([] : Heap)))) p q).1
abbrev HA (p : Int) (q : Int) : Heap := (((fun (p q : Int) => (([.int .u16 p, .int .u16 q] : List U), ([] : Heap)))) p q).2
noncomputable def R (n : Nat) (fm : Int → Int → Int) (fi : Int → Int) (fx : Int → Int) (fk : Int → Bool) (p : Int) (q : Int) : Res := run (E n fm fi fx fk) n Try.f9 L (us p q) (HA p q) k0
theorem R_eq (n : Nat) (fm : Int → Int → Int) (fi : Int → Int) (fx : Int → Int) (fk : Int → Bool) (p : Int) (q : Int) : R n fm fi fx fk p q =
  bif (p == (0 : Int)) then
   pif (((u16 q) ∧ (expo (32768 : Int)))) (
   some (.own 0, [(0, ⟨[.ints .u16 [(powI q (32768 : Int))]], true⟩)]))
  else
   pif ((u16 p)) (
   pif (((u16 (fi p)) ∧ (u16 (fi p)))) (
   pif (((u16 q) ∧ (u16 (fm (fi p) (fi p))))) (
   pif ((u16 (fm q (fm (fi p) (fi p))))) (
   bif (!(fk (fm q (fm (fi p) (fi p))))) then
    some (.own 0, [(0, ⟨[.ints .u16 []], true⟩)])
   else
    pif (((u16 p) ∧ (u16 (fx (fm q (fm (fi p) (fi p))))))) (
    bif decide ((intBitsV .xor .u16 (fm p (fx (fm q (fm (fi p) (fi p))))) p) < (fm p (fx (fm q (fm (fi p) (fi p)))))) then
     some (.own 0, [(0, ⟨[.ints .u16 (List.set (List.set (List.replicate 2 (0 : Int)) 0 (intBitsV .xor .u16 (fm p (fx (fm q (fm (fi p) (fi p))))) p)) 1 (fm p (fx (fm q (fm (fi p) (fi p))))))], true⟩)])
    else
     some (.own 0, [(0, ⟨[.ints .u16 (List.set (List.set (List.replicate 2 (0 : Int)) 0 (fm p (fx (fm q (fm (fi p) (fi p)))))) 1 (intBitsV .xor .u16 (fm p (fx (fm q (fm (fi p) (fi p))))) p))], true⟩)])))))) := by kernel_rfl
theorem ans {n : Nat} {fm : Int → Int → Int} {fi : Int → Int} {fx : Int → Int} {fk : Int → Bool} {p : Int} {q : Int} (hA : Sounds Try.prog (A n fm fi fx fk)) {u : U} {H : Heap} (h : R n fm fi fx fk p q = some (u, H)) : Answers Try.prog 9 (us p q) (HA p q) u H := answers_env tabOk mixed hA Try.func9 (by kernel_rfl) (by kernel_rfl) h
end S_quad

namespace I_quad
abbrev num : Nat := 10
noncomputable def A (n : Nat) (fm : Int → Int → Int) (fi : Int → Int) (fx : Int → Int) (fk : Int → Bool) : List (Nat × Con) := ((fun (n : Nat) (fm : Int → Int → Int) (fi fx : Int → Int) (fk : Int → Bool) => ([(45, CRoot), (47, CInvF fi), (41, CHalfF fx fk), (46, CMulF fm), (48, CSort2)] : List (Nat × Con)))) n fm fi fx fk
noncomputable abbrev E (n : Nat) (fm : Int → Int → Int) (fi : Int → Int) (fx : Int → Int) (fk : Int → Bool) : Env (U × Heap) := envC tab ios (A n fm fi fx fk)
def L : List (List Nat) := []
abbrev us (p : Int) (q : Int) : List U := (((fun (p q : Int) => (([.int .u16 p, .int .u16 q] : List U), ([] : Heap)))) p q).1
abbrev HA (p : Int) (q : Int) : Heap := (((fun (p q : Int) => (([.int .u16 p, .int .u16 q] : List U), ([] : Heap)))) p q).2
noncomputable def R (n : Nat) (fm : Int → Int → Int) (fi : Int → Int) (fx : Int → Int) (fk : Int → Bool) (p : Int) (q : Int) : Res := run (E n fm fi fx fk) n Try.f10 L (us p q) (HA p q) k0
theorem R_eq (n : Nat) (fm : Int → Int → Int) (fi : Int → Int) (fx : Int → Int) (fk : Int → Bool) (p : Int) (q : Int) : R n fm fi fx fk p q =
  bif (p == (0 : Int)) then
   pif ((u16 q)) (
   some (.own 0, [(0, ⟨[.ints .u16 [(powI q (32768 : Int))]], true⟩)]))
  else
   pif (((u16 p) ∧ (u16 p))) (
   pif ((u16 (fm p p))) (
   pif (((u16 q) ∧ (u16 (fi (fm p p))))) (
   pif ((u16 (fm q (fi (fm p p))))) (
   bif (!(fk (fm q (fi (fm p p))))) then
    some (.own 0, [(0, ⟨[.ints .u16 []], true⟩)])
   else
    pif (((u16 p) ∧ (u16 (fx (fm q (fi (fm p p))))))) (
    pif (((u16 p) ∧ (u16 (intBitsV .xor .u16 (fx (fm q (fi (fm p p)))) (1 : Int))))) (
    pif ((2 = 2)) (
    some (.own 0, [(0, ⟨[.ints .u16 (sort2 (List.set (List.set (List.replicate 2 (0 : Int)) 0 (fm p (fx (fm q (fi (fm p p)))))) 1 (fm p (intBitsV .xor .u16 (fx (fm q (fi (fm p p)))) (1 : Int)))))], true⟩)])))))))) := by kernel_rfl
theorem ans {n : Nat} {fm : Int → Int → Int} {fi : Int → Int} {fx : Int → Int} {fk : Int → Bool} {p : Int} {q : Int} (hA : Sounds Try.prog (A n fm fi fx fk)) {u : U} {H : Heap} (h : R n fm fi fx fk p q = some (u, H)) : Answers Try.prog 10 (us p q) (HA p q) u H := answers_env tabOk mixed hA Try.func10 (by kernel_rfl) (by kernel_rfl) h
end I_quad

namespace L_quad
abbrev num : Nat := 4
noncomputable def A (n : Nat) : List (Nat × Con) := ((fun (n : Nat) => ([(9, CQuad), (10, CQuad), (11, CEqU), (12, CMarkU), (13, CHeldU)] : List (Nat × Con)))) n
noncomputable abbrev E (n : Nat) : Env (U × Heap) := envC tab ios (A n)
def L : List (List Nat) := []
abbrev us (p : Int) (q : Int) : List U := (((fun (p q : Int) => (([.int .u16 p, .int .u16 q] : List U), ([] : Heap)))) p q).1
abbrev HA (p : Int) (q : Int) : Heap := (((fun (p q : Int) => (([.int .u16 p, .int .u16 q] : List U), ([] : Heap)))) p q).2
noncomputable def R (n : Nat) (p : Int) (q : Int) : Res := run (E n) n Try.f4 L (us p q) (HA p q) k0
theorem R_eq (n : Nat) (p : Int) (q : Int) : R n p q =
  pif (((u16 p) ∧ (u16 q))) (
  pif (((u16 p) ∧ (u16 q))) (
  pif (((ul (qr p q) (List.length (qr p q))) ∧ (ul (qr p q) (List.length (qr p q))))) (
  bif (!(eqI (qr p q) (qr p q))) then
   some (.bool false, [])
  else
   pif (((ul (qr p q) (List.length (qr p q))) ∧ (few (1 : Int)))) (
   pif (((ul (mkU (1 : Int) (qr p q)) (List.length (mkU (1 : Int) (qr p q)))) ∧ ((few (1 : Int)) ∧ (markedU (1 : Int) (mkU (1 : Int) (qr p q)))))) (
   bif ((cnt1 (1 : Int) (mkU (1 : Int) (qr p q))) != (cnt1 (1 : Int) (qr p q))) then
    some (.bool false, [])
   else
    pif (((u16 p) ∧ (u16 q))) (
    pif (((ul (qr p q) (List.length (qr p q))) ∧ (ul (qr p q) (List.length (qr p q))))) (
    bif (!(eqI (qr p q) (qr p q))) then
     some (.bool false, [])
    else
     pif (((ul (mkU (1 : Int) (qr p q)) (List.length (mkU (1 : Int) (qr p q)))) ∧ ((few (1 : Int)) ∧ (markedU (1 : Int) (mkU (1 : Int) (qr p q)))))) (
     bif ((cnt1 (1 : Int) (mkU (1 : Int) (qr p q))) != (cnt1 (1 : Int) (qr p q))) then
      some (.bool false, [])
     else
      some (.bool true, []))))))))) := by kernel_rfl
theorem ans {n : Nat} {p : Int} {q : Int} (hA : Sounds Try.prog (A n)) {u : U} {H : Heap} (h : R n p q = some (u, H)) : Answers Try.prog 4 (us p q) (HA p q) u H := answers_env tabOk mixed hA Try.func4 (by kernel_rfl) (by kernel_rfl) h
end L_quad

end Go.VM
