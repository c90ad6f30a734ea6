/- Written by a program of this session (Lift.lean): what the evaluator comes to, function by function; the kernel checks it. The conditions: those of the contracts. -/
import Derived.Test.YtblhjcolknooeaaVmP4
import Derived.Test.YtblhjcolknooeaaMatT
import Derived.Test.YtblhjcolknooeaaMatTS
import Derived.Test.YtblhjcolknooeaaSolvLConM
import Derived.KernelRfl
set_option linter.unusedVariables false
set_option linter.unusedSimpArgs false
set_option linter.unusedSectionVars false
namespace Go.VM
open Go Go.Proofs Go.Fn NimF
set_option linter.unusedVariables false
set_option maxRecDepth 100000
namespace L_Solved
abbrev num : Nat := 12
noncomputable def A (n : Nat) : List (Nat × Con) := ((fun (n : Nat) => ([(39, CA2Mat), (40, CA2Vec), (41, CVApp), (42, CVApp), (29, CVSolve), (27, CVSolve), (43, CVCheck), (32, CVKer), (31, CVKer), (26, CVRed), (25, CVRed), (24, CVIsRed), (22, CVRank), (44, CVSame), (45, CVSwap), (15, CVAdd), (13, CVAddS)] : List (Nat × Con)))) n
noncomputable def I : Inl := ([(38, Try.f38, [])] : Inl)
theorem inl_ok : InlOk Try.prog I := (inl_cons Try.func38 (by kernel_rfl) (by kernel_rfl) inl_nil)
noncomputable abbrev E (n : Nat) : Env (U × Heap) := envI tab ios (A n) I n 1
def L : List (List Nat) := [[32, 5, 6, 36, 24]]
abbrev us (B : List Int) (D : List Int) (n0 : Nat) (n1 : Nat) : List U := (((fun (B D : List Int) (n0 n1 : Nat) => (([.rsl [.ints .u8 B] n0, .rsl [.ints .u8 D] n1] : List U), ([] : Heap)))) B D n0 n1).1
abbrev HA (B : List Int) (D : List Int) (n0 : Nat) (n1 : Nat) : Heap := (((fun (B D : List Int) (n0 n1 : Nat) => (([.rsl [.ints .u8 B] n0, .rsl [.ints .u8 D] n1] : List U), ([] : Heap)))) B D n0 n1).2
def S0 (t32 : Int) (t36 : Int) (o0_0 : Int) (o0_1 : Int) (o0_2 : List Int) (o1_0 : List Int) (o2_0 : List (List Int)) : St := ⟨[(32, .int .i64 t32), (5, .ptr 0 0 0 0 1), (6, .ptr 1 0 0 0 6), (36, .int .i64 t36), (24, .own 2)], 403, [(0, ⟨[.ints .i8 [o0_0], .ints .i8 [o0_1], .vecs .u16 36 [o0_2]], true⟩), (1, ⟨[.vecs .u16 6 [o1_0]], true⟩), (2, ⟨[.vecs .u16 6 o2_0], true⟩)], [0, 1, 2], 0⟩
noncomputable def N0 (n : Nat)  (m0 : Nat) (t32 : Int) (t36 : Int) (o0_0 : Int) (o0_1 : Int) (o0_2 : List Int) (o1_0 : List Int) (o2_0 : List (List Int)) : Res := nodeRun (E n) n Try.f12 L k0 [true, true, true, true, true, true, true, true, true, true, true, true, true, true, true, true, true, true, true, true, true, true, false, true, false] [] m0 (S0 t32 t36 o0_0 o0_1 o0_2 o1_0 o2_0)
theorem N0_succ (n : Nat)  (m0 : Nat) (t32 : Int) (t36 : Int) (o0_0 : Int) (o0_1 : Int) (o0_2 : List Int) (o1_0 : List Int) (o2_0 : List (List Int)) : N0 n  (m0 + 1) t32 t36 o0_0 o0_1 o0_2 o1_0 o2_0 =
  bif decide (t36 < (((List.length o2_0) : Nat) : Int)) then
   bif decide (((0 : Int) ≤ t36) ∧ (t36 < (((List.length o2_0) : Nat) : Int))) then
   pif ((okApp o0_0 o0_1 o0_2 (List.getD o2_0 (Int.toNat t36) []))) (
    bif (cond true (!(((apV o0_0 o0_1 o0_2 (List.getD o2_0 (Int.toNat t36) [])) == (List.replicate 6 (0 : Int))) && true)) (((apV o0_0 o0_1 o0_2 (List.getD o2_0 (Int.toNat t36) [])) == (List.replicate 6 (0 : Int))) && true)) then
     some (.bool false, [])
    else
     bif decide (((0 : Int) ≤ t36) ∧ (t36 < (((List.length o2_0) : Nat) : Int))) then
     bif (cond false (!(((List.getD o2_0 (Int.toNat t36) []) == (List.replicate 6 (0 : Int))) && true)) (((List.getD o2_0 (Int.toNat t36) []) == (List.replicate 6 (0 : Int))) && true)) then
       some (.bool false, [])
      else
       N0 n m0 t32 (IntKind.wrap .i64 (t36 + (1 : Int))) o0_0 o0_1 o0_2 o1_0 o2_0
     else none)
   else none
  else
   pif ((okSw o0_0 o0_1 o0_2 (0 : Int) (IntKind.wrap .i64 ((IntKind.wrap .i64 o0_0) - (1 : Int))))) (
   pif ((inMat o0_0 o0_1 (swL o0_0 o0_2))) (
   pif ((okSw o0_0 o0_1 (swL o0_0 o0_2) (0 : Int) (IntKind.wrap .i64 ((IntKind.wrap .i64 o0_0) - (1 : Int))))) (
   bif ((rkI o0_0 o0_1 (swL o0_0 o0_2)) != t32) then
    some (.bool false, [])
   else
    bif (cond true (!((o0_0 == o0_0) && ((o0_1 == o0_1) && (((swL o0_0 (swL o0_0 o0_2)) == o0_2) && true)))) ((o0_0 == o0_0) && ((o0_1 == o0_1) && (((swL o0_0 (swL o0_0 o0_2)) == o0_2) && true)))) then
     some (.bool false, [])
    else
     pif ((okAd o0_0 o0_1 o0_2 (0 : Int) (IntKind.wrap .i64 ((IntKind.wrap .i64 o0_0) - (1 : Int))) (List.getD o1_0 0 (0 : Int)))) (
     bif (o0_0 == (1 : Int)) then
      some (.bool ((adC o0_0) == (4 : Int)), [])
     else
      pif ((okAd2 o0_0 o0_1 o0_2 (0 : Int) (IntKind.wrap .i64 ((IntKind.wrap .i64 o0_0) - (1 : Int))) (List.getD o1_0 0 (0 : Int)))) (
      pif ((okAd o0_0 o0_1 (adL o0_0 o0_1 o0_2 (List.getD o1_0 0 (0 : Int))) (0 : Int) (IntKind.wrap .i64 ((IntKind.wrap .i64 o0_0) - (1 : Int))) (List.getD o1_0 0 (0 : Int)))) (
      pif ((inMat o0_0 o0_1 (adL o0_0 o0_1 o0_2 (List.getD o1_0 0 (0 : Int))))) (
      bif ((adC o0_0) == (0 : Int)) then
       bif ((adC o0_0) == (0 : Int)) then
        bif (cond false (!(((okR (adC o0_0) o0_0) == o0_0) && (((okR (adC o0_0) o0_1) == o0_1) && (((okL (adC o0_0) (adL o0_0 o0_1 o0_2 (List.getD o1_0 0 (0 : Int)))) == (adL o0_0 o0_1 o0_2 (List.getD o1_0 0 (0 : Int)))) && true)))) (((okR (adC o0_0) o0_0) == o0_0) && (((okR (adC o0_0) o0_1) == o0_1) && (((okL (adC o0_0) (adL o0_0 o0_1 o0_2 (List.getD o1_0 0 (0 : Int)))) == (adL o0_0 o0_1 o0_2 (List.getD o1_0 0 (0 : Int)))) && true)))) then
         bif ((adC o0_0) == (0 : Int)) then
          bif (cond false (!(((okR (adC o0_0) o0_0) == o0_0) && (((okR (adC o0_0) o0_1) == o0_1) && (((okL (adC o0_0) (adL o0_0 o0_1 (adL o0_0 o0_1 o0_2 (List.getD o1_0 0 (0 : Int))) (List.getD o1_0 0 (0 : Int)))) == o0_2) && true)))) (((okR (adC o0_0) o0_0) == o0_0) && (((okR (adC o0_0) o0_1) == o0_1) && (((okL (adC o0_0) (adL o0_0 o0_1 (adL o0_0 o0_1 o0_2 (List.getD o1_0 0 (0 : Int))) (List.getD o1_0 0 (0 : Int)))) == o0_2) && true)))) then
           some (.bool ((rkI o0_0 o0_1 (adL o0_0 o0_1 o0_2 (List.getD o1_0 0 (0 : Int)))) == t32), [])
          else
           some (.bool false, [])
         else
          some (.bool false, [])
        else
         some (.bool false, [])
       else
        some (.bool false, [])
      else
       some (.bool false, [])))))))) := by kernel_rfl
noncomputable def R (n : Nat) (B : List Int) (D : List Int) (n0 : Nat) (n1 : Nat) : Res := run (E n) n Try.f12 L (us B D n0 n1) (HA B D n0 n1) k0
theorem R_eq (n : Nat) (B : List Int) (D : List Int) (n0 : Nat) (n1 : Nat) : R n B D n0 n1 =
  bif decide (((n0 : Nat) : Int) > (3000 : Int)) then
   some (.bool true, [])
  else
   bif decide (((n1 : Nat) : Int) > (3000 : Int)) then
    some (.bool true, [])
   else
    pif ((src B n0)) (
    pif (((src D n1) ∧ (four (IntKind.wrap .i64 (drC B (0 : Int) (0 : Int)))))) (
    pif ((okApp (drR B (0 : Int) (0 : Int)) (drC B (0 : Int) (0 : Int)) (drL B (0 : Int) (0 : Int)) (veL D (IntKind.wrap .i64 (drC B (0 : Int) (0 : Int)))))) (
    pif ((okApp (drR B (0 : Int) (0 : Int)) (drC B (0 : Int) (0 : Int)) (drL B (0 : Int) (0 : Int)) (veL D (IntKind.wrap .i64 (drC B (0 : Int) (0 : Int)))))) (
    pif ((okSol (drR B (0 : Int) (0 : Int)) (drC B (0 : Int) (0 : Int)) (drL B (0 : Int) (0 : Int)) (apV (drR B (0 : Int) (0 : Int)) (drC B (0 : Int) (0 : Int)) (drL B (0 : Int) (0 : Int)) (veL D (IntKind.wrap .i64 (drC B (0 : Int) (0 : Int))))))) (
    pif ((okSol (drR B (0 : Int) (0 : Int)) (drC B (0 : Int) (0 : Int)) (drL B (0 : Int) (0 : Int)) (apV (drR B (0 : Int) (0 : Int)) (drC B (0 : Int) (0 : Int)) (drL B (0 : Int) (0 : Int)) (veL D (IntKind.wrap .i64 (drC B (0 : Int) (0 : Int))))))) (
    pif ((okChk (drR B (0 : Int) (0 : Int)) (drC B (0 : Int) (0 : Int)) (drL B (0 : Int) (0 : Int)) (solL (drR B (0 : Int) (0 : Int)) (drC B (0 : Int) (0 : Int)) (drL B (0 : Int) (0 : Int)) (apV (drR B (0 : Int) (0 : Int)) (drC B (0 : Int) (0 : Int)) (drL B (0 : Int) (0 : Int)) (veL D (IntKind.wrap .i64 (drC B (0 : Int) (0 : Int)))))) (apV (drR B (0 : Int) (0 : Int)) (drC B (0 : Int) (0 : Int)) (drL B (0 : Int) (0 : Int)) (veL D (IntKind.wrap .i64 (drC B (0 : Int) (0 : Int))))))) (
    bif (cond true (!(((apV (drR B (0 : Int) (0 : Int)) (drC B (0 : Int) (0 : Int)) (drL B (0 : Int) (0 : Int)) (veL D (IntKind.wrap .i64 (drC B (0 : Int) (0 : Int))))) == (apV (drR B (0 : Int) (0 : Int)) (drC B (0 : Int) (0 : Int)) (drL B (0 : Int) (0 : Int)) (veL D (IntKind.wrap .i64 (drC B (0 : Int) (0 : Int)))))) && true)) (((apV (drR B (0 : Int) (0 : Int)) (drC B (0 : Int) (0 : Int)) (drL B (0 : Int) (0 : Int)) (veL D (IntKind.wrap .i64 (drC B (0 : Int) (0 : Int))))) == (apV (drR B (0 : Int) (0 : Int)) (drC B (0 : Int) (0 : Int)) (drL B (0 : Int) (0 : Int)) (veL D (IntKind.wrap .i64 (drC B (0 : Int) (0 : Int)))))) && true)) then
     some (.bool false, [])
    else
     bif ((solK (drR B (0 : Int) (0 : Int)) (drC B (0 : Int) (0 : Int)) (drL B (0 : Int) (0 : Int)) (apV (drR B (0 : Int) (0 : Int)) (drC B (0 : Int) (0 : Int)) (drL B (0 : Int) (0 : Int)) (veL D (IntKind.wrap .i64 (drC B (0 : Int) (0 : Int)))))) != (solK (drR B (0 : Int) (0 : Int)) (drC B (0 : Int) (0 : Int)) (drL B (0 : Int) (0 : Int)) (apV (drR B (0 : Int) (0 : Int)) (drC B (0 : Int) (0 : Int)) (drL B (0 : Int) (0 : Int)) (veL D (IntKind.wrap .i64 (drC B (0 : Int) (0 : Int))))))) then
      some (.bool false, [])
     else
      bif ((solK (drR B (0 : Int) (0 : Int)) (drC B (0 : Int) (0 : Int)) (drL B (0 : Int) (0 : Int)) (apV (drR B (0 : Int) (0 : Int)) (drC B (0 : Int) (0 : Int)) (drL B (0 : Int) (0 : Int)) (veL D (IntKind.wrap .i64 (drC B (0 : Int) (0 : Int)))))) != (0 : Int)) then
       some (.bool false, [])
      else
       bif (cond true (!(((solL (drR B (0 : Int) (0 : Int)) (drC B (0 : Int) (0 : Int)) (drL B (0 : Int) (0 : Int)) (apV (drR B (0 : Int) (0 : Int)) (drC B (0 : Int) (0 : Int)) (drL B (0 : Int) (0 : Int)) (veL D (IntKind.wrap .i64 (drC B (0 : Int) (0 : Int)))))) == (solL (drR B (0 : Int) (0 : Int)) (drC B (0 : Int) (0 : Int)) (drL B (0 : Int) (0 : Int)) (apV (drR B (0 : Int) (0 : Int)) (drC B (0 : Int) (0 : Int)) (drL B (0 : Int) (0 : Int)) (veL D (IntKind.wrap .i64 (drC B (0 : Int) (0 : Int))))))) && true)) (((solL (drR B (0 : Int) (0 : Int)) (drC B (0 : Int) (0 : Int)) (drL B (0 : Int) (0 : Int)) (apV (drR B (0 : Int) (0 : Int)) (drC B (0 : Int) (0 : Int)) (drL B (0 : Int) (0 : Int)) (veL D (IntKind.wrap .i64 (drC B (0 : Int) (0 : Int)))))) == (solL (drR B (0 : Int) (0 : Int)) (drC B (0 : Int) (0 : Int)) (drL B (0 : Int) (0 : Int)) (apV (drR B (0 : Int) (0 : Int)) (drC B (0 : Int) (0 : Int)) (drL B (0 : Int) (0 : Int)) (veL D (IntKind.wrap .i64 (drC B (0 : Int) (0 : Int))))))) && true)) then
        some (.bool false, [])
       else
        bif (!(eqVc (apV (drR B (0 : Int) (0 : Int)) (drC B (0 : Int) (0 : Int)) (drL B (0 : Int) (0 : Int)) (solL (drR B (0 : Int) (0 : Int)) (drC B (0 : Int) (0 : Int)) (drL B (0 : Int) (0 : Int)) (apV (drR B (0 : Int) (0 : Int)) (drC B (0 : Int) (0 : Int)) (drL B (0 : Int) (0 : Int)) (veL D (IntKind.wrap .i64 (drC B (0 : Int) (0 : Int))))))) (apV (drR B (0 : Int) (0 : Int)) (drC B (0 : Int) (0 : Int)) (drL B (0 : Int) (0 : Int)) (veL D (IntKind.wrap .i64 (drC B (0 : Int) (0 : Int))))))) then
         some (.bool false, [])
        else
         bif decide (((1 + n1) * 1) ≤ 4398046511104) then
         pif (((src ([(3 : Int)] ++ D) (List.length ([(3 : Int)] ++ D))) ∧ (four (IntKind.wrap .i64 (drR B (0 : Int) (0 : Int)))))) (
          pif ((okSol (drR B (0 : Int) (0 : Int)) (drC B (0 : Int) (0 : Int)) (drL B (0 : Int) (0 : Int)) (veL ([(3 : Int)] ++ D) (IntKind.wrap .i64 (drR B (0 : Int) (0 : Int)))))) (
          pif ((okSol (drR B (0 : Int) (0 : Int)) (drC B (0 : Int) (0 : Int)) (drL B (0 : Int) (0 : Int)) (veL ([(3 : Int)] ++ D) (IntKind.wrap .i64 (drR B (0 : Int) (0 : Int)))))) (
          bif ((solK (drR B (0 : Int) (0 : Int)) (drC B (0 : Int) (0 : Int)) (drL B (0 : Int) (0 : Int)) (veL ([(3 : Int)] ++ D) (IntKind.wrap .i64 (drR B (0 : Int) (0 : Int))))) != (solK (drR B (0 : Int) (0 : Int)) (drC B (0 : Int) (0 : Int)) (drL B (0 : Int) (0 : Int)) (veL ([(3 : Int)] ++ D) (IntKind.wrap .i64 (drR B (0 : Int) (0 : Int)))))) then
           some (.bool false, [])
          else
           bif (cond true (!(((solL (drR B (0 : Int) (0 : Int)) (drC B (0 : Int) (0 : Int)) (drL B (0 : Int) (0 : Int)) (veL ([(3 : Int)] ++ D) (IntKind.wrap .i64 (drR B (0 : Int) (0 : Int))))) == (solL (drR B (0 : Int) (0 : Int)) (drC B (0 : Int) (0 : Int)) (drL B (0 : Int) (0 : Int)) (veL ([(3 : Int)] ++ D) (IntKind.wrap .i64 (drR B (0 : Int) (0 : Int)))))) && true)) (((solL (drR B (0 : Int) (0 : Int)) (drC B (0 : Int) (0 : Int)) (drL B (0 : Int) (0 : Int)) (veL ([(3 : Int)] ++ D) (IntKind.wrap .i64 (drR B (0 : Int) (0 : Int))))) == (solL (drR B (0 : Int) (0 : Int)) (drC B (0 : Int) (0 : Int)) (drL B (0 : Int) (0 : Int)) (veL ([(3 : Int)] ++ D) (IntKind.wrap .i64 (drR B (0 : Int) (0 : Int)))))) && true)) then
            some (.bool false, [])
           else
            bif ((solK (drR B (0 : Int) (0 : Int)) (drC B (0 : Int) (0 : Int)) (drL B (0 : Int) (0 : Int)) (veL ([(3 : Int)] ++ D) (IntKind.wrap .i64 (drR B (0 : Int) (0 : Int))))) != (0 : Int)) then
             bif ((solK (drR B (0 : Int) (0 : Int)) (drC B (0 : Int) (0 : Int)) (drL B (0 : Int) (0 : Int)) (veL ([(3 : Int)] ++ D) (IntKind.wrap .i64 (drR B (0 : Int) (0 : Int))))) != (6 : Int)) then
              some (.bool false, [])
             else
              pif ((inMat (drR B (0 : Int) (0 : Int)) (drC B (0 : Int) (0 : Int)) (drL B (0 : Int) (0 : Int)))) (
              pif ((inMat (drR B (0 : Int) (0 : Int)) (drC B (0 : Int) (0 : Int)) (drL B (0 : Int) (0 : Int)))) (
              pif ((inMat (drR B (0 : Int) (0 : Int)) (drC B (0 : Int) (0 : Int)) (drL B (0 : Int) (0 : Int)))) (
              pif ((inMat (drR B (0 : Int) (0 : Int)) (drC B (0 : Int) (0 : Int)) (drL B (0 : Int) (0 : Int)))) (
              pif ((isRd (drR B (0 : Int) (0 : Int)) (drC B (0 : Int) (0 : Int)) (rdL (drR B (0 : Int) (0 : Int)) (drC B (0 : Int) (0 : Int)) (drL B (0 : Int) (0 : Int))))) (
              pif ((inMat (drR B (0 : Int) (0 : Int)) (drC B (0 : Int) (0 : Int)) (drL B (0 : Int) (0 : Int)))) (
              pif ((inMat (drR B (0 : Int) (0 : Int)) (drC B (0 : Int) (0 : Int)) (rdL (drR B (0 : Int) (0 : Int)) (drC B (0 : Int) (0 : Int)) (drL B (0 : Int) (0 : Int))))) (
              pif ((sameL (kerL (drR B (0 : Int) (0 : Int)) (drC B (0 : Int) (0 : Int)) (drL B (0 : Int) (0 : Int))) (kerL (drR B (0 : Int) (0 : Int)) (drC B (0 : Int) (0 : Int)) (drL B (0 : Int) (0 : Int))) (List.length (kerL (drR B (0 : Int) (0 : Int)) (drC B (0 : Int) (0 : Int)) (drL B (0 : Int) (0 : Int)))) (List.length (kerL (drR B (0 : Int) (0 : Int)) (drC B (0 : Int) (0 : Int)) (drL B (0 : Int) (0 : Int)))))) (
              bif (cond true (!(((drR B (0 : Int) (0 : Int)) == (drR B (0 : Int) (0 : Int))) && (((drC B (0 : Int) (0 : Int)) == (drC B (0 : Int) (0 : Int))) && (((rdL (drR B (0 : Int) (0 : Int)) (drC B (0 : Int) (0 : Int)) (drL B (0 : Int) (0 : Int))) == (rdL (drR B (0 : Int) (0 : Int)) (drC B (0 : Int) (0 : Int)) (drL B (0 : Int) (0 : Int)))) && true)))) (((drR B (0 : Int) (0 : Int)) == (drR B (0 : Int) (0 : Int))) && (((drC B (0 : Int) (0 : Int)) == (drC B (0 : Int) (0 : Int))) && (((rdL (drR B (0 : Int) (0 : Int)) (drC B (0 : Int) (0 : Int)) (drL B (0 : Int) (0 : Int))) == (rdL (drR B (0 : Int) (0 : Int)) (drC B (0 : Int) (0 : Int)) (drL B (0 : Int) (0 : Int)))) && true)))) then
               some (.bool false, [])
              else
               bif ((IntKind.wrap .i64 ((rkI (drR B (0 : Int) (0 : Int)) (drC B (0 : Int) (0 : Int)) (drL B (0 : Int) (0 : Int))) + (((List.length (kerL (drR B (0 : Int) (0 : Int)) (drC B (0 : Int) (0 : Int)) (drL B (0 : Int) (0 : Int)))) : Nat) : Int))) != (IntKind.wrap .i64 (drC B (0 : Int) (0 : Int)))) then
                some (.bool false, [])
               else
                pif ((sameL (kerL (drR B (0 : Int) (0 : Int)) (drC B (0 : Int) (0 : Int)) (rdL (drR B (0 : Int) (0 : Int)) (drC B (0 : Int) (0 : Int)) (drL B (0 : Int) (0 : Int)))) (kerL (drR B (0 : Int) (0 : Int)) (drC B (0 : Int) (0 : Int)) (drL B (0 : Int) (0 : Int))) (List.length (kerL (drR B (0 : Int) (0 : Int)) (drC B (0 : Int) (0 : Int)) (rdL (drR B (0 : Int) (0 : Int)) (drC B (0 : Int) (0 : Int)) (drL B (0 : Int) (0 : Int))))) (List.length (kerL (drR B (0 : Int) (0 : Int)) (drC B (0 : Int) (0 : Int)) (drL B (0 : Int) (0 : Int)))))) (
                N0 n n (rkI (drR B (0 : Int) (0 : Int)) (drC B (0 : Int) (0 : Int)) (drL B (0 : Int) (0 : Int))) (0 : Int) (drR B (0 : Int) (0 : Int)) (drC B (0 : Int) (0 : Int)) (drL B (0 : Int) (0 : Int)) (veL D (IntKind.wrap .i64 (drC B (0 : Int) (0 : Int)))) (kerL (drR B (0 : Int) (0 : Int)) (drC B (0 : Int) (0 : Int)) (drL B (0 : Int) (0 : Int))))))))))))
            else
             pif ((inMat (drR B (0 : Int) (0 : Int)) (drC B (0 : Int) (0 : Int)) (drL B (0 : Int) (0 : Int)))) (
             pif ((inMat (drR B (0 : Int) (0 : Int)) (drC B (0 : Int) (0 : Int)) (drL B (0 : Int) (0 : Int)))) (
             pif ((inMat (drR B (0 : Int) (0 : Int)) (drC B (0 : Int) (0 : Int)) (drL B (0 : Int) (0 : Int)))) (
             pif ((inMat (drR B (0 : Int) (0 : Int)) (drC B (0 : Int) (0 : Int)) (drL B (0 : Int) (0 : Int)))) (
             pif ((isRd (drR B (0 : Int) (0 : Int)) (drC B (0 : Int) (0 : Int)) (rdL (drR B (0 : Int) (0 : Int)) (drC B (0 : Int) (0 : Int)) (drL B (0 : Int) (0 : Int))))) (
             pif ((inMat (drR B (0 : Int) (0 : Int)) (drC B (0 : Int) (0 : Int)) (drL B (0 : Int) (0 : Int)))) (
             pif ((inMat (drR B (0 : Int) (0 : Int)) (drC B (0 : Int) (0 : Int)) (rdL (drR B (0 : Int) (0 : Int)) (drC B (0 : Int) (0 : Int)) (drL B (0 : Int) (0 : Int))))) (
             pif ((sameL (kerL (drR B (0 : Int) (0 : Int)) (drC B (0 : Int) (0 : Int)) (drL B (0 : Int) (0 : Int))) (kerL (drR B (0 : Int) (0 : Int)) (drC B (0 : Int) (0 : Int)) (drL B (0 : Int) (0 : Int))) (List.length (kerL (drR B (0 : Int) (0 : Int)) (drC B (0 : Int) (0 : Int)) (drL B (0 : Int) (0 : Int)))) (List.length (kerL (drR B (0 : Int) (0 : Int)) (drC B (0 : Int) (0 : Int)) (drL B (0 : Int) (0 : Int)))))) (
             bif (cond true (!(((drR B (0 : Int) (0 : Int)) == (drR B (0 : Int) (0 : Int))) && (((drC B (0 : Int) (0 : Int)) == (drC B (0 : Int) (0 : Int))) && (((rdL (drR B (0 : Int) (0 : Int)) (drC B (0 : Int) (0 : Int)) (drL B (0 : Int) (0 : Int))) == (rdL (drR B (0 : Int) (0 : Int)) (drC B (0 : Int) (0 : Int)) (drL B (0 : Int) (0 : Int)))) && true)))) (((drR B (0 : Int) (0 : Int)) == (drR B (0 : Int) (0 : Int))) && (((drC B (0 : Int) (0 : Int)) == (drC B (0 : Int) (0 : Int))) && (((rdL (drR B (0 : Int) (0 : Int)) (drC B (0 : Int) (0 : Int)) (drL B (0 : Int) (0 : Int))) == (rdL (drR B (0 : Int) (0 : Int)) (drC B (0 : Int) (0 : Int)) (drL B (0 : Int) (0 : Int)))) && true)))) then
              some (.bool false, [])
             else
              bif ((IntKind.wrap .i64 ((rkI (drR B (0 : Int) (0 : Int)) (drC B (0 : Int) (0 : Int)) (drL B (0 : Int) (0 : Int))) + (((List.length (kerL (drR B (0 : Int) (0 : Int)) (drC B (0 : Int) (0 : Int)) (drL B (0 : Int) (0 : Int)))) : Nat) : Int))) != (IntKind.wrap .i64 (drC B (0 : Int) (0 : Int)))) then
               some (.bool false, [])
              else
               pif ((sameL (kerL (drR B (0 : Int) (0 : Int)) (drC B (0 : Int) (0 : Int)) (rdL (drR B (0 : Int) (0 : Int)) (drC B (0 : Int) (0 : Int)) (drL B (0 : Int) (0 : Int)))) (kerL (drR B (0 : Int) (0 : Int)) (drC B (0 : Int) (0 : Int)) (drL B (0 : Int) (0 : Int))) (List.length (kerL (drR B (0 : Int) (0 : Int)) (drC B (0 : Int) (0 : Int)) (rdL (drR B (0 : Int) (0 : Int)) (drC B (0 : Int) (0 : Int)) (drL B (0 : Int) (0 : Int))))) (List.length (kerL (drR B (0 : Int) (0 : Int)) (drC B (0 : Int) (0 : Int)) (drL B (0 : Int) (0 : Int)))))) (
               N0 n n (rkI (drR B (0 : Int) (0 : Int)) (drC B (0 : Int) (0 : Int)) (drL B (0 : Int) (0 : Int))) (0 : Int) (drR B (0 : Int) (0 : Int)) (drC B (0 : Int) (0 : Int)) (drL B (0 : Int) (0 : Int)) (veL D (IntKind.wrap .i64 (drC B (0 : Int) (0 : Int)))) (kerL (drR B (0 : Int) (0 : Int)) (drC B (0 : Int) (0 : Int)) (drL B (0 : Int) (0 : Int)))))))))))))))
         else none))))))) := by kernel_rfl
theorem ans {n : Nat} {B : List Int} {D : List Int} {n0 : Nat} {n1 : Nat} (hA : Sounds Try.prog (A n)) {u : U} {H : Heap} (h : R n B D n0 n1 = some (u, H)) : Answers Try.prog 12 (us B D n0 n1) (HA B D n0 n1) u H := answers_inl tabOk mixed hA inl_ok Try.func12 (by kernel_rfl) (by kernel_rfl) h
end L_Solved

end Go.VM

