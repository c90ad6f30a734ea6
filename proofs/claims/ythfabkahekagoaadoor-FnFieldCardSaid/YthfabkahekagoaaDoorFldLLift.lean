/- Written by a program of this session (Lift.lean): what the evaluator comes to, function by function; the kernel checks it. The conditions: those of the contracts. -/
import Derived.Test.YthfabkahekagoaaDoorVmP4
import Derived.Test.YthfabkahekagoaaDoorNimST
import Derived.Test.YthfabkahekagoaaDoorNimSTS
import Derived.Test.YthfabkahekagoaaDoorNimCon
import Derived.Test.YthfabkahekagoaaDoorOrdCon
import Derived.Test.YthfabkahekagoaaDoorSrcCon
import Derived.Test.YthfabkahekagoaaDoorTxtCon
import Derived.Test.YthfabkahekagoaaDoorFldCon
import Derived.KernelRfl
set_option linter.unusedVariables false
set_option linter.unusedSimpArgs false
set_option linter.unusedSectionVars false
namespace Go.VM
open Go Go.Proofs Go.Fn NimF
set_option linter.unusedVariables false
set_option maxRecDepth 100000
namespace L_Fld
abbrev num : Nat := 3
noncomputable def A (n : Nat) : List (Nat × Con) := ((fun (n : Nat) => ([(14, CA2At), (6, CA2Nim), (7, CMul), (8, CMul), (9, CXor), (10, CLev), (11, CLev), (12, CSq), (13, CRoot), (15, CPowOf), (16, CPowOf), (17, CReadNim), (18, CNimText), (19, CInvOf), (20, COver), (21, COrder), (22, COrder), (23, CLog)] : List (Nat × Con)))) n
noncomputable def I : Inl := ([(5, Tryd.f5, [])] : Inl)
theorem inl_ok : InlOk Tryd.prog I := (inl_cons Tryd.func5 (by kernel_rfl) (by kernel_rfl) inl_nil)
noncomputable abbrev E (n : Nat) : Env (U × Heap) := envI tab ios (A n) I n 1
def L : List (List Nat) := [[41, 40, 32, 5]]
abbrev us (B : List Int) (D : List Int) (n0 : Nat) (n1 : Nat) : List U := (((fun (B D : List Int) (n0 n1 : Nat) => (([.rsl [.ints .u8 B] n0, .rsl [.ints .u8 D] n1] : List U), ([] : Heap)))) B D n0 n1).1
abbrev HA (B : List Int) (D : List Int) (n0 : Nat) (n1 : Nat) : Heap := (((fun (B D : List Int) (n0 n1 : Nat) => (([.rsl [.ints .u8 B] n0, .rsl [.ints .u8 D] n1] : List U), ([] : Heap)))) B D n0 n1).2
def S0 (t41 : Int) (t32 : Int) (t5 : Int) (o0_0 : List Int) : St := ⟨[(41, .int .i64 t41), (40, .own 0), (32, .int .i64 t32), (5, .int .u16 t5)], 381, [(0, ⟨[.ints .i64 o0_0], true⟩)], [0], 0⟩
noncomputable def N0 (n : Nat)  (m0 : Nat) (t41 : Int) (t32 : Int) (t5 : Int) (o0_0 : List Int) : Res := nodeRun (E n) n Tryd.f3 L k0 [true, true, true, true, true, true, true, true, true, true, true, true, true, true, true, true, true, true, true, true, true, true, true, true, true, true, true, true, true, true, true, true, true, false, true, false] [] m0 (S0 t41 t32 t5 o0_0)
theorem N0_succ (n : Nat)  (m0 : Nat) (t41 : Int) (t32 : Int) (t5 : Int) (o0_0 : List Int) : N0 n  (m0 + 1) t41 t32 t5 o0_0 =
  bif decide (t41 < (((List.length o0_0) : Nat) : Int)) then
   bif decide (((0 : Int) ≤ t41) ∧ (t41 < (((List.length o0_0) : Nat) : Int))) then
   bif decide ((List.getD o0_0 (Int.toNat t41) (0 : Int)) ≠ (0 : Int)) then
    bif ((Int.tmod t32 (List.getD o0_0 (Int.toNat t41) (0 : Int))) == (0 : Int)) then
      bif decide (((0 : Int) ≤ t41) ∧ (t41 < (((List.length o0_0) : Nat) : Int))) then
      bif decide ((List.getD o0_0 (Int.toNat t41) (0 : Int)) ≠ (0 : Int)) then
       pif (((u16 t5) ∧ (i64 (IntKind.wrap .i64 (Int.tdiv t32 (List.getD o0_0 (Int.toNat t41) (0 : Int))))))) (
        bif ((pwE (IntKind.wrap .i64 (Int.tdiv t32 (List.getD o0_0 (Int.toNat t41) (0 : Int))))) != (0 : Int)) then
         some (.bool false, [])
        else
         bif ((pwV t5 (IntKind.wrap .i64 (Int.tdiv t32 (List.getD o0_0 (Int.toNat t41) (0 : Int))))) == (1 : Int)) then
          some (.bool false, [])
         else
          N0 n m0 (IntKind.wrap .i64 (t41 + (1 : Int))) t32 t5 o0_0)
       else none
      else none
     else
      N0 n m0 (IntKind.wrap .i64 (t41 + (1 : Int))) t32 t5 o0_0
    else none
   else none
  else
   some (.bool true, []) := by kernel_rfl
noncomputable def R (n : Nat) (B : List Int) (D : List Int) (n0 : Nat) (n1 : Nat) : Res := run (E n) n Tryd.f3 L (us B D n0 n1) (HA B D n0 n1) k0
theorem R_eq (n : Nat) (B : List Int) (D : List Int) (n0 : Nat) (n1 : Nat) : R n B D n0 n1 =
  bif decide (((n0 : Nat) : Int) > (3000 : Int)) then
   some (.bool true, [])
  else
   bif decide (((n1 : Nat) : Int) > (3000 : Int)) then
    some (.bool true, [])
   else
    pif ((src B n0)) (
    pif ((src D n1)) (
    bif decide (((1 + n0) * 1) ≤ 4398046511104) then
    pif ((src ([(9 : Int)] ++ B) (List.length ([(9 : Int)] ++ B)))) (
     pif (((u16 (a2n B)) ∧ (u16 (a2n D)))) (
     pif (((u16 (a2n B)) ∧ (u16 (a2n D)))) (
     pif (((u16 (a2n D)) ∧ (u16 (a2n ([(9 : Int)] ++ B))))) (
     pif (((u16 (a2n B)) ∧ (u16 (a2n ([(9 : Int)] ++ B))))) (
     bif ((mulI (a2n B) (a2n D)) != (mulI (a2n B) (a2n D))) then
      some (.bool false, [])
     else
      pif (((u16 (a2n D)) ∧ (u16 (a2n B)))) (
      bif ((mulI (a2n D) (a2n B)) != (mulI (a2n B) (a2n D))) then
       some (.bool false, [])
      else
       pif (((u16 (mulI (a2n B) (a2n D))) ∧ (u16 (a2n ([(9 : Int)] ++ B))))) (
       pif (((u16 (a2n B)) ∧ (u16 (mulI (a2n D) (a2n ([(9 : Int)] ++ B)))))) (
       bif ((mulI (mulI (a2n B) (a2n D)) (a2n ([(9 : Int)] ++ B))) != (mulI (a2n B) (mulI (a2n D) (a2n ([(9 : Int)] ++ B))))) then
        some (.bool false, [])
       else
        pif (((u16 (a2n B)) ∧ (u16 (a2n D)))) (
        pif (((u16 (xorI (a2n B) (a2n D))) ∧ (u16 (a2n ([(9 : Int)] ++ B))))) (
        pif (((u16 (mulI (a2n B) (a2n ([(9 : Int)] ++ B)))) ∧ (u16 (mulI (a2n D) (a2n ([(9 : Int)] ++ B)))))) (
        bif ((mulI (xorI (a2n B) (a2n D)) (a2n ([(9 : Int)] ++ B))) != (xorI (mulI (a2n B) (a2n ([(9 : Int)] ++ B))) (mulI (a2n D) (a2n ([(9 : Int)] ++ B))))) then
         some (.bool false, [])
        else
         pif (((u16 (a2n B)) ∧ (u16 (a2n B)))) (
         bif ((xorI (a2n B) (a2n B)) != (0 : Int)) then
          some (.bool false, [])
         else
          pif (((u16 (a2n B)) ∧ (u16 (1 : Int)))) (
          bif ((mulI (a2n B) (1 : Int)) != (a2n B)) then
           some (.bool false, [])
          else
           pif (((u16 (a2n B)) ∧ (u16 (0 : Int)))) (
           pif ((u16 (a2n B))) (
           pif ((u16 (a2n D))) (
           pif ((u16 (a2n B))) (
           pif ((u16 (a2n B))) (
           bif ((lvI (a2n B)) != (lvI (a2n B))) then
            some (.bool false, [])
           else
            pif ((u16 (mulI (a2n B) (a2n D)))) (
            bif decide ((lvI (mulI (a2n B) (a2n D))) > (cond true (if ((lvI (a2n D)) > (lvI (a2n B))) then (lvI (a2n D)) else (lvI (a2n B))) (if ((lvI (a2n D)) < (lvI (a2n B))) then (lvI (a2n D)) else (lvI (a2n B))))) then
             some (.bool false, [])
            else
             pif ((u16 (intBitsV .xor .u16 (a2n B) (a2n D)))) (
             bif decide ((lvI (intBitsV .xor .u16 (a2n B) (a2n D))) > (cond true (if ((lvI (a2n D)) > (lvI (a2n B))) then (lvI (a2n D)) else (lvI (a2n B))) (if ((lvI (a2n D)) < (lvI (a2n B))) then (lvI (a2n D)) else (lvI (a2n B))))) then
              some (.bool false, [])
             else
              pif ((u16 (a2n B))) (
              pif (((u16 (a2n B)) ∧ (u16 (a2n B)))) (
              bif ((mulI (a2n B) (a2n B)) != (mulI (a2n B) (a2n B))) then
               some (.bool false, [])
              else
               pif ((u16 (mulI (a2n B) (a2n B)))) (
               bif ((powI (mulI (a2n B) (a2n B)) (32768 : Int)) != (a2n B)) then
                some (.bool false, [])
               else
                pif ((u16 (a2n B))) (
                pif ((u16 (powI (a2n B) (32768 : Int)))) (
                bif ((mulI (powI (a2n B) (32768 : Int)) (powI (a2n B) (32768 : Int))) != (a2n B)) then
                 some (.bool false, [])
                else
                 pif (((src D n1) ∧ (atIn (0 : Int) (256 : Int)))) (
                 pif (((src B n0) ∧ (atIn (0 : Int) (256 : Int)))) (
                 pif (((src B n0) ∧ (atIn (1 : Int) (256 : Int)))) (
                 pif (((u16 (a2n B)) ∧ (i64 (IntKind.wrap .i64 ((IntKind.wrap .i64 ((7 : Int) * (a2at D (0 : Int) (256 : Int)))) + (a2at B (0 : Int) (256 : Int))))))) (
                 pif (((u16 (a2n B)) ∧ (i64 (IntKind.wrap .i64 ((100 : Int) * (a2at B (1 : Int) (256 : Int))))))) (
                 pif (((u16 (a2n B)) ∧ (i64 (IntKind.wrap .i64 ((IntKind.wrap .i64 ((IntKind.wrap .i64 ((7 : Int) * (a2at D (0 : Int) (256 : Int)))) + (a2at B (0 : Int) (256 : Int)))) + (IntKind.wrap .i64 ((100 : Int) * (a2at B (1 : Int) (256 : Int))))))))) (
                 pif (((u16 (a2n B)) ∧ (i64 (IntKind.wrap .i64 ((IntKind.wrap .i64 ((7 : Int) * (a2at D (0 : Int) (256 : Int)))) + (a2at B (0 : Int) (256 : Int))))))) (
                 bif ((pwE (IntKind.wrap .i64 ((IntKind.wrap .i64 ((7 : Int) * (a2at D (0 : Int) (256 : Int)))) + (a2at B (0 : Int) (256 : Int))))) != (pwE (IntKind.wrap .i64 ((IntKind.wrap .i64 ((7 : Int) * (a2at D (0 : Int) (256 : Int)))) + (a2at B (0 : Int) (256 : Int)))))) then
                  some (.bool false, [])
                 else
                  bif ((pwE (IntKind.wrap .i64 ((IntKind.wrap .i64 ((7 : Int) * (a2at D (0 : Int) (256 : Int)))) + (a2at B (0 : Int) (256 : Int))))) != (0 : Int)) then
                   some (.bool false, [])
                  else
                   bif ((pwV (a2n B) (IntKind.wrap .i64 ((IntKind.wrap .i64 ((7 : Int) * (a2at D (0 : Int) (256 : Int)))) + (a2at B (0 : Int) (256 : Int))))) != (pwV (a2n B) (IntKind.wrap .i64 ((IntKind.wrap .i64 ((7 : Int) * (a2at D (0 : Int) (256 : Int)))) + (a2at B (0 : Int) (256 : Int)))))) then
                    some (.bool false, [])
                   else
                    bif ((pwE (IntKind.wrap .i64 ((100 : Int) * (a2at B (1 : Int) (256 : Int))))) != (0 : Int)) then
                     some (.bool false, [])
                    else
                     bif ((pwE (IntKind.wrap .i64 ((IntKind.wrap .i64 ((IntKind.wrap .i64 ((7 : Int) * (a2at D (0 : Int) (256 : Int)))) + (a2at B (0 : Int) (256 : Int)))) + (IntKind.wrap .i64 ((100 : Int) * (a2at B (1 : Int) (256 : Int))))))) != (0 : Int)) then
                      some (.bool false, [])
                     else
                      pif (((u16 (pwV (a2n B) (IntKind.wrap .i64 ((IntKind.wrap .i64 ((7 : Int) * (a2at D (0 : Int) (256 : Int)))) + (a2at B (0 : Int) (256 : Int)))))) ∧ (u16 (pwV (a2n B) (IntKind.wrap .i64 ((100 : Int) * (a2at B (1 : Int) (256 : Int)))))))) (
                      bif ((pwV (a2n B) (IntKind.wrap .i64 ((IntKind.wrap .i64 ((IntKind.wrap .i64 ((7 : Int) * (a2at D (0 : Int) (256 : Int)))) + (a2at B (0 : Int) (256 : Int)))) + (IntKind.wrap .i64 ((100 : Int) * (a2at B (1 : Int) (256 : Int))))))) != (mulI (pwV (a2n B) (IntKind.wrap .i64 ((IntKind.wrap .i64 ((7 : Int) * (a2at D (0 : Int) (256 : Int)))) + (a2at B (0 : Int) (256 : Int))))) (pwV (a2n B) (IntKind.wrap .i64 ((100 : Int) * (a2at B (1 : Int) (256 : Int))))))) then
                       some (.bool false, [])
                      else
                       pif ((u16 (a2n B))) (
                       pif ((shortS (nimS (a2n B)))) (
                       bif ((rdE (nimS (a2n B))) != (0 : Int)) then
                        some (.bool false, [])
                       else
                        bif ((rdV (nimS (a2n B))) != (a2n B)) then
                         some (.bool false, [])
                        else
                         pif ((u16 (a2n B))) (
                         pif (((u16 (a2n D)) ∧ (u16 (a2n B)))) (
                         pif ((u16 (a2n B))) (
                         bif ((a2n B) == (0 : Int)) then
                          bif ((orE (a2n B)) == (4 : Int)) then
                           bif ((orE (a2n B)) == (4 : Int)) then
                            some (.bool ((orE (a2n B)) == (4 : Int)), [])
                           else
                            some (.bool false, [])
                          else
                           some (.bool false, [])
                         else
                          pif ((u16 (a2n B))) (
                          pif (((u16 (a2n B)) ∧ (i64 (orA (a2n B))))) (
                          pif ((isPow (a2n B) (pwV (a2n B) (IntKind.wrap .i64 ((IntKind.wrap .i64 ((7 : Int) * (a2at D (0 : Int) (256 : Int)))) + (a2at B (0 : Int) (256 : Int))))))) (
                          pif (((u16 (a2n B)) ∧ (i64 (lgI (a2n B) (pwV (a2n B) (IntKind.wrap .i64 ((IntKind.wrap .i64 ((7 : Int) * (a2at D (0 : Int) (256 : Int)))) + (a2at B (0 : Int) (256 : Int))))))))) (
                          bif ((orE (a2n B)) != (0 : Int)) then
                           some (.bool false, [])
                          else
                           pif (((u16 (a2n B)) ∧ (u16 (ivV (a2n B))))) (
                           bif ((mulI (a2n B) (ivV (a2n B))) != (1 : Int)) then
                            some (.bool false, [])
                           else
                            bif ((orE (a2n B)) != (0 : Int)) then
                             some (.bool false, [])
                            else
                             pif (((u16 (ovV (a2n D) (a2n B))) ∧ (u16 (a2n B)))) (
                             bif ((mulI (ovV (a2n D) (a2n B)) (a2n B)) != (a2n D)) then
                              some (.bool false, [])
                             else
                              bif ((orE (a2n B)) != (orE (a2n B))) then
                               some (.bool false, [])
                              else
                               bif ((orE (a2n B)) != (0 : Int)) then
                                some (.bool false, [])
                               else
                                bif ((orA (a2n B)) != (orA (a2n B))) then
                                 some (.bool false, [])
                                else
                                 bif decide ((orA (a2n B)) ≠ (0 : Int)) then
                                 bif ((Int.tmod (65535 : Int) (orA (a2n B))) != (0 : Int)) then
                                   some (.bool false, [])
                                  else
                                   bif ((pwE (orA (a2n B))) != (0 : Int)) then
                                    some (.bool false, [])
                                   else
                                    bif ((pwV (a2n B) (orA (a2n B))) != (1 : Int)) then
                                     some (.bool false, [])
                                    else
                                     bif decide ((orA (a2n B)) ≠ (0 : Int)) then
                                     bif ((lgI (a2n B) (pwV (a2n B) (IntKind.wrap .i64 ((IntKind.wrap .i64 ((7 : Int) * (a2at D (0 : Int) (256 : Int)))) + (a2at B (0 : Int) (256 : Int)))))) != (Int.tmod (IntKind.wrap .i64 ((IntKind.wrap .i64 ((7 : Int) * (a2at D (0 : Int) (256 : Int)))) + (a2at B (0 : Int) (256 : Int)))) (orA (a2n B)))) then
                                       some (.bool false, [])
                                      else
                                       bif ((pwE (lgI (a2n B) (pwV (a2n B) (IntKind.wrap .i64 ((IntKind.wrap .i64 ((7 : Int) * (a2at D (0 : Int) (256 : Int)))) + (a2at B (0 : Int) (256 : Int))))))) != (0 : Int)) then
                                        some (.bool false, [])
                                       else
                                        bif ((pwV (a2n B) (lgI (a2n B) (pwV (a2n B) (IntKind.wrap .i64 ((IntKind.wrap .i64 ((7 : Int) * (a2at D (0 : Int) (256 : Int)))) + (a2at B (0 : Int) (256 : Int))))))) != (pwV (a2n B) (IntKind.wrap .i64 ((IntKind.wrap .i64 ((7 : Int) * (a2at D (0 : Int) (256 : Int)))) + (a2at B (0 : Int) (256 : Int)))))) then
                                         some (.bool false, [])
                                        else
                                         N0 n n (0 : Int) (orA (a2n B)) (a2n B) (List.set (List.set (List.set (List.set (List.replicate 4 (0 : Int)) 0 (3 : Int)) 1 (5 : Int)) 2 (17 : Int)) 3 (257 : Int))
                                     else none
                                 else none))))))))))))))))))))))))))))))))))))))))))))
    else none)) := by kernel_rfl
theorem ans {n : Nat} {B : List Int} {D : List Int} {n0 : Nat} {n1 : Nat} (hA : Sounds Tryd.prog (A n)) {u : U} {H : Heap} (h : R n B D n0 n1 = some (u, H)) : Answers Tryd.prog 3 (us B D n0 n1) (HA B D n0 n1) u H := answers_inl tabOk mixed hA inl_ok Tryd.func3 (by kernel_rfl) (by kernel_rfl) h
end L_Fld

end Go.VM
