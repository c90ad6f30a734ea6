/- Written by a program of this session (Lift.lean): what the evaluator comes to, function by function; the kernel checks it. The conditions: those of the contracts. -/
import Derived.Test.YthfabkahekagoaaVmP4
import Derived.Test.YthfabkahekagoaaNimST
import Derived.Test.YthfabkahekagoaaNimSTS
import Derived.Test.YthfabkahekagoaaNimCon
import Derived.Test.YthfabkahekagoaaIntsCon
import Derived.Test.YthfabkahekagoaaHalfCon
import Derived.Test.YthfabkahekagoaaSrcCon
import Derived.Test.YthfabkahekagoaaEqCon
import Derived.KernelRfl
set_option linter.unusedVariables false
set_option linter.unusedSimpArgs false
set_option linter.unusedSectionVars false
namespace Go.VM
open Go Go.Proofs Go.Fn NimF
set_option linter.unusedVariables false
set_option maxRecDepth 100000
namespace L_Eq
abbrev num : Nat := 5
noncomputable def A (n : Nat) : List (Nat × Con) := ((fun (n : Nat) => ([(23, CA2At), (15, CA2Nim), (22, CMul), (18, CSq), (17, CTrace), (16, CTrace), (19, CConj), (20, CConj), (21, CEqU), (8, CHalfRoot), (7, CHalfRoot), (10, CQuad), (9, CQuad), (24, CGen), (25, CGen), (26, COrder)] : List (Nat × Con)))) n
noncomputable def I : Inl := ([(14, Try.f14, [])] : Inl)
theorem inl_ok : InlOk Try.prog I := (inl_cons Try.func14 (by kernel_rfl) (by kernel_rfl) inl_nil)
noncomputable abbrev E (n : Nat) : Env (U × Heap) := envI tab ios (A n) I n 1
def L : List (List Nat) := [[6, 5, 1, 15, 16], [24, 22, 20, 21, 23, 6, 5, 18, 25, 19]]
abbrev us (B : List Int) (D : List Int) (n0 : Nat) (n1 : Nat) : List U := (((fun (B D : List Int) (n0 n1 : Nat) => (([.rsl [.ints .u8 B] n0, .rsl [.ints .u8 D] n1] : List U), ([] : Heap)))) B D n0 n1).1
abbrev HA (B : List Int) (D : List Int) (n0 : Nat) (n1 : Nat) : Heap := (((fun (B D : List Int) (n0 n1 : Nat) => (([.rsl [.ints .u8 B] n0, .rsl [.ints .u8 D] n1] : List U), ([] : Heap)))) B D n0 n1).2
def S0 (t6 : Int) (t5 : Int) (t1_0 : List Int) (t1n : Nat) (t16 : Int) (o0_0 : List Int) : St := ⟨[(6, .int .u16 t6), (5, .int .u16 t5), (1, .rsl [.ints .u8 t1_0] t1n), (15, .own 0), (16, .int .i64 t16)], 288, [(0, ⟨[.ints .u16 o0_0], true⟩)], [0], 0⟩
noncomputable def N0 (n : Nat)  (m0 : Nat) (t6 : Int) (t5 : Int) (t1_0 : List Int) (t1n : Nat) (t16 : Int) (o0_0 : List Int) : Res := nodeRun (E n) n Try.f5 L k0 [true, true, true, true, true, true, true, true, true, true, true, true, true, true, true, false, true, false] [] m0 (S0 t6 t5 t1_0 t1n t16 o0_0)
def S1 (t24 : Int) (t22 : Int) (t20 : Int) (t21 : Int) (t23 : Int) (t6 : Int) (t5 : Int) (t25 : Int) (t19 : Int) (o0_0 : List Int) : St := ⟨[(24, .int .i64 t24), (22, .int .u16 t22), (20, .int .u16 t20), (21, .int .i64 t21), (23, .int .i64 t23), (6, .int .u16 t6), (5, .int .u16 t5), (18, .own 0), (25, .int .i64 t25), (19, .int .i64 t19)], 288, [(0, ⟨[.ints .u16 o0_0], true⟩)], [0], 0⟩
noncomputable def N1 (n : Nat)  (m1 : Nat) (t24 : Int) (t22 : Int) (t20 : Int) (t21 : Int) (t23 : Int) (t6 : Int) (t5 : Int) (t25 : Int) (t19 : Int) (o0_0 : List Int) : Res := nodeRun (E n) n Try.f5 L k0 [true, true, true, true, true, true, true, true, true, true, true, true, true, true, true, true, true, true, true, true, true, true, false, true, false] [] m1 (S1 t24 t22 t20 t21 t23 t6 t5 t25 t19 o0_0)
theorem N0_succ (n : Nat)  (m0 : Nat) (t6 : Int) (t5 : Int) (t1_0 : List Int) (t1n : Nat) (t16 : Int) (o0_0 : List Int) : N0 n  (m0 + 1) t6 t5 t1_0 t1n t16 o0_0 =
  bif decide (t16 < (((List.length o0_0) : Nat) : Int)) then
   bif decide (((0 : Int) ≤ t16) ∧ (t16 < (((List.length o0_0) : Nat) : Int))) then
   pif ((u16 (List.getD o0_0 (Int.toNat t16) (0 : Int)))) (
    pif (((u16 t5) ∧ (u16 (List.getD o0_0 (Int.toNat t16) (0 : Int))))) (
    bif ((intBitsV .xor .u16 (intBitsV .xor .u16 (mulI (List.getD o0_0 (Int.toNat t16) (0 : Int)) (List.getD o0_0 (Int.toNat t16) (0 : Int))) (mulI t5 (List.getD o0_0 (Int.toNat t16) (0 : Int)))) t6) != (0 : Int)) then
     some (.bool false, [])
    else
     bif decide (t16 > (0 : Int)) then
      bif decide (((0 : Int) ≤ (IntKind.wrap .i64 (t16 - (1 : Int)))) ∧ ((IntKind.wrap .i64 (t16 - (1 : Int))) < (((List.length o0_0) : Nat) : Int))) then
      bif decide ((List.getD o0_0 (Int.toNat t16) (0 : Int)) ≤ (List.getD o0_0 (Int.toNat (IntKind.wrap .i64 (t16 - (1 : Int)))) (0 : Int))) then
        some (.bool false, [])
       else
        bif decide (((0 : Int) ≤ (0 : Int)) ∧ ((0 : Int) < (((List.length o0_0) : Nat) : Int))) then
        bif ((intBitsV .xor .u16 (List.getD o0_0 (Int.toNat t16) (0 : Int)) (List.getD o0_0 0 (0 : Int))) != t5) then
          some (.bool false, [])
         else
          N0 n m0 t6 t5 t1_0 t1n (IntKind.wrap .i64 (t16 + (1 : Int))) o0_0
        else none
      else none
     else
      N0 n m0 t6 t5 t1_0 t1n (IntKind.wrap .i64 (t16 + (1 : Int))) o0_0))
   else none
  else
   pif (((u16 t5) ∧ (u16 t6))) (
   pif (((u16 (intBitsV .xor .u16 t5 t6)) ∧ (u16 (mulI t5 t6)))) (
   bif (t5 == t6) then
    bif ((((List.length (qr (intBitsV .xor .u16 t5 t6) (mulI t5 t6))) : Nat) : Int) == (1 : Int)) then
     bif decide (((0 : Int) ≤ (0 : Int)) ∧ ((0 : Int) < (((List.length (qr (intBitsV .xor .u16 t5 t6) (mulI t5 t6))) : Nat) : Int))) then
     bif ((List.getD (qr (intBitsV .xor .u16 t5 t6) (mulI t5 t6)) 0 (0 : Int)) == t5) then
       bif (t5 != (0 : Int)) then
        some (.bool true, [])
       else
        some (.bool ((((List.length o0_0) : Nat) : Int) == (1 : Int)), [])
      else
       some (.bool false, [])
     else none
    else
     some (.bool false, [])
   else
    pif (((src t1_0 t1n) ∧ (atIn (0 : Int) (4 : Int)))) (
    pif ((lv4 (IntKind.wrap .i64 ((1 : Int) + (a2at t1_0 (0 : Int) (4 : Int)))))) (
    pif ((lv4 (IntKind.wrap .i64 ((1 : Int) + (a2at t1_0 (0 : Int) (4 : Int)))))) (
    N1 n n (2 : Int) (gnI (IntKind.wrap .i64 ((1 : Int) + (a2at t1_0 (0 : Int) (4 : Int))))) (gnI (IntKind.wrap .i64 ((1 : Int) + (a2at t1_0 (0 : Int) (4 : Int))))) (0 : Int) (0 : Int) t6 t5 (0 : Int) (IntKind.wrap .i64 ((1 : Int) + (a2at t1_0 (0 : Int) (4 : Int)))) (qr (intBitsV .xor .u16 t5 t6) (mulI t5 t6))))))) := by kernel_rfl
theorem N1_succ (n : Nat)  (m1 : Nat) (t24 : Int) (t22 : Int) (t20 : Int) (t21 : Int) (t23 : Int) (t6 : Int) (t5 : Int) (t25 : Int) (t19 : Int) (o0_0 : List Int) : N1 n  (m1 + 1) t24 t22 t20 t21 t23 t6 t5 t25 t19 o0_0 =
  bif decide (t25 < t19) then
   N1 n m1 (IntKind.wrap .i64 (t24 * t24)) t22 t20 t21 t23 t6 t5 (IntKind.wrap .i64 (t25 + (1 : Int))) t19 o0_0
  else
   pif ((u16 t22)) (
   bif ((((List.length o0_0) : Nat) : Int) == (2 : Int)) then
    bif decide (((0 : Int) ≤ (0 : Int)) ∧ ((0 : Int) < (((List.length o0_0) : Nat) : Int))) then
    bif ((List.getD o0_0 0 (0 : Int)) == (cond false (if (t6 > t5) then t6 else t5) (if (t6 < t5) then t6 else t5))) then
      bif decide (((0 : Int) ≤ (1 : Int)) ∧ ((1 : Int) < (((List.length o0_0) : Nat) : Int))) then
      bif ((List.getD o0_0 1 (0 : Int)) == (cond true (if (t6 > t5) then t6 else t5) (if (t6 < t5) then t6 else t5))) then
        bif (t21 == t23) then
         bif (t21 == (0 : Int)) then
          bif (t20 == t22) then
           bif ((orE t22) == (0 : Int)) then
            some (.bool ((orA t22) == (IntKind.wrap .i64 (t24 - (1 : Int)))), [])
           else
            some (.bool false, [])
          else
           some (.bool false, [])
         else
          some (.bool false, [])
        else
         some (.bool false, [])
       else
        some (.bool false, [])
      else none
     else
      some (.bool false, [])
    else none
   else
    some (.bool false, [])) := by kernel_rfl
noncomputable def R (n : Nat) (B : List Int) (D : List Int) (n0 : Nat) (n1 : Nat) : Res := run (E n) n Try.f5 L (us B D n0 n1) (HA B D n0 n1) k0
theorem R_eq (n : Nat) (B : List Int) (D : List Int) (n0 : Nat) (n1 : Nat) : R n B D n0 n1 =
  bif decide (((n0 : Nat) : Int) > (3000 : Int)) then
   some (.bool true, [])
  else
   bif decide (((n1 : Nat) : Int) > (3000 : Int)) then
    some (.bool true, [])
   else
    pif ((src B n0)) (
    pif ((src D n1)) (
    pif ((u16 (a2n B))) (
    pif ((u16 (a2n B))) (
    bif ((trI (a2n B)) != (trI (a2n B))) then
     some (.bool false, [])
    else
     bif decide ((trI (a2n B)) > (1 : Int)) then
      some (.bool false, [])
     else
      pif ((u16 (intBitsV .xor .u16 (a2n B) (a2n D)))) (
      pif ((u16 (a2n D))) (
      bif ((trI (intBitsV .xor .u16 (a2n B) (a2n D))) != (intBitsV .xor .u16 (trI (a2n B)) (trI (a2n D)))) then
       some (.bool false, [])
      else
       pif ((u16 (a2n B))) (
       pif ((u16 (mulI (a2n B) (a2n B)))) (
       bif ((trI (mulI (a2n B) (a2n B))) != (trI (a2n B))) then
        some (.bool false, [])
       else
        pif ((u16 (a2n B))) (
        pif ((u16 (a2n B))) (
        pif (((ul (cjI (a2n B)) (List.length (cjI (a2n B)))) ∧ (ul (cjI (a2n B)) (List.length (cjI (a2n B)))))) (
        bif (!(eqI (cjI (a2n B)) (cjI (a2n B)))) then
         some (.bool false, [])
        else
         bif ((Int.tmod (16 : Int) (((List.length (cjI (a2n B))) : Nat) : Int)) != (0 : Int)) then
          some (.bool false, [])
         else
          bif decide (((0 : Int) ≤ (0 : Int)) ∧ ((0 : Int) < (((List.length (cjI (a2n B))) : Nat) : Int))) then
          bif ((List.getD (cjI (a2n B)) 0 (0 : Int)) != (a2n B)) then
            some (.bool false, [])
           else
            bif decide (((0 : Int) ≤ (IntKind.wrap .i64 ((((List.length (cjI (a2n B))) : Nat) : Int) - (1 : Int)))) ∧ ((IntKind.wrap .i64 ((((List.length (cjI (a2n B))) : Nat) : Int) - (1 : Int))) < (((List.length (cjI (a2n B))) : Nat) : Int))) then
            pif ((u16 (List.getD (cjI (a2n B)) (Int.toNat (IntKind.wrap .i64 ((((List.length (cjI (a2n B))) : Nat) : Int) - (1 : Int)))) (0 : Int)))) (
             bif ((mulI (List.getD (cjI (a2n B)) (Int.toNat (IntKind.wrap .i64 ((((List.length (cjI (a2n B))) : Nat) : Int) - (1 : Int)))) (0 : Int)) (List.getD (cjI (a2n B)) (Int.toNat (IntKind.wrap .i64 ((((List.length (cjI (a2n B))) : Nat) : Int) - (1 : Int)))) (0 : Int))) != (a2n B)) then
              some (.bool false, [])
             else
              pif ((u16 (a2n B))) (
              pif ((u16 (a2n B))) (
              bif ((hrE (a2n B)) != (hrE (a2n B))) then
               some (.bool false, [])
              else
               bif ((hrX (a2n B)) != (hrX (a2n B))) then
                some (.bool false, [])
               else
                bif (((hrE (a2n B)) == (0 : Int)) != ((trI (a2n B)) == (0 : Int))) then
                 some (.bool false, [])
                else
                 bif ((hrE (a2n B)) == (0 : Int)) then
                  pif ((u16 (hrX (a2n B)))) (
                  bif ((intBitsV .xor .u16 (hrX (a2n B)) (mulI (hrX (a2n B)) (hrX (a2n B)))) != (a2n B)) then
                   some (.bool false, [])
                  else
                   bif ((Int.tmod (hrX (a2n B)) (2 : Int)) != (0 : Int)) then
                    some (.bool false, [])
                   else
                    pif (((u16 (a2n B)) ∧ (u16 (a2n D)))) (
                    pif (((u16 (a2n B)) ∧ (u16 (a2n D)))) (
                    pif (((ul (qr (a2n B) (a2n D)) (List.length (qr (a2n B) (a2n D)))) ∧ (ul (qr (a2n B) (a2n D)) (List.length (qr (a2n B) (a2n D)))))) (
                    bif (!(eqI (qr (a2n B) (a2n D)) (qr (a2n B) (a2n D)))) then
                     some (.bool false, [])
                    else
                     N0 n n (a2n D) (a2n B) D n1 (0 : Int) (qr (a2n B) (a2n D))))))
                 else
                  pif (((u16 (a2n B)) ∧ (u16 (a2n D)))) (
                  pif (((u16 (a2n B)) ∧ (u16 (a2n D)))) (
                  pif (((ul (qr (a2n B) (a2n D)) (List.length (qr (a2n B) (a2n D)))) ∧ (ul (qr (a2n B) (a2n D)) (List.length (qr (a2n B) (a2n D)))))) (
                  bif (!(eqI (qr (a2n B) (a2n D)) (qr (a2n B) (a2n D)))) then
                   some (.bool false, [])
                  else
                   N0 n n (a2n D) (a2n B) D n1 (0 : Int) (qr (a2n B) (a2n D))))))))
            else none
          else none))))))))))) := by kernel_rfl
theorem ans {n : Nat} {B : List Int} {D : List Int} {n0 : Nat} {n1 : Nat} (hA : Sounds Try.prog (A n)) {u : U} {H : Heap} (h : R n B D n0 n1 = some (u, H)) : Answers Try.prog 5 (us B D n0 n1) (HA B D n0 n1) u H := answers_inl tabOk mixed hA inl_ok Try.func5 (by kernel_rfl) (by kernel_rfl) h
end L_Eq

end Go.VM
