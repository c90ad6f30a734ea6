/- Written by a program of this session (Lift.lean): what the evaluator comes to, function by function; the kernel checks it. The conditions: those of the contracts. -/
import Derived.Test.YthfabkahekagoaaDoorVmP4
import Derived.Test.YthfabkahekagoaaDoorNimST
import Derived.Test.YthfabkahekagoaaDoorNimSTS
import Derived.Test.YthfabkahekagoaaDoorNimCon
import Derived.Test.YthfabkahekagoaaDoorOrdCon
import Derived.Test.YthfabkahekagoaaDoorSrcCon
import Derived.Test.YthfabkahekagoaaDoorTxtCon
import Derived.Test.YthfabkahekagoaaDoorFldCon
import Derived.Test.YthfabkahekagoaaDoorIntsCon
import Derived.Test.YthfabkahekagoaaDoorExclCon
import Derived.KernelRfl
set_option linter.unusedVariables false
set_option linter.unusedSimpArgs false
set_option linter.unusedSectionVars false
namespace Go.VM
open Go Go.Proofs Go.Fn NimF
set_option linter.unusedVariables false
set_option maxRecDepth 100000
namespace L_Excl
abbrev num : Nat := 4
noncomputable def A (n : Nat) : List (Nat × Con) := ((fun (n : Nat) => ([(14, CA2At), (8, CMul), (24, CTbe), (25, CExcl), (26, CA2Nims), (27, CSum), (32, CSum), (28, CLead), (29, CLead), (30, CReadNims), (31, CNimsT), (33, CEqU), (34, CProdL)] : List (Nat × Con)))) n
noncomputable def I : Inl := ([(5, Tryd.f5, [])] : Inl)
theorem inl_ok : InlOk Tryd.prog I := (inl_cons Tryd.func5 (by kernel_rfl) (by kernel_rfl) inl_nil)
noncomputable abbrev E (n : Nat) : Env (U × Heap) := envI tab ios (A n) I n 1
def L : List (List Nat) := [[1, 7, 9, 10, 5, 6], [1, 7, 9, 5, 6, 10, 11], [19, 14, 20, 18, 24, 25]]
abbrev us (B : List Int) (D : List Int) (n0 : Nat) (n1 : Nat) : List U := (((fun (B D : List Int) (n0 n1 : Nat) => (([.rsl [.ints .u8 B] n0, .rsl [.ints .u8 D] n1] : List U), ([] : Heap)))) B D n0 n1).1
abbrev HA (B : List Int) (D : List Int) (n0 : Nat) (n1 : Nat) : Heap := (((fun (B D : List Int) (n0 n1 : Nat) => (([.rsl [.ints .u8 B] n0, .rsl [.ints .u8 D] n1] : List U), ([] : Heap)))) B D n0 n1).2
def S0 (t1_0 : List Int) (t1n : Nat) (t7 : Int) (t10 : Int) (t5 : Int) (t6 : Int) (o0_0 : List Int) : St := ⟨[(1, .rsl [.ints .u8 t1_0] t1n), (7, .int .u16 t7), (9, .own 0), (10, .int .u16 t10), (5, .int .u16 t5), (6, .int .u16 t6)], 185, [(0, ⟨[.ints .u16 o0_0], true⟩)], [0], 0⟩
noncomputable def N0 (n : Nat)  (m0 : Nat) (t1_0 : List Int) (t1n : Nat) (t7 : Int) (t10 : Int) (t5 : Int) (t6 : Int) (o0_0 : List Int) : Res := nodeRun (E n) n Tryd.f4 L k0 [true, true, true, true, true, true, true, false, true, false] [] m0 (S0 t1_0 t1n t7 t10 t5 t6 o0_0)
def S1 (t1_0 : List Int) (t1n : Nat) (t7 : Int) (t5 : Int) (t6 : Int) (t10 : Int) (t11 : Int) (o0_0 : List Int) : St := ⟨[(1, .rsl [.ints .u8 t1_0] t1n), (7, .int .u16 t7), (9, .own 0), (5, .int .u16 t5), (6, .int .u16 t6), (10, .int .u16 t10), (11, .int .u16 t11)], 185, [(0, ⟨[.ints .u16 o0_0], true⟩)], [0], 0⟩
noncomputable def N1 (n : Nat) (m0 : Nat) (m1 : Nat) (t1_0 : List Int) (t1n : Nat) (t7 : Int) (t5 : Int) (t6 : Int) (t10 : Int) (t11 : Int) (o0_0 : List Int) : Res := nodeRun (E n) n Tryd.f4 L k0 [true, true, true, true, true, true, true, false, true, false, false, true, false, false, true, false] [m0] m1 (S1 t1_0 t1n t7 t5 t6 t10 t11 o0_0)
def S2 (t19 : Int) (t20 : Int) (t18 : Int) (t24 : Int) (t25 : Int) (o0_0 : List Int) : St := ⟨[(19, .int .i64 t19), (14, .own 0), (20, .int .u16 t20), (18, .int .i64 t18), (24, .int .u16 t24), (25, .int .i64 t25)], 185, [(0, ⟨[.ints .u16 o0_0], true⟩)], [0], 0⟩
noncomputable def N2 (n : Nat)  (m2 : Nat) (t19 : Int) (t20 : Int) (t18 : Int) (t24 : Int) (t25 : Int) (o0_0 : List Int) : Res := nodeRun (E n) n Tryd.f4 L k0 [true, true, true, true, true, true, true, true, true, true, true, true, true, true, true, true, true, false, true, false] [] m2 (S2 t19 t20 t18 t24 t25 o0_0)
theorem N0_succ (n : Nat)  (m0 : Nat) (t1_0 : List Int) (t1n : Nat) (t7 : Int) (t10 : Int) (t5 : Int) (t6 : Int) (o0_0 : List Int) : N0 n  (m0 + 1) t1_0 t1n t7 t10 t5 t6 o0_0 =
  bif decide (t10 < t5) then
   N1 n m0 n t1_0 t1n t7 t5 t6 t10 (0 : Int) o0_0
  else
   pif ((lst o0_0 (List.length o0_0))) (
   bif ((exE o0_0) != (0 : Int)) then
    some (.bool false, [])
   else
    bif ((exV o0_0) != (IntKind.wrap .i64 t7)) then
     some (.bool false, [])
    else
     pif ((src t1_0 t1n)) (
     pif ((lst (nmsI t1_0) (List.length (nmsI t1_0)))) (
     pif ((lst (nmsI t1_0) (List.length (nmsI t1_0)))) (
     pif ((lst (nmsI t1_0) (List.length (nmsI t1_0)))) (
     pif ((lst2 (nmsI t1_0) (List.length (nmsI t1_0)))) (
     pif ((isNims (nimsS (nmsI t1_0)))) (
     bif ((ldE (nmsI t1_0)) != (ldE (nmsI t1_0))) then
      some (.bool false, [])
     else
      bif ((ldA (nmsI t1_0)) != (ldA (nmsI t1_0))) then
       some (.bool false, [])
      else
       bif ((ldT (nmsI t1_0)) != (ldT (nmsI t1_0))) then
        some (.bool false, [])
       else
        bif (((ldE (nmsI t1_0)) == (0 : Int)) != ((suI (nmsI t1_0)) != (0 : Int))) then
         some (.bool false, [])
        else
         pif ((lst (nmsI t1_0) (List.length (nmsI t1_0)))) (
         bif ((suI (nmsI t1_0)) != (suI (nmsI t1_0))) then
          some (.bool false, [])
         else
          pif (((ul (rdNs (nimsS (nmsI t1_0))) (List.length (rdNs (nimsS (nmsI t1_0))))) ∧ (ul (nmsI t1_0) (List.length (nmsI t1_0))))) (
          bif (!(eqI (rdNs (nimsS (nmsI t1_0))) (nmsI t1_0))) then
           some (.bool false, [])
          else
           N2 n n (ldA (nmsI t1_0)) (ldT (nmsI t1_0)) (ldE (nmsI t1_0)) (1 : Int) (0 : Int) (nmsI t1_0)))))))))) := by kernel_rfl
theorem N1_succ (n : Nat) (m0 : Nat) (m1 : Nat) (t1_0 : List Int) (t1n : Nat) (t7 : Int) (t5 : Int) (t6 : Int) (t10 : Int) (t11 : Int) (o0_0 : List Int) : N1 n m0 (m1 + 1) t1_0 t1n t7 t5 t6 t10 t11 o0_0 =
  bif decide (t11 < t6) then
   pif (((u16 t10) ∧ (u16 t6))) (
   pif (((u16 t5) ∧ (u16 t11))) (
   pif (((u16 t10) ∧ (u16 t11))) (
   bif decide ((((List.length o0_0) + 1) * 1) ≤ 4398046511104) then
   N1 n m0 m1 t1_0 t1n t7 t5 t6 t10 (IntKind.wrap .u16 (t11 + (1 : Int))) (o0_0 ++ [(intBitsV .xor .u16 (intBitsV .xor .u16 (mulI t10 t6) (mulI t5 t11)) (mulI t10 t11))])
   else none)))
  else
   N0 n m0 t1_0 t1n t7 (IntKind.wrap .u16 (t10 + (1 : Int))) t5 t6 o0_0 := by kernel_rfl
theorem N2_succ (n : Nat)  (m2 : Nat) (t19 : Int) (t20 : Int) (t18 : Int) (t24 : Int) (t25 : Int) (o0_0 : List Int) : N2 n  (m2 + 1) t19 t20 t18 t24 t25 o0_0 =
  bif decide (t25 < (((List.length o0_0) : Nat) : Int)) then
   bif decide (((0 : Int) ≤ t25) ∧ (t25 < (((List.length o0_0) : Nat) : Int))) then
   pif (((u16 t24) ∧ (u16 (List.getD o0_0 (Int.toNat t25) (0 : Int))))) (
    N2 n m2 t19 t20 t18 (mulI t24 (List.getD o0_0 (Int.toNat t25) (0 : Int))) (IntKind.wrap .i64 (t25 + (1 : Int))) o0_0)
   else none
  else
   pif ((lst o0_0 (List.length o0_0))) (
   bif ((prI o0_0) != t24) then
    some (.bool false, [])
   else
    bif (t18 != (0 : Int)) then
     some (.bool (t18 == (6 : Int)), [])
    else
     bif decide (((0 + (List.length o0_0)) * 1) ≤ 4398046511104) then
     bif decide (((0 : Int) ≤ t19) ∧ (t19 < (((List.length ((List.replicate 0 (0 : Int)) ++ o0_0)) : Nat) : Int))) then
      bif decide (((0 : Int) ≤ t19) ∧ (t19 < (((List.length o0_0) : Nat) : Int))) then
       bif decide (t20 < (List.getD o0_0 (Int.toNat t19) (0 : Int))) then
         pif ((lst (List.set ((List.replicate 0 (0 : Int)) ++ o0_0) (Int.toNat t19) t20) (List.length (List.set ((List.replicate 0 (0 : Int)) ++ o0_0) (Int.toNat t19) t20)))) (
         some (.bool ((suI (List.set ((List.replicate 0 (0 : Int)) ++ o0_0) (Int.toNat t19) t20)) == (0 : Int)), []))
        else
         some (.bool false, [])
       else none
      else none
     else none) := by kernel_rfl
noncomputable def R (n : Nat) (B : List Int) (D : List Int) (n0 : Nat) (n1 : Nat) : Res := run (E n) n Tryd.f4 L (us B D n0 n1) (HA B D n0 n1) k0
theorem R_eq (n : Nat) (B : List Int) (D : List Int) (n0 : Nat) (n1 : Nat) : R n B D n0 n1 =
  bif decide (((n0 : Nat) : Int) > (3000 : Int)) then
   some (.bool true, [])
  else
   bif decide (((n1 : Nat) : Int) > (3000 : Int)) then
    some (.bool true, [])
   else
    pif (((src B n0) ∧ (atIn (0 : Int) (18 : Int)))) (
    pif (((src D n1) ∧ (atIn (0 : Int) (18 : Int)))) (
    pif (((le17 (IntKind.wrap .u16 (a2at B (0 : Int) (18 : Int)))) ∧ (le17 (IntKind.wrap .u16 (a2at D (0 : Int) (18 : Int)))))) (
    pif (((u16 (IntKind.wrap .u16 (a2at B (0 : Int) (18 : Int)))) ∧ (u16 (IntKind.wrap .u16 (a2at D (0 : Int) (18 : Int)))))) (
    bif ((mulI (IntKind.wrap .u16 (a2at B (0 : Int) (18 : Int))) (IntKind.wrap .u16 (a2at D (0 : Int) (18 : Int)))) != (mulI (IntKind.wrap .u16 (a2at B (0 : Int) (18 : Int))) (IntKind.wrap .u16 (a2at D (0 : Int) (18 : Int))))) then
     some (.bool false, [])
    else
     N0 n n D n1 (mulI (IntKind.wrap .u16 (a2at B (0 : Int) (18 : Int))) (IntKind.wrap .u16 (a2at D (0 : Int) (18 : Int)))) (0 : Int) (IntKind.wrap .u16 (a2at B (0 : Int) (18 : Int))) (IntKind.wrap .u16 (a2at D (0 : Int) (18 : Int))) [])))) := by kernel_rfl
theorem ans {n : Nat} {B : List Int} {D : List Int} {n0 : Nat} {n1 : Nat} (hA : Sounds Tryd.prog (A n)) {u : U} {H : Heap} (h : R n B D n0 n1 = some (u, H)) : Answers Tryd.prog 4 (us B D n0 n1) (HA B D n0 n1) u H := answers_inl tabOk mixed hA inl_ok Tryd.func4 (by kernel_rfl) (by kernel_rfl) h
end L_Excl

end Go.VM
