/- Written by a program of this session (Lift.lean): what the evaluator comes to, function by function; the kernel checks it. The conditions: those of the contracts. -/
import Derived.Test.YtcbimafcfccpeaaGreatDoorVmP5
import Derived.Test.YtcbimafcfccpeaaGreatDoorPolyT
import Derived.Test.YtcbimafcfccpeaaGreatDoorPolyTS
import Derived.Test.YtcbimafcfccpeaaGreatDoorNimCon
import Derived.Test.YtcbimafcfccpeaaGreatDoorIntsCon
import Derived.Test.YtcbimafcfccpeaaGreatDoorPolyCon
import Derived.Test.YtcbimafcfccpeaaGreatDoorPolyCon2
import Derived.Test.YtcbimafcfccpeaaGreatDoorSrcCon
import Derived.Test.YtcbimafcfccpeaaGreatDoorPolyCon3
import Derived.Test.YtcbimafcfccpeaaGreatDoorTxtCon
import Derived.Test.YtcbimafcfccpeaaGreatDoorNimsCon
import Derived.Test.YtcbimafcfccpeaaGreatDoorPolyCon4
import Derived.KernelRfl
set_option linter.unusedVariables false
set_option linter.unusedSimpArgs false
set_option linter.unusedSectionVars false
namespace Go.VM
open Go Go.Proofs Go.Fn NimF
set_option linter.unusedVariables false
set_option maxRecDepth 100000
namespace L_Div
abbrev num : Nat := 3
noncomputable def A (n : Nat) (fp : List Int → Int → List Int) (fa : List Int → Int → Int) (fm : Int → Int → Int) (fg : List Int → List Int → List Int) (fr : List Int → List Int → List Int) : List (Nat × Con) := ((fun (n : Nat) (fp : List Int → Int → List Int) (fa : List Int → Int → Int) (fm : Int → Int → Int) (fg fr : List Int → List Int → List Int) => ([(5, CA2PolyF fp), (6, CA2Nim), (7, CReadPoly), (8, CPolyText), (9, CTimesPoly), (10, CTimesPoly), (11, CPlusPoly), (12, CPlusPoly), (13, CSame), (14, CSame), (15, CValidP), (16, CPolyAtF fa), (17, CPolyAtF fa), (18, CMulF fm), (19, CCommonPolyF fg), (20, CCommonPolyF fg), (21, CBezoutOf), (22, CBezoutOf), (24, CDivPolyF fr), (25, CMonicOf), (26, CMonicOf), (23, CDivPolyF fr)] : List (Nat × Con)))) n fp fa fm fg fr
noncomputable def I : Inl := ([(4, Tryz.f4, [])] : Inl)
theorem inl_ok : InlOk Tryz.prog I := (inl_cons Tryz.func4 (by kernel_rfl) (by kernel_rfl) inl_nil)
noncomputable abbrev E (n : Nat) (fp : List Int → Int → List Int) (fa : List Int → Int → Int) (fm : Int → Int → Int) (fg : List Int → List Int → List Int) (fr : List Int → List Int → List Int) : Env (U × Heap) := envI tab ios (A n fp fa fm fg fr) I n 1
def L : List (List Nat) := []
abbrev us (B : List Int) (D : List Int) (n0 : Nat) (n1 : Nat) : List U := (((fun (B D : List Int) (n0 n1 : Nat) => (([.rsl [.ints .u8 B] n0, .rsl [.ints .u8 D] n1] : List U), ([] : Heap)))) B D n0 n1).1
abbrev HA (B : List Int) (D : List Int) (n0 : Nat) (n1 : Nat) : Heap := (((fun (B D : List Int) (n0 n1 : Nat) => (([.rsl [.ints .u8 B] n0, .rsl [.ints .u8 D] n1] : List U), ([] : Heap)))) B D n0 n1).2
noncomputable def R (n : Nat) (fp : List Int → Int → List Int) (fa : List Int → Int → Int) (fm : Int → Int → Int) (fg : List Int → List Int → List Int) (fr : List Int → List Int → List Int) (B : List Int) (D : List Int) (n0 : Nat) (n1 : Nat) : Res := run (E n fp fa fm fg fr) n Tryz.f3 L (us B D n0 n1) (HA B D n0 n1) k0
theorem R_eq (n : Nat) (fp : List Int → Int → List Int) (fa : List Int → Int → Int) (fm : Int → Int → Int) (fg : List Int → List Int → List Int) (fr : List Int → List Int → List Int) (B : List Int) (D : List Int) (n0 : Nat) (n1 : Nat) : R n fp fa fm fg fr B D n0 n1 =
  bif decide (((n0 : Nat) : Int) > (3000 : Int)) then
   some (.bool true, [])
  else
   bif decide (((n1 : Nat) : Int) > (3000 : Int)) then
    some (.bool true, [])
   else
    pif (((src B n0) ∧ (mostI (7 : Int) (0 : Int) (0 : Int)))) (
    pif (((src D n1) ∧ (mostI (5 : Int) (0 : Int) (0 : Int)))) (
    pif ((src D n1)) (
    pif ((okP (fp B (7 : Int)) (List.length (fp B (7 : Int))))) (
    pif ((isPol (polS (fp B (7 : Int))))) (
    pif (((okP (fp B (7 : Int)) (List.length (fp B (7 : Int)))) ∧ ((okP (fp D (5 : Int)) (List.length (fp D (5 : Int)))) ∧ (((List.length (fp B (7 : Int))) + (List.length (fp D (5 : Int)))) ≤ 22)))) (
    pif (((okP (fp B (7 : Int)) (List.length (fp B (7 : Int)))) ∧ ((okP (fp D (5 : Int)) (List.length (fp D (5 : Int)))) ∧ (((List.length (fp B (7 : Int))) + (List.length (fp D (5 : Int)))) ≤ 22)))) (
    pif (((okP (fp B (7 : Int)) (List.length (fp B (7 : Int)))) ∧ (okP (fp D (5 : Int)) (List.length (fp D (5 : Int)))))) (
    pif (((okP (fp B (7 : Int)) (List.length (fp B (7 : Int)))) ∧ (okP (fp D (5 : Int)) (List.length (fp D (5 : Int)))))) (
    pif ((smP (rdPo (polS (fp B (7 : Int)))) (List.length (rdPo (polS (fp B (7 : Int))))) (fp B (7 : Int)) (List.length (fp B (7 : Int))))) (
    pif ((smP (rdPo (polS (fp B (7 : Int)))) (List.length (rdPo (polS (fp B (7 : Int))))) (fp B (7 : Int)) (List.length (fp B (7 : Int))))) (
    pif ((okP (fp B (7 : Int)) (List.length (fp B (7 : Int))))) (
    pif ((smP (tiP (fp B (7 : Int)) (fp D (5 : Int))) (List.length (tiP (fp B (7 : Int)) (fp D (5 : Int)))) (tiP (fp B (7 : Int)) (fp D (5 : Int))) (List.length (tiP (fp B (7 : Int)) (fp D (5 : Int)))))) (
    pif ((smP (plP (fp B (7 : Int)) (fp D (5 : Int))) (List.length (plP (fp B (7 : Int)) (fp D (5 : Int)))) (plP (fp B (7 : Int)) (fp D (5 : Int))) (List.length (plP (fp B (7 : Int)) (fp D (5 : Int)))))) (
    pif ((okP (tiP (fp B (7 : Int)) (fp D (5 : Int))) (List.length (tiP (fp B (7 : Int)) (fp D (5 : Int)))))) (
    pif ((okP (plP (fp B (7 : Int)) (fp D (5 : Int))) (List.length (plP (fp B (7 : Int)) (fp D (5 : Int)))))) (
    pif (((okP (fp B (7 : Int)) (List.length (fp B (7 : Int)))) ∧ (u16 (a2n D)))) (
    pif (((okP (fp D (5 : Int)) (List.length (fp D (5 : Int)))) ∧ (u16 (a2n D)))) (
    pif (((okP (tiP (fp B (7 : Int)) (fp D (5 : Int))) (List.length (tiP (fp B (7 : Int)) (fp D (5 : Int))))) ∧ (u16 (a2n D)))) (
    pif (((okP (plP (fp B (7 : Int)) (fp D (5 : Int))) (List.length (plP (fp B (7 : Int)) (fp D (5 : Int))))) ∧ (u16 (a2n D)))) (
    pif (((okP (fp B (7 : Int)) (List.length (fp B (7 : Int)))) ∧ (u16 (a2n D)))) (
    bif ((fa (fp B (7 : Int)) (a2n D)) != (fa (fp B (7 : Int)) (a2n D))) then
     some (.bool false, [])
    else
     pif (((u16 (fa (fp B (7 : Int)) (a2n D))) ∧ (u16 (fa (fp D (5 : Int)) (a2n D))))) (
     bif ((fa (tiP (fp B (7 : Int)) (fp D (5 : Int))) (a2n D)) != (fm (fa (fp B (7 : Int)) (a2n D)) (fa (fp D (5 : Int)) (a2n D)))) then
      some (.bool false, [])
     else
      bif ((fa (plP (fp B (7 : Int)) (fp D (5 : Int))) (a2n D)) != (intBitsV .xor .u16 (fa (fp B (7 : Int)) (a2n D)) (fa (fp D (5 : Int)) (a2n D)))) then
       some (.bool false, [])
      else
       pif (((short9 (fp B (7 : Int)) (List.length (fp B (7 : Int)))) ∧ (short9 (fp D (5 : Int)) (List.length (fp D (5 : Int)))))) (
       pif (((short9 (fp B (7 : Int)) (List.length (fp B (7 : Int)))) ∧ (short9 (fp D (5 : Int)) (List.length (fp D (5 : Int)))))) (
       pif (((short9 (fp B (7 : Int)) (List.length (fp B (7 : Int)))) ∧ (short9 (fp D (5 : Int)) (List.length (fp D (5 : Int)))))) (
       pif (((short9 (fp B (7 : Int)) (List.length (fp B (7 : Int)))) ∧ (short9 (fp D (5 : Int)) (List.length (fp D (5 : Int)))))) (
       pif (((okP (uuP (fp B (7 : Int)) (fp D (5 : Int))) (List.length (uuP (fp B (7 : Int)) (fp D (5 : Int))))) ∧ ((okP (fp B (7 : Int)) (List.length (fp B (7 : Int)))) ∧ (((List.length (uuP (fp B (7 : Int)) (fp D (5 : Int)))) + (List.length (fp B (7 : Int)))) ≤ 22)))) (
       pif (((okP (vvP (fp B (7 : Int)) (fp D (5 : Int))) (List.length (vvP (fp B (7 : Int)) (fp D (5 : Int))))) ∧ ((okP (fp D (5 : Int)) (List.length (fp D (5 : Int)))) ∧ (((List.length (vvP (fp B (7 : Int)) (fp D (5 : Int)))) + (List.length (fp D (5 : Int)))) ≤ 22)))) (
       pif (((okP (tiP (uuP (fp B (7 : Int)) (fp D (5 : Int))) (fp B (7 : Int))) (List.length (tiP (uuP (fp B (7 : Int)) (fp D (5 : Int))) (fp B (7 : Int))))) ∧ (okP (tiP (vvP (fp B (7 : Int)) (fp D (5 : Int))) (fp D (5 : Int))) (List.length (tiP (vvP (fp B (7 : Int)) (fp D (5 : Int))) (fp D (5 : Int))))))) (
       pif ((smP (fg (fp B (7 : Int)) (fp D (5 : Int))) (List.length (fg (fp B (7 : Int)) (fp D (5 : Int)))) (fg (fp B (7 : Int)) (fp D (5 : Int))) (List.length (fg (fp B (7 : Int)) (fp D (5 : Int)))))) (
       pif ((smP (uuP (fp B (7 : Int)) (fp D (5 : Int))) (List.length (uuP (fp B (7 : Int)) (fp D (5 : Int)))) (uuP (fp B (7 : Int)) (fp D (5 : Int))) (List.length (uuP (fp B (7 : Int)) (fp D (5 : Int)))))) (
       pif ((smP (vvP (fp B (7 : Int)) (fp D (5 : Int))) (List.length (vvP (fp B (7 : Int)) (fp D (5 : Int)))) (vvP (fp B (7 : Int)) (fp D (5 : Int))) (List.length (vvP (fp B (7 : Int)) (fp D (5 : Int)))))) (
       pif ((smP (plP (tiP (uuP (fp B (7 : Int)) (fp D (5 : Int))) (fp B (7 : Int))) (tiP (vvP (fp B (7 : Int)) (fp D (5 : Int))) (fp D (5 : Int)))) (List.length (plP (tiP (uuP (fp B (7 : Int)) (fp D (5 : Int))) (fp B (7 : Int))) (tiP (vvP (fp B (7 : Int)) (fp D (5 : Int))) (fp D (5 : Int))))) (fg (fp B (7 : Int)) (fp D (5 : Int))) (List.length (fg (fp B (7 : Int)) (fp D (5 : Int)))))) (
       pif ((dvs (fp B (7 : Int)) (List.length (fp B (7 : Int))) (fp D (5 : Int)) (List.length (fp D (5 : Int))))) (
       bif ((((List.length (fp D (5 : Int))) : Nat) : Int) == (0 : Int)) then
        some (.bool false, [])
       else
        pif ((dvs (fp B (7 : Int)) (List.length (fp B (7 : Int))) (fp D (5 : Int)) (List.length (fp D (5 : Int))))) (
        pif (((okP (fp D (5 : Int)) (List.length (fp D (5 : Int)))) ∧ ((okP (dqP (fp B (7 : Int)) (fp D (5 : Int))) (List.length (dqP (fp B (7 : Int)) (fp D (5 : Int))))) ∧ (((List.length (fp D (5 : Int))) + (List.length (dqP (fp B (7 : Int)) (fp D (5 : Int))))) ≤ 22)))) (
        pif (((okP (tiP (fp D (5 : Int)) (dqP (fp B (7 : Int)) (fp D (5 : Int)))) (List.length (tiP (fp D (5 : Int)) (dqP (fp B (7 : Int)) (fp D (5 : Int)))))) ∧ (okP (fr (fp B (7 : Int)) (fp D (5 : Int))) (List.length (fr (fp B (7 : Int)) (fp D (5 : Int))))))) (
        pif ((smP (dqP (fp B (7 : Int)) (fp D (5 : Int))) (List.length (dqP (fp B (7 : Int)) (fp D (5 : Int)))) (dqP (fp B (7 : Int)) (fp D (5 : Int))) (List.length (dqP (fp B (7 : Int)) (fp D (5 : Int)))))) (
        pif ((smP (fr (fp B (7 : Int)) (fp D (5 : Int))) (List.length (fr (fp B (7 : Int)) (fp D (5 : Int)))) (fr (fp B (7 : Int)) (fp D (5 : Int))) (List.length (fr (fp B (7 : Int)) (fp D (5 : Int)))))) (
        pif ((smP (plP (tiP (fp D (5 : Int)) (dqP (fp B (7 : Int)) (fp D (5 : Int)))) (fr (fp B (7 : Int)) (fp D (5 : Int)))) (List.length (plP (tiP (fp D (5 : Int)) (dqP (fp B (7 : Int)) (fp D (5 : Int)))) (fr (fp B (7 : Int)) (fp D (5 : Int))))) (fp B (7 : Int)) (List.length (fp B (7 : Int))))) (
        bif decide ((((List.length (fr (fp B (7 : Int)) (fp D (5 : Int)))) : Nat) : Int) ≥ (((List.length (fp D (5 : Int))) : Nat) : Int)) then
         some (.bool false, [])
        else
         bif ((((List.length (fg (fp B (7 : Int)) (fp D (5 : Int)))) : Nat) : Int) == (0 : Int)) then
          some (.bool false, [])
         else
          bif decide (((0 : Int) ≤ (IntKind.wrap .i64 ((((List.length (fg (fp B (7 : Int)) (fp D (5 : Int)))) : Nat) : Int) - (1 : Int)))) ∧ ((IntKind.wrap .i64 ((((List.length (fg (fp B (7 : Int)) (fp D (5 : Int)))) : Nat) : Int) - (1 : Int))) < (((List.length (fg (fp B (7 : Int)) (fp D (5 : Int)))) : Nat) : Int))) then
          bif ((List.getD (fg (fp B (7 : Int)) (fp D (5 : Int))) (Int.toNat (IntKind.wrap .i64 ((((List.length (fg (fp B (7 : Int)) (fp D (5 : Int)))) : Nat) : Int) - (1 : Int)))) (0 : Int)) != (1 : Int)) then
            some (.bool false, [])
           else
            pif ((dvs (fp B (7 : Int)) (List.length (fp B (7 : Int))) (fg (fp B (7 : Int)) (fp D (5 : Int))) (List.length (fg (fp B (7 : Int)) (fp D (5 : Int)))))) (
            pif ((dvs (fp D (5 : Int)) (List.length (fp D (5 : Int))) (fg (fp B (7 : Int)) (fp D (5 : Int))) (List.length (fg (fp B (7 : Int)) (fp D (5 : Int)))))) (
            pif ((nzP (fp D (5 : Int)) (List.length (fp D (5 : Int))))) (
            pif ((nzP (fp D (5 : Int)) (List.length (fp D (5 : Int))))) (
            bif ((((List.length (fr (fp B (7 : Int)) (fg (fp B (7 : Int)) (fp D (5 : Int))))) : Nat) : Int) == (0 : Int)) then
             bif ((((List.length (fr (fp D (5 : Int)) (fg (fp B (7 : Int)) (fp D (5 : Int))))) : Nat) : Int) == (0 : Int)) then
              pif ((smP (mnB (fp D (5 : Int))) (List.length (mnB (fp D (5 : Int)))) (mnB (fp D (5 : Int))) (List.length (mnB (fp D (5 : Int)))))) (
              some (.bool true, []))
             else
              some (.bool false, [])
            else
             some (.bool false, [])))))
          else none)))))))))))))))))))))))))))))))))))))))) := by kernel_rfl
theorem ans {n : Nat} {fp : List Int → Int → List Int} {fa : List Int → Int → Int} {fm : Int → Int → Int} {fg : List Int → List Int → List Int} {fr : List Int → List Int → List Int} {B : List Int} {D : List Int} {n0 : Nat} {n1 : Nat} (hA : Sounds Tryz.prog (A n fp fa fm fg fr)) {u : U} {H : Heap} (h : R n fp fa fm fg fr B D n0 n1 = some (u, H)) : Answers Tryz.prog 3 (us B D n0 n1) (HA B D n0 n1) u H := answers_inl tabOk mixed hA inl_ok Tryz.func3 (by kernel_rfl) (by kernel_rfl) h
end L_Div

namespace L_Div0
abbrev num : Nat := 3
noncomputable def A (n : Nat) (fp : List Int → Int → List Int) (fa : List Int → Int → Int) (fm : Int → Int → Int) (fg : List Int → List Int → List Int) (fr : List Int → List Int → List Int) : List (Nat × Con) := ((fun (n : Nat) (fp : List Int → Int → List Int) (fa : List Int → Int → Int) (fm : Int → Int → Int) (fg fr : List Int → List Int → List Int) => ([(5, CA2PolyF fp), (6, CA2Nim), (7, CReadPoly), (8, CPolyText), (9, CTimesPoly), (10, CTimesPoly), (11, CPlusPoly), (12, CPlusPoly), (13, CSame), (14, CSame), (15, CValidP), (16, CPolyAtF fa), (17, CPolyAtF fa), (18, CMulF fm), (19, CCommonPolyF fg), (20, CCommonPolyF fg), (21, CBezoutOf), (22, CBezoutOf), (24, CDivPolyF fr), (25, CMonicOf), (26, CMonicOf), (23, CDivPoly0)] : List (Nat × Con)))) n fp fa fm fg fr
noncomputable def I : Inl := ([(4, Tryz.f4, [])] : Inl)
theorem inl_ok : InlOk Tryz.prog I := (inl_cons Tryz.func4 (by kernel_rfl) (by kernel_rfl) inl_nil)
noncomputable abbrev E (n : Nat) (fp : List Int → Int → List Int) (fa : List Int → Int → Int) (fm : Int → Int → Int) (fg : List Int → List Int → List Int) (fr : List Int → List Int → List Int) : Env (U × Heap) := envI tab ios (A n fp fa fm fg fr) I n 1
def L : List (List Nat) := []
abbrev us (B : List Int) (D : List Int) (n0 : Nat) (n1 : Nat) : List U := (((fun (B D : List Int) (n0 n1 : Nat) => (([.rsl [.ints .u8 B] n0, .rsl [.ints .u8 D] n1] : List U), ([] : Heap)))) B D n0 n1).1
abbrev HA (B : List Int) (D : List Int) (n0 : Nat) (n1 : Nat) : Heap := (((fun (B D : List Int) (n0 n1 : Nat) => (([.rsl [.ints .u8 B] n0, .rsl [.ints .u8 D] n1] : List U), ([] : Heap)))) B D n0 n1).2
noncomputable def R (n : Nat) (fp : List Int → Int → List Int) (fa : List Int → Int → Int) (fm : Int → Int → Int) (fg : List Int → List Int → List Int) (fr : List Int → List Int → List Int) (B : List Int) (D : List Int) (n0 : Nat) (n1 : Nat) : Res := run (E n fp fa fm fg fr) n Tryz.f3 L (us B D n0 n1) (HA B D n0 n1) k0
theorem R_eq (n : Nat) (fp : List Int → Int → List Int) (fa : List Int → Int → Int) (fm : Int → Int → Int) (fg : List Int → List Int → List Int) (fr : List Int → List Int → List Int) (B : List Int) (D : List Int) (n0 : Nat) (n1 : Nat) : R n fp fa fm fg fr B D n0 n1 =
  bif decide (((n0 : Nat) : Int) > (3000 : Int)) then
   some (.bool true, [])
  else
   bif decide (((n1 : Nat) : Int) > (3000 : Int)) then
    some (.bool true, [])
   else
    pif (((src B n0) ∧ (mostI (7 : Int) (0 : Int) (0 : Int)))) (
    pif (((src D n1) ∧ (mostI (5 : Int) (0 : Int) (0 : Int)))) (
    pif ((src D n1)) (
    pif ((okP (fp B (7 : Int)) (List.length (fp B (7 : Int))))) (
    pif ((isPol (polS (fp B (7 : Int))))) (
    pif (((okP (fp B (7 : Int)) (List.length (fp B (7 : Int)))) ∧ ((okP (fp D (5 : Int)) (List.length (fp D (5 : Int)))) ∧ (((List.length (fp B (7 : Int))) + (List.length (fp D (5 : Int)))) ≤ 22)))) (
    pif (((okP (fp B (7 : Int)) (List.length (fp B (7 : Int)))) ∧ ((okP (fp D (5 : Int)) (List.length (fp D (5 : Int)))) ∧ (((List.length (fp B (7 : Int))) + (List.length (fp D (5 : Int)))) ≤ 22)))) (
    pif (((okP (fp B (7 : Int)) (List.length (fp B (7 : Int)))) ∧ (okP (fp D (5 : Int)) (List.length (fp D (5 : Int)))))) (
    pif (((okP (fp B (7 : Int)) (List.length (fp B (7 : Int)))) ∧ (okP (fp D (5 : Int)) (List.length (fp D (5 : Int)))))) (
    pif ((smP (rdPo (polS (fp B (7 : Int)))) (List.length (rdPo (polS (fp B (7 : Int))))) (fp B (7 : Int)) (List.length (fp B (7 : Int))))) (
    pif ((smP (rdPo (polS (fp B (7 : Int)))) (List.length (rdPo (polS (fp B (7 : Int))))) (fp B (7 : Int)) (List.length (fp B (7 : Int))))) (
    pif ((okP (fp B (7 : Int)) (List.length (fp B (7 : Int))))) (
    pif ((smP (tiP (fp B (7 : Int)) (fp D (5 : Int))) (List.length (tiP (fp B (7 : Int)) (fp D (5 : Int)))) (tiP (fp B (7 : Int)) (fp D (5 : Int))) (List.length (tiP (fp B (7 : Int)) (fp D (5 : Int)))))) (
    pif ((smP (plP (fp B (7 : Int)) (fp D (5 : Int))) (List.length (plP (fp B (7 : Int)) (fp D (5 : Int)))) (plP (fp B (7 : Int)) (fp D (5 : Int))) (List.length (plP (fp B (7 : Int)) (fp D (5 : Int)))))) (
    pif ((okP (tiP (fp B (7 : Int)) (fp D (5 : Int))) (List.length (tiP (fp B (7 : Int)) (fp D (5 : Int)))))) (
    pif ((okP (plP (fp B (7 : Int)) (fp D (5 : Int))) (List.length (plP (fp B (7 : Int)) (fp D (5 : Int)))))) (
    pif (((okP (fp B (7 : Int)) (List.length (fp B (7 : Int)))) ∧ (u16 (a2n D)))) (
    pif (((okP (fp D (5 : Int)) (List.length (fp D (5 : Int)))) ∧ (u16 (a2n D)))) (
    pif (((okP (tiP (fp B (7 : Int)) (fp D (5 : Int))) (List.length (tiP (fp B (7 : Int)) (fp D (5 : Int))))) ∧ (u16 (a2n D)))) (
    pif (((okP (plP (fp B (7 : Int)) (fp D (5 : Int))) (List.length (plP (fp B (7 : Int)) (fp D (5 : Int))))) ∧ (u16 (a2n D)))) (
    pif (((okP (fp B (7 : Int)) (List.length (fp B (7 : Int)))) ∧ (u16 (a2n D)))) (
    bif ((fa (fp B (7 : Int)) (a2n D)) != (fa (fp B (7 : Int)) (a2n D))) then
     some (.bool false, [])
    else
     pif (((u16 (fa (fp B (7 : Int)) (a2n D))) ∧ (u16 (fa (fp D (5 : Int)) (a2n D))))) (
     bif ((fa (tiP (fp B (7 : Int)) (fp D (5 : Int))) (a2n D)) != (fm (fa (fp B (7 : Int)) (a2n D)) (fa (fp D (5 : Int)) (a2n D)))) then
      some (.bool false, [])
     else
      bif ((fa (plP (fp B (7 : Int)) (fp D (5 : Int))) (a2n D)) != (intBitsV .xor .u16 (fa (fp B (7 : Int)) (a2n D)) (fa (fp D (5 : Int)) (a2n D)))) then
       some (.bool false, [])
      else
       pif (((short9 (fp B (7 : Int)) (List.length (fp B (7 : Int)))) ∧ (short9 (fp D (5 : Int)) (List.length (fp D (5 : Int)))))) (
       pif (((short9 (fp B (7 : Int)) (List.length (fp B (7 : Int)))) ∧ (short9 (fp D (5 : Int)) (List.length (fp D (5 : Int)))))) (
       pif (((short9 (fp B (7 : Int)) (List.length (fp B (7 : Int)))) ∧ (short9 (fp D (5 : Int)) (List.length (fp D (5 : Int)))))) (
       pif (((short9 (fp B (7 : Int)) (List.length (fp B (7 : Int)))) ∧ (short9 (fp D (5 : Int)) (List.length (fp D (5 : Int)))))) (
       pif (((okP (uuP (fp B (7 : Int)) (fp D (5 : Int))) (List.length (uuP (fp B (7 : Int)) (fp D (5 : Int))))) ∧ ((okP (fp B (7 : Int)) (List.length (fp B (7 : Int)))) ∧ (((List.length (uuP (fp B (7 : Int)) (fp D (5 : Int)))) + (List.length (fp B (7 : Int)))) ≤ 22)))) (
       pif (((okP (vvP (fp B (7 : Int)) (fp D (5 : Int))) (List.length (vvP (fp B (7 : Int)) (fp D (5 : Int))))) ∧ ((okP (fp D (5 : Int)) (List.length (fp D (5 : Int)))) ∧ (((List.length (vvP (fp B (7 : Int)) (fp D (5 : Int)))) + (List.length (fp D (5 : Int)))) ≤ 22)))) (
       pif (((okP (tiP (uuP (fp B (7 : Int)) (fp D (5 : Int))) (fp B (7 : Int))) (List.length (tiP (uuP (fp B (7 : Int)) (fp D (5 : Int))) (fp B (7 : Int))))) ∧ (okP (tiP (vvP (fp B (7 : Int)) (fp D (5 : Int))) (fp D (5 : Int))) (List.length (tiP (vvP (fp B (7 : Int)) (fp D (5 : Int))) (fp D (5 : Int))))))) (
       pif ((smP (fg (fp B (7 : Int)) (fp D (5 : Int))) (List.length (fg (fp B (7 : Int)) (fp D (5 : Int)))) (fg (fp B (7 : Int)) (fp D (5 : Int))) (List.length (fg (fp B (7 : Int)) (fp D (5 : Int)))))) (
       pif ((smP (uuP (fp B (7 : Int)) (fp D (5 : Int))) (List.length (uuP (fp B (7 : Int)) (fp D (5 : Int)))) (uuP (fp B (7 : Int)) (fp D (5 : Int))) (List.length (uuP (fp B (7 : Int)) (fp D (5 : Int)))))) (
       pif ((smP (vvP (fp B (7 : Int)) (fp D (5 : Int))) (List.length (vvP (fp B (7 : Int)) (fp D (5 : Int)))) (vvP (fp B (7 : Int)) (fp D (5 : Int))) (List.length (vvP (fp B (7 : Int)) (fp D (5 : Int)))))) (
       pif ((smP (plP (tiP (uuP (fp B (7 : Int)) (fp D (5 : Int))) (fp B (7 : Int))) (tiP (vvP (fp B (7 : Int)) (fp D (5 : Int))) (fp D (5 : Int)))) (List.length (plP (tiP (uuP (fp B (7 : Int)) (fp D (5 : Int))) (fp B (7 : Int))) (tiP (vvP (fp B (7 : Int)) (fp D (5 : Int))) (fp D (5 : Int))))) (fg (fp B (7 : Int)) (fp D (5 : Int))) (List.length (fg (fp B (7 : Int)) (fp D (5 : Int)))))) (
       pif ((dv0 (fp B (7 : Int)) (List.length (fp B (7 : Int))) (fp D (5 : Int)) (List.length (fp D (5 : Int))))) (
       bif ((((List.length (fp D (5 : Int))) : Nat) : Int) == (0 : Int)) then
        some (.bool true, [])
       else
        pif ((dvs (fp B (7 : Int)) (List.length (fp B (7 : Int))) (fp D (5 : Int)) (List.length (fp D (5 : Int))))) (
        pif (((okP (fp D (5 : Int)) (List.length (fp D (5 : Int)))) ∧ ((okP (dqP (fp B (7 : Int)) (fp D (5 : Int))) (List.length (dqP (fp B (7 : Int)) (fp D (5 : Int))))) ∧ (((List.length (fp D (5 : Int))) + (List.length (dqP (fp B (7 : Int)) (fp D (5 : Int))))) ≤ 22)))) (
        pif (((okP (tiP (fp D (5 : Int)) (dqP (fp B (7 : Int)) (fp D (5 : Int)))) (List.length (tiP (fp D (5 : Int)) (dqP (fp B (7 : Int)) (fp D (5 : Int)))))) ∧ (okP (fr (fp B (7 : Int)) (fp D (5 : Int))) (List.length (fr (fp B (7 : Int)) (fp D (5 : Int))))))) (
        some (.bool false, [])))))))))))))))))))))))))))))))))))))) := by kernel_rfl
theorem ans {n : Nat} {fp : List Int → Int → List Int} {fa : List Int → Int → Int} {fm : Int → Int → Int} {fg : List Int → List Int → List Int} {fr : List Int → List Int → List Int} {B : List Int} {D : List Int} {n0 : Nat} {n1 : Nat} (hA : Sounds Tryz.prog (A n fp fa fm fg fr)) {u : U} {H : Heap} (h : R n fp fa fm fg fr B D n0 n1 = some (u, H)) : Answers Tryz.prog 3 (us B D n0 n1) (HA B D n0 n1) u H := answers_inl tabOk mixed hA inl_ok Tryz.func3 (by kernel_rfl) (by kernel_rfl) h
end L_Div0

namespace S_TimesNim
abbrev num : Nat := 18
noncomputable def A (n : Nat) : List (Nat × Con) := ((fun (n : Nat) => ([(43, CMul)] : List (Nat × Con)))) n
noncomputable abbrev E (n : Nat) : Env (U × Heap) := envC tab ios (A n)
def L : List (List Nat) := []
abbrev us (x : Int) (y : Int) : List U := (((fun (x y : Int) => (([.int .u16 x, .int .u16 y] : List U), ([] : Heap)))) x y).1
abbrev HA (x : Int) (y : Int) : Heap := (((fun (x y : Int) => (([.int .u16 x, .int .u16 y] : List U), ([] : Heap)))) x y).2
noncomputable def R (n : Nat) (x : Int) (y : Int) : Res := run (E n) n Tryz.f18 L (us x y) (HA x y) k0
theorem R_eq (n : Nat) (x : Int) (y : Int) : R n x y =
  pif (((u16 x) ∧ (u16 y))) (
  some (.int .u16 (mulI x y), [])) := by kernel_rfl
theorem ans {n : Nat} {x : Int} {y : Int} (hA : Sounds Tryz.prog (A n)) {u : U} {H : Heap} (h : R n x y = some (u, H)) : Answers Tryz.prog 18 (us x y) (HA x y) u H := answers_env tabOk mixed hA Tryz.func18 (by kernel_rfl) (by kernel_rfl) h
end S_TimesNim

end Go.VM
