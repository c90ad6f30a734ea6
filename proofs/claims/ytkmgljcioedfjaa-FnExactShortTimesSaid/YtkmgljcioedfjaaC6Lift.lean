/- Written by a program of this session (Lift.lean): what the evaluator comes to, function by function; the kernel checks it. The conditions: those of the contracts. -/
import Derived.Test.YtkmgljcioedfjaaVmP4
import Derived.Test.YtkmgljcioedfjaaCircT
import Derived.Test.YtkmgljcioedfjaaCircTS
import Derived.Test.YtkmgljcioedfjaaCircCon
import Derived.Test.YtkmgljcioedfjaaC6
import Derived.KernelRfl
set_option linter.unusedVariables false
set_option linter.unusedSimpArgs false
set_option linter.unusedSectionVars false
namespace Go.VM
open Go Go.Proofs Go.Fn NimF
set_option linter.unusedVariables false
set_option maxRecDepth 100000
namespace L_Short
abbrev num : Nat := 6
noncomputable def A (n : Nat) : List (Nat × Con) := ((fun (n : Nat) => ([(25, CShort), (26, CShort), (18, CEqC), (21, CMarkC), (22, CHeldC)] : List (Nat × Con)))) n
noncomputable abbrev E (n : Nat) : Env (U × Heap) := envC tab ios (A n)
def L : List (List Nat) := []
abbrev us (x : Int) : List U := (((fun (x : Int) => (([.int .i64 x] : List U), ([] : Heap)))) x).1
abbrev HA (x : Int) : Heap := (((fun (x : Int) => (([.int .i64 x] : List U), ([] : Heap)))) x).2
noncomputable def R (n : Nat) (x : Int) : Res := run (E n) n Try.f6 L (us x) (HA x) k0
theorem R_eq (n : Nat) (x : Int) : R n x =
  pif ((shLev x)) (
  pif ((shLev x)) (
  pif (((gl (shK x) (shA x) (shB x) (List.length (shK x))) ∧ ((gl (shK x) (shA x) (shB x) (List.length (shK x))) ∧ ((ol (shO x) (List.length (shO x))) ∧ (ol (shO x) (List.length (shO x))))))) (
  bif (!(eqC (shX x) (shK x) (shA x) (shB x) (shO x) (shX x) (shK x) (shA x) (shB x) (shO x))) then
   some (.bool false, [])
  else
   pif (((gl (shK x) (shA x) (shB x) (List.length (shK x))) ∧ ((ol (shO x) (List.length (shO x))) ∧ ((1 : Int) = (1 : Int))))) (
   pif (((gl (mk8 (1 : Int) (shK x)) (mkA (1 : Int) (shK x)) (mkB (1 : Int) (shK x)) (List.length (mk8 (1 : Int) (shK x)))) ∧ ((ol (mkO (cnt3 (1 : Int) (shK x)) (shO x)) (List.length (mkO (cnt3 (1 : Int) (shK x)) (shO x)))) ∧ (((1 : Int) = (1 : Int)) ∧ ((markedG (1 : Int) (mk8 (1 : Int) (shK x)) (mkA (1 : Int) (shK x)) (mkB (1 : Int) (shK x))) ∧ (markedO (cnt3 (1 : Int) (mk8 (1 : Int) (shK x))) (mkO (cnt3 (1 : Int) (shK x)) (shO x)))))))) (
   bif ((cnt1 (cnt3 (1 : Int) (mk8 (1 : Int) (shK x))) (mkO (cnt3 (1 : Int) (shK x)) (shO x))) != (cnt1 (cnt3 (1 : Int) (shK x)) (shO x))) then
    some (.bool false, [])
   else
    pif ((shLev x)) (
    pif (((gl (shK x) (shA x) (shB x) (List.length (shK x))) ∧ ((gl (shK x) (shA x) (shB x) (List.length (shK x))) ∧ ((ol (shO x) (List.length (shO x))) ∧ (ol (shO x) (List.length (shO x))))))) (
    bif (!(eqC (shX x) (shK x) (shA x) (shB x) (shO x) (shX x) (shK x) (shA x) (shB x) (shO x))) then
     some (.bool false, [])
    else
     pif (((gl (mk8 (1 : Int) (shK x)) (mkA (1 : Int) (shK x)) (mkB (1 : Int) (shK x)) (List.length (mk8 (1 : Int) (shK x)))) ∧ ((ol (mkO (cnt3 (1 : Int) (shK x)) (shO x)) (List.length (mkO (cnt3 (1 : Int) (shK x)) (shO x)))) ∧ (((1 : Int) = (1 : Int)) ∧ ((markedG (1 : Int) (mk8 (1 : Int) (shK x)) (mkA (1 : Int) (shK x)) (mkB (1 : Int) (shK x))) ∧ (markedO (cnt3 (1 : Int) (mk8 (1 : Int) (shK x))) (mkO (cnt3 (1 : Int) (shK x)) (shO x)))))))) (
     bif ((cnt1 (cnt3 (1 : Int) (mk8 (1 : Int) (shK x))) (mkO (cnt3 (1 : Int) (shK x)) (shO x))) != (cnt1 (cnt3 (1 : Int) (shK x)) (shO x))) then
      some (.bool false, [])
     else
      some (.bool true, []))))))))) := by kernel_rfl
theorem ans {n : Nat} {x : Int} (hA : Sounds Try.prog (A n)) {u : U} {H : Heap} (h : R n x = some (u, H)) : Answers Try.prog 6 (us x) (HA x) u H := answers_env tabOk mixed hA Try.func6 (by kernel_rfl) (by kernel_rfl) h
end L_Short

end Go.VM
