/- Written by a program of this session (Lift.lean): what the evaluator comes to, function by function; the kernel checks it. The conditions: those of the contracts. -/
import Derived.Test.YtkmgljcioedfjaaVmP4
import Derived.Test.YtkmgljcioedfjaaCircT
import Derived.Test.YtkmgljcioedfjaaCircTS
import Derived.Test.YtkmgljcioedfjaaCircCon
import Derived.Test.YtkmgljcioedfjaaC8
import Derived.KernelRfl
set_option linter.unusedVariables false
set_option linter.unusedSimpArgs false
set_option linter.unusedSectionVars false
namespace Go.VM
open Go Go.Proofs Go.Fn NimF
set_option linter.unusedVariables false
set_option maxRecDepth 100000
namespace L_Times
abbrev num : Nat := 8
noncomputable def A (n : Nat) : List (Nat × Con) := ((fun (n : Nat) => ([(29, CTimes), (30, CTimes), (18, CEqC), (21, CMarkC), (22, CHeldC)] : List (Nat × Con)))) n
noncomputable abbrev E (n : Nat) : Env (U × Heap) := envC tab ios (A n)
def L : List (List Nat) := []
abbrev us (x : Int) : List U := (((fun (x : Int) => (([.int .i64 x] : List U), ([] : Heap)))) x).1
abbrev HA (x : Int) : Heap := (((fun (x : Int) => (([.int .i64 x] : List U), ([] : Heap)))) x).2
noncomputable def R (n : Nat) (x : Int) : Res := run (E n) n Try.f8 L (us x) (HA x) k0
theorem R_eq (n : Nat) (x : Int) : R n x =
  pif ((tiLev x)) (
  pif ((tiLev x)) (
  pif (((gl (tiK x) (tiA x) (tiB x) (List.length (tiK x))) ∧ ((gl (tiK x) (tiA x) (tiB x) (List.length (tiK x))) ∧ ((ol (tiO x) (List.length (tiO x))) ∧ (ol (tiO x) (List.length (tiO x))))))) (
  bif (!(eqC (tiX x) (tiK x) (tiA x) (tiB x) (tiO x) (tiX x) (tiK x) (tiA x) (tiB x) (tiO x))) then
   some (.bool false, [])
  else
   pif (((gl (tiK x) (tiA x) (tiB x) (List.length (tiK x))) ∧ ((ol (tiO x) (List.length (tiO x))) ∧ ((1 : Int) = (1 : Int))))) (
   pif (((gl (mk8 (1 : Int) (tiK x)) (mkA (1 : Int) (tiK x)) (mkB (1 : Int) (tiK x)) (List.length (mk8 (1 : Int) (tiK x)))) ∧ ((ol (mkO (cnt3 (1 : Int) (tiK x)) (tiO x)) (List.length (mkO (cnt3 (1 : Int) (tiK x)) (tiO x)))) ∧ (((1 : Int) = (1 : Int)) ∧ ((markedG (1 : Int) (mk8 (1 : Int) (tiK x)) (mkA (1 : Int) (tiK x)) (mkB (1 : Int) (tiK x))) ∧ (markedO (cnt3 (1 : Int) (mk8 (1 : Int) (tiK x))) (mkO (cnt3 (1 : Int) (tiK x)) (tiO x)))))))) (
   bif ((cnt1 (cnt3 (1 : Int) (mk8 (1 : Int) (tiK x))) (mkO (cnt3 (1 : Int) (tiK x)) (tiO x))) != (cnt1 (cnt3 (1 : Int) (tiK x)) (tiO x))) then
    some (.bool false, [])
   else
    pif ((tiLev x)) (
    pif (((gl (tiK x) (tiA x) (tiB x) (List.length (tiK x))) ∧ ((gl (tiK x) (tiA x) (tiB x) (List.length (tiK x))) ∧ ((ol (tiO x) (List.length (tiO x))) ∧ (ol (tiO x) (List.length (tiO x))))))) (
    bif (!(eqC (tiX x) (tiK x) (tiA x) (tiB x) (tiO x) (tiX x) (tiK x) (tiA x) (tiB x) (tiO x))) then
     some (.bool false, [])
    else
     pif (((gl (mk8 (1 : Int) (tiK x)) (mkA (1 : Int) (tiK x)) (mkB (1 : Int) (tiK x)) (List.length (mk8 (1 : Int) (tiK x)))) ∧ ((ol (mkO (cnt3 (1 : Int) (tiK x)) (tiO x)) (List.length (mkO (cnt3 (1 : Int) (tiK x)) (tiO x)))) ∧ (((1 : Int) = (1 : Int)) ∧ ((markedG (1 : Int) (mk8 (1 : Int) (tiK x)) (mkA (1 : Int) (tiK x)) (mkB (1 : Int) (tiK x))) ∧ (markedO (cnt3 (1 : Int) (mk8 (1 : Int) (tiK x))) (mkO (cnt3 (1 : Int) (tiK x)) (tiO x)))))))) (
     bif ((cnt1 (cnt3 (1 : Int) (mk8 (1 : Int) (tiK x))) (mkO (cnt3 (1 : Int) (tiK x)) (tiO x))) != (cnt1 (cnt3 (1 : Int) (tiK x)) (tiO x))) then
      some (.bool false, [])
     else
      some (.bool true, []))))))))) := by kernel_rfl
theorem ans {n : Nat} {x : Int} (hA : Sounds Try.prog (A n)) {u : U} {H : Heap} (h : R n x = some (u, H)) : Answers Try.prog 8 (us x) (HA x) u H := answers_env tabOk mixed hA Try.func8 (by kernel_rfl) (by kernel_rfl) h
end L_Times

end Go.VM
