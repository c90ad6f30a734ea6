/- Written by a program of this session (Lift.lean): what the evaluator comes to, function by function; the kernel checks it. The conditions: those of the contracts. -/
import Derived.Test.YtjdhdjbppidmlaaVmP5
import Derived.Test.YtjdhdjbppidmlaaCircT
import Derived.Test.YtjdhdjbppidmlaaCircTS
import Derived.Test.YtjdhdjbppidmlaaCircCon
import Derived.Test.YtjdhdjbppidmlaaCircCon2
import Derived.Test.YtjdhdjbppidmlaaCircCon3
import Derived.Test.YtjdhdjbppidmlaaCircCon7
import Derived.Test.YtjdhdjbppidmlaaMergeCon
import Derived.KernelRfl
set_option linter.unusedVariables false
set_option linter.unusedSimpArgs false
set_option linter.unusedSectionVars false
namespace Go.VM
open Go Go.Proofs Go.Fn NimF
set_option linter.unusedVariables false
set_option maxRecDepth 100000
namespace L_merge
abbrev num : Nat := 3
noncomputable def A (n : Nat) : List (Nat × Con) := ((fun (n : Nat) => ([(5, CMerge), (7, CMerge), (8, CEqC), (4, CSz), (6, CTo), (9, CMarkC), (10, CHeldC)] : List (Nat × Con)))) n
noncomputable abbrev E (n : Nat) : Env (U × Heap) := envC tab ios (A n)
def L : List (List Nat) := []
abbrev us (x : Int) (ks : List Int) (la : List Int) (lb : List Int) (j : Nat) (lo : List Int) (jo : Nat) : List U := (((fun (x : Int) (ks la lb : List Int) (j : Nat) (lo : List Int) (jo : Nat) => (([.agg [.int .i8 x, .rsl [.ints .i8 ks, .ints .i16 la, .ints .i16 lb] j, .rsl [.ints .i16 lo] jo]] : List U), ([] : Heap)))) x ks la lb j lo jo).1
abbrev HA (x : Int) (ks : List Int) (la : List Int) (lb : List Int) (j : Nat) (lo : List Int) (jo : Nat) : Heap := (((fun (x : Int) (ks la lb : List Int) (j : Nat) (lo : List Int) (jo : Nat) => (([.agg [.int .i8 x, .rsl [.ints .i8 ks, .ints .i16 la, .ints .i16 lb] j, .rsl [.ints .i16 lo] jo]] : List U), ([] : Heap)))) x ks la lb j lo jo).2
noncomputable def R (n : Nat) (x : Int) (ks : List Int) (la : List Int) (lb : List Int) (j : Nat) (lo : List Int) (jo : Nat) : Res := run (E n) n Try.f3 L (us x ks la lb j lo jo) (HA x ks la lb j lo jo) k0
theorem R_eq (n : Nat) (x : Int) (ks : List Int) (la : List Int) (lb : List Int) (j : Nat) (lo : List Int) (jo : Nat) : R n x ks la lb j lo jo =
  pif (((lens j (1048576 : Int)) ∧ (lens jo (1048576 : Int)))) (
  bif decide ((szs (1048576 : Int) j jo) < (0 : Int)) then
   some (.bool true, [])
  else
   pif (((gl ks la lb j) ∧ (ol lo jo))) (
   pif ((circ x ks la lb (List.length ks) lo (List.length lo))) (
   pif (((gl ks la lb j) ∧ (ol lo jo))) (
   pif ((circ x ks la lb (List.length ks) lo (List.length lo))) (
   pif (((gl (mgK x ks la lb lo) (mgA x ks la lb lo) (mgB x ks la lb lo) (List.length (mgK x ks la lb lo))) ∧ ((gl (mgK x ks la lb lo) (mgA x ks la lb lo) (mgB x ks la lb lo) (List.length (mgK x ks la lb lo))) ∧ ((ol (mgO x ks la lb lo) (List.length (mgO x ks la lb lo))) ∧ (ol (mgO x ks la lb lo) (List.length (mgO x ks la lb lo))))))) (
   bif (!(eqC (trX x ks la lb lo) (mgK x ks la lb lo) (mgA x ks la lb lo) (mgB x ks la lb lo) (mgO x ks la lb lo) (trX x ks la lb lo) (mgK x ks la lb lo) (mgA x ks la lb lo) (mgB x ks la lb lo) (mgO x ks la lb lo))) then
    some (.bool false, [])
   else
    bif ((trE x ks la lb lo) != (trE x ks la lb lo)) then
     some (.bool false, [])
    else
     pif (((gl ks la lb j) ∧ (ol lo jo))) (
     pif (((gl ks la lb (List.length ks)) ∧ ((gl ks la lb (List.length ks)) ∧ ((ol lo (List.length lo)) ∧ (ol lo (List.length lo)))))) (
     bif (!(eqC x ks la lb lo x ks la lb lo)) then
      some (.bool false, [])
     else
      pif (((gl ks la lb (List.length ks)) ∧ ((ol lo (List.length lo)) ∧ ((1 : Int) = (1 : Int))))) (
      pif (((gl (mgK x ks la lb lo) (mgA x ks la lb lo) (mgB x ks la lb lo) (List.length (mgK x ks la lb lo))) ∧ ((gl (mgK x ks la lb lo) (mgA x ks la lb lo) (mgB x ks la lb lo) (List.length (mgK x ks la lb lo))) ∧ ((ol (mgO x ks la lb lo) (List.length (mgO x ks la lb lo))) ∧ (ol (mgO x ks la lb lo) (List.length (mgO x ks la lb lo))))))) (
      bif (!(eqC (trX x ks la lb lo) (mgK x ks la lb lo) (mgA x ks la lb lo) (mgB x ks la lb lo) (mgO x ks la lb lo) (trX x ks la lb lo) (mgK x ks la lb lo) (mgA x ks la lb lo) (mgB x ks la lb lo) (mgO x ks la lb lo))) then
       some (.bool false, [])
      else
       bif ((trE x ks la lb lo) != (trE x ks la lb lo)) then
        some (.bool false, [])
       else
        pif (((gl (mgK x ks la lb lo) (mgA x ks la lb lo) (mgB x ks la lb lo) (List.length (mgK x ks la lb lo))) ∧ ((ol (mgO x ks la lb lo) (List.length (mgO x ks la lb lo))) ∧ ((1 : Int) = (1 : Int))))) (
        pif (((gl (mk8 (1 : Int) (mgK x ks la lb lo)) (mkA (1 : Int) (mgK x ks la lb lo)) (mkB (1 : Int) (mgK x ks la lb lo)) (List.length (mk8 (1 : Int) (mgK x ks la lb lo)))) ∧ ((ol (mkO (cnt3 (1 : Int) (mgK x ks la lb lo)) (mgO x ks la lb lo)) (List.length (mkO (cnt3 (1 : Int) (mgK x ks la lb lo)) (mgO x ks la lb lo)))) ∧ (((1 : Int) = (1 : Int)) ∧ ((markedG (1 : Int) (mk8 (1 : Int) (mgK x ks la lb lo)) (mkA (1 : Int) (mgK x ks la lb lo)) (mkB (1 : Int) (mgK x ks la lb lo))) ∧ (markedO (cnt3 (1 : Int) (mk8 (1 : Int) (mgK x ks la lb lo))) (mkO (cnt3 (1 : Int) (mgK x ks la lb lo)) (mgO x ks la lb lo)))))))) (
        bif ((cnt1 (cnt3 (1 : Int) (mk8 (1 : Int) (mgK x ks la lb lo))) (mkO (cnt3 (1 : Int) (mgK x ks la lb lo)) (mgO x ks la lb lo))) != (cnt1 (cnt3 (1 : Int) (mgK x ks la lb lo)) (mgO x ks la lb lo))) then
         some (.bool false, [])
        else
         pif (((gl ks la lb j) ∧ (ol lo jo))) (
         pif ((circ x ks la lb (List.length ks) lo (List.length lo))) (
         pif (((gl (mgK x ks la lb lo) (mgA x ks la lb lo) (mgB x ks la lb lo) (List.length (mgK x ks la lb lo))) ∧ ((gl (mgK x ks la lb lo) (mgA x ks la lb lo) (mgB x ks la lb lo) (List.length (mgK x ks la lb lo))) ∧ ((ol (mgO x ks la lb lo) (List.length (mgO x ks la lb lo))) ∧ (ol (mgO x ks la lb lo) (List.length (mgO x ks la lb lo))))))) (
         bif (!(eqC (trX x ks la lb lo) (mgK x ks la lb lo) (mgA x ks la lb lo) (mgB x ks la lb lo) (mgO x ks la lb lo) (trX x ks la lb lo) (mgK x ks la lb lo) (mgA x ks la lb lo) (mgB x ks la lb lo) (mgO x ks la lb lo))) then
          some (.bool false, [])
         else
          bif ((trE x ks la lb lo) != (trE x ks la lb lo)) then
           some (.bool false, [])
          else
           pif (((gl (mk8 (1 : Int) (mgK x ks la lb lo)) (mkA (1 : Int) (mgK x ks la lb lo)) (mkB (1 : Int) (mgK x ks la lb lo)) (List.length (mk8 (1 : Int) (mgK x ks la lb lo)))) ∧ ((ol (mkO (cnt3 (1 : Int) (mgK x ks la lb lo)) (mgO x ks la lb lo)) (List.length (mkO (cnt3 (1 : Int) (mgK x ks la lb lo)) (mgO x ks la lb lo)))) ∧ (((1 : Int) = (1 : Int)) ∧ ((markedG (1 : Int) (mk8 (1 : Int) (mgK x ks la lb lo)) (mkA (1 : Int) (mgK x ks la lb lo)) (mkB (1 : Int) (mgK x ks la lb lo))) ∧ (markedO (cnt3 (1 : Int) (mk8 (1 : Int) (mgK x ks la lb lo))) (mkO (cnt3 (1 : Int) (mgK x ks la lb lo)) (mgO x ks la lb lo)))))))) (
           bif ((cnt1 (cnt3 (1 : Int) (mk8 (1 : Int) (mgK x ks la lb lo))) (mkO (cnt3 (1 : Int) (mgK x ks la lb lo)) (mgO x ks la lb lo))) != (cnt1 (cnt3 (1 : Int) (mgK x ks la lb lo)) (mgO x ks la lb lo))) then
            some (.bool false, [])
           else
            some (.bool true, []))))))))))))))))) := by kernel_rfl
theorem ans {n : Nat} {x : Int} {ks : List Int} {la : List Int} {lb : List Int} {j : Nat} {lo : List Int} {jo : Nat} (hA : Sounds Try.prog (A n)) {u : U} {H : Heap} (h : R n x ks la lb j lo jo = some (u, H)) : Answers Try.prog 3 (us x ks la lb j lo jo) (HA x ks la lb j lo jo) u H := answers_env tabOk mixed hA Try.func3 (by kernel_rfl) (by kernel_rfl) h
end L_merge

end Go.VM
