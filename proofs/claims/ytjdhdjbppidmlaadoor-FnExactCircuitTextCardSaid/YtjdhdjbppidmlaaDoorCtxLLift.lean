/- Written by a program of this session (Lift.lean): what the evaluator comes to, function by function; the kernel checks it. The conditions: those of the contracts. -/
import Derived.Test.YtjdhdjbppidmlaaDoorVmP5
import Derived.Test.YtjdhdjbppidmlaaDoorCircT
import Derived.Test.YtjdhdjbppidmlaaDoorCircTS
import Derived.Test.YtjdhdjbppidmlaaDoorCircCon
import Derived.Test.YtjdhdjbppidmlaaDoorCircCon2
import Derived.Test.YtjdhdjbppidmlaaDoorTxtCon
import Derived.Test.YtjdhdjbppidmlaaDoorCtxCon
import Derived.KernelRfl
set_option linter.unusedVariables false
set_option linter.unusedSimpArgs false
set_option linter.unusedSectionVars false
namespace Go.VM
open Go Go.Proofs Go.Fn NimF
set_option linter.unusedVariables false
set_option maxRecDepth 100000
namespace L_ctx
abbrev num : Nat := 3
noncomputable def A (n : Nat) (f : Int → List Int → List Int → List Int → List Int → ByteArray) : List (Nat × Con) := ((fun (n : Nat) (f : Int → List Int → List Int → List Int → List Int → ByteArray) => ([(6, CCtxF f), (8, CCtxF f), (5, CSz), (7, CTo), (9, CEqC)] : List (Nat × Con)))) n f
noncomputable abbrev E (n : Nat) (f : Int → List Int → List Int → List Int → List Int → ByteArray) : Env (U × Heap) := envC tab ios (A n f)
def L : List (List Nat) := []
abbrev us (x : Int) (ks : List Int) (la : List Int) (lb : List Int) (j : Nat) (lo : List Int) (jo : Nat) : List U := (((fun (x : Int) (ks la lb : List Int) (j : Nat) (lo : List Int) (jo : Nat) => (([.agg [.int .i8 x, .rsl [.ints .i8 ks, .ints .i16 la, .ints .i16 lb] j, .rsl [.ints .i16 lo] jo]] : List U), ([] : Heap)))) x ks la lb j lo jo).1
abbrev HA (x : Int) (ks : List Int) (la : List Int) (lb : List Int) (j : Nat) (lo : List Int) (jo : Nat) : Heap := (((fun (x : Int) (ks la lb : List Int) (j : Nat) (lo : List Int) (jo : Nat) => (([.agg [.int .i8 x, .rsl [.ints .i8 ks, .ints .i16 la, .ints .i16 lb] j, .rsl [.ints .i16 lo] jo]] : List U), ([] : Heap)))) x ks la lb j lo jo).2
noncomputable def R (n : Nat) (f : Int → List Int → List Int → List Int → List Int → ByteArray) (x : Int) (ks : List Int) (la : List Int) (lb : List Int) (j : Nat) (lo : List Int) (jo : Nat) : Res := run (E n f) n Tryd.f3 L (us x ks la lb j lo jo) (HA x ks la lb j lo jo) k0
theorem R_eq (n : Nat) (f : Int → List Int → List Int → List Int → List Int → ByteArray) (x : Int) (ks : List Int) (la : List Int) (lb : List Int) (j : Nat) (lo : List Int) (jo : Nat) : R n f x ks la lb j lo jo =
  pif (((lens j (1048576 : Int)) ∧ (lens jo (1048576 : Int)))) (
  bif decide ((szs (1048576 : Int) j jo) < (0 : Int)) then
   some (.bool true, [])
  else
   pif (((gl ks la lb j) ∧ (ol lo jo))) (
   pif ((circ x ks la lb (List.length ks) lo (List.length lo))) (
   pif (((gl ks la lb j) ∧ (ol lo jo))) (
   pif ((circ x ks la lb (List.length ks) lo (List.length lo))) (
   bif (!(eqZ (f x ks la lb lo) (f x ks la lb lo))) then
    some (.bool false, [])
   else
    pif (((gl ks la lb j) ∧ (ol lo jo))) (
    pif (((gl ks la lb (List.length ks)) ∧ ((gl ks la lb (List.length ks)) ∧ ((ol lo (List.length lo)) ∧ (ol lo (List.length lo)))))) (
    bif (!(eqC x ks la lb lo x ks la lb lo)) then
     some (.bool false, [])
    else
     some (.bool true, [])))))))) := by kernel_rfl
theorem ans {n : Nat} {f : Int → List Int → List Int → List Int → List Int → ByteArray} {x : Int} {ks : List Int} {la : List Int} {lb : List Int} {j : Nat} {lo : List Int} {jo : Nat} (hA : Sounds Tryd.prog (A n f)) {u : U} {H : Heap} (h : R n f x ks la lb j lo jo = some (u, H)) : Answers Tryd.prog 3 (us x ks la lb j lo jo) (HA x ks la lb j lo jo) u H := answers_env tabOk mixed hA Tryd.func3 (by kernel_rfl) (by kernel_rfl) h
end L_ctx

end Go.VM
