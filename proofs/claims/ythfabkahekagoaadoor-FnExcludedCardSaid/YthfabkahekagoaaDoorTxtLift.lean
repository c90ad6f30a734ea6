/- Written by a program of this session (Lift.lean): what the evaluator comes to, function by function; the kernel checks it. The conditions: those of the contracts. -/
import Derived.Test.YthfabkahekagoaaDoorVmP4
import Derived.Test.YthfabkahekagoaaDoorNimST
import Derived.Test.YthfabkahekagoaaDoorNimSTS
import Derived.Test.YthfabkahekagoaaDoorNimCon
import Derived.Test.YthfabkahekagoaaDoorTxtCon
import Derived.KernelRfl
set_option linter.unusedVariables false
set_option linter.unusedSimpArgs false
set_option linter.unusedSectionVars false
namespace Go.VM
open Go Go.Proofs Go.Fn NimF
set_option linter.unusedVariables false
set_option maxRecDepth 100000
namespace I_NimText
abbrev num : Nat := 18
noncomputable def A (n : Nat) : List (Nat × Con) := ((fun (n : Nat) => ([(48, CDec)] : List (Nat × Con)))) n
noncomputable abbrev E (n : Nat) : Env (U × Heap) := envC tab ios (A n)
def L : List (List Nat) := []
abbrev us (a : Int) : List U := (((fun (a : Int) => (([.int .u16 a] : List U), ([] : Heap)))) a).1
abbrev HA (a : Int) : Heap := (((fun (a : Int) => (([.int .u16 a] : List U), ([] : Heap)))) a).2
noncomputable def R (n : Nat) (a : Int) : Res := run (E n) n Tryd.f18 L (us a) (HA a) k0
theorem R_eq (n : Nat) (a : Int) : R n a =
  pif ((i64 (IntKind.wrap .i64 a))) (
  bif decide ((1 + (lenS (decS (IntKind.wrap .i64 a)))) ≤ 9223372036854775807) then
  some (.str (catS (ByteArray.mk #[42]) (decS (IntKind.wrap .i64 a))), [])
  else none) := by kernel_rfl
theorem ans {n : Nat} {a : Int} (hA : Sounds Tryd.prog (A n)) {u : U} {H : Heap} (h : R n a = some (u, H)) : Answers Tryd.prog 18 (us a) (HA a) u H := answers_env tabOk mixed hA Tryd.func18 (by kernel_rfl) (by kernel_rfl) h
end I_NimText

namespace I_ReadNim
abbrev num : Nat := 17
noncomputable def A (n : Nat) : List (Nat × Con) := ((fun (n : Nat) => ([(47, CNumb)] : List (Nat × Con)))) n
noncomputable def I : Inl := ([(46, Tryd.f46, []), (62, Tryd.f62, []), (70, Tryd.f70, [])] : Inl)
theorem inl_ok : InlOk Tryd.prog I := (inl_cons Tryd.func46 (by kernel_rfl) (by kernel_rfl) (inl_cons Tryd.func62 (by kernel_rfl) (by kernel_rfl) (inl_cons Tryd.func70 (by kernel_rfl) (by kernel_rfl) inl_nil)))
noncomputable abbrev E (n : Nat) : Env (U × Heap) := envI tab ios (A n) I n 3
def L : List (List Nat) := []
abbrev us (s : ByteArray) : List U := (((fun (s : ByteArray) => (([.str s] : List U), ([] : Heap)))) s).1
abbrev HA (s : ByteArray) : Heap := (((fun (s : ByteArray) => (([.str s] : List U), ([] : Heap)))) s).2
noncomputable def R (n : Nat) (s : ByteArray) : Res := run (E n) n Tryd.f17 L (us s) (HA s) k0
theorem R_eq (n : Nat) (s : ByteArray) : R n s =
  bif decide ((((ByteArray.size s) : Nat) : Int) ≥ (1 : Int)) then
   bif decide (((0 : Int) ≤ (1 : Int)) ∧ (((1 : Int) ≤ (((ByteArray.size s) : Nat) : Int)) ∧ (((0 : Int) ≤ (0 : Int)) ∧ ((0 : Int) ≤ (1 : Int))))) then
   bif (!(eqZ (subS s 0 1) (ByteArray.mk #[42]))) then
     pif (((shortS s) ∧ (i64 (65535 : Int)))) (
     some (.tup [.int .u16 (0 : Int), .int .i64 (5 : Int)], []))
    else
     bif decide (((0 : Int) ≤ (((ByteArray.size s) : Nat) : Int)) ∧ (((((ByteArray.size s) : Nat) : Int) ≤ (((ByteArray.size s) : Nat) : Int)) ∧ (((0 : Int) ≤ (1 : Int)) ∧ ((1 : Int) ≤ (((ByteArray.size s) : Nat) : Int))))) then
     pif (((shortS (subS s 1 (Int.toNat (((ByteArray.size s) : Nat) : Int)))) ∧ (i64 (65535 : Int)))) (
      bif decide ((numI (subS s 1 (Int.toNat (((ByteArray.size s) : Nat) : Int))) (65535 : Int)) < (0 : Int)) then
       some (.tup [.int .u16 (0 : Int), .int .i64 (5 : Int)], [])
      else
       some (.tup [.int .u16 (IntKind.wrap .u16 (numI (subS s 1 (Int.toNat (((ByteArray.size s) : Nat) : Int))) (65535 : Int))), .int .i64 (0 : Int)], []))
     else none
   else none
  else
   pif (((shortS s) ∧ (i64 (65535 : Int)))) (
   some (.tup [.int .u16 (0 : Int), .int .i64 (5 : Int)], [])) := by kernel_rfl
theorem ans {n : Nat} {s : ByteArray} (hA : Sounds Tryd.prog (A n)) {u : U} {H : Heap} (h : R n s = some (u, H)) : Answers Tryd.prog 17 (us s) (HA s) u H := answers_inl tabOk mixed hA inl_ok Tryd.func17 (by kernel_rfl) (by kernel_rfl) h
end I_ReadNim

end Go.VM
