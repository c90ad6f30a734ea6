/- Written by a program of this session (Lift.lean): what the evaluator comes to, function by function; the kernel checks it. The conditions: those of the contracts. -/
import Derived.Test.YthfabkahekagoaaDoorVmP4
import Derived.Test.YthfabkahekagoaaDoorNimST
import Derived.Test.YthfabkahekagoaaDoorNimSTS
import Derived.Test.YthfabkahekagoaaDoorNimCon
import Derived.Test.YthfabkahekagoaaDoorOrdCon
import Derived.KernelRfl
set_option linter.unusedVariables false
set_option linter.unusedSimpArgs false
set_option linter.unusedSectionVars false
namespace Go.VM
open Go Go.Proofs Go.Fn NimF
set_option linter.unusedVariables false
set_option maxRecDepth 100000
namespace I_ord
abbrev num : Nat := 50
noncomputable def A (n : Nat) (fm : Int → Int → Int) : List (Nat × Con) := ((fun (n : Nat) (fm : Int → Int → Int) => ([(43, CPowF fm)] : List (Nat × Con)))) n fm
noncomputable abbrev E (n : Nat) (fm : Int → Int → Int) : Env (U × Heap) := envC tab ios (A n fm)
def L : List (List Nat) := [[3, 8, 0, 6, 7]]
abbrev us (a : Int) : List U := (((fun (a : Int) => (([.int .u16 a] : List U), ([] : Heap)))) a).1
abbrev HA (a : Int) : Heap := (((fun (a : Int) => (([.int .u16 a] : List U), ([] : Heap)))) a).2
def S0 (t3 : Int) (t8 : Int) (t0 : Int) (t7 : Int) (o0_0 : List Int) : St := ⟨[(3, .int .i64 t3), (8, .int .i64 t8), (0, .int .u16 t0), (6, .own 0), (7, .int .i64 t7)], 23, [(0, ⟨[.ints .i64 o0_0], true⟩)], [0], 0⟩
noncomputable def N0 (n : Nat) (fm : Int → Int → Int)  (m0 : Nat) (t3 : Int) (t8 : Int) (t0 : Int) (t7 : Int) (o0_0 : List Int) : Res := nodeRun (E n fm) n Tryd.f50 L k0 [true, true, false, true, false] [] m0 (S0 t3 t8 t0 t7 o0_0)
theorem N0_succ (n : Nat) (fm : Int → Int → Int)  (m0 : Nat) (t3 : Int) (t8 : Int) (t0 : Int) (t7 : Int) (o0_0 : List Int) : N0 n fm  (m0 + 1) t3 t8 t0 t7 o0_0 =
  bif decide (t8 < t7) then
   bif decide (((0 : Int) ≤ t8) ∧ (t8 < (((List.length o0_0) : Nat) : Int))) then
   bif decide ((List.getD o0_0 (Int.toNat t8) (0 : Int)) ≠ (0 : Int)) then
    pif (((u16 t0) ∧ (expo (IntKind.wrap .i64 (Int.tdiv t3 (List.getD o0_0 (Int.toNat t8) (0 : Int))))))) (
     bif ((fm t0 (IntKind.wrap .i64 (Int.tdiv t3 (List.getD o0_0 (Int.toNat t8) (0 : Int))))) == (1 : Int)) then
      bif decide ((List.getD o0_0 (Int.toNat t8) (0 : Int)) ≠ (0 : Int)) then
      N0 n fm m0 (IntKind.wrap .i64 (Int.tdiv t3 (List.getD o0_0 (Int.toNat t8) (0 : Int)))) (IntKind.wrap .i64 (t8 + (1 : Int))) t0 t7 o0_0
      else none
     else
      N0 n fm m0 t3 (IntKind.wrap .i64 (t8 + (1 : Int))) t0 t7 o0_0)
    else none
   else none
  else
   some (.int .i64 t3, []) := by kernel_rfl
noncomputable def R (n : Nat) (fm : Int → Int → Int) (a : Int) : Res := run (E n fm) n Tryd.f50 L (us a) (HA a) k0
theorem R_eq (n : Nat) (fm : Int → Int → Int) (a : Int) : R n fm a =
  N0 n fm n (65535 : Int) (0 : Int) a (4 : Int) (List.set (List.set (List.set (List.set (List.replicate 4 (0 : Int)) 0 (3 : Int)) 1 (5 : Int)) 2 (17 : Int)) 3 (257 : Int)) := by kernel_rfl
theorem ans {n : Nat} {fm : Int → Int → Int} {a : Int} (hA : Sounds Tryd.prog (A n fm)) {u : U} {H : Heap} (h : R n fm a = some (u, H)) : Answers Tryd.prog 50 (us a) (HA a) u H := answers_env tabOk mixed hA Tryd.func50 (by kernel_rfl) (by kernel_rfl) h
end I_ord

namespace S_ord
abbrev num : Nat := 51
noncomputable def A (n : Nat) (fm : Int → Int → Int) : List (Nat × Con) := ((fun (n : Nat) (fm : Int → Int → Int) => ([(45, CPowF fm)] : List (Nat × Con)))) n fm
noncomputable abbrev E (n : Nat) (fm : Int → Int → Int) : Env (U × Heap) := envC tab ios (A n fm)
def L : List (List Nat) := [[3, 5, 4, 0]]
abbrev us (a : Int) : List U := (((fun (a : Int) => (([.int .u16 a] : List U), ([] : Heap)))) a).1
abbrev HA (a : Int) : Heap := (((fun (a : Int) => (([.int .u16 a] : List U), ([] : Heap)))) a).2
def S0 (t3 : Int) (t5 : Int) (t0 : Int) (o0_0 : List Int) : St := ⟨[(3, .int .i64 t3), (5, .int .i64 t5), (4, .own 0), (0, .int .u16 t0)], 29, [(0, ⟨[.ints .i64 o0_0], true⟩)], [0], 0⟩
noncomputable def N0 (n : Nat) (fm : Int → Int → Int)  (m0 : Nat) (t3 : Int) (t5 : Int) (t0 : Int) (o0_0 : List Int) : Res := nodeRun (E n fm) n Tryd.f51 L k0 [true, true, true, false, true, false] [] m0 (S0 t3 t5 t0 o0_0)
theorem N0_succ (n : Nat) (fm : Int → Int → Int)  (m0 : Nat) (t3 : Int) (t5 : Int) (t0 : Int) (o0_0 : List Int) : N0 n fm  (m0 + 1) t3 t5 t0 o0_0 =
  bif decide (t5 < (((List.length o0_0) : Nat) : Int)) then
   bif decide (((0 : Int) ≤ t5) ∧ (t5 < (((List.length o0_0) : Nat) : Int))) then
   bif decide ((List.getD o0_0 (Int.toNat t5) (0 : Int)) ≠ (0 : Int)) then
    pif (((u16 t0) ∧ (expo (IntKind.wrap .i64 (Int.tdiv t3 (List.getD o0_0 (Int.toNat t5) (0 : Int))))))) (
     bif ((fm t0 (IntKind.wrap .i64 (Int.tdiv t3 (List.getD o0_0 (Int.toNat t5) (0 : Int))))) == (1 : Int)) then
      bif decide (((0 : Int) ≤ t5) ∧ (t5 < (((List.length o0_0) : Nat) : Int))) then
      bif decide ((List.getD o0_0 (Int.toNat t5) (0 : Int)) ≠ (0 : Int)) then
       N0 n fm m0 (IntKind.wrap .i64 (Int.tdiv t3 (List.getD o0_0 (Int.toNat t5) (0 : Int)))) (IntKind.wrap .i64 (t5 + (1 : Int))) t0 o0_0
       else none
      else none
     else
      N0 n fm m0 t3 (IntKind.wrap .i64 (t5 + (1 : Int))) t0 o0_0)
    else none
   else none
  else
   some (.int .i64 t3, []) := by kernel_rfl
noncomputable def R (n : Nat) (fm : Int → Int → Int) (a : Int) : Res := run (E n fm) n Tryd.f51 L (us a) (HA a) k0
theorem R_eq (n : Nat) (fm : Int → Int → Int) (a : Int) : R n fm a =
  N0 n fm n (65535 : Int) (0 : Int) a (List.set (List.set (List.set (List.set (List.replicate 4 (0 : Int)) 0 (3 : Int)) 1 (5 : Int)) 2 (17 : Int)) 3 (257 : Int)) := by kernel_rfl
theorem ans {n : Nat} {fm : Int → Int → Int} {a : Int} (hA : Sounds Tryd.prog (A n fm)) {u : U} {H : Heap} (h : R n fm a = some (u, H)) : Answers Tryd.prog 51 (us a) (HA a) u H := answers_env tabOk mixed hA Tryd.func51 (by kernel_rfl) (by kernel_rfl) h
end S_ord

namespace I_Ord
abbrev num : Nat := 21
noncomputable def A (n : Nat) : List (Nat × Con) := ((fun (n : Nat) => ([(50, COrd)] : List (Nat × Con)))) n
noncomputable abbrev E (n : Nat) : Env (U × Heap) := envC tab ios (A n)
def L : List (List Nat) := []
abbrev us (a : Int) : List U := (((fun (a : Int) => (([.int .u16 a] : List U), ([] : Heap)))) a).1
abbrev HA (a : Int) : Heap := (((fun (a : Int) => (([.int .u16 a] : List U), ([] : Heap)))) a).2
noncomputable def R (n : Nat) (a : Int) : Res := run (E n) n Tryd.f21 L (us a) (HA a) k0
theorem R_eq (n : Nat) (a : Int) : R n a =
  bif (a == (0 : Int)) then
   some (.tup [.int .i64 (0 : Int), .int .i64 (4 : Int)], [])
  else
   pif ((u16 a)) (
   some (.tup [.int .i64 (orI a), .int .i64 (0 : Int)], [])) := by kernel_rfl
theorem ans {n : Nat} {a : Int} (hA : Sounds Tryd.prog (A n)) {u : U} {H : Heap} (h : R n a = some (u, H)) : Answers Tryd.prog 21 (us a) (HA a) u H := answers_env tabOk mixed hA Tryd.func21 (by kernel_rfl) (by kernel_rfl) h
end I_Ord

namespace S_Ord
abbrev num : Nat := 22
noncomputable def A (n : Nat) : List (Nat × Con) := ((fun (n : Nat) => ([(51, COrd)] : List (Nat × Con)))) n
noncomputable abbrev E (n : Nat) : Env (U × Heap) := envC tab ios (A n)
def L : List (List Nat) := []
abbrev us (a : Int) : List U := (((fun (a : Int) => (([.int .u16 a] : List U), ([] : Heap)))) a).1
abbrev HA (a : Int) : Heap := (((fun (a : Int) => (([.int .u16 a] : List U), ([] : Heap)))) a).2
noncomputable def R (n : Nat) (a : Int) : Res := run (E n) n Tryd.f22 L (us a) (HA a) k0
theorem R_eq (n : Nat) (a : Int) : R n a =
  bif (a == (0 : Int)) then
   some (.tup [.int .i64 (0 : Int), .int .i64 (4 : Int)], [])
  else
   pif ((u16 a)) (
   some (.tup [.int .i64 (orI a), .int .i64 (0 : Int)], [])) := by kernel_rfl
theorem ans {n : Nat} {a : Int} (hA : Sounds Tryd.prog (A n)) {u : U} {H : Heap} (h : R n a = some (u, H)) : Answers Tryd.prog 22 (us a) (HA a) u H := answers_env tabOk mixed hA Tryd.func22 (by kernel_rfl) (by kernel_rfl) h
end S_Ord

end Go.VM
