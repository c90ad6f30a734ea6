/- Written by a program of this session (Lift.lean): what the evaluator comes to, function by function; the kernel checks it. The conditions: those of the contracts. -/
import Derived.Test.YthfabkahekagoaaVmP4
import Derived.Test.YthfabkahekagoaaNimST
import Derived.Test.YthfabkahekagoaaNimSTS
import Derived.Test.YthfabkahekagoaaNimCon
import Derived.Test.YthfabkahekagoaaIntsCon
import Derived.Test.YthfabkahekagoaaHalfCon
import Derived.Test.YthfabkahekagoaaSrcCon
import Derived.Test.YthfabkahekagoaaEqCon
import Derived.KernelRfl
set_option linter.unusedVariables false
set_option linter.unusedSimpArgs false
set_option linter.unusedSectionVars false
namespace Go.VM
open Go Go.Proofs Go.Fn NimF
set_option linter.unusedVariables false
set_option maxRecDepth 100000
namespace S_SqOf
abbrev num : Nat := 18
noncomputable def A (n : Nat) : List (Nat × Con) := ((fun (n : Nat) => ([(44, CMul)] : List (Nat × Con)))) n
noncomputable abbrev E (n : Nat) : Env (U × Heap) := envC tab ios (A n)
def L : List (List Nat) := []
abbrev us (a : Int) : List U := (((fun (a : Int) => (([.int .u16 a] : List U), ([] : Heap)))) a).1
abbrev HA (a : Int) : Heap := (((fun (a : Int) => (([.int .u16 a] : List U), ([] : Heap)))) a).2
noncomputable def R (n : Nat) (a : Int) : Res := run (E n) n Try.f18 L (us a) (HA a) k0
theorem R_eq (n : Nat) (a : Int) : R n a =
  pif (((u16 a) ∧ (u16 a))) (
  some (.int .u16 (mulI a a), [])) := by kernel_rfl
theorem ans {n : Nat} {a : Int} (hA : Sounds Try.prog (A n)) {u : U} {H : Heap} (h : R n a = some (u, H)) : Answers Try.prog 18 (us a) (HA a) u H := answers_env tabOk mixed hA Try.func18 (by kernel_rfl) (by kernel_rfl) h
end S_SqOf

namespace S_TimesN
abbrev num : Nat := 22
noncomputable def A (n : Nat) : List (Nat × Con) := ((fun (n : Nat) => ([(44, CMul)] : List (Nat × Con)))) n
noncomputable abbrev E (n : Nat) : Env (U × Heap) := envC tab ios (A n)
def L : List (List Nat) := []
abbrev us (x : Int) (y : Int) : List U := (((fun (x y : Int) => (([.int .u16 x, .int .u16 y] : List U), ([] : Heap)))) x y).1
abbrev HA (x : Int) (y : Int) : Heap := (((fun (x y : Int) => (([.int .u16 x, .int .u16 y] : List U), ([] : Heap)))) x y).2
noncomputable def R (n : Nat) (x : Int) (y : Int) : Res := run (E n) n Try.f22 L (us x y) (HA x y) k0
theorem R_eq (n : Nat) (x : Int) (y : Int) : R n x y =
  pif (((u16 x) ∧ (u16 y))) (
  some (.int .u16 (mulI x y), [])) := by kernel_rfl
theorem ans {n : Nat} {x : Int} {y : Int} (hA : Sounds Try.prog (A n)) {u : U} {H : Heap} (h : R n x y = some (u, H)) : Answers Try.prog 22 (us x y) (HA x y) u H := answers_env tabOk mixed hA Try.func22 (by kernel_rfl) (by kernel_rfl) h
end S_TimesN

namespace S_tr
abbrev num : Nat := 51
noncomputable def A (n : Nat) : List (Nat × Con) := ((fun (n : Nat) => ([(44, CMul)] : List (Nat × Con)))) n
noncomputable abbrev E (n : Nat) : Env (U × Heap) := envC tab ios (A n)
def L : List (List Nat) := [[3, 4, 0]]
abbrev us (a : Int) : List U := (((fun (a : Int) => (([.int .u16 a] : List U), ([] : Heap)))) a).1
abbrev HA (a : Int) : Heap := (((fun (a : Int) => (([.int .u16 a] : List U), ([] : Heap)))) a).2
def S0 (t3 : Int) (t4 : Int) (t0 : Int) : St := ⟨[(3, .int .u16 t3), (4, .int .i64 t4), (0, .int .u16 t0)], 16, [], [], 0⟩
noncomputable def N0 (n : Nat)  (m0 : Nat) (t3 : Int) (t4 : Int) (t0 : Int) : Res := nodeRun (E n) n Try.f51 L k0 [true, true, false, true, false] [] m0 (S0 t3 t4 t0)
theorem N0_succ (n : Nat)  (m0 : Nat) (t3 : Int) (t4 : Int) (t0 : Int) : N0 n  (m0 + 1) t3 t4 t0 =
  bif decide (t4 < (16 : Int)) then
   pif (((u16 t0) ∧ (u16 t0))) (
   N0 n m0 (intBitsV .xor .u16 t3 t0) (IntKind.wrap .i64 (t4 + (1 : Int))) (mulI t0 t0))
  else
   some (.int .u16 t3, []) := by kernel_rfl
noncomputable def R (n : Nat) (a : Int) : Res := run (E n) n Try.f51 L (us a) (HA a) k0
theorem R_eq (n : Nat) (a : Int) : R n a =
  N0 n n (0 : Int) (0 : Int) a := by kernel_rfl
theorem ans {n : Nat} {a : Int} (hA : Sounds Try.prog (A n)) {u : U} {H : Heap} (h : R n a = some (u, H)) : Answers Try.prog 51 (us a) (HA a) u H := answers_env tabOk mixed hA Try.func51 (by kernel_rfl) (by kernel_rfl) h
end S_tr

namespace S_Tr
abbrev num : Nat := 17
noncomputable def A (n : Nat) : List (Nat × Con) := ((fun (n : Nat) => ([(51, CTrace)] : List (Nat × Con)))) n
noncomputable abbrev E (n : Nat) : Env (U × Heap) := envC tab ios (A n)
def L : List (List Nat) := []
abbrev us (a : Int) : List U := (((fun (a : Int) => (([.int .u16 a] : List U), ([] : Heap)))) a).1
abbrev HA (a : Int) : Heap := (((fun (a : Int) => (([.int .u16 a] : List U), ([] : Heap)))) a).2
noncomputable def R (n : Nat) (a : Int) : Res := run (E n) n Try.f17 L (us a) (HA a) k0
theorem R_eq (n : Nat) (a : Int) : R n a =
  pif ((u16 a)) (
  some (.int .u16 (trI a), [])) := by kernel_rfl
theorem ans {n : Nat} {a : Int} (hA : Sounds Try.prog (A n)) {u : U} {H : Heap} (h : R n a = some (u, H)) : Answers Try.prog 17 (us a) (HA a) u H := answers_env tabOk mixed hA Try.func17 (by kernel_rfl) (by kernel_rfl) h
end S_Tr

namespace I_Tr
abbrev num : Nat := 16
noncomputable def A (n : Nat) : List (Nat × Con) := ((fun (n : Nat) => ([(46, CMul)] : List (Nat × Con)))) n
noncomputable abbrev E (n : Nat) : Env (U × Heap) := envC tab ios (A n)
def L : List (List Nat) := [[3, 4, 0]]
abbrev us (a : Int) : List U := (((fun (a : Int) => (([.int .u16 a] : List U), ([] : Heap)))) a).1
abbrev HA (a : Int) : Heap := (((fun (a : Int) => (([.int .u16 a] : List U), ([] : Heap)))) a).2
def S0 (t3 : Int) (t4 : Int) (t0 : Int) : St := ⟨[(3, .int .u16 t3), (4, .int .i64 t4), (0, .int .u16 t0)], 14, [], [], 0⟩
noncomputable def N0 (n : Nat)  (m0 : Nat) (t3 : Int) (t4 : Int) (t0 : Int) : Res := nodeRun (E n) n Try.f16 L k0 [true, true, false, true, false] [] m0 (S0 t3 t4 t0)
theorem N0_succ (n : Nat)  (m0 : Nat) (t3 : Int) (t4 : Int) (t0 : Int) : N0 n  (m0 + 1) t3 t4 t0 =
  bif decide (t4 < (16 : Int)) then
   pif (((u16 t0) ∧ (u16 t0))) (
   N0 n m0 (intBitsV .xor .u16 t3 t0) (IntKind.wrap .i64 (t4 + (1 : Int))) (mulI t0 t0))
  else
   some (.int .u16 t3, []) := by kernel_rfl
noncomputable def R (n : Nat) (a : Int) : Res := run (E n) n Try.f16 L (us a) (HA a) k0
theorem R_eq (n : Nat) (a : Int) : R n a =
  N0 n n (0 : Int) (0 : Int) a := by kernel_rfl
theorem ans {n : Nat} {a : Int} (hA : Sounds Try.prog (A n)) {u : U} {H : Heap} (h : R n a = some (u, H)) : Answers Try.prog 16 (us a) (HA a) u H := answers_env tabOk mixed hA Try.func16 (by kernel_rfl) (by kernel_rfl) h
end I_Tr

namespace I_cj
abbrev num : Nat := 52
noncomputable def A (n : Nat) (fm : Int → Int → Int) : List (Nat × Con) := ((fun (n : Nat) (fm : Int → Int → Int) => ([(46, CMulF fm)] : List (Nat × Con)))) n fm
noncomputable abbrev E (n : Nat) (fm : Int → Int → Int) : Env (U × Heap) := envC tab ios (A n fm)
def L : List (List Nat) := [[3, 4, 0]]
abbrev us (a : Int) : List U := (((fun (a : Int) => (([.int .u16 a] : List U), ([] : Heap)))) a).1
abbrev HA (a : Int) : Heap := (((fun (a : Int) => (([.int .u16 a] : List U), ([] : Heap)))) a).2
def S0 (t4 : Int) (t0 : Int) (o0_0 : List Int) : St := ⟨[(3, .own 0), (4, .int .u16 t4), (0, .int .u16 t0)], 21, [(0, ⟨[.ints .u16 o0_0], true⟩)], [0], 0⟩
noncomputable def N0 (n : Nat) (fm : Int → Int → Int)  (m0 : Nat) (t4 : Int) (t0 : Int) (o0_0 : List Int) : Res := nodeRun (E n fm) n Try.f52 L k0 [true, true, false, true, false] [] m0 (S0 t4 t0 o0_0)
theorem N0_succ (n : Nat) (fm : Int → Int → Int)  (m0 : Nat) (t4 : Int) (t0 : Int) (o0_0 : List Int) : N0 n fm  (m0 + 1) t4 t0 o0_0 =
  bif (t4 != t0) then
   bif decide ((((List.length o0_0) + 1) * 1) ≤ 4398046511104) then
   pif (((u16 t4) ∧ (u16 t4))) (
    N0 n fm m0 (fm t4 t4) t0 (o0_0 ++ [t4]))
   else none
  else
   some (.own 0, [(0, ⟨[.ints .u16 o0_0], true⟩)]) := by kernel_rfl
noncomputable def R (n : Nat) (fm : Int → Int → Int) (a : Int) : Res := run (E n fm) n Try.f52 L (us a) (HA a) k0
theorem R_eq (n : Nat) (fm : Int → Int → Int) (a : Int) : R n fm a =
  pif (((u16 a) ∧ (u16 a))) (
  N0 n fm n (fm a a) a [a]) := by kernel_rfl
theorem ans {n : Nat} {fm : Int → Int → Int} {a : Int} (hA : Sounds Try.prog (A n fm)) {u : U} {H : Heap} (h : R n fm a = some (u, H)) : Answers Try.prog 52 (us a) (HA a) u H := answers_env tabOk mixed hA Try.func52 (by kernel_rfl) (by kernel_rfl) h
end I_cj

namespace I_Cj
abbrev num : Nat := 19
noncomputable def A (n : Nat) : List (Nat × Con) := ((fun (n : Nat) => ([(52, CConj)] : List (Nat × Con)))) n
noncomputable abbrev E (n : Nat) : Env (U × Heap) := envC tab ios (A n)
def L : List (List Nat) := []
abbrev us (a : Int) : List U := (((fun (a : Int) => (([.int .u16 a] : List U), ([] : Heap)))) a).1
abbrev HA (a : Int) : Heap := (((fun (a : Int) => (([.int .u16 a] : List U), ([] : Heap)))) a).2
noncomputable def R (n : Nat) (a : Int) : Res := run (E n) n Try.f19 L (us a) (HA a) k0
theorem R_eq (n : Nat) (a : Int) : R n a =
  pif ((u16 a)) (
  some (.own 0, [(0, ⟨[.ints .u16 (cjI a)], true⟩)])) := by kernel_rfl
theorem ans {n : Nat} {a : Int} (hA : Sounds Try.prog (A n)) {u : U} {H : Heap} (h : R n a = some (u, H)) : Answers Try.prog 19 (us a) (HA a) u H := answers_env tabOk mixed hA Try.func19 (by kernel_rfl) (by kernel_rfl) h
end I_Cj

namespace S_Cj
abbrev num : Nat := 20
noncomputable def A (n : Nat) (fm : Int → Int → Int) : List (Nat × Con) := ((fun (n : Nat) (fm : Int → Int → Int) => ([(44, CMulF fm)] : List (Nat × Con)))) n fm
noncomputable abbrev E (n : Nat) (fm : Int → Int → Int) : Env (U × Heap) := envC tab ios (A n fm)
def L : List (List Nat) := [[3, 4, 0]]
abbrev us (a : Int) : List U := (((fun (a : Int) => (([.int .u16 a] : List U), ([] : Heap)))) a).1
abbrev HA (a : Int) : Heap := (((fun (a : Int) => (([.int .u16 a] : List U), ([] : Heap)))) a).2
def S0 (t4 : Int) (t0 : Int) (o0_0 : List Int) : St := ⟨[(3, .own 0), (4, .int .u16 t4), (0, .int .u16 t0)], 21, [(0, ⟨[.ints .u16 o0_0], true⟩)], [0], 0⟩
noncomputable def N0 (n : Nat) (fm : Int → Int → Int)  (m0 : Nat) (t4 : Int) (t0 : Int) (o0_0 : List Int) : Res := nodeRun (E n fm) n Try.f20 L k0 [true, true, false, true, false] [] m0 (S0 t4 t0 o0_0)
theorem N0_succ (n : Nat) (fm : Int → Int → Int)  (m0 : Nat) (t4 : Int) (t0 : Int) (o0_0 : List Int) : N0 n fm  (m0 + 1) t4 t0 o0_0 =
  bif (t4 != t0) then
   bif decide ((((List.length o0_0) + 1) * 1) ≤ 4398046511104) then
   pif (((u16 t4) ∧ (u16 t4))) (
    N0 n fm m0 (fm t4 t4) t0 (o0_0 ++ [t4]))
   else none
  else
   some (.own 0, [(0, ⟨[.ints .u16 o0_0], true⟩)]) := by kernel_rfl
noncomputable def R (n : Nat) (fm : Int → Int → Int) (a : Int) : Res := run (E n fm) n Try.f20 L (us a) (HA a) k0
theorem R_eq (n : Nat) (fm : Int → Int → Int) (a : Int) : R n fm a =
  pif (((u16 a) ∧ (u16 a))) (
  N0 n fm n (fm a a) a [a]) := by kernel_rfl
theorem ans {n : Nat} {fm : Int → Int → Int} {a : Int} (hA : Sounds Try.prog (A n fm)) {u : U} {H : Heap} (h : R n fm a = some (u, H)) : Answers Try.prog 20 (us a) (HA a) u H := answers_env tabOk mixed hA Try.func20 (by kernel_rfl) (by kernel_rfl) h
end S_Cj

namespace S_same5
abbrev num : Nat := 53
noncomputable def A (n : Nat) : List (Nat × Con) := ((fun (n : Nat) => ([] : List (Nat × Con)))) n
noncomputable abbrev E (n : Nat) : Env (U × Heap) := envC tab ios (A n)
def L : List (List Nat) := [[5, 1, 0]]
abbrev us (lo : List Int) (lo' : List Int) (jo : Nat) (jo' : Nat) : List U := (((fun (lo lo' : List Int) (jo jo' : Nat) => (([.rsl [.ints .u16 lo] jo, .rsl [.ints .u16 lo'] jo'] : List U), ([] : Heap)))) lo lo' jo jo').1
abbrev HA (lo : List Int) (lo' : List Int) (jo : Nat) (jo' : Nat) : Heap := (((fun (lo lo' : List Int) (jo jo' : Nat) => (([.rsl [.ints .u16 lo] jo, .rsl [.ints .u16 lo'] jo'] : List U), ([] : Heap)))) lo lo' jo jo').2
def S0 (t5 : Int) (t1_0 : List Int) (t1n : Nat) (t0_0 : List Int) (t0n : Nat) : St := ⟨[(5, .int .i64 t5), (1, .rsl [.ints .u16 t1_0] t1n), (0, .rsl [.ints .u16 t0_0] t0n)], 26, [], [], 0⟩
noncomputable def N0 (n : Nat)  (m0 : Nat) (t5 : Int) (t1_0 : List Int) (t1n : Nat) (t0_0 : List Int) (t0n : Nat) : Res := nodeRun (E n) n Try.f53 L k0 [true, true, false, true, false] [] m0 (S0 t5 t1_0 t1n t0_0 t0n)
theorem N0_succ (n : Nat)  (m0 : Nat) (t5 : Int) (t1_0 : List Int) (t1n : Nat) (t0_0 : List Int) (t0n : Nat) : N0 n  (m0 + 1) t5 t1_0 t1n t0_0 t0n =
  bif decide (t5 < ((t0n : Nat) : Int)) then
   bif decide (((0 : Int) ≤ t5) ∧ (t5 < ((t0n : Nat) : Int))) then
   bif decide (((0 : Int) ≤ t5) ∧ (t5 < ((t1n : Nat) : Int))) then
    bif ((List.getD t0_0 (Int.toNat t5) (0 : Int)) != (List.getD t1_0 (Int.toNat t5) (0 : Int))) then
      some (.bool false, [])
     else
      N0 n m0 (IntKind.wrap .i64 (t5 + (1 : Int))) t1_0 t1n t0_0 t0n
    else none
   else none
  else
   some (.bool true, []) := by kernel_rfl
noncomputable def R (n : Nat) (lo : List Int) (lo' : List Int) (jo : Nat) (jo' : Nat) : Res := run (E n) n Try.f53 L (us lo lo' jo jo') (HA lo lo' jo jo') k0
theorem R_eq (n : Nat) (lo : List Int) (lo' : List Int) (jo : Nat) (jo' : Nat) : R n lo lo' jo jo' =
  bif (((jo : Nat) : Int) != ((jo' : Nat) : Int)) then
   some (.bool false, [])
  else
   N0 n n (0 : Int) lo' jo' lo jo := by kernel_rfl
theorem ans {n : Nat} {lo : List Int} {lo' : List Int} {jo : Nat} {jo' : Nat} (hA : Sounds Try.prog (A n)) {u : U} {H : Heap} (h : R n lo lo' jo jo' = some (u, H)) : Answers Try.prog 53 (us lo lo' jo jo') (HA lo lo' jo jo') u H := answers_env tabOk mixed hA Try.func53 (by kernel_rfl) (by kernel_rfl) h
end S_same5

namespace S_A2Same
abbrev num : Nat := 21
noncomputable def A (n : Nat) : List (Nat × Con) := ((fun (n : Nat) => ([(53, CEqU)] : List (Nat × Con)))) n
noncomputable abbrev E (n : Nat) : Env (U × Heap) := envC tab ios (A n)
def L : List (List Nat) := []
abbrev us (lo : List Int) (lo' : List Int) (jo : Nat) (jo' : Nat) : List U := (((fun (lo lo' : List Int) (jo jo' : Nat) => (([.rsl [.ints .u16 lo] jo, .rsl [.ints .u16 lo'] jo'] : List U), ([] : Heap)))) lo lo' jo jo').1
abbrev HA (lo : List Int) (lo' : List Int) (jo : Nat) (jo' : Nat) : Heap := (((fun (lo lo' : List Int) (jo jo' : Nat) => (([.rsl [.ints .u16 lo] jo, .rsl [.ints .u16 lo'] jo'] : List U), ([] : Heap)))) lo lo' jo jo').2
noncomputable def R (n : Nat) (lo : List Int) (lo' : List Int) (jo : Nat) (jo' : Nat) : Res := run (E n) n Try.f21 L (us lo lo' jo jo') (HA lo lo' jo jo') k0
theorem R_eq (n : Nat) (lo : List Int) (lo' : List Int) (jo : Nat) (jo' : Nat) : R n lo lo' jo jo' =
  pif (((ul lo jo) ∧ (ul lo' jo'))) (
  some (.bool (eqI lo lo'), [])) := by kernel_rfl
theorem ans {n : Nat} {lo : List Int} {lo' : List Int} {jo : Nat} {jo' : Nat} (hA : Sounds Try.prog (A n)) {u : U} {H : Heap} (h : R n lo lo' jo jo' = some (u, H)) : Answers Try.prog 21 (us lo lo' jo jo') (HA lo lo' jo jo') u H := answers_env tabOk mixed hA Try.func21 (by kernel_rfl) (by kernel_rfl) h
end S_A2Same

namespace I_ord
abbrev num : Nat := 55
noncomputable def A (n : Nat) (fm : Int → Int → Int) : List (Nat × Con) := ((fun (n : Nat) (fm : Int → Int → Int) => ([(86, CPowF fm)] : List (Nat × Con)))) n fm
noncomputable abbrev E (n : Nat) (fm : Int → Int → Int) : Env (U × Heap) := envC tab ios (A n fm)
def L : List (List Nat) := [[3, 8, 0, 6, 7]]
abbrev us (a : Int) : List U := (((fun (a : Int) => (([.int .u16 a] : List U), ([] : Heap)))) a).1
abbrev HA (a : Int) : Heap := (((fun (a : Int) => (([.int .u16 a] : List U), ([] : Heap)))) a).2
def S0 (t3 : Int) (t8 : Int) (t0 : Int) (t7 : Int) (o0_0 : List Int) : St := ⟨[(3, .int .i64 t3), (8, .int .i64 t8), (0, .int .u16 t0), (6, .own 0), (7, .int .i64 t7)], 23, [(0, ⟨[.ints .i64 o0_0], true⟩)], [0], 0⟩
noncomputable def N0 (n : Nat) (fm : Int → Int → Int)  (m0 : Nat) (t3 : Int) (t8 : Int) (t0 : Int) (t7 : Int) (o0_0 : List Int) : Res := nodeRun (E n fm) n Try.f55 L k0 [true, true, false, true, false] [] m0 (S0 t3 t8 t0 t7 o0_0)
theorem N0_succ (n : Nat) (fm : Int → Int → Int)  (m0 : Nat) (t3 : Int) (t8 : Int) (t0 : Int) (t7 : Int) (o0_0 : List Int) : N0 n fm  (m0 + 1) t3 t8 t0 t7 o0_0 =
  bif decide (t8 < t7) then
   bif decide (((0 : Int) ≤ t8) ∧ (t8 < (((List.length o0_0) : Nat) : Int))) then
   bif decide ((List.getD o0_0 (Int.toNat t8) (0 : Int)) ≠ (0 : Int)) then
    pif (((u16 t0) ∧ (expo (IntKind.wrap .i64 (Int.tdiv t3 (List.getD o0_0 (Int.toNat t8) (0 : Int))))))) (
     bif ((fm t0 (IntKind.wrap .i64 (Int.tdiv t3 (List.getD o0_0 (Int.toNat t8) (0 : Int))))) == (1 : Int)) then
      bif decide ((List.getD o0_0 (Int.toNat t8) (0 : Int)) ≠ (0 : Int)) then
      N0 n fm m0 (IntKind.wrap .i64 (Int.tdiv t3 (List.getD o0_0 (Int.toNat t8) (0 : Int)))) (IntKind.wrap .i64 (t8 + (1 : Int))) t0 t7 o0_0
      else none
     else
      N0 n fm m0 t3 (IntKind.wrap .i64 (t8 + (1 : Int))) t0 t7 o0_0)
    else none
   else none
  else
   some (.int .i64 t3, []) := by kernel_rfl
noncomputable def R (n : Nat) (fm : Int → Int → Int) (a : Int) : Res := run (E n fm) n Try.f55 L (us a) (HA a) k0
theorem R_eq (n : Nat) (fm : Int → Int → Int) (a : Int) : R n fm a =
  N0 n fm n (65535 : Int) (0 : Int) a (4 : Int) (List.set (List.set (List.set (List.set (List.replicate 4 (0 : Int)) 0 (3 : Int)) 1 (5 : Int)) 2 (17 : Int)) 3 (257 : Int)) := by kernel_rfl
theorem ans {n : Nat} {fm : Int → Int → Int} {a : Int} (hA : Sounds Try.prog (A n fm)) {u : U} {H : Heap} (h : R n fm a = some (u, H)) : Answers Try.prog 55 (us a) (HA a) u H := answers_env tabOk mixed hA Try.func55 (by kernel_rfl) (by kernel_rfl) h
end I_ord

namespace S_ord
abbrev num : Nat := 57
noncomputable def A (n : Nat) (fm : Int → Int → Int) : List (Nat × Con) := ((fun (n : Nat) (fm : Int → Int → Int) => ([(42, CPowF fm)] : List (Nat × Con)))) n fm
noncomputable abbrev E (n : Nat) (fm : Int → Int → Int) : Env (U × Heap) := envC tab ios (A n fm)
def L : List (List Nat) := [[3, 5, 4, 0]]
abbrev us (a : Int) : List U := (((fun (a : Int) => (([.int .u16 a] : List U), ([] : Heap)))) a).1
abbrev HA (a : Int) : Heap := (((fun (a : Int) => (([.int .u16 a] : List U), ([] : Heap)))) a).2
def S0 (t3 : Int) (t5 : Int) (t0 : Int) (o0_0 : List Int) : St := ⟨[(3, .int .i64 t3), (5, .int .i64 t5), (4, .own 0), (0, .int .u16 t0)], 29, [(0, ⟨[.ints .i64 o0_0], true⟩)], [0], 0⟩
noncomputable def N0 (n : Nat) (fm : Int → Int → Int)  (m0 : Nat) (t3 : Int) (t5 : Int) (t0 : Int) (o0_0 : List Int) : Res := nodeRun (E n fm) n Try.f57 L k0 [true, true, true, false, true, false] [] m0 (S0 t3 t5 t0 o0_0)
theorem N0_succ (n : Nat) (fm : Int → Int → Int)  (m0 : Nat) (t3 : Int) (t5 : Int) (t0 : Int) (o0_0 : List Int) : N0 n fm  (m0 + 1) t3 t5 t0 o0_0 =
  bif decide (t5 < (((List.length o0_0) : Nat) : Int)) then
   bif decide (((0 : Int) ≤ t5) ∧ (t5 < (((List.length o0_0) : Nat) : Int))) then
   bif decide ((List.getD o0_0 (Int.toNat t5) (0 : Int)) ≠ (0 : Int)) then
    pif (((u16 t0) ∧ (expo (IntKind.wrap .i64 (Int.tdiv t3 (List.getD o0_0 (Int.toNat t5) (0 : Int))))))) (
     bif ((fm t0 (IntKind.wrap .i64 (Int.tdiv t3 (List.getD o0_0 (Int.toNat t5) (0 : Int))))) == (1 : Int)) then
      bif decide (((0 : Int) ≤ t5) ∧ (t5 < (((List.length o0_0) : Nat) : Int))) then
      bif decide ((List.getD o0_0 (Int.toNat t5) (0 : Int)) ≠ (0 : Int)) then
       N0 n fm m0 (IntKind.wrap .i64 (Int.tdiv t3 (List.getD o0_0 (Int.toNat t5) (0 : Int)))) (IntKind.wrap .i64 (t5 + (1 : Int))) t0 o0_0
       else none
      else none
     else
      N0 n fm m0 t3 (IntKind.wrap .i64 (t5 + (1 : Int))) t0 o0_0)
    else none
   else none
  else
   some (.int .i64 t3, []) := by kernel_rfl
noncomputable def R (n : Nat) (fm : Int → Int → Int) (a : Int) : Res := run (E n fm) n Try.f57 L (us a) (HA a) k0
theorem R_eq (n : Nat) (fm : Int → Int → Int) (a : Int) : R n fm a =
  N0 n fm n (65535 : Int) (0 : Int) a (List.set (List.set (List.set (List.set (List.replicate 4 (0 : Int)) 0 (3 : Int)) 1 (5 : Int)) 2 (17 : Int)) 3 (257 : Int)) := by kernel_rfl
theorem ans {n : Nat} {fm : Int → Int → Int} {a : Int} (hA : Sounds Try.prog (A n fm)) {u : U} {H : Heap} (h : R n fm a = some (u, H)) : Answers Try.prog 57 (us a) (HA a) u H := answers_env tabOk mixed hA Try.func57 (by kernel_rfl) (by kernel_rfl) h
end S_ord

namespace I_Ord
abbrev num : Nat := 26
noncomputable def A (n : Nat) : List (Nat × Con) := ((fun (n : Nat) => ([(55, COrd)] : List (Nat × Con)))) n
noncomputable abbrev E (n : Nat) : Env (U × Heap) := envC tab ios (A n)
def L : List (List Nat) := []
abbrev us (a : Int) : List U := (((fun (a : Int) => (([.int .u16 a] : List U), ([] : Heap)))) a).1
abbrev HA (a : Int) : Heap := (((fun (a : Int) => (([.int .u16 a] : List U), ([] : Heap)))) a).2
noncomputable def R (n : Nat) (a : Int) : Res := run (E n) n Try.f26 L (us a) (HA a) k0
theorem R_eq (n : Nat) (a : Int) : R n a =
  bif (a == (0 : Int)) then
   some (.tup [.int .i64 (0 : Int), .int .i64 (4 : Int)], [])
  else
   pif ((u16 a)) (
   some (.tup [.int .i64 (orI a), .int .i64 (0 : Int)], [])) := by kernel_rfl
theorem ans {n : Nat} {a : Int} (hA : Sounds Try.prog (A n)) {u : U} {H : Heap} (h : R n a = some (u, H)) : Answers Try.prog 26 (us a) (HA a) u H := answers_env tabOk mixed hA Try.func26 (by kernel_rfl) (by kernel_rfl) h
end I_Ord

namespace I_gen
abbrev num : Nat := 24
noncomputable def A (n : Nat) (fo : Int → Int) : List (Nat × Con) := ((fun (n : Nat) (fo : Int → Int) => ([(54, CIn), (55, COrdF fo)] : List (Nat × Con)))) n fo
noncomputable abbrev E (n : Nat) (fo : Int → Int) : Env (U × Heap) := envC tab ios (A n fo)
def L : List (List Nat) := [[5, 4]]
abbrev us (l : Int) : List U := (((fun (l : Int) => (([.int .i64 l] : List U), ([] : Heap)))) l).1
abbrev HA (l : Int) : Heap := (((fun (l : Int) => (([.int .i64 l] : List U), ([] : Heap)))) l).2
def S0 (t5 : Int) (t4 : Int) : St := ⟨[(5, .int .u16 t5), (4, .int .i64 t4)], 20, [], [], 0⟩
noncomputable def N0 (n : Nat) (fo : Int → Int)  (m0 : Nat) (t5 : Int) (t4 : Int) : Res := nodeRun (E n fo) n Try.f24 L k0 [true, true, true, true, false] [] m0 (S0 t5 t4)
theorem N0_succ (n : Nat) (fo : Int → Int)  (m0 : Nat) (t5 : Int) (t4 : Int) : N0 n fo  (m0 + 1) t5 t4 =
  pif ((u16 t5)) (
  bif ((fo t5) == t4) then
   some (.tup [.int .u16 t5, .int .i64 (0 : Int)], [])
  else
   N0 n fo m0 (IntKind.wrap .u16 (t5 + (1 : Int))) t4) := by kernel_rfl
noncomputable def R (n : Nat) (fo : Int → Int) (l : Int) : Res := run (E n fo) n Try.f24 L (us l) (HA l) k0
theorem R_eq (n : Nat) (fo : Int → Int) (l : Int) : R n fo l =
  pif (True) (
  bif (!(inB l (1 : Int) (4 : Int))) then
   some (.tup [.int .u16 (0 : Int), .int .i64 (2 : Int)], [])
  else
   bif decide ((0 : Int) ≤ l) then
   N0 n fo n (1 : Int) (IntKind.wrap .i64 ((IntKind.wrap .i64 ((1 : Int) * ((2 : Int) ^ (min (Int.toNat (IntKind.wrap .u64 ((1 : Int) * ((2 : Int) ^ (min (Int.toNat l) 64))))) 64)))) - (1 : Int)))
   else none) := by kernel_rfl
theorem ans {n : Nat} {fo : Int → Int} {l : Int} (hA : Sounds Try.prog (A n fo)) {u : U} {H : Heap} (h : R n fo l = some (u, H)) : Answers Try.prog 24 (us l) (HA l) u H := answers_env tabOk mixed hA Try.func24 (by kernel_rfl) (by kernel_rfl) h
end I_gen

namespace S_gen
abbrev num : Nat := 25
noncomputable def A (n : Nat) (fo : Int → Int) : List (Nat × Con) := ((fun (n : Nat) (fo : Int → Int) => ([(56, CIn), (57, COrdF fo)] : List (Nat × Con)))) n fo
noncomputable abbrev E (n : Nat) (fo : Int → Int) : Env (U × Heap) := envC tab ios (A n fo)
def L : List (List Nat) := [[5, 4]]
abbrev us (l : Int) : List U := (((fun (l : Int) => (([.int .i64 l] : List U), ([] : Heap)))) l).1
abbrev HA (l : Int) : Heap := (((fun (l : Int) => (([.int .i64 l] : List U), ([] : Heap)))) l).2
def S0 (t5 : Int) (t4 : Int) : St := ⟨[(5, .int .u16 t5), (4, .int .i64 t4)], 22, [], [], 0⟩
noncomputable def N0 (n : Nat) (fo : Int → Int)  (m0 : Nat) (t5 : Int) (t4 : Int) : Res := nodeRun (E n fo) n Try.f25 L k0 [true, true, true, true, false, false] [] m0 (S0 t5 t4)
theorem N0_succ (n : Nat) (fo : Int → Int)  (m0 : Nat) (t5 : Int) (t4 : Int) : N0 n fo  (m0 + 1) t5 t4 =
  pif ((u16 t5)) (
  bif decide ((IntKind.wrap .i64 (t4 - (1 : Int))) ≠ (0 : Int)) then
  bif ((Int.tmod (fo t5) (IntKind.wrap .i64 (t4 - (1 : Int)))) != (0 : Int)) then
    N0 n fo m0 (IntKind.wrap .u16 (t5 + (1 : Int))) t4
   else
    some (.tup [.int .u16 t5, .int .i64 (0 : Int)], [])
  else none) := by kernel_rfl
noncomputable def R (n : Nat) (fo : Int → Int) (l : Int) : Res := run (E n fo) n Try.f25 L (us l) (HA l) k0
theorem R_eq (n : Nat) (fo : Int → Int) (l : Int) : R n fo l =
  pif (True) (
  bif (!(inB l (1 : Int) (4 : Int))) then
   some (.tup [.int .u16 (0 : Int), .int .i64 (2 : Int)], [])
  else
   bif decide ((0 : Int) ≤ (IntKind.wrap .u64 l)) then
   N0 n fo n (2 : Int) (IntKind.wrap .i64 ((1 : Int) * ((2 : Int) ^ (min (Int.toNat (IntKind.wrap .u64 ((1 : Int) * ((2 : Int) ^ (min (Int.toNat (IntKind.wrap .u64 l)) 64))))) 64))))
   else none) := by kernel_rfl
theorem ans {n : Nat} {fo : Int → Int} {l : Int} (hA : Sounds Try.prog (A n fo)) {u : U} {H : Heap} (h : R n fo l = some (u, H)) : Answers Try.prog 25 (us l) (HA l) u H := answers_env tabOk mixed hA Try.func25 (by kernel_rfl) (by kernel_rfl) h
end S_gen

end Go.VM
