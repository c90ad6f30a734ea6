/- Written by a program of this session (Lift.lean): what the evaluator comes to, function by function; the kernel checks it. The conditions: those of the contracts. -/
import Derived.Test.YthfabkahekagoaaDoorVmP4
import Derived.Test.YthfabkahekagoaaDoorNimST
import Derived.Test.YthfabkahekagoaaDoorNimSTS
import Derived.Test.YthfabkahekagoaaDoorNimCon
import Derived.Test.YthfabkahekagoaaDoorOrdCon
import Derived.Test.YthfabkahekagoaaDoorSrcCon
import Derived.Test.YthfabkahekagoaaDoorTxtCon
import Derived.Test.YthfabkahekagoaaDoorFldCon
import Derived.KernelRfl
set_option linter.unusedVariables false
set_option linter.unusedSimpArgs false
set_option linter.unusedSectionVars false
namespace Go.VM
open Go Go.Proofs Go.Fn NimF
set_option linter.unusedVariables false
set_option maxRecDepth 100000
namespace I_TimesN
abbrev num : Nat := 7
noncomputable def A (n : Nat) : List (Nat × Con) := ((fun (n : Nat) => ([(37, CMul)] : List (Nat × Con)))) n
noncomputable abbrev E (n : Nat) : Env (U × Heap) := envC tab ios (A n)
def L : List (List Nat) := []
abbrev us (a : Int) (b : Int) : List U := (((fun (a b : Int) => (([.int .u16 a, .int .u16 b] : List U), ([] : Heap)))) a b).1
abbrev HA (a : Int) (b : Int) : Heap := (((fun (a b : Int) => (([.int .u16 a, .int .u16 b] : List U), ([] : Heap)))) a b).2
noncomputable def R (n : Nat) (a : Int) (b : Int) : Res := run (E n) n Tryd.f7 L (us a b) (HA a b) k0
theorem R_eq (n : Nat) (a : Int) (b : Int) : R n a b =
  pif (((u16 a) ∧ (u16 b))) (
  some (.int .u16 (mulI a b), [])) := by kernel_rfl
theorem ans {n : Nat} {a : Int} {b : Int} (hA : Sounds Tryd.prog (A n)) {u : U} {H : Heap} (h : R n a b = some (u, H)) : Answers Tryd.prog 7 (us a b) (HA a b) u H := answers_env tabOk mixed hA Tryd.func7 (by kernel_rfl) (by kernel_rfl) h
end I_TimesN

namespace S_TimesN
abbrev num : Nat := 8
noncomputable def A (n : Nat) : List (Nat × Con) := ((fun (n : Nat) => ([(38, CMul)] : List (Nat × Con)))) n
noncomputable abbrev E (n : Nat) : Env (U × Heap) := envC tab ios (A n)
def L : List (List Nat) := []
abbrev us (a : Int) (b : Int) : List U := (((fun (a b : Int) => (([.int .u16 a, .int .u16 b] : List U), ([] : Heap)))) a b).1
abbrev HA (a : Int) (b : Int) : Heap := (((fun (a b : Int) => (([.int .u16 a, .int .u16 b] : List U), ([] : Heap)))) a b).2
noncomputable def R (n : Nat) (a : Int) (b : Int) : Res := run (E n) n Tryd.f8 L (us a b) (HA a b) k0
theorem R_eq (n : Nat) (a : Int) (b : Int) : R n a b =
  pif (((u16 a) ∧ (u16 b))) (
  some (.int .u16 (mulI a b), [])) := by kernel_rfl
theorem ans {n : Nat} {a : Int} {b : Int} (hA : Sounds Tryd.prog (A n)) {u : U} {H : Heap} (h : R n a b = some (u, H)) : Answers Tryd.prog 8 (us a b) (HA a b) u H := answers_env tabOk mixed hA Tryd.func8 (by kernel_rfl) (by kernel_rfl) h
end S_TimesN

namespace I_PlusN
abbrev num : Nat := 9
noncomputable def A (n : Nat) : List (Nat × Con) := ((fun (n : Nat) => ([] : List (Nat × Con)))) n
noncomputable abbrev E (n : Nat) : Env (U × Heap) := envC tab ios (A n)
def L : List (List Nat) := []
abbrev us (a : Int) (b : Int) : List U := (((fun (a b : Int) => (([.int .u16 a, .int .u16 b] : List U), ([] : Heap)))) a b).1
abbrev HA (a : Int) (b : Int) : Heap := (((fun (a b : Int) => (([.int .u16 a, .int .u16 b] : List U), ([] : Heap)))) a b).2
noncomputable def R (n : Nat) (a : Int) (b : Int) : Res := run (E n) n Tryd.f9 L (us a b) (HA a b) k0
theorem R_eq (n : Nat) (a : Int) (b : Int) : R n a b =
  some (.int .u16 (intBitsV .xor .u16 a b), []) := by kernel_rfl
theorem ans {n : Nat} {a : Int} {b : Int} (hA : Sounds Tryd.prog (A n)) {u : U} {H : Heap} (h : R n a b = some (u, H)) : Answers Tryd.prog 9 (us a b) (HA a b) u H := answers_env tabOk mixed hA Tryd.func9 (by kernel_rfl) (by kernel_rfl) h
end I_PlusN

namespace I_SqOf
abbrev num : Nat := 12
noncomputable def A (n : Nat) : List (Nat × Con) := ((fun (n : Nat) => ([(37, CMul)] : List (Nat × Con)))) n
noncomputable abbrev E (n : Nat) : Env (U × Heap) := envC tab ios (A n)
def L : List (List Nat) := []
abbrev us (a : Int) : List U := (((fun (a : Int) => (([.int .u16 a] : List U), ([] : Heap)))) a).1
abbrev HA (a : Int) : Heap := (((fun (a : Int) => (([.int .u16 a] : List U), ([] : Heap)))) a).2
noncomputable def R (n : Nat) (a : Int) : Res := run (E n) n Tryd.f12 L (us a) (HA a) k0
theorem R_eq (n : Nat) (a : Int) : R n a =
  pif (((u16 a) ∧ (u16 a))) (
  some (.int .u16 (mulI a a), [])) := by kernel_rfl
theorem ans {n : Nat} {a : Int} (hA : Sounds Tryd.prog (A n)) {u : U} {H : Heap} (h : R n a = some (u, H)) : Answers Tryd.prog 12 (us a) (HA a) u H := answers_env tabOk mixed hA Tryd.func12 (by kernel_rfl) (by kernel_rfl) h
end I_SqOf

namespace I_root
abbrev num : Nat := 41
noncomputable def A (n : Nat) : List (Nat × Con) := ((fun (n : Nat) => ([(37, CMul)] : List (Nat × Con)))) n
noncomputable abbrev E (n : Nat) : Env (U × Heap) := envC tab ios (A n)
def L : List (List Nat) := [[0, 3]]
abbrev us (a : Int) : List U := (((fun (a : Int) => (([.int .u16 a] : List U), ([] : Heap)))) a).1
abbrev HA (a : Int) : Heap := (((fun (a : Int) => (([.int .u16 a] : List U), ([] : Heap)))) a).2
def S0 (t0 : Int) (t3 : Int) : St := ⟨[(0, .int .u16 t0), (3, .int .i64 t3)], 10, [], [], 0⟩
noncomputable def N0 (n : Nat)  (m0 : Nat) (t0 : Int) (t3 : Int) : Res := nodeRun (E n) n Tryd.f41 L k0 [true, false, true, false] [] m0 (S0 t0 t3)
theorem N0_succ (n : Nat)  (m0 : Nat) (t0 : Int) (t3 : Int) : N0 n  (m0 + 1) t0 t3 =
  bif decide (t3 < (15 : Int)) then
   pif (((u16 t0) ∧ (u16 t0))) (
   N0 n m0 (mulI t0 t0) (IntKind.wrap .i64 (t3 + (1 : Int))))
  else
   some (.int .u16 t0, []) := by kernel_rfl
noncomputable def R (n : Nat) (a : Int) : Res := run (E n) n Tryd.f41 L (us a) (HA a) k0
theorem R_eq (n : Nat) (a : Int) : R n a =
  N0 n n a (0 : Int) := by kernel_rfl
theorem ans {n : Nat} {a : Int} (hA : Sounds Tryd.prog (A n)) {u : U} {H : Heap} (h : R n a = some (u, H)) : Answers Tryd.prog 41 (us a) (HA a) u H := answers_env tabOk mixed hA Tryd.func41 (by kernel_rfl) (by kernel_rfl) h
end I_root

namespace I_RootOf
abbrev num : Nat := 13
noncomputable def A (n : Nat) : List (Nat × Con) := ((fun (n : Nat) => ([(41, CRoot)] : List (Nat × Con)))) n
noncomputable abbrev E (n : Nat) : Env (U × Heap) := envC tab ios (A n)
def L : List (List Nat) := []
abbrev us (a : Int) : List U := (((fun (a : Int) => (([.int .u16 a] : List U), ([] : Heap)))) a).1
abbrev HA (a : Int) : Heap := (((fun (a : Int) => (([.int .u16 a] : List U), ([] : Heap)))) a).2
noncomputable def R (n : Nat) (a : Int) : Res := run (E n) n Tryd.f13 L (us a) (HA a) k0
theorem R_eq (n : Nat) (a : Int) : R n a =
  pif ((u16 a)) (
  some (.int .u16 (powI a (32768 : Int)), [])) := by kernel_rfl
theorem ans {n : Nat} {a : Int} (hA : Sounds Tryd.prog (A n)) {u : U} {H : Heap} (h : R n a = some (u, H)) : Answers Tryd.prog 13 (us a) (HA a) u H := answers_env tabOk mixed hA Tryd.func13 (by kernel_rfl) (by kernel_rfl) h
end I_RootOf

namespace I_lev
abbrev num : Nat := 40
noncomputable def A (n : Nat) : List (Nat × Con) := ((fun (n : Nat) => ([] : List (Nat × Con)))) n
noncomputable abbrev E (n : Nat) : Env (U × Heap) := envC tab ios (A n)
def L : List (List Nat) := [[3, 0]]
abbrev us (a : Int) : List U := (((fun (a : Int) => (([.int .u16 a] : List U), ([] : Heap)))) a).1
abbrev HA (a : Int) : Heap := (((fun (a : Int) => (([.int .u16 a] : List U), ([] : Heap)))) a).2
def S0 (t3 : Int) (t0 : Int) : St := ⟨[(3, .int .i64 t3), (0, .int .u16 t0)], 12, [], [], 0⟩
noncomputable def N0 (n : Nat)  (m0 : Nat) (t3 : Int) (t0 : Int) : Res := nodeRun (E n) n Tryd.f40 L k0 [true, true, false, false] [] m0 (S0 t3 t0)
theorem N0_succ (n : Nat)  (m0 : Nat) (t3 : Int) (t0 : Int) : N0 n  (m0 + 1) t3 t0 =
  bif decide ((0 : Int) ≤ t3) then
  bif ((Int.fdiv t0 ((2 : Int) ^ (min (Int.toNat (IntKind.wrap .u64 ((1 : Int) * ((2 : Int) ^ (min (Int.toNat t3) 64))))) 16))) != (0 : Int)) then
    N0 n m0 (IntKind.wrap .i64 (t3 + (1 : Int))) t0
   else
    some (.int .i64 t3, [])
  else none := by kernel_rfl
noncomputable def R (n : Nat) (a : Int) : Res := run (E n) n Tryd.f40 L (us a) (HA a) k0
theorem R_eq (n : Nat) (a : Int) : R n a =
  N0 n n (0 : Int) a := by kernel_rfl
theorem ans {n : Nat} {a : Int} (hA : Sounds Tryd.prog (A n)) {u : U} {H : Heap} (h : R n a = some (u, H)) : Answers Tryd.prog 40 (us a) (HA a) u H := answers_env tabOk mixed hA Tryd.func40 (by kernel_rfl) (by kernel_rfl) h
end I_lev

namespace S_lev
abbrev num : Nat := 39
noncomputable def A (n : Nat) : List (Nat × Con) := ((fun (n : Nat) => ([] : List (Nat × Con)))) n
noncomputable abbrev E (n : Nat) : Env (U × Heap) := envC tab ios (A n)
def L : List (List Nat) := [[3, 0]]
abbrev us (a : Int) : List U := (((fun (a : Int) => (([.int .u16 a] : List U), ([] : Heap)))) a).1
abbrev HA (a : Int) : Heap := (((fun (a : Int) => (([.int .u16 a] : List U), ([] : Heap)))) a).2
def S0 (t3 : Int) (t0 : Int) : St := ⟨[(3, .int .i64 t3), (0, .int .u16 t0)], 14, [], [], 0⟩
noncomputable def N0 (n : Nat)  (m0 : Nat) (t3 : Int) (t0 : Int) : Res := nodeRun (E n) n Tryd.f39 L k0 [true, true, false, false] [] m0 (S0 t3 t0)
theorem N0_succ (n : Nat)  (m0 : Nat) (t3 : Int) (t0 : Int) : N0 n  (m0 + 1) t3 t0 =
  bif decide ((0 : Int) ≤ (IntKind.wrap .u64 t3)) then
  bif decide ((IntKind.wrap .i64 t0) ≥ (IntKind.wrap .i64 ((1 : Int) * ((2 : Int) ^ (min (Int.toNat (IntKind.wrap .u64 ((1 : Int) * ((2 : Int) ^ (min (Int.toNat (IntKind.wrap .u64 t3)) 64))))) 64))))) then
    N0 n m0 (IntKind.wrap .i64 (t3 + (1 : Int))) t0
   else
    some (.int .i64 t3, [])
  else none := by kernel_rfl
noncomputable def R (n : Nat) (a : Int) : Res := run (E n) n Tryd.f39 L (us a) (HA a) k0
theorem R_eq (n : Nat) (a : Int) : R n a =
  N0 n n (0 : Int) a := by kernel_rfl
theorem ans {n : Nat} {a : Int} (hA : Sounds Tryd.prog (A n)) {u : U} {H : Heap} (h : R n a = some (u, H)) : Answers Tryd.prog 39 (us a) (HA a) u H := answers_env tabOk mixed hA Tryd.func39 (by kernel_rfl) (by kernel_rfl) h
end S_lev

namespace I_LevOf
abbrev num : Nat := 11
noncomputable def A (n : Nat) : List (Nat × Con) := ((fun (n : Nat) => ([(40, CLev)] : List (Nat × Con)))) n
noncomputable abbrev E (n : Nat) : Env (U × Heap) := envC tab ios (A n)
def L : List (List Nat) := []
abbrev us (a : Int) : List U := (((fun (a : Int) => (([.int .u16 a] : List U), ([] : Heap)))) a).1
abbrev HA (a : Int) : Heap := (((fun (a : Int) => (([.int .u16 a] : List U), ([] : Heap)))) a).2
noncomputable def R (n : Nat) (a : Int) : Res := run (E n) n Tryd.f11 L (us a) (HA a) k0
theorem R_eq (n : Nat) (a : Int) : R n a =
  pif ((u16 a)) (
  some (.int .i64 (lvI a), [])) := by kernel_rfl
theorem ans {n : Nat} {a : Int} (hA : Sounds Tryd.prog (A n)) {u : U} {H : Heap} (h : R n a = some (u, H)) : Answers Tryd.prog 11 (us a) (HA a) u H := answers_env tabOk mixed hA Tryd.func11 (by kernel_rfl) (by kernel_rfl) h
end I_LevOf

namespace S_LevOf
abbrev num : Nat := 10
noncomputable def A (n : Nat) : List (Nat × Con) := ((fun (n : Nat) => ([(39, CLev)] : List (Nat × Con)))) n
noncomputable abbrev E (n : Nat) : Env (U × Heap) := envC tab ios (A n)
def L : List (List Nat) := []
abbrev us (a : Int) : List U := (((fun (a : Int) => (([.int .u16 a] : List U), ([] : Heap)))) a).1
abbrev HA (a : Int) : Heap := (((fun (a : Int) => (([.int .u16 a] : List U), ([] : Heap)))) a).2
noncomputable def R (n : Nat) (a : Int) : Res := run (E n) n Tryd.f10 L (us a) (HA a) k0
theorem R_eq (n : Nat) (a : Int) : R n a =
  pif ((u16 a)) (
  some (.int .i64 (lvI a), [])) := by kernel_rfl
theorem ans {n : Nat} {a : Int} (hA : Sounds Tryd.prog (A n)) {u : U} {H : Heap} (h : R n a = some (u, H)) : Answers Tryd.prog 10 (us a) (HA a) u H := answers_env tabOk mixed hA Tryd.func10 (by kernel_rfl) (by kernel_rfl) h
end S_LevOf

namespace I_PowOf
abbrev num : Nat := 15
noncomputable def A (n : Nat) : List (Nat × Con) := ((fun (n : Nat) => ([(42, CIn), (43, CPow)] : List (Nat × Con)))) n
noncomputable abbrev E (n : Nat) : Env (U × Heap) := envC tab ios (A n)
def L : List (List Nat) := []
abbrev us (a : Int) (n0 : Int) : List U := (((fun (a n0 : Int) => (([.int .u16 a, .int .i64 n0] : List U), ([] : Heap)))) a n0).1
abbrev HA (a : Int) (n0 : Int) : Heap := (((fun (a n0 : Int) => (([.int .u16 a, .int .i64 n0] : List U), ([] : Heap)))) a n0).2
noncomputable def R (n : Nat) (a : Int) (n0 : Int) : Res := run (E n) n Tryd.f15 L (us a n0) (HA a n0) k0
theorem R_eq (n : Nat) (a : Int) (n0 : Int) : R n a n0 =
  pif (True) (
  bif (!(inB n0 (0 : Int) (1099511627776 : Int))) then
   some (.tup [.int .u16 (0 : Int), .int .i64 (2 : Int)], [])
  else
   pif (((u16 a) ∧ (expo n0))) (
   some (.tup [.int .u16 (powI a n0), .int .i64 (0 : Int)], []))) := by kernel_rfl
theorem ans {n : Nat} {a : Int} {n0 : Int} (hA : Sounds Tryd.prog (A n)) {u : U} {H : Heap} (h : R n a n0 = some (u, H)) : Answers Tryd.prog 15 (us a n0) (HA a n0) u H := answers_env tabOk mixed hA Tryd.func15 (by kernel_rfl) (by kernel_rfl) h
end I_PowOf

namespace S_PowOf
abbrev num : Nat := 16
noncomputable def A (n : Nat) : List (Nat × Con) := ((fun (n : Nat) => ([(44, CIn), (45, CPow)] : List (Nat × Con)))) n
noncomputable abbrev E (n : Nat) : Env (U × Heap) := envC tab ios (A n)
def L : List (List Nat) := []
abbrev us (a : Int) (n0 : Int) : List U := (((fun (a n0 : Int) => (([.int .u16 a, .int .i64 n0] : List U), ([] : Heap)))) a n0).1
abbrev HA (a : Int) (n0 : Int) : Heap := (((fun (a n0 : Int) => (([.int .u16 a, .int .i64 n0] : List U), ([] : Heap)))) a n0).2
noncomputable def R (n : Nat) (a : Int) (n0 : Int) : Res := run (E n) n Tryd.f16 L (us a n0) (HA a n0) k0
theorem R_eq (n : Nat) (a : Int) (n0 : Int) : R n a n0 =
  pif (True) (
  bif (!(inB n0 (0 : Int) (1099511627776 : Int))) then
   some (.tup [.int .u16 (0 : Int), .int .i64 (2 : Int)], [])
  else
   pif (((u16 a) ∧ (expo n0))) (
   some (.tup [.int .u16 (powI a n0), .int .i64 (0 : Int)], []))) := by kernel_rfl
theorem ans {n : Nat} {a : Int} {n0 : Int} (hA : Sounds Tryd.prog (A n)) {u : U} {H : Heap} (h : R n a n0 = some (u, H)) : Answers Tryd.prog 16 (us a n0) (HA a n0) u H := answers_env tabOk mixed hA Tryd.func16 (by kernel_rfl) (by kernel_rfl) h
end S_PowOf

namespace I_InvOf
abbrev num : Nat := 19
noncomputable def A (n : Nat) : List (Nat × Con) := ((fun (n : Nat) => ([(49, CInv)] : List (Nat × Con)))) n
noncomputable abbrev E (n : Nat) : Env (U × Heap) := envC tab ios (A n)
def L : List (List Nat) := []
abbrev us (a : Int) : List U := (((fun (a : Int) => (([.int .u16 a] : List U), ([] : Heap)))) a).1
abbrev HA (a : Int) : Heap := (((fun (a : Int) => (([.int .u16 a] : List U), ([] : Heap)))) a).2
noncomputable def R (n : Nat) (a : Int) : Res := run (E n) n Tryd.f19 L (us a) (HA a) k0
theorem R_eq (n : Nat) (a : Int) : R n a =
  bif (a == (0 : Int)) then
   some (.tup [.int .u16 (0 : Int), .int .i64 (4 : Int)], [])
  else
   pif ((u16 a)) (
   some (.tup [.int .u16 (invI a), .int .i64 (0 : Int)], [])) := by kernel_rfl
theorem ans {n : Nat} {a : Int} (hA : Sounds Tryd.prog (A n)) {u : U} {H : Heap} (h : R n a = some (u, H)) : Answers Tryd.prog 19 (us a) (HA a) u H := answers_env tabOk mixed hA Tryd.func19 (by kernel_rfl) (by kernel_rfl) h
end I_InvOf

namespace I_Over
abbrev num : Nat := 20
noncomputable def A (n : Nat) : List (Nat × Con) := ((fun (n : Nat) => ([(37, CMul), (49, CInv)] : List (Nat × Con)))) n
noncomputable abbrev E (n : Nat) : Env (U × Heap) := envC tab ios (A n)
def L : List (List Nat) := []
abbrev us (a : Int) (b : Int) : List U := (((fun (a b : Int) => (([.int .u16 a, .int .u16 b] : List U), ([] : Heap)))) a b).1
abbrev HA (a : Int) (b : Int) : Heap := (((fun (a b : Int) => (([.int .u16 a, .int .u16 b] : List U), ([] : Heap)))) a b).2
noncomputable def R (n : Nat) (a : Int) (b : Int) : Res := run (E n) n Tryd.f20 L (us a b) (HA a b) k0
theorem R_eq (n : Nat) (a : Int) (b : Int) : R n a b =
  bif (b == (0 : Int)) then
   some (.tup [.int .u16 (0 : Int), .int .i64 (4 : Int)], [])
  else
   pif ((u16 b)) (
   pif (((u16 a) ∧ (u16 (invI b)))) (
   some (.tup [.int .u16 (mulI a (invI b)), .int .i64 (0 : Int)], []))) := by kernel_rfl
theorem ans {n : Nat} {a : Int} {b : Int} (hA : Sounds Tryd.prog (A n)) {u : U} {H : Heap} (h : R n a b = some (u, H)) : Answers Tryd.prog 20 (us a b) (HA a b) u H := answers_env tabOk mixed hA Tryd.func20 (by kernel_rfl) (by kernel_rfl) h
end I_Over

namespace I_Log
abbrev num : Nat := 23
noncomputable def A (n : Nat) (fm : Int → Int → Int) : List (Nat × Con) := ((fun (n : Nat) (fm : Int → Int → Int) => ([(37, CMulF fm)] : List (Nat × Con)))) n fm
noncomputable abbrev E (n : Nat) (fm : Int → Int → Int) : Env (U × Heap) := envC tab ios (A n fm)
def L : List (List Nat) := [[7, 0, 6, 1]]
abbrev us (a : Int) (b : Int) : List U := (((fun (a b : Int) => (([.int .u16 a, .int .u16 b] : List U), ([] : Heap)))) a b).1
abbrev HA (a : Int) (b : Int) : Heap := (((fun (a b : Int) => (([.int .u16 a, .int .u16 b] : List U), ([] : Heap)))) a b).2
def S0 (t7 : Int) (t0 : Int) (t6 : Int) (t1 : Int) : St := ⟨[(7, .int .i64 t7), (0, .int .u16 t0), (6, .int .u16 t6), (1, .int .u16 t1)], 21, [], [], 0⟩
noncomputable def N0 (n : Nat) (fm : Int → Int → Int)  (m0 : Nat) (t7 : Int) (t0 : Int) (t6 : Int) (t1 : Int) : Res := nodeRun (E n fm) n Tryd.f23 L k0 [true, true, false, true, false] [] m0 (S0 t7 t0 t6 t1)
theorem N0_succ (n : Nat) (fm : Int → Int → Int)  (m0 : Nat) (t7 : Int) (t0 : Int) (t6 : Int) (t1 : Int) : N0 n fm  (m0 + 1) t7 t0 t6 t1 =
  bif decide (t7 ≤ (65535 : Int)) then
   bif (t6 == t1) then
    some (.tup [.int .i64 t7, .int .i64 (0 : Int)], [])
   else
    pif (((u16 t6) ∧ (u16 t0))) (
    bif ((fm t6 t0) == (1 : Int)) then
     some (.tup [.int .i64 (0 : Int), .int .i64 (6 : Int)], [])
    else
     N0 n fm m0 (IntKind.wrap .i64 (t7 + (1 : Int))) t0 (fm t6 t0) t1)
  else
   some (.tup [.int .i64 (0 : Int), .int .i64 (6 : Int)], []) := by kernel_rfl
noncomputable def R (n : Nat) (fm : Int → Int → Int) (a : Int) (b : Int) : Res := run (E n fm) n Tryd.f23 L (us a b) (HA a b) k0
theorem R_eq (n : Nat) (fm : Int → Int → Int) (a : Int) (b : Int) : R n fm a b =
  N0 n fm n (0 : Int) a (1 : Int) b := by kernel_rfl
theorem ans {n : Nat} {fm : Int → Int → Int} {a : Int} {b : Int} (hA : Sounds Tryd.prog (A n fm)) {u : U} {H : Heap} (h : R n fm a b = some (u, H)) : Answers Tryd.prog 23 (us a b) (HA a b) u H := answers_env tabOk mixed hA Tryd.func23 (by kernel_rfl) (by kernel_rfl) h
end I_Log

end Go.VM
